/- The abstract machine, 20: an operation in the model. -/
import Derived.Test.YtebokfdiamepcaaAc
set_option linter.unusedVariables false
set_option linter.unusedSimpArgs false
namespace Go.Proofs.Ytebokfdiamepcaa.AM
open Go.RowKit

/-- What a call comes to. -/
def CallS (P : Program) (fid : Nat) (us : List Value) (w : World) (R : Value → World → Prop) : Prop :=
  ((callFunc fid us.toArray).run P w = .ok (.enter fid us.toArray) w ∧ Calls P fid us.toArray w fun e w' => ∃ v, e = .returned v ∧ R v w') ∨
  ∃ v w', (callFunc fid us.toArray).run P w = .ok (.value v) w' ∧ R v w'
/-- A way of calling that the program goes. -/
def CallOk (P : Program) (cl : ∀ ρ, CallT ρ) : Prop := ∀ (fid : Nat) (args : List AV) (m : Mem) (v : AV) (m' : Mem), cl (AV × Mem) fid args m pairK = some (v, m') →
  ∀ (B : Nat) (w0 : World) (Γ : Gh) (us : List Value), MemRel B w0 Γ m → RepL Γ args us → CallS P fid us Γ.w fun u w' => ∃ Γ', Γ'.w = w' ∧ Ext B Γ Γ' ∧ MemRel B w0 Γ' m' ∧ RepV Γ' v u

theorem ev_rep {Γ : Gh} {s : St} {a : Act} (h : ∀ i, RepV Γ (s.tm i) (a.tmps.getD i undef)) : ∀ x, RepV Γ (s.ev x) (a.eval x) := by
  intro x
  cases x with
  | tmp t => exact h t
  | const v =>
    simp only [St.ev, Act.eval]
    unfold avC
    split <;> simp only [RepV]
  | global g => simp only [St.ev, RepV]
  | func f => simp only [St.ev, Act.eval, RepV, RepL]; exact ⟨[], [], rfl, rfl, rfl⟩

section
variable {P : Program} {tb : Tb} (HT : TbOk P tb) {cl : ∀ ρ, CallT ρ} (hcl : CallB cl) (hok : CallOk P cl) {B : Nat} {w0 : World} {Γ : Gh} {m : Mem} (M : MemRel B w0 Γ m)

theorem wp_value {o : Oper} {a : Act} {w w' : World} {K : Act → World → Prop} {Q : Exit → Act → World → Prop} {u : Value} (h : (execOp a.eval o).run P w = .ok (.value u) w') (hK : K (a.put o.dst u) w') : o.wp P a w K Q := by
  unfold Oper.wp
  rw [h]
  exact hK
theorem wp_unit {o : Oper} {a : Act} {w w' : World} {K : Act → World → Prop} {Q : Exit → Act → World → Prop} (h : (execOp a.eval o).run P w = .ok .skip w') (hK : K (a.put o.dst undef) w') : o.wp P a w K Q := by
  unfold Oper.wp
  rw [h]
  exact hK
omit HT in
theorem len_args {ats : Array TypeId} {t : TypeId} {ty : TypeId} {as : Array Value} (h : ats[0]? = some t) : Builtin.len_ ats ty as = Builtin.len_ #[t] ty as := by
  unfold Builtin.len_
  rw [h]
  rfl
include HT in
theorem len_ok {t : Nat} {x : AV} {vx : Value} {n : Int} {ty : TypeId} (h : lenK tb t x = some n) (hx : RepV Γ x vx) (w : World) : (Builtin.len_ #[t] ty #[vx]).run P w = .ok (.int .i64 n) w := by
  unfold lenK at h
  split at h
  · rename_i e0 e xs hd
    injection h with h
    subst h
    have hdesc := (at_ok HT (t := t) (by rw [hd]; rfl)).desc
    rw [hd] at hdesc
    simp only [RepV, RepT] at hx
    obtain ⟨A, c, hv, _⟩ := hx
    injection hv with hv
    subst hv
    simp [Builtin.len_, run_underlying (desc_sl hdesc), goInt, ofN, lenL]
  · rename_i e0 id e m hd
    injection h with h
    subst h
    have hdesc := (at_ok HT (t := t) (by rw [hd]; rfl)).desc
    rw [hd] at hdesc
    simp only [RepV] at hx
    rcases hx.2 with ⟨rfl, rfl⟩ | ⟨g, c, rfl⟩
    · simp [Builtin.len_, run_underlying (desc_sl hdesc), goInt, ofN]
    · simp [Builtin.len_, run_underlying (desc_sl hdesc), goInt, ofN]
  · rename_i e0 hd
    injection h with h
    subst h
    have hdesc := (at_ok HT (t := t) (by rw [hd]; rfl)).desc
    rw [hd] at hdesc
    simp only [RepV] at hx
    subst hx
    simp [Builtin.len_, run_underlying (desc_sl hdesc), goInt]
  · rename_i q e0 hd
    injection h with h
    subst h
    have hdesc := (at_ok HT (t := t) (by rw [hd]; rfl)).desc
    rw [hd] at hdesc
    simp [Builtin.len_, run_underlying (desc_arr hdesc), goInt]
  · rename_i b hd
    injection h with h
    subst h
    have hdesc := (at_ok HT (t := t) (by rw [hd]; rfl)).desc
    rw [hd] at hdesc
    simp only [RepV] at hx
    subst hx
    have hu : P.underlying t = some .string := by
      unfold descB at hdesc
      split at hdesc <;> simp_all
    simp [Builtin.len_, run_underlying hu, goInt]
  · cases h
omit HT in
theorem mx_ok {ev : Operand → AV} {aev : Operand → Value} (he : ∀ x, RepV Γ (ev x) (aev x)) {l : List Operand} {i : IntKind} {n : Int} {ats : Array TypeId} {ty : TypeId} {as : Array Operand} {w : World} (h : mxL (l.map ev) = some (i, n)) (e : as.toList = l := by rfl) :
    (Builtin.max_ ats ty (as.map aev)).run P w = .ok (.int i n) w := by
  have el : (as.map aev).toList = l.map aev := by simp [e]
  unfold Builtin.max_
  rw [el]
  match l, h with
  | [x], h =>
    have hx := he x
    simp only [List.map_cons, List.map_nil] at h
    unfold mxL at h
    split at h
    · rename_i hq
      injection hq with hq _
      rw [hq] at hx
      simp only [RepV] at hx
      cases h
      simp [hx]
    · rename_i hq
      injection hq with _ hq
      cases hq
    · cases h
  | [x, y], h =>
    have hx := he x
    have hy := he y
    simp only [List.map_cons, List.map_nil] at h
    unfold mxL at h
    split at h
    · rename_i hq
      injection hq with _ hq
      cases hq
    · rename_i hq
      injection hq with hq hq2
      injection hq2 with hq2 _
      rw [hq] at hx
      rw [hq2] at hy
      simp only [RepV] at hx hy
      obtain ⟨hk, h⟩ := cond_some h
      cases h
      simp [hx, hy, Builtin.max2, mxI]
    · cases h
  | [], h => simp [mxL] at h
  | x :: y :: z :: r, h => simp [mxL] at h
omit HT in
theorem mn_ok {ev : Operand → AV} {aev : Operand → Value} (he : ∀ x, RepV Γ (ev x) (aev x)) {l : List Operand} {i : IntKind} {n : Int} {ats : Array TypeId} {ty : TypeId} {as : Array Operand} {w : World} (h : mnL (l.map ev) = some (i, n)) (e : as.toList = l := by rfl) :
    (Builtin.min_ ats ty (as.map aev)).run P w = .ok (.int i n) w := by
  have el : (as.map aev).toList = l.map aev := by simp [e]
  unfold Builtin.min_
  rw [el]
  match l, h with
  | [x], h =>
    have hx := he x
    simp only [List.map_cons, List.map_nil] at h
    unfold mnL at h
    split at h
    · rename_i hq
      injection hq with hq _
      rw [hq] at hx
      simp only [RepV] at hx
      cases h
      simp [hx]
    · rename_i hq
      injection hq with _ hq
      cases hq
    · cases h
  | [x, y], h =>
    have hx := he x
    have hy := he y
    simp only [List.map_cons, List.map_nil] at h
    unfold mnL at h
    split at h
    · rename_i hq
      injection hq with _ hq
      cases hq
    · rename_i hq
      injection hq with hq hq2
      injection hq2 with hq2 _
      rw [hq] at hx
      rw [hq2] at hy
      simp only [RepV] at hx hy
      obtain ⟨hk, h⟩ := cond_some h
      cases h
      simp [hx, hy, Builtin.min2, mnI]
    · cases h
  | [], h => simp [mnL] at h
  | x :: y :: z :: r, h => simp [mnL] at h
include HT hok M
theorem op_wp {o : Oper} {ev : Operand → AV} {a : Act} (he : ∀ x, RepV Γ (ev x) (a.eval x)) {v : AV} {m' : Mem} (h : opD cl tb o ev m = some (v, m')) {K : Act → World → Prop} {Q : Exit → Act → World → Prop}
    (hK : ∀ Γ' u, Ext B Γ Γ' → MemRel B w0 Γ' m' → RepV Γ' v u → K (a.put o.dst u) Γ'.w) : o.wp P a Γ.w K Q := by
  have val : ∀ (x : Sem Value), OpRes P B w0 Γ x v m' → (∀ w, (execOp a.eval o).run P w = (x.run P w).andThen fun u w' => .ok (.value u) w') → o.wp P a Γ.w K Q := by
    rintro x ⟨Γ', u, E, M', hv, hr⟩ hx
    exact wp_value (by rw [hx, hr]; rfl) (hK Γ' u E M' hv)
  have same : ∀ (x : Sem Value), (m' = m ∧ ∃ u, RepV Γ v u ∧ x.run P Γ.w = .ok u Γ.w) → (∀ w, (execOp a.eval o).run P w = (x.run P w).andThen fun u w' => .ok (.value u) w') → o.wp P a Γ.w K Q := by
    rintro x ⟨rfl, u, hv, hr⟩ hx
    exact wp_value (by rw [hx, hr]; rfl) (hK Γ u (Ext.refl B Γ) M hv)
  unfold opD opK at h
  cases ho : o.op <;> simp only [ho] at h
  case move x =>
    obtain ⟨rfl, rfl⟩ := pairK_some h
    exact wp_value (u := a.eval x) (by simp [execOp, ho]) (hK Γ _ (Ext.refl B Γ) M (he x))
  case assign x =>
    obtain ⟨rfl, rfl⟩ := pairK_some h
    exact wp_value (u := a.eval x) (by simp [execOp, ho]) (hK Γ _ (Ext.refl B Γ) M (he x))
  case pick c x y =>
    obtain ⟨rfl, b, hb, hv⟩ := pick_ok M h (he c) (he x) (he y)
    exact wp_value (u := if b then a.eval x else a.eval y) (by simp [execOp, ho, hb, asBool]) (hK Γ _ (Ext.refl B Γ) M hv)
  case alloc t => exact val _ (alloc_ok HT M h) fun w => by simp [execOp, ho]
  case box t x => exact val _ (box_ok M h (he x)) fun w => by simp [execOp, ho]
  case build t ps =>
    have := build_ok (Γ := Γ) HT he (l := ps.toList) h
    refine same _ this fun w => ?_
    have e : (mkQ a.eval ps.toList).toArray = ps.map fun (i, x) => (i, a.eval x) := Array.toList_inj.1 (by simp [mkQ])
    rw [e]
    simp [execOp, ho]
  case buildSlice t n ps =>
    have := buildSlice_ok M HT he (l := ps.toList) h
    refine val _ this fun w => ?_
    have e : (mkQ a.eval ps.toList).toArray = ps.map fun (i, x) => (i, a.eval x) := Array.toList_inj.1 (by simp [mkQ])
    rw [e]
    simp [execOp, ho]
  case load t x => exact same _ (load_ok HT M h (he x)) fun w => by simp [execOp, ho]
  case store t x y =>
    obtain ⟨rfl, Γ', E, M', hr⟩ := store_ok M HT h (he x) (he y)
    refine wp_unit (w' := Γ'.w) (by simp [execOp, ho, hr]) (hK Γ' undef E M' ?_)
    simp only [RepV]
    exact ⟨[], rfl, by simp only [RepL]⟩
  case nilCheck x =>
    have hx := he x
    unfold kNil at h
    split at h
    · obtain ⟨rfl, rfl⟩ := pairK_some h
      rename_i hq
      rw [hq] at hx
      have hx' := hx
      simp only [RepV] at hx'
      obtain ⟨b, _, hv⟩ := hx'
      exact wp_value (u := a.eval x) (by simp [execOp, ho, hv]) (hK Γ _ (Ext.refl B Γ) M hx)
    · obtain ⟨rfl, rfl⟩ := pairK_some h
      rename_i hq
      rw [hq] at hx
      have hx' := hx
      simp only [RepV] at hx'
      obtain ⟨ad, us, hv, _⟩ := hx'
      exact wp_value (u := a.eval x) (by simp [execOp, ho, hv]) (hK Γ _ (Ext.refl B Γ) M hx)
    · obtain ⟨rfl, rfl⟩ := pairK_some h
      rename_i hq
      rw [hq] at hx
      have hx' := hx
      simp only [RepV] at hx'
      obtain ⟨g, n, c, _, _, hv⟩ := hx'
      exact wp_value (u := a.eval x) (by simp [execOp, ho, hv]) (hK Γ _ (Ext.refl B Γ) M hx)
    · obtain ⟨rfl, rfl⟩ := pairK_some h
      rename_i hq
      rw [hq] at hx
      have hx' := hx
      simp only [RepV] at hx'
      obtain ⟨us, vs, hv, _⟩ := hx'
      exact wp_value (u := a.eval x) (by simp [execOp, ho, hv]) (hK Γ _ (Ext.refl B Γ) M hx)
    · cases h
  case binOp op t x y yt => exact same _ (bin_ok (ox := x) (oy := y) HT h (he x) (he y)) fun w => (by simp [execOp, ho]; cases (eqGuard op t x y (a.eval x) (a.eval y)).run P w <;> rfl)
  case unOp op t x => exact same _ (un_ok (P := P) h (he x)) fun w => by simp [execOp, ho]
  case convert r t x =>
    obtain ⟨hr, h⟩ := cond_some h
    obtain ⟨u, hu, _⟩ := desc_some (at_ok HT hr).desc
    exact same _ (conv_ok HT (by rw [hu]; rfl) h (he x)) fun w => by simp [execOp, ho]
  case makeFunc f x y =>
    cases f <;> simp only at h
    case func f =>
      obtain ⟨rfl, rfl⟩ := pairK_some h
      refine wp_value (u := .func (.func f) (x.map a.eval) (y.map a.eval)) (by simp [execOp, ho, Instr.makeFunc]) (hK Γ _ (Ext.refl B Γ) M ?_)
      simp only [RepV]
      have e1 : ∀ q : Array Operand, q.map a.eval = (q.toList.map a.eval).toArray := fun q => Array.toList_inj.1 (by simp)
      exact ⟨x.toList.map a.eval, y.toList.map a.eval, by rw [← e1, ← e1], RepL.map he _, RepL.map he _⟩
    all_goals cases h
  case makeSlice t l c =>
    obtain ⟨hs, hr⟩ := make_ok M HT h (he l)
    refine val _ hr fun w => ?_
    simp [execOp, ho, ← sameOp_eval hs a]
  case slice t x lo hi mx =>
    cases mx <;> simp only at h
    case none => exact val _ (slice_ok M HT he h (he x)) fun w => by simp [execOp, ho]
    case some z => cases h
  case fieldAddr t x f => exact same _ (fieldAddr_ok HT h (he x)) fun w => by simp [execOp, ho]
  case field t x f => exact same _ (field_ok HT h (he x)) fun w => by simp [execOp, ho]
  case indexAddr t x i => exact same _ (indexAddr_ok HT h (he x) (he i)) fun w => by simp [execOp, ho]
  case extract x i => exact same _ (extract_ok (P := P) h (he x)) fun w => by simp [execOp, ho]
  case call c =>
    unfold kCall at h
    split at h
    · rename_i hc
      split at h
      · rename_i x t r hx ht
        split at h
        · rename_i n hn
          obtain ⟨rfl, rfl⟩ := pairK_some h
          have e1 : c.args = #[x] := by rw [← Array.toList_inj]; simpa using hx
          have e2 : c.argTypes[0]? = some t := by rw [← Array.getElem?_toList, ht]; rfl
          refine wp_value (u := .int .i64 n) (w' := Γ.w) ?_ (hK Γ _ (Ext.refl B Γ) M (by simp only [RepV]))
          have hl := len_ok HT (ty := o.type) hn (he x) Γ.w
          simp only [execOp, ho, resolve, hc, invoke, builtin, e1]
          simp only [List.map_toArray, List.map_cons, List.map_nil, Sem.run_bind, Sem.run_pure, Result.andThen_ok]
          rw [len_args e2]
          rw [hl]
          rfl
        · cases h
      · cases h
    · rename_i hc
      split at h
      · rename_i v1 x1 t u hx ht
        obtain ⟨htu, h2⟩ := cond_some h
        have := Nat.eq_of_beq_eq_true htu
        subst this
        refine val _ (append_ok (ty := o.type) M HT h2 (he v1) (he x1)) fun w => ?_
        have e1 : c.args = #[v1, x1] := by rw [← Array.toList_inj]; simpa using hx
        have e2 : c.argTypes = #[t, t] := by rw [← Array.toList_inj]; simpa using ht
        simp [execOp, ho, resolve, hc, invoke, builtin, e1, e2]
      · cases h
    · rename_i hc
      split at h
      · rename_i i n hn
        obtain ⟨rfl, rfl⟩ := pairK_some h
        refine wp_value (u := .int i n) (w' := Γ.w) ?_ (hK Γ _ (Ext.refl B Γ) M (by simp only [RepV]))
        simp only [execOp, ho, resolve, hc, invoke, builtin, Sem.run_bind, Sem.run_pure, Result.andThen_ok]
        rw [mx_ok he (l := c.args.toList) hn]
        rfl
      · cases h
    · rename_i hc
      split at h
      · rename_i i n hn
        obtain ⟨rfl, rfl⟩ := pairK_some h
        refine wp_value (u := .int i n) (w' := Γ.w) ?_ (hK Γ _ (Ext.refl B Γ) M (by simp only [RepV]))
        simp only [execOp, ho, resolve, hc, invoke, builtin, Sem.run_bind, Sem.run_pure, Result.andThen_ok]
        rw [mn_ok he (l := c.args.toList) hn]
        rfl
      · cases h
    · rename_i f hc
      split at h
      · rename_i g x y hf
        obtain ⟨_, h⟩ := cond_some h
        have hfv := he f
        rw [hf] at hfv
        simp only [RepV] at hfv
        obtain ⟨us, vs, hfe, hus, hvs⟩ := hfv
        have hl := (hus.app (RepL.map he c.args.toList)).app hvs
        have hex : ∀ w, (execOp a.eval o).run P w = (callFunc g (us ++ c.args.toList.map a.eval ++ vs).toArray).run P w := by
          intro w
          have e : us.toArray ++ c.args.map a.eval ++ vs.toArray = (us ++ c.args.toList.map a.eval ++ vs).toArray := by
            apply Array.toList_inj.1
            simp
          simp only [execOp, ho, resolve, hc, hfe, Deferred.ofValue, Sem.run_bind, Sem.run_pure, Result.andThen_ok, invoke, e]
        rcases hok g _ m v m' h B w0 Γ _ M hl with ⟨hcf, hcalls⟩ | ⟨u, w', hcf, Γ', rfl, E, M', hv⟩
        · unfold Oper.wp
          rw [hex, hcf]
          refine Calls.mono hcalls fun e w' he' => ?_
          obtain ⟨u, rfl, Γ', rfl, E, M', hv⟩ := he'
          exact hK Γ' u E M' hv
        · exact wp_value (by rw [hex, hcf]) (hK Γ' u E M' hv)
      · cases h
    · cases h
  all_goals cases h
end
end Go.Proofs.Ytebokfdiamepcaa.AM
