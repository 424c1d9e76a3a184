/- The abstract machine, 28: functions. -/
import Derived.Test.YtebokfdiamepcaaAk
set_option linter.unusedVariables false
set_option linter.unusedSimpArgs false
namespace Go.Proofs.Ytebokfdiamepcaa.AM
open Go.RowKit

/-- What is told of a function: what it answers to data. -/
def TellsF (P : Program) (fid : Nat) (ps : List Sh) (rk : List Kd) (F : shT ps → Option (kdT rk)) : Prop :=
  ∀ (x : shT ps) (y : kdT rk), F x = some y → ∀ (w : World) (R : Nat → Prop) (us : List Value), (∀ b, R b → b < w.heap.size) → RepL (bare w R) (encA ps x) us →
    CallS P fid us w fun u w' => Below w.heap.size w w' ∧ ∃ R' : Nat → Prop, (∀ b, R b → R' b) ∧ (∀ b, R' b → R b ∨ w.heap.size ≤ b) ∧ (∀ b, R' b → b < w'.heap.size) ∧ RepV (bare w' R') (encR rk y) u

structure EntryOk (P : Program) (e : Entry) : Prop where
  ps : e.ps.all Sh.param = true
  tells : TellsF P e.fid e.ps e.rk e.f
def EsOk (P : Program) (es : List Entry) : Prop := ∀ e ∈ es, EntryOk P e
theorem EsOk.nil (P : Program) : EsOk P [] := fun e he => by cases he
theorem EsOk.cons {P : Program} {e : Entry} {es : List Entry} (h : EntryOk P e) (hs : EsOk P es) : EsOk P (e :: es) := fun a ha => by
  rcases List.mem_cons.1 ha with rfl | ha
  · exact h
  · exact hs a ha

theorem callE_b (es : List Entry) : CallB (fun ρ => callE (ρ := ρ) es) := by
  intro ρ fid args m k
  show (callE es fid args m pairK).bind (toK k) = callE es fid args m k
  induction es with
  | nil => rfl
  | cons e r ih =>
    simp only [callE, bind_cond, ih]
    congr 1
    split
    · split
      · rw [bind_bnd]
        rfl
      · rfl
    · exact ih

/-- How a call is answered. -/
theorem callE_some : ∀ {es : List Entry} {fid : Nat} {args : List AV} {m : Mem} {v : AV} {m' : Mem}, callE es fid args m pairK = some (v, m') →
    ∃ e ∈ es, e.fid = fid ∧ ∃ x y, decA e.ps (args.map (lend m)) = some x ∧ e.mem args m = some m' ∧ e.f x = some y ∧ v = encR e.rk y
  | e :: r, fid, args, m, v, m', h => by
    simp only [callE] at h
    cases hb : Nat.beq e.fid fid with
    | false =>
      rw [hb] at h
      obtain ⟨e', he', k⟩ := callE_some (es := r) h
      exact ⟨e', List.mem_cons_of_mem _ he', k⟩
    | true =>
      rw [hb] at h
      simp only [cond] at h
      split at h
      · rename_i x hx
        split at h
        · rename_i m'' hm
          cases hf : e.f x with
          | none => rw [hf] at h; cases h
          | some y =>
            rw [hf] at h
            obtain ⟨rfl, rfl⟩ := pairK_some (show pairK (encR e.rk y) m'' = some (v, m') from h)
            exact ⟨e, List.mem_cons_self, Nat.eq_of_beq_eq_true hb, x, y, hx, hm, hf, rfl⟩
        · cases h
      · obtain ⟨e', he', k⟩ := callE_some (es := r) h
        exact ⟨e', List.mem_cons_of_mem _ he', k⟩
  | [], _, _, _, _, _, h => by cases h

theorem callE_c (es : List Entry) : CallC (fun ρ => callE (ρ := ρ) es) := by
  intro fid args m v m' h
  replace h : callE es fid args m pairK = some (v, m') := h
  show ∃ F : List Nat, m' = m.fix F ∧ (∀ id ∈ F, id ∈ args.flatMap (readsA m)) ∧ ∀ m2, (∀ id ∈ args.flatMap (readsA m), Alike m m2 id) → callE es fid args m2 pairK = some (v, m2.fix F)
  induction es with
  | nil => cases h
  | cons e r ih =>
    simp only [callE] at h ⊢
    cases hb : Nat.beq e.fid fid with
    | false =>
      rw [hb] at h
      exact ih h
    | true =>
      rw [hb] at h
      simp only [cond] at h ⊢
      split at h
      · rename_i x hx
        split at h
        · rename_i m'' hm
          cases hf : e.f x with
          | none => rw [hf] at h; cases h
          | some y =>
            rw [hf] at h
            obtain ⟨rfl, rfl⟩ := pairK_some (show pairK (encR e.rk y) m'' = some (v, m') from h)
            unfold Entry.mem at hm
            cases hfl : e.rk.all Kd.flat with
            | true =>
              rw [hfl] at hm
              simp only [cond, Option.some.injEq] at hm
              subst hm
              refine ⟨[], rfl, fun id hid => (by cases hid), fun m2 hal => ?_⟩
              rw [(lends_alike hal).1, hx]
              simp only [Entry.mem, hfl, cond]
              rw [hf]
              rfl
            | false =>
              rw [hfl] at hm
              simp only [cond] at hm
              cases hp : args.any ptrA with
              | true => rw [hp] at hm; cases hm
              | false =>
                rw [hp] at hm
                simp only [Option.some.injEq] at hm
                subst hm
                refine ⟨args.flatMap (rowsA m), rfl, fun id hid => ?_, fun m2 hal => ?_⟩
                · obtain ⟨a, ha, hid⟩ := List.mem_flatMap.1 hid
                  exact List.mem_flatMap.2 ⟨a, ha, rows_reads hid⟩
                · rw [(lends_alike hal).1, hx]
                  simp only [Entry.mem, hfl, hp, cond]
                  rw [hf, (lends_alike hal).2.1]
                  rfl
        · cases h
      · rename_i hx
        obtain ⟨F, h1, h2, h3⟩ := ih h
        refine ⟨F, h1, h2, fun m2 hal => ?_⟩
        rw [(lends_alike hal).1, hx]
        exact h3 m2 hal

/-- Blocks where nothing of the call's own lives are no longer written to. -/
theorem MemRel.addR {B : Nat} {w0 : World} {Γ : Gh} {m : Mem} (M : MemRel B w0 Γ m) {R' : Nat → Prop} (h1 : ∀ b, Γ.R b → R' b) (h2 : ∀ b, R' b → Γ.R b ∨ (Free Γ m b ∧ B ≤ b ∧ b < Γ.w.heap.size)) :
    MemRel B w0 { Γ with R := R' } m ∧ Ext B Γ { Γ with R := R' } := by
  have E : Ext B Γ { Γ with R := R' } := ⟨h1, fun _ _ => rfl, fun _ _ h => h, fun _ _ h => h, fun _ _ h => h, fun b hb => (h2 b hb).imp (fun h => h) fun h => h.2.1⟩
  refine ⟨⟨M.below, M.base, fun b hb => (h2 b hb).elim (M.rlt b) fun h => h.2.2, fun i b hi => ?_, fun i v hv => ?_, M.bb, M.rr, M.rb, M.map⟩, E⟩
  · obtain ⟨a, ha, hb⟩ := M.box i b hi
    exact ⟨a, ha, hb.keep E rfl fun hr => (h2 b hr).elim (fun h => h) fun h => absurd hi (h.1.2.1 i)⟩
  · obtain ⟨a, ha, hr⟩ := M.row i v hv
    exact ⟨a, ha, fun hd => (hr hd).keep E (fun _ _ => rfl) fun g hg hr => (h2 g hr).elim (fun h => h) fun h => absurd hg (h.1.2.2 i v hv ⟨a, ha, hd⟩)⟩

theorem CallS.mono {P : Program} {fid : Nat} {us : List Value} {w : World} {Q Q' : Value → World → Prop} (h : CallS P fid us w Q) (hq : ∀ u w', Q u w' → Q' u w') : CallS P fid us w Q' := by
  rcases h with ⟨h1, h2⟩ | ⟨v, w', h1, h2⟩
  · exact .inl ⟨h1, Calls.mono h2 fun e w' ⟨v, he, hv⟩ => ⟨v, he, hq v w' hv⟩⟩
  · exact .inr ⟨v, w', h1, hq v w' h2⟩

theorem callE_ok {P : Program} {es : List Entry} (hes : EsOk P es) : CallOk P (fun ρ => callE (ρ := ρ) es) := by
  intro fid args m v m' h B w0 Γ us M hr
  obtain ⟨e, he, rfl, x, y, hx, hm, hf, rfl⟩ := callE_some (show callE es fid args m pairK = some (v, m') from h)
  obtain ⟨hps, ht⟩ := hes e he
  obtain ⟨R1, M1, E1, hR1⟩ := M.fixL (args.flatMap (rowsA m))
  -- what is seen by whoever is called
  let Rc : Nat → Prop := fun b => R1 b ∨ ∃ id ∈ args.flatMap ptrsA, Γ.μ id = some b
  have hRc : ∀ b, Rc b → b < Γ.w.heap.size := fun b hb => by
    rcases hb with hb | ⟨id, _, hb⟩
    · exact M1.rlt b hb
    · exact (M.boxlt hb).2
  have L : Lends Γ { Γ with R := Rc } m (args.flatMap (rowsA m)) (args.flatMap ptrsA) :=
    ⟨rfl, fun b hb => .inl ((hR1 b).2 (.inl hb)), fun b hb => .inl ((hR1 b).2 (.inr hb)), fun id hid b hb => .inr ⟨id, hid, hb⟩⟩
  have h1 := lends_rep M L hr
  have h2 : RepL (bare Γ.w Rc) (args.map (lend m)) us := lends_mono (Γ := { Γ with R := Rc }) (Γ' := bare Γ.w Rc) (fun _ _ => rfl) (fun _ h => h) h1
  have h3 := decA_rep hRc hps hx h2
  refine (ht x y hf Γ.w Rc us hRc h3).mono fun u w' hu => ?_
  obtain ⟨hB, R', k1, k2, k3, k4⟩ := hu
  have hg : Γ.w.grownBy w' none := ⟨hB.os, hB.tape, hB.output, hB.size, fun k hk _ => hB.block k hk⟩
  unfold Entry.mem at hm
  cases hfl : e.rk.all Kd.flat with
  | true =>
    rw [hfl] at hm
    simp only [cond, Option.some.injEq] at hm
    subst hm
    obtain ⟨M2, E2⟩ := M.grow hg
    exact ⟨_, rfl, E2, M2, flat_encR hfl k4⟩
  | false =>
    rw [hfl] at hm
    simp only [cond] at hm
    cases hp : args.any ptrA with
    | true => rw [hp] at hm; cases hm
    | false =>
      rw [hp] at hm
      simp only [Option.some.injEq] at hm
      subst hm
      have hnp : args.flatMap ptrsA = [] := by
        rw [List.flatMap_eq_nil_iff]
        intro a ha
        exact ptrs_none (by simpa using List.any_eq_false.1 hp a ha)
      have hRc1 : ∀ b, Rc b → R1 b := fun b hb => by
        rcases hb with hb | ⟨id, hid, _⟩
        · exact hb
        · rw [hnp] at hid; cases hid
      obtain ⟨M2, E2⟩ := M1.grow (w' := w') hg
      obtain ⟨M3, E3⟩ := M2.addR (R' := R') (fun b hb => k1 b (.inl hb)) fun b hb => by
        rcases k2 b hb with h | h
        · exact .inl (hRc1 b h)
        · have hB' := M.base
          refine .inr ⟨⟨fun hr => ?_, fun i hi => ?_, fun i v hv hl hg => ?_⟩, by omega, k3 b hb⟩
          · have : b < Γ.w.heap.size := M1.rlt b hr
            omega
          · have : b < Γ.w.heap.size := (M1.boxlt (i := i) hi).2
            omega
          · have : b < Γ.w.heap.size := (M1.rowlt (i := i) hv hl hg).2
            omega
      refine ⟨_, rfl, (E1.trans E2).trans E3, M3, ?_⟩
      exact encR_mono (Γ := bare w' R') (Γ' := { Γ with w := w', R := R' }) (fun _ _ => rfl) (fun _ h => h) k4

theorem run_callFunc_enter' {P : Program} {f : FuncId} {fn : Func} {c : Code} (hf : P.funcs[f]? = some fn) (hname : (fn.name == "runtime.NumGoroutine") = false) (hb : fn.body = some c) (args : Array Value) (w : World) :
    (callFunc f args).run P w = .ok (.enter f args) w := by
  have h1 : fn.name ≠ "runtime.NumGoroutine" := by simpa using hname
  simp [callFunc, hf, h1, hb]

/-! ### A function, by its text -/
def resV (tmps : Array Value) : ResultVar → Sem Value
  | .tmp t => pure (tmps.getD t undef)
  | .cell b t => do loadVar t (← asAddr (tmps.getD b undef))
theorem results_eq (f : Func) (tmps : Array Value) : results f tmps = (do
    let vs ← f.results.mapM (resV tmps)
    pure (if h : vs.size = 1 then vs[0] else .tuple vs)) := by
  rfl
/-- What is told, part by part. -/
def partsR : AV → List AV
  | .tup vs => vs
  | v => [v]
section
variable {P : Program} {tb : Tb} (HT : TbOk P tb) {B : Nat} {w0 : World} {Γ0 : Gh} {n : Nat} {s : St} {a : Act}
include HT
theorem res_one {Γ : Gh} (M : MemRel B w0 Γ s.m) (hr : ∀ i, RepV Γ (s.tm i) (a.tmps.getD i undef)) {r : ResultVar} {v : AV} (h : resOne tb s r = some v) :
    ∃ u, RepV Γ v u ∧ (resV a.tmps r).run P Γ.w = .ok u Γ.w := by
  cases r with
  | tmp t =>
    simp only [resOne, Option.some.injEq] at h
    subst h
    exact ⟨_, hr t, rfl⟩
  | cell b t =>
    simp only [resOne] at h
    have hb := hr b
    split at h
    · rename_i id off hp
      rw [hp] at hb
      split at h
      · rename_i bx hbx
        simp only [RepV] at hb
        obtain ⟨blk, hμ, he⟩ := hb
        obtain ⟨us, ty, hcell, hl⟩ := (M.boxAt hμ hbx).cells
        obtain ⟨u, hu, hrun⟩ := load_part HT h hl ⟨blk, 0, none⟩ (fun j u hj => by
          rw [add_plain, cell_of_row Γ.w blk (0 + j) us ty (0, 0) hcell]
          simpa using hj)
        refine ⟨u, hu, ?_⟩
        rw [add_plain, Nat.zero_add] at hrun
        simp only [resV, he, asAddr, Sem.run_bind, Sem.run_pure, Result.andThen_ok, hrun]
      · cases h
    · cases h
theorem res_all {Γ : Gh} (M : MemRel B w0 Γ s.m) (hr : ∀ i, RepV Γ (s.tm i) (a.tmps.getD i undef)) : ∀ {rs : List ResultVar} {vs : List AV}, resAll tb s rs = some vs →
    ∃ us, RepL Γ vs us ∧ (rs.mapM (resV a.tmps)).run P Γ.w = .ok us Γ.w
  | [], vs, h => by
    simp only [resAll, Option.some.injEq] at h
    subst h
    exact ⟨[], by simp only [RepL], by simp⟩
  | r :: rs, vs, h => by
    simp only [resAll] at h
    split at h
    · rename_i v vs' hv hvs
      injection h with h
      subst h
      obtain ⟨u, hu, h1⟩ := res_one HT M hr hv
      obtain ⟨us, hus, h2⟩ := res_all M hr hvs
      refine ⟨u :: us, by simp only [RepL]; exact ⟨u, us, rfl, hu, hus⟩, ?_⟩
      simp only [List.mapM_cons, Sem.run_bind, h1, Result.andThen_ok, h2, Sem.run_pure]
    · cases h
theorem res_ok {f : Func} {ρ : Type} {k : Kont ρ} {r : ρ} {w : World} (h : resK tb f s k = some r) (I : Inv B w0 Γ0 n s a w) :
    ∃ Γ u v, Γ.w = w ∧ Ext B Γ0 Γ ∧ MemRel B w0 Γ s.m ∧ RepV Γ v u ∧ (results f a.tmps).run P w = .ok u w ∧ k v s.m = some r := by
  obtain ⟨⟨Γ, rfl, E, M, hr⟩, _⟩ := I
  unfold resK at h
  have hrun : ∀ us : List Value, (f.results.toList.mapM (resV a.tmps)).run P Γ.w = .ok us Γ.w → (results f a.tmps).run P Γ.w = .ok (if h : us.toArray.size = 1 then us.toArray[0] else .tuple us.toArray) Γ.w := by
    intro us hu
    rw [results_eq, Array.mapM_eq_mapM_toList]
    simp only [map_eq_pure_bind, bind_assoc, pure_bind, Sem.run_bind]
    erw [hu]
    rfl
  split at h
  · rename_i v hv
    obtain ⟨us, hus, hm⟩ := res_all HT M hr hv
    obtain ⟨u, rfl, hu⟩ := RepL.one.1 hus
    exact ⟨Γ, u, v, rfl, E, M, hu, hrun [u] hm, h⟩
  · rename_i vs hne hv
    obtain ⟨us, hus, hm⟩ := res_all HT M hr hv
    refine ⟨Γ, .tuple us.toArray, .tup vs, rfl, E, M, ?_, ?_, h⟩
    · simp only [RepV]
      exact ⟨us, rfl, hus⟩
    · have := hrun us hm
      rw [dif_neg] at this
      · exact this
      · intro h1
        have h2 : vs.length = 1 := by rw [← hus.len]; simpa using h1
        obtain ⟨v, rfl⟩ := List.length_eq_one_iff.1 h2
        exact hne v rfl
  · cases h
end

theorem encA_len : ∀ (ps : List Sh) (x : shT ps), (encA ps x).length = ps.length
  | [], _ => rfl
  | [_], _ => rfl
  | p :: q :: r, x => by
    show (p.av 0 x.1 :: encA (q :: r) x.2).length = _
    simp [encA_len (q :: r) x.2]

/-- Is a function's form in order? -/
def funB (P : Program) (tb : Tb) (fid : Nat) (f : Func) (ps : List Sh) : Bool := match f.body with
  | some c => codeB tb f.ntmps c && Nat.ble ps.length f.ntmps && !(f.name == "runtime.NumGoroutine")
  | none => false
theorem fun_tells {P : Program} {tb : Tb} (HT : TbOk P tb) (hmix : P.follows .mixedOrders = true) {es : List Entry} (hes : EsOk P es) {fid : Nat} {f : Func} (hf : P.funcs[fid]? = some f) {N : Nat} {an : Ann} {ps : List Sh} {rk : List Kd}
    (hb : funB P tb fid f ps = true) : TellsF P fid ps rk (textF es tb N f an ps rk) := by
  intro x y h w R us hlt hr
  unfold funB at hb
  split at hb
  case h_2 => cases hb
  rename_i c hc
  simp only [Bool.and_eq_true, Bool.not_eq_true'] at hb
  obtain ⟨⟨hcode, hlen⟩, hname⟩ := hb
  have hlen' := Nat.le_of_ble_eq_true hlen
  refine .inl ⟨run_callFunc_enter' hf hname hc us.toArray w, calls_of_wp hf hc ?_⟩
  unfold textF evalF at h
  rw [hc] at h
  simp only at h
  have hul : us.length = ps.length := by rw [hr.len, encA_len]
  have I : Inv w.heap.size w (bare w R) f.ntmps ⟨argTm (encA ps x), Mem.clear⟩ { tmps := us.toArray ++ Array.replicate (f.ntmps - us.toArray.size) undef, defers := [] } w := by
    refine ⟨⟨bare w R, rfl, Ext.refl _ _, bare_rel hlt, fun i => ?_⟩, rfl, by simp; omega⟩
    show RepV (bare w R) (argTm (encA ps x) i) _
    unfold argTm
    split
    · rename_i v hv
      obtain ⟨u, hu, hru⟩ := hr.at hv
      have hi := (List.getElem?_eq_some_iff.1 hu).1
      have : (us.toArray ++ Array.replicate (f.ntmps - us.toArray.size) undef).getD i undef = u := by
        rw [Array.getD_eq_getD_getElem?, Array.getElem?_append_left (by simpa using hi)]
        simp [hu]
      rw [this]
      exact hru
    · rename_i hv
      have hi : us.length ≤ i := by
        rw [hr.len]
        exact List.getElem?_eq_none_iff.1 hv
      have : (us.toArray ++ Array.replicate (f.ntmps - us.toArray.size) undef).getD i undef = undef := by
        rw [Array.getD_eq_getD_getElem?, Array.getElem?_append_right (by simpa using hi), Array.getElem?_replicate]
        split <;> rfl
      rw [this]
      simp only [RepV]
      exact ⟨[], rfl, by simp only [RepL]⟩
  have key : ∀ s a w', resK tb f s (fun v m => decR rk (lendR m v)) = some y → Inv w.heap.size w (bare w R) f.ntmps s a w' → a.defers = [] ∧ ∃ v, (results f a.tmps).run P w' = .ok v w' ∧ ∃ v', Ending.returned v = .returned v' ∧ (Below w.heap.size w w' ∧ ∃ R' : Nat → Prop, (∀ b, R b → R' b) ∧ (∀ b, R' b → R b ∨ w.heap.size ≤ b) ∧ (∀ b, R' b → b < w'.heap.size) ∧ RepV (bare w' R') (encR rk y) v') := by
    intro s a w' hs I
    obtain ⟨Γ, u, v, rfl, E, M, hv, hrun, hk⟩ := res_ok HT hs I
    refine ⟨I.defers, u, hrun, u, rfl, M.below, ?_⟩
    -- what is told is lent
    obtain ⟨R1, M1, E1, hR1⟩ := M.fixL ((partsR v).flatMap (rowsP s.m))
    let Rc : Nat → Prop := fun b => R1 b ∨ ∃ id ∈ (partsR v).flatMap ptrsP, Γ.μ id = some b
    have L : Lends Γ { Γ with R := Rc } s.m ((partsR v).flatMap (rowsP s.m)) ((partsR v).flatMap ptrsP) :=
      ⟨rfl, fun b hb => .inl ((hR1 b).2 (.inl hb)), fun b hb => .inl ((hR1 b).2 (.inr hb)), fun id hid b hb => .inr ⟨id, hid, hb⟩⟩
    have hl : RepV { Γ with R := Rc } (lendR s.m v) u := by
      by_cases ht : ∃ vs, v = .tup vs
      · obtain ⟨vs, rfl⟩ := ht
        simp only [lendR, RepV] at hv ⊢
        obtain ⟨us, rfl, hv⟩ := hv
        exact ⟨us, rfl, lendPs_rep M L hv⟩
      · have e1 : lendR s.m v = lendP s.m v := by
          unfold lendR
          split
          · exact absurd ⟨_, rfl⟩ ht
          · rfl
        have e2 : partsR v = [v] := by
          unfold partsR
          split
          · exact absurd ⟨_, rfl⟩ ht
          · rfl
        rw [e1]
        rw [e2] at L
        exact lendP_rep M (L.mono (by simp) (by simp)) hv
    have hd := decR_rep hk hl
    refine ⟨Rc, fun b hb => .inl (E1.R b (E.R b hb)), fun b hb => ?_, fun b hb => ?_, encR_mono (Γ := { Γ with R := Rc }) (Γ' := bare Γ.w Rc) (fun _ _ => rfl) (fun _ h => h) hd⟩
    · rcases hb with hb | ⟨id, _, hb⟩
      · exact (E.trans E1).new b hb
      · exact .inr (M.boxlt hb).1
    · rcases hb with hb | ⟨id, _, hb⟩
      · exact M1.rlt b hb
      · exact (M.boxlt hb).2
  exact evalC_ok HT (callE_b es) (callE_c es) (callE_ok hes) hmix (bare_bare w R) c an hcode h I ⟨fun s a w' hs I => key s a w' hs I, fun id s a w' hs I => (by cases hs), fun s a w' hs I => key s a w' hs I⟩
end Go.Proofs.Ytebokfdiamepcaa.AM
