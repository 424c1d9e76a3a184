/- The abstract machine, 19: two operations that don't wait for one another come in either order. -/
import Derived.Test.YtebokfdiamepcaaAb
set_option linter.unusedVariables false
set_option linter.unusedSimpArgs false
namespace Go.Proofs.Ytebokfdiamepcaa.AM
open Go.RowKit

/-- A call looks at what is lent to it, and fixes some of it. -/
def CallC (cl : ∀ ρ, CallT ρ) : Prop := ∀ (fid : Nat) (args : List AV) (m : Mem) (v : AV) (m' : Mem), cl (AV × Mem) fid args m pairK = some (v, m') →
  ∃ F : List Nat, m' = m.fix F ∧ (∀ id ∈ F, id ∈ args.flatMap (readsA m)) ∧ ∀ m2, (∀ id ∈ args.flatMap (readsA m), Alike m m2 id) → cl (AV × Mem) fid args m2 pairK = some (v, m2.fix F)

/-- What an operation that does not write does with memory. -/
structure Form (cl : ∀ ρ, CallT ρ) (tb : Tb) (o : Oper) (ev : Operand → AV) (m : Mem) (v : AV) (a : Do) : Prop where
  id : ∀ i, a.id? = some i → ∃ d, o.dst = some d ∧ i = m.id d ∧ m.new i = true
  two : a.id? ≠ none → cls tb o = 2
  fix : a.fixes = true → cls tb o = 3
  fixed : ∀ F, a = .fix F → ∀ i ∈ F, okId m o i = true
  fixedb : ∀ i, a = .fixb i → okId m o i = true
  replay : ∀ m2 : Mem, m2.ep = m.ep → (∀ i, okId m o i = true → Alike m m2 i) → (∀ i, a.id? = some i → m2.new i = true) → opD cl tb o ev m2 = some (v, a.ap m2)

theorem okId_ep {m m2 : Mem} {o : Oper} {i : Nat} (h : m2.ep = m.ep) : okId m2 o i = okId m o i := by unfold okId; rw [h]
theorem all_okId {m : Mem} {o : Oper} {l : List Nat} (h : l.all (okId m o) = true) : ∀ i ∈ l, okId m o i = true := fun i hi => List.all_eq_true.1 h i hi

theorem kLoad_m {o : Oper} {m m2 : Mem} {tb : Tb} {t : Nat} {a v : AV} {m' : Mem} (h : kLoad tb o m pairK t a = some (v, m')) (hep : m2.ep = m.ep) (hal : ∀ i, okId m o i = true → Alike m m2 i) : m' = m ∧ kLoad tb o m2 pairK t a = some (v, m2) := by
  unfold kLoad at h
  split at h
  · rename_i id off
    split at h
    · rename_i b hb
      split at h
      · rename_i x hx
        obtain ⟨hok, h⟩ := cond_some h
        obtain ⟨rfl, rfl⟩ := pairK_some h
        obtain ⟨f, hb2⟩ := (hal id hok).box hb
        refine ⟨rfl, ?_⟩
        simp only [kLoad, hb2, hx, okId_ep (o := o) (i := id) hep, hok]
        rfl
      · cases h
    · cases h
  · rename_i cs
    split at h
    · rename_i x hx
      obtain ⟨rfl, rfl⟩ := pairK_some h
      refine ⟨rfl, ?_⟩
      simp only [kLoad, hx]
      rfl
    · cases h
  · rename_i id e0 i off
    split at h
    · cases h
    · rename_i e xs et st hd hrow
      split at h
      · rename_i x hx
        obtain ⟨hok, h⟩ := cond_some h
        obtain ⟨rfl, rfl⟩ := pairK_some h
        simp only [Bool.and_eq_true] at hok
        obtain ⟨st', hr2, hs⟩ := (hal id hok.2).row hrow
        refine ⟨rfl, ?_⟩
        have hst : st' ≠ .dead := fun e => hd (hs.1 e)
        cases st' with
        | dead => exact absurd rfl hst
        | own =>
          simp only [kLoad, hr2, hx, okId_ep (o := o) (i := id) hep, hok.2, hok.1, Bool.and_self]
          rfl
        | fixed =>
          simp only [kLoad, hr2, hx, okId_ep (o := o) (i := id) hep, hok.2, hok.1, Bool.and_self]
          rfl
      · cases h
    · cases h
  · cases h

theorem mkBox_form {o : Oper} {m : Mem} {cs : List AV} {v : AV} {m' : Mem} (h : mkBox o m pairK cs = some (v, m')) :
    ∃ d, o.dst = some d ∧ m.new (m.id d) = true ∧ m' = (Do.box (m.id d) ⟨cs, false⟩).ap m ∧ ∀ m2 : Mem, m2.ep = m.ep → m2.new (m.id d) = true → mkBox o m2 pairK cs = some (v, (Do.box (m.id d) ⟨cs, false⟩).ap m2) := by
  unfold mkBox at h
  split at h
  · rename_i d hd
    obtain ⟨hn, h⟩ := cond_some h
    obtain ⟨rfl, rfl⟩ := pairK_some h
    refine ⟨d, hd, hn, rfl, fun m2 hep hn2 => ?_⟩
    have hid : m2.id d = m.id d := by unfold Mem.id; rw [hep]
    simp only [mkBox, hd, hid, hn2]
    rfl
  · cases h
theorem mkRow_form {o : Oper} {m : Mem} {e : Kd} {t : Nat} {xs : List e.T} {v : AV} {m' : Mem} (h : mkRow o pairK e t xs m = some (v, m')) :
    ∃ d, o.dst = some d ∧ m.new (m.id d) = true ∧ m' = (Do.row (m.id d) ⟨e, xs, t, .own⟩).ap m ∧ ∀ m2 : Mem, m2.ep = m.ep → m2.new (m.id d) = true → mkRow o pairK e t xs m2 = some (v, (Do.row (m.id d) ⟨e, xs, t, .own⟩).ap m2) := by
  unfold mkRow at h
  split at h
  · rename_i d hd
    obtain ⟨hn, h⟩ := cond_some h
    obtain ⟨rfl, rfl⟩ := pairK_some h
    refine ⟨d, hd, hn, rfl, fun m2 hep hn2 => ?_⟩
    have hid : m2.id d = m.id d := by unfold Mem.id; rw [hep]
    simp only [mkRow, hd, hid, hn2]
    rfl
  · cases h

section
variable {cl : ∀ ρ, CallT ρ} (hcl : CallB cl) (hcc : CallC cl) {tb : Tb}
theorem Form.nil {o : Oper} {ev : Operand → AV} {m : Mem} {v : AV} (h : ∀ m2 : Mem, m2.ep = m.ep → (∀ i, okId m o i = true → Alike m m2 i) → opD cl tb o ev m2 = some (v, m2)) : Form cl tb o ev m v .nil :=
  ⟨fun _ h => (by cases h), fun h => absurd rfl h, fun h => (by cases h), fun F h => (by cases h), fun i h => (by cases h), fun m2 hep hal _ => h m2 hep hal⟩
include hcl hcc in
theorem op_form {o : Oper} {ev : Operand → AV} {m : Mem} {v : AV} {m' : Mem} (hc : cls tb o ≠ 4) (h : opD cl tb o ev m = some (v, m')) : ∃ a, m' = a.ap m ∧ Form cl tb o ev m v a := by
  by_cases h0 : cls tb o = 0
  · obtain ⟨rfl, hall⟩ := cls0 hcl h0 h
    exact ⟨.nil, rfl, Form.nil fun m2 _ _ => hall m2⟩
  have hbox : ∀ (cs : List AV), cls tb o = 2 → (∀ m, opD cl tb o ev m = mkBox o m pairK cs) → ∃ a, m' = a.ap m ∧ Form cl tb o ev m v a := by
    intro cs h2 hop
    rw [hop] at h
    obtain ⟨d, hd, hn, rfl, hrep⟩ := mkBox_form h
    refine ⟨_, rfl, fun i hi => ?_, fun _ => h2, fun hf => (by cases hf), fun F hF => (by cases hF), fun i hi => (by cases hi), fun m2 hep _ hnew => ?_⟩
    · injection hi with hi
      subst hi
      exact ⟨d, hd, rfl, hn⟩
    · rw [hop]
      exact hrep m2 hep (hnew _ rfl)
  have hrow : ∀ (e : Kd) (t : Nat) (xs : List e.T), cls tb o = 2 → (∀ m, opD cl tb o ev m = mkRow o pairK e t xs m) → ∃ a, m' = a.ap m ∧ Form cl tb o ev m v a := by
    intro e t xs h2 hop
    rw [hop] at h
    obtain ⟨d, hd, hn, rfl, hrep⟩ := mkRow_form h
    refine ⟨_, rfl, fun i hi => ?_, fun _ => h2, fun hf => (by cases hf), fun F hF => (by cases hF), fun i hi => (by cases hi), fun m2 hep _ hnew => ?_⟩
    · injection hi with hi
      subst hi
      exact ⟨d, hd, rfl, hn⟩
    · rw [hop]
      exact hrep m2 hep (hnew _ rfl)
  have hnone : (∀ m, opD cl tb o ev m = none) → ∃ a, m' = a.ap m ∧ Form cl tb o ev m v a := fun hn => by rw [hn] at h; cases h
  cases ho : o.op
  case load t a =>
    have hop : ∀ m, opD cl tb o ev m = kLoad tb o m pairK t (ev a) := fun m => by simp only [opD, opK, ho]
    rw [hop] at h
    have := (kLoad_m h rfl (fun _ _ => ⟨rfl, rfl⟩)).1
    subst this
    exact ⟨.nil, rfl, Form.nil fun m2 hep hal => by rw [hop]; exact (kLoad_m h hep hal).2⟩
  case alloc t =>
    have h2 : cls tb o = 2 := by simp only [cls, ho]
    cases hok : (tb.at t).d.ok
    · exact hnone fun m => by simp only [opD, opK, ho, hok]; rfl
    · exact hbox (tb.at t).zero h2 fun m => by simp only [opD, opK, ho, hok]; rfl
  case box t x =>
    have h2 : cls tb o = 2 := by simp only [cls, ho]
    cases hk : cellsK (ev x) with
    | none => exact hnone fun m => by simp only [opD, opK, ho, kBox, hk]
    | some cs => exact hbox cs h2 fun m => by simp only [opD, opK, ho, kBox, hk]
  case makeSlice t l c =>
    have h2 : cls tb o = 2 := by simp only [cls, ho]
    have hop : ∀ m, opD cl tb o ev m = kMake tb o m pairK t (sameOp l c) (ev l) := fun m => by simp only [opD, opK, ho]
    rw [hop] at h
    unfold kMake at h
    split at h
    · rename_i e n hd hn
      split at h
      · rename_i κ hκ
        obtain ⟨hs, h⟩ := cond_some h
        obtain ⟨g1, h⟩ := gd_some h
        obtain ⟨g2, h⟩ := gd_some h
        obtain ⟨d, hdst, hnew, rfl, hrep⟩ := mkRow_form h
        refine ⟨_, rfl, fun i hi => ?_, fun _ => h2, fun hf => (by cases hf), fun F hF => (by cases hF), fun i hi => (by cases hi), fun m2 hep _ hnw => ?_⟩
        · injection hi with hi
          subst hi
          exact ⟨d, hdst, rfl, hnew⟩
        · rw [hop]
          simp only [kMake, hd, hn, hκ, hs, gd, g1, g2, cond]
          exact hrep m2 hep (hnw _ rfl)
      · cases h
    · cases h
  case buildSlice t n ps =>
    have hop : ∀ m, opD cl tb o ev m = kBuildSlice tb o m pairK t n (ps.toList.map fun p => (p.1, ev p.2)) := fun m => by simp only [opD, opK, ho]
    have hcls : ∀ e κ, (tb.at t).d = .sl e → (tb.at e).kd = some κ → κ.flat = true := by
      intro e κ hd hκ
      simp only [cls, ho, hd, hκ] at hc
      cases hf : κ.flat
      · rw [hf] at hc; exact absurd rfl hc
      · rfl
    rw [hop] at h
    unfold kBuildSlice at h
    split at h
    · rename_i e hd
      split at h
      · rename_i κ hκ
        have hf := hcls e κ hd hκ
        obtain ⟨hs, h⟩ := cond_some h
        rw [hf] at h
        simp only [cond] at h
        split at h
        · rename_i xs hx
          obtain ⟨d, hdst, hnew, rfl, hrep⟩ := mkRow_form h
          have h2 : cls tb o = 2 := by simp only [cls, ho, hd, hκ, hf, cond]
          refine ⟨_, rfl, fun i hi => ?_, fun _ => h2, fun hf => (by cases hf), fun F hF => (by cases hF), fun i hi => (by cases hi), fun m2 hep _ hnw => ?_⟩
          · injection hi with hi
            subst hi
            exact ⟨d, hdst, rfl, hnew⟩
          · rw [hop]
            simp only [kBuildSlice, hd, hκ, hs, hf, cond, hx]
            exact hrep m2 hep (hnw _ rfl)
        · cases h
      · cases h
    · cases h
  case slice t x lo hi mx =>
    cases mx with
    | some z => exact hnone fun m => by simp only [opD, opK, ho]
    | none =>
      have h3 : cls tb o = 3 := by simp only [cls, ho]
      have hop : ∀ m, opD cl tb o ev m = kSlice tb o m pairK t (ev x) (lo.map ev) (hi.map ev) := fun m => by simp only [opD, opK, ho]
      rw [hop] at h
      unfold kSlice at h
      split at h
      · rename_i lo' hi' hlo hhi
        have gdk : ∀ {n : Nat} {v' v'' : AV} {m1 m1' : Mem}, cutGd lo' hi' n (pairK v' m1) = some (v'', m1') → v'' = v' ∧ m1' = m1 ∧ ∀ m2, cutGd lo' hi' n (pairK v' m2) = some (v', m2) := by
          intro n v' v'' m1 m1' hg
          have key : ∀ m2, cutGd lo' hi' n (pairK v' m2) = (cutGd lo' hi' n (some ())).bind fun _ => pairK v' m2 := fun m2 => (cutGd_b lo' hi' n (some ()) _).symm ▸ rfl
          rw [key] at hg
          cases hq : cutGd lo' hi' n (some ()) with
          | none => rw [hq] at hg; cases hg
          | some u =>
            rw [hq] at hg
            obtain ⟨rfl, rfl⟩ := pairK_some hg
            exact ⟨rfl, rfl, fun m2 => by rw [key, hq]; rfl⟩
        split at h
        · rename_i et e xs hd hx
          obtain ⟨hsz, h⟩ := cond_some h
          obtain ⟨rfl, rfl, hg⟩ := gdk h
          refine ⟨.nil, rfl, Form.nil fun m2 _ _ => ?_⟩
          rw [hop]
          simp only [kSlice, hlo, hhi, hd, hx, hsz, cond]
          exact hg m2
        · rename_i et id e n hd hx
          split at h
          · cases h
          · rename_i e' xs tt st hdead hr
            obtain ⟨hok, h⟩ := cond_some h
            obtain ⟨rfl, rfl, hg⟩ := gdk h
            simp only [Bool.and_eq_true] at hok
            refine ⟨.fix [id], fix_eq _ _, fun i hi => (by cases hi), fun hh => absurd rfl hh, fun _ => h3, fun F hF i hi => ?_, fun i hi => (by cases hi), fun m2 hep hal _ => ?_⟩
            · injection hF with hF
              subst hF
              obtain rfl : i = id := by simpa using hi
              exact hok.1
            · obtain ⟨st', hr2, hs⟩ := (hal id hok.1).row hr
              have hst : st' ≠ .dead := fun e => hdead (hs.1 e)
              rw [hop]
              have := hg (m2.fix [id])
              rw [fix_eq] at this
              cases st' with
              | dead => exact absurd rfl hst
              | own =>
                simp only [kSlice, hlo, hhi, hd, hx, hr2, okId_ep (o := o) (i := id) hep, hok.1, hok.2, Bool.and_self, cond]
                rw [fix_eq]
                exact this
              | fixed =>
                simp only [kSlice, hlo, hhi, hd, hx, hr2, okId_ep (o := o) (i := id) hep, hok.1, hok.2, Bool.and_self, cond]
                rw [fix_eq]
                exact this
          · cases h
        · rename_i et hd hx
          obtain ⟨hok, h⟩ := cond_some h
          obtain ⟨rfl, rfl, hg⟩ := gdk h
          refine ⟨.nil, rfl, Form.nil fun m2 _ _ => ?_⟩
          rw [hop]
          simp only [kSlice, hlo, hhi, hd, hx, hok, cond]
          exact hg m2
        · rename_i n e id hd hx
          split at h
          · rename_i κ b hκ hb
            split at h
            · rename_i xs hxs
              obtain ⟨hok, h⟩ := cond_some h
              obtain ⟨rfl, rfl⟩ := pairK_some h
              simp only [Bool.and_eq_true] at hok
              refine ⟨.fixb id, rfl, fun i hi => (by cases hi), fun hh => absurd rfl hh, fun _ => h3, fun F hF => (by cases hF), fun i hi => ?_, fun m2 hep hal _ => ?_⟩
              · injection hi with hi
                subst hi
                exact hok.2
              · obtain ⟨f, hb2⟩ := (hal id hok.2).box hb
                have hr0 : (rowsP m (AV.ptr id 0)) = [] := List.eq_nil_of_length_eq_zero (Nat.eq_of_beq_eq_true (by rw [← hx]; exact hok.1))
                have hr1 : b.cs.flatMap rowsC = [] := by simpa [rowsP, cellsIn, hb] using hr0
                rw [hop]
                have hxs2 : kSlice.decAll κ n (b.cs.map (lendC m2)) = some xs := by
                  rw [lendCs_alike (m := m) (m2 := m2) (fun i hi => by rw [hr1] at hi; cases hi)]
                  exact hxs
                have hr2 : Nat.beq (rowsP m2 (AV.ptr id 0)).length 0 = true := by simp [rowsP, cellsIn, hb2, hr1]
                simp only [kSlice, hlo, hhi, hd, hx, hκ, hb2, hxs2, hr2, okId_ep (o := o) (i := id) hep, hok.2, Bool.and_self, cond]
                rfl
            · cases h
          · cases h
        · cases h
      · cases h
  case call c =>
    cases hcc' : c.callee with
    | builtin b =>
      exfalso
      simp only [cls, ho, hcc'] at h0 hc
      cases b <;> first | exact h0 rfl | exact hc rfl
    | invoke r n =>
      exfalso
      simp only [cls, ho, hcc'] at hc
      exact hc rfl
    | value f =>
      have h3 : cls tb o = 3 := by simp only [cls, ho, hcc']
      have hop : ∀ m, opD cl tb o ev m = kCall (cl _) tb c ev m o pairK := fun m => by simp only [opD, opK, ho]
      rw [hop] at h
      simp only [kCall, hcc'] at h
      split at h
      · rename_i g a b hf
        obtain ⟨hok, h⟩ := cond_some h
        obtain ⟨F, rfl, hF, hrep⟩ := hcc g _ m v m' h
        have hok' := all_okId hok
        refine ⟨.fix F, fix_eq _ _, fun i hi => (by cases hi), fun hh => absurd rfl hh, fun _ => h3, fun F' hF' i hi => ?_, fun i hi => (by cases hi), fun m2 hep hal _ => ?_⟩
        · injection hF' with hF'
          subst hF'
          exact hok' i (hF i hi)
        · have hal' : ∀ id ∈ (a ++ c.args.toList.map ev ++ b).flatMap (readsA m), Alike m m2 id := fun id hid => hal id (hok' id hid)
          have hrd := (lends_alike hal').2.2
          rw [hop]
          simp only [kCall, hcc', hf]
          rw [hrd]
          have hok2 : ((a ++ c.args.toList.map ev ++ b).flatMap (readsA m)).all (okId m2 o) = true := by
            rw [List.all_eq_true]
            intro i hi
            rw [okId_ep hep]
            exact hok' i hi
          rw [hok2]
          simp only [cond]
          rw [hrep m2 hal', fix_eq]
          rfl
      · cases h
  all_goals (exfalso; first | (apply h0; simp only [cls, ho]; done) | (apply hc; simp only [cls, ho]; done))
end
end Go.Proofs.Ytebokfdiamepcaa.AM
