/- The abstract machine, 18: what an operation does with memory, done elsewhere. -/
import Derived.Test.YtebokfdiamepcaaAa
set_option linter.unusedVariables false
set_option linter.unusedSimpArgs false
namespace Go.Proofs.Ytebokfdiamepcaa.AM
open Go.RowKit

def RowA.view (a : RowA) : RowA := ⟨a.e, a.xs, a.t, match a.st with
  | .dead => .dead
  | _ => .own⟩
/-- Two memories are alike at a number, but for what is fixed. -/
def Alike (m m2 : Mem) (id : Nat) : Prop := (m.box id).map BoxA.cs = (m2.box id).map BoxA.cs ∧ (m.row id).map RowA.view = (m2.row id).map RowA.view
theorem Alike.symm {m m2 : Mem} {id : Nat} (h : Alike m m2 id) : Alike m2 m id := ⟨h.1.symm, h.2.symm⟩
theorem Alike.box {m m2 : Mem} {id : Nat} (h : Alike m m2 id) {b : BoxA} (hb : m.box id = some b) : ∃ f, m2.box id = some ⟨b.cs, f⟩ := by
  have h1 := h.1
  rw [hb] at h1
  cases h2 : m2.box id with
  | none => rw [h2] at h1; simp at h1
  | some c =>
    rw [h2] at h1
    simp only [Option.map_some, Option.some.injEq] at h1
    exact ⟨c.fixed, by rw [h1]⟩
theorem Alike.row {m m2 : Mem} {id : Nat} (h : Alike m m2 id) {e : Kd} {xs : List e.T} {t : Nat} {st : Stat} (hr : m.row id = some ⟨e, xs, t, st⟩) : ∃ st', m2.row id = some ⟨e, xs, t, st'⟩ ∧ (st' = .dead ↔ st = .dead) := by
  have h1 := h.2
  rw [hr] at h1
  cases h2 : m2.row id with
  | none => rw [h2] at h1; simp at h1
  | some c =>
    obtain ⟨e', xs', t', st'⟩ := c
    rw [h2] at h1
    simp only [Option.map_some, Option.some.injEq, RowA.view, RowA.mk.injEq] at h1
    obtain ⟨rfl, hx, rfl, hs⟩ := h1
    obtain rfl := eq_of_heq hx
    refine ⟨st', rfl, ?_⟩
    cases st <;> cases st' <;> first | (simp; done) | (simp at hs; done)
theorem Alike.rowNone {m m2 : Mem} {id : Nat} (h : Alike m m2 id) (hr : m.row id = none) : m2.row id = none := by
  have h1 := h.2
  rw [hr] at h1
  simpa using h1.symm
theorem Alike.boxNone {m m2 : Mem} {id : Nat} (h : Alike m m2 id) (hr : m.box id = none) : m2.box id = none := by
  have h1 := h.1
  rw [hr] at h1
  simpa using h1.symm

/-! ### Lending from a memory that is alike -/
theorem lendC_alike {m m2 : Mem} {v : AV} (h : ∀ id ∈ rowsC v, Alike m m2 id) : lendC m2 v = lendC m v := by
  cases v <;> try rfl
  case row id e n =>
    have ha := h id (by simp [rowsC])
    unfold lendC
    simp only
    cases hr : m.row id with
    | none => rw [ha.rowNone hr]
    | some a =>
      obtain ⟨e', xs, t, st⟩ := a
      obtain ⟨st', h2, hs⟩ := ha.row hr
      rw [h2]
      cases st <;> cases st' <;> simp_all
theorem lendCs_alike {m m2 : Mem} : ∀ {cs : List AV}, (∀ id ∈ cs.flatMap rowsC, Alike m m2 id) → cs.map (lendC m2) = cs.map (lendC m)
  | [], _ => rfl
  | c :: cs, h => by
    rw [List.map_cons, List.map_cons, lendC_alike (v := c) (fun id hid => h id (by simp; exact .inl hid)), lendCs_alike (cs := cs) (fun id hid => h id (by simp at hid ⊢; exact .inr hid))]
theorem lendP_alike {m m2 : Mem} {v : AV} (h : ∀ id ∈ readsP m v, Alike m m2 id) : lendP m2 v = lendP m v ∧ rowsP m2 v = rowsP m v ∧ readsP m2 v = readsP m v := by
  cases v <;> try exact ⟨rfl, rfl, rfl⟩
  case row id e n => exact ⟨lendC_alike (v := .row id e n) (fun i hi => h i (by simp [readsP, rowsP, cellsIn]; simpa using hi)), rfl, rfl⟩
  case agg cs =>
    refine ⟨?_, rfl, rfl⟩
    simp only [lendP]
    rw [lendCs_alike (fun i hi => h i (by simp [readsP, rowsP, cellsIn]; simpa using hi))]
  case ptr id off =>
    have ha := h id (by simp [readsP])
    cases hb : m.box id with
    | none =>
      have hb2 := ha.boxNone hb
      have e1 : rowsP m2 (.ptr id off) = rowsP m (.ptr id off) := by simp [rowsP, cellsIn, hb, hb2]
      refine ⟨?_, e1, by simp only [readsP, e1]⟩
      cases off <;> simp [lendP, lendC, hb, hb2]
    | some b =>
      obtain ⟨f, hb2⟩ := ha.box hb
      have e1 : rowsP m2 (.ptr id off) = rowsP m (.ptr id off) := by simp [rowsP, cellsIn, hb, hb2]
      refine ⟨?_, e1, by simp only [readsP, e1]⟩
      cases off with
      | zero =>
        simp only [lendP, hb, hb2]
        rw [lendCs_alike (fun i hi => h i (by simp [readsP, rowsP, cellsIn, hb]; exact .inr (by simpa using hi)))]
      | succ n => rfl
theorem lendPs_alike {m m2 : Mem} : ∀ {cs : List AV}, (∀ id ∈ cs.flatMap (readsP m), Alike m m2 id) → cs.map (lendP m2) = cs.map (lendP m) ∧ cs.flatMap (rowsP m2) = cs.flatMap (rowsP m) ∧ cs.flatMap (readsP m2) = cs.flatMap (readsP m)
  | [], _ => ⟨rfl, rfl, rfl⟩
  | c :: cs, h => by
    obtain ⟨h1, h2, h3⟩ := lendP_alike (v := c) (fun id hid => h id (by simp; exact .inl hid))
    obtain ⟨k1, k2, k3⟩ := lendPs_alike (cs := cs) (fun id hid => h id (by simp at hid ⊢; exact .inr hid))
    simp only [List.map_cons, List.flatMap_cons, h1, h2, h3, k1, k2, k3, and_self]
theorem notFn {m : Mem} {v : AV} (h : ∀ f a b, v ≠ .fn f a b) : lend m v = lendP m v ∧ rowsA m v = rowsP m v ∧ readsA m v = readsP m v := by
  cases v
  case fn f a b => exact (h f a b rfl).elim
  all_goals exact ⟨rfl, rfl, rfl⟩
theorem lend_alike {m m2 : Mem} {v : AV} (h : ∀ id ∈ readsA m v, Alike m m2 id) : lend m2 v = lend m v ∧ rowsA m2 v = rowsA m v ∧ readsA m2 v = readsA m v := by
  by_cases hf : ∀ f a b, v ≠ .fn f a b
  · obtain ⟨a1, a2, a3⟩ := notFn (m := m) hf
    obtain ⟨b1, b2, b3⟩ := notFn (m := m2) hf
    rw [a1, a2, a3, b1, b2, b3]
    rw [a3] at h
    exact lendP_alike h
  cases v
  case fn f a b =>
    obtain ⟨h1, h2, h3⟩ := lendPs_alike (cs := a) (fun id hid => h id (by simp [readsA]; simp at hid; exact .inl hid))
    obtain ⟨k1, k2, k3⟩ := lendPs_alike (cs := b) (fun id hid => h id (by simp [readsA]; simp at hid; exact .inr hid))
    simp only [lend, rowsA, readsA, h1, h2, h3, k1, k2, k3, and_self]
  all_goals exact (hf (fun _ _ _ e => by cases e)).elim
theorem lends_alike {m m2 : Mem} : ∀ {cs : List AV}, (∀ id ∈ cs.flatMap (readsA m), Alike m m2 id) → cs.map (lend m2) = cs.map (lend m) ∧ cs.flatMap (rowsA m2) = cs.flatMap (rowsA m) ∧ cs.flatMap (readsA m2) = cs.flatMap (readsA m)
  | [], _ => ⟨rfl, rfl, rfl⟩
  | c :: cs, h => by
    obtain ⟨h1, h2, h3⟩ := lend_alike (v := c) (fun id hid => h id (by simp; exact .inl hid))
    obtain ⟨k1, k2, k3⟩ := lends_alike (cs := cs) (fun id hid => h id (by simp at hid ⊢; exact .inr hid))
    simp only [List.map_cons, List.flatMap_cons, h1, h2, h3, k1, k2, k3, and_self]
theorem rows_reads_P {m : Mem} {v : AV} {id : Nat} (h : id ∈ rowsP m v) : id ∈ readsP m v := by
  simp only [readsP, List.mem_append]
  exact .inr h
theorem rows_reads {m : Mem} {v : AV} {id : Nat} (h : id ∈ rowsA m v) : id ∈ readsA m v := by
  by_cases hf : ∀ f a b, v ≠ .fn f a b
  · obtain ⟨a1, a2, a3⟩ := notFn (m := m) hf
    rw [a3]
    rw [a2] at h
    exact rows_reads_P h
  cases v
  case fn f a b =>
    simp only [rowsA, readsA, List.mem_append, List.mem_flatMap] at h ⊢
    rcases h with ⟨x, hx, h⟩ | ⟨x, hx, h⟩
    · exact .inl ⟨x, hx, rows_reads_P h⟩
    · exact .inr ⟨x, hx, rows_reads_P h⟩
  all_goals exact (hf (fun _ _ _ e => by cases e)).elim

/-! ### What is done with memory -/
inductive Do where
  | nil
  | box (id : Nat) (b : BoxA)
  | row (id : Nat) (a : RowA)
  | fix (F : List Nat)
  | fixb (id : Nat)
def fixRows (r : Nat → Option RowA) : List Nat → (Nat → Option RowA)
  | [] => r
  | id :: F => fixRows (match r id with
    | some a => upd r id (some (fixRow a))
    | none => r) F
theorem fix_eq : ∀ (F : List Nat) (m : Mem), m.fix F = { m with row := fixRows m.row F }
  | [], m => rfl
  | id :: F, m => by
    simp only [Mem.fix, fixRows]
    cases m.row id with
    | none => exact fix_eq F m
    | some a => exact fix_eq F _
theorem fixRows_upd {r : Nat → Option RowA} {id : Nat} {a : Option RowA} : ∀ {F : List Nat}, id ∉ F → fixRows (upd r id a) F = upd (fixRows r F) id a := by
  intro F
  induction F generalizing r with
  | nil => intro _; rfl
  | cons j F ih =>
    intro h
    have hj : j ≠ id := fun e => h (by rw [e]; exact List.mem_cons_self)
    have hF : id ∉ F := fun e => h (List.mem_cons_of_mem _ e)
    simp only [fixRows, upd_other r a hj]
    cases r j with
    | none => exact ih hF
    | some c =>
      simp only
      rw [upd_comm _ _ _ (Ne.symm hj)]
      exact ih hF
theorem fixRows_view (id : Nat) : ∀ (F : List Nat) (r : Nat → Option RowA), (fixRows r F id).map RowA.view = (r id).map RowA.view
  | [], r => rfl
  | j :: F, r => by
    simp only [fixRows]
    rw [fixRows_view id F]
    cases hr : r j with
    | none => rfl
    | some a =>
      simp only
      by_cases h : id = j
      · subst h
        rw [upd_same, hr]
        obtain ⟨e, xs, t, st⟩ := a
        cases st <;> rfl
      · rw [upd_other _ _ h]
theorem view_none {r : Option RowA} (h : r.map RowA.view = none) : r = none := by
  cases r with
  | none => rfl
  | some a => cases h
def Do.ap : Do → Mem → Mem
  | .nil, m => m
  | .box id b, m => { m with box := upd m.box id (some b) }
  | .row id a, m => { m with row := upd m.row id (some a) }
  | .fix F, m => { m with row := fixRows m.row F }
  | .fixb id, m => fixBox m id
theorem ap_ep (a : Do) (m : Mem) : (a.ap m).ep = m.ep := by
  cases a <;> try rfl
  case fixb id => simp only [Do.ap, fixBox]; cases m.box id <;> rfl
/-- The number that is given out. -/
def Do.id? : Do → Option Nat
  | .box id _ => some id
  | .row id _ => some id
  | _ => none
def Do.fixes : Do → Bool
  | .fix _ => true
  | .fixb _ => true
  | _ => false
theorem alike_ap (a : Do) (m : Mem) (id : Nat) (h : a.id? ≠ some id) : Alike m (a.ap m) id := by
  cases a
  case nil => exact ⟨rfl, rfl⟩
  case box i b => exact ⟨by simp only [Do.ap]; rw [upd_other _ _ (fun e => h (by rw [e]; rfl))], rfl⟩
  case row i b => exact ⟨rfl, by simp only [Do.ap]; rw [upd_other _ _ (fun e => h (by rw [e]; rfl))]⟩
  case fix F => exact ⟨rfl, (fixRows_view id F m.row).symm⟩
  case fixb i =>
    simp only [Do.ap, fixBox]
    cases hb : m.box i with
    | none => exact ⟨rfl, rfl⟩
    | some b =>
      refine ⟨?_, rfl⟩
      simp only
      by_cases e : id = i
      · subst e; rw [upd_same, hb]; rfl
      · rw [upd_other _ _ e]
theorem new_ap {a : Do} {m : Mem} {id : Nat} (h : m.new id = true) (hd : a.id? ≠ some id) : (a.ap m).new id = true := by
  have h1 := new_box h
  have h2 := new_row h
  have hal := alike_ap a m id hd
  have h3 : (a.ap m).map = m.map := by cases a <;> try rfl
                                       case fixb i => simp only [Do.ap, fixBox]; cases m.box i <;> rfl
  unfold Mem.new at h ⊢
  rw [hal.boxNone h1, hal.rowNone h2, h3]
  rw [h1, h2] at h
  exact h
theorem new_of_ap {a : Do} {m : Mem} {id : Nat} (h : (a.ap m).new id = true) : m.new id = true ∧ a.id? ≠ some id := by
  have h1 := new_box h
  have h2 := new_row h
  have hd : a.id? ≠ some id := by
    cases a <;> simp only [Do.id?, ne_eq, Option.some.injEq] <;> try (intro e; cases e)
    case box => simp only [Do.ap, upd_same] at h1; cases h1
    case row => simp only [Do.ap, upd_same] at h2; cases h2
  have hal := (alike_ap a m id hd).symm
  have h3 : (a.ap m).map = m.map := by cases a <;> try rfl
                                       case fixb i => simp only [Do.ap, fixBox]; cases m.box i <;> rfl
  refine ⟨?_, hd⟩
  unfold Mem.new at h ⊢
  rw [hal.boxNone h1, hal.rowNone h2, ← h3]
  rw [h1, h2] at h
  exact h
theorem fixBox_upd {m : Mem} {id i : Nat} {b : BoxA} (h : id ≠ i) : fixBox { m with box := upd m.box i (some b) } id = { fixBox m id with box := upd (fixBox m id).box i (some b) } := by
  unfold fixBox
  simp only [upd_other m.box (some b) h]
  cases m.box id with
  | none => rfl
  | some c => simp only; rw [upd_comm _ _ _ (Ne.symm h)]
/-- What does not touch comes in either order. -/
def Do.apart : Do → Do → Prop
  | .box i _, .box j _ => i ≠ j
  | .row i _, .row j _ => i ≠ j
  | .fix F, .row j _ => j ∉ F
  | .row j _, .fix F => j ∉ F
  | .fixb i, .box j _ => i ≠ j
  | .box j _, .fixb i => i ≠ j
  | _, _ => True
theorem fixRow_fixRow (a : RowA) : fixRow (fixRow a) = fixRow a := by
  obtain ⟨e, xs, t, st⟩ := a
  cases st <;> rfl
theorem fixRows_at : ∀ (F : List Nat) (r : Nat → Option RowA) (i : Nat), fixRows r F i = if i ∈ F then (r i).map fixRow else r i
  | [], r, i => by simp [fixRows]
  | j :: F, r, i => by
    simp only [fixRows]
    rw [fixRows_at F]
    by_cases e : i = j
    · subst e
      cases hr : r i with
      | none => simp [hr]
      | some a =>
        simp only [upd_same]
        by_cases h : i ∈ F <;> simp [h, fixRow_fixRow]
    · have h1 : (match r j with
          | some a => upd r j (some (fixRow a))
          | none => r) i = r i := by
        cases r j with
        | none => rfl
        | some a => exact upd_other _ _ e
      rw [h1]
      by_cases h : i ∈ F <;> simp [h, e]
theorem ap_comm {a b : Do} (h : a.apart b) (m : Mem) : a.ap (b.ap m) = b.ap (a.ap m) := by
  cases a <;> cases b <;> try rfl
  case box.box i x j y => simp only [Do.ap]; rw [upd_comm _ _ _ (Ne.symm h)]
  case row.row i x j y => simp only [Do.ap]; rw [upd_comm _ _ _ (Ne.symm h)]
  case fix.row F j y => simp only [Do.ap]; rw [fixRows_upd h]
  case row.fix j y F => simp only [Do.ap]; rw [fixRows_upd h]
  case fixb.box i j y => simp only [Do.ap]; rw [fixBox_upd h]
  case box.fixb j y i => simp only [Do.ap]; rw [fixBox_upd h]
  case fixb.row i j y => simp only [Do.ap, fixBox]; cases m.box i <;> rfl
  case row.fixb j y i => simp only [Do.ap, fixBox]; cases m.box i <;> rfl
  case fix.fix F G =>
    simp only [Do.ap]
    congr 1
    funext i
    simp only [fixRows_at]
    by_cases h1 : i ∈ F <;> by_cases h2 : i ∈ G <;> simp [h1, h2]
  case fixb.fixb i j =>
    by_cases e : i = j
    · subst e; rfl
    · simp only [Do.ap]
      cases hi : m.box i with
      | none =>
        have h1 : fixBox m i = m := by simp only [fixBox, hi]
        rw [h1]
        cases hj : m.box j with
        | none =>
          have h2 : fixBox m j = m := by simp only [fixBox, hj]
          rw [h2, h1]
        | some c =>
          have h2 : fixBox m j = { m with box := upd m.box j (some ⟨c.cs, true⟩) } := by simp only [fixBox, hj]
          rw [h2]
          simp only [fixBox, upd_other m.box _ e, hi]
      | some b =>
        have h1 : fixBox m i = { m with box := upd m.box i (some ⟨b.cs, true⟩) } := by simp only [fixBox, hi]
        cases hj : m.box j with
        | none =>
          have h2 : fixBox m j = m := by simp only [fixBox, hj]
          rw [h2, h1]
          simp only [fixBox, upd_other m.box _ (Ne.symm e), hj]
        | some c =>
          have h2 : fixBox m j = { m with box := upd m.box j (some ⟨c.cs, true⟩) } := by simp only [fixBox, hj]
          rw [h1, h2]
          simp only [fixBox, upd_other m.box _ (Ne.symm e), upd_other m.box _ e, hi, hj]
          rw [upd_comm _ _ _ (Ne.symm e)]
  case fix.fixb F i => simp only [Do.ap, fixBox]; cases m.box i <;> rfl
  case fixb.fix i F => simp only [Do.ap, fixBox]; cases m.box i <;> rfl
end Go.Proofs.Ytebokfdiamepcaa.AM
