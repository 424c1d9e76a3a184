/- The abstract machine, 12: what is lent. -/
import Derived.Test.YtebokfdiamepcaaU
set_option linter.unusedVariables false
set_option linter.unusedSimpArgs false
namespace Go.Proofs.Ytebokfdiamepcaa.AM
open Go.RowKit

theorem fixRow_dead {a : RowA} : (fixRow a).st = .dead ↔ a.st = .dead := by
  obtain ⟨e, xs, t, st⟩ := a
  cases st <;> simp [fixRow]
theorem fix_live {m : Mem} {id : Nat} {a : RowA} (h : m.row id = some a) (i : Nat) : ({ m with row := upd m.row id (some (fixRow a)) } : Mem).live i ↔ m.live i := by
  constructor
  · rintro ⟨c, hc, hd⟩
    have hc' : upd m.row id (some (fixRow a)) i = some c := hc
    by_cases hi : i = id
    · subst hi
      rw [upd_same] at hc'
      injection hc' with hc'
      subst hc'
      exact ⟨a, h, fun e => hd (fixRow_dead.2 e)⟩
    · rw [upd_other _ _ hi] at hc'
      exact ⟨c, hc', hd⟩
  · rintro ⟨c, hc, hd⟩
    by_cases hi : i = id
    · subst hi
      rw [h] at hc
      injection hc with hc
      subst hc
      exact ⟨_, upd_same _ _ _, fun e => hd (fixRow_dead.1 e)⟩
    · exact ⟨c, (upd_other _ _ hi).trans hc, hd⟩
/-- The blocks of own rows. -/
def rowBlk (Γ : Gh) (m : Mem) (ids : List Nat) (b : Nat) : Prop := ∃ id ∈ ids, m.live id ∧ ∃ v, Γ.ν id = some v ∧ v.ownBlock = some b
theorem MemRel.fixL {B : Nat} {w0 : World} : ∀ (ids : List Nat) {Γ : Gh} {m : Mem}, MemRel B w0 Γ m →
    ∃ R' : Nat → Prop, MemRel B w0 { Γ with R := R' } (m.fix ids) ∧ Ext B Γ { Γ with R := R' } ∧ ∀ b, R' b ↔ Γ.R b ∨ rowBlk Γ m ids b
  | [], Γ, m, M => ⟨Γ.R, M, Ext.refl B Γ, fun b => ⟨.inl, fun h => h.elim (fun h => h) fun ⟨_, hid, _⟩ => by cases hid⟩⟩
  | id :: r, Γ, m, M => by
    simp only [Mem.fix]
    cases hm : m.row id with
    | none =>
      obtain ⟨R', M', E', h'⟩ := MemRel.fixL r M
      refine ⟨R', M', E', fun b => (h' b).trans ⟨fun h => ?_, fun h => ?_⟩⟩
      · rcases h with h | ⟨i, hi, h⟩
        · exact .inl h
        · exact .inr ⟨i, List.mem_cons_of_mem _ hi, h⟩
      · rcases h with h | ⟨i, hi, hl, h⟩
        · exact .inl h
        · rcases List.mem_cons.1 hi with rfl | hi
          · obtain ⟨c, hc, _⟩ := hl
            rw [hm] at hc
            cases hc
          · exact .inr ⟨i, hi, hl, h⟩
    | some a =>
      obtain ⟨R1, M1, E1, h1⟩ := M.fixOne hm
      obtain ⟨R', M', E', h'⟩ := MemRel.fixL r M1
      refine ⟨R', M', E1.trans E', fun b => (h' b).trans ⟨fun h => ?_, fun h => ?_⟩⟩
      · rcases h with h | ⟨i, hi, hl, h⟩
        · rcases (h1 b).1 h with h | ⟨hd, v, hv, hb⟩
          · exact .inl h
          · exact .inr ⟨id, List.mem_cons_self, ⟨a, hm, hd⟩, v, hv, hb⟩
        · exact .inr ⟨i, List.mem_cons_of_mem _ hi, (fix_live hm i).1 hl, h⟩
      · rcases h with h | ⟨i, hi, hl, h⟩
        · exact .inl ((h1 b).2 (.inl h))
        · rcases List.mem_cons.1 hi with rfl | hi
          · obtain ⟨c, hc, hd⟩ := hl
            rw [hm] at hc
            injection hc with hc
            subst hc
            exact .inl ((h1 b).2 (.inr ⟨hd, h⟩))
          · exact .inr ⟨i, hi, (fix_live hm i).2 hl, h⟩

/-- An own row as a slice that is read. -/
theorem row_sl {B : Nat} {Γ : Gh} {a : RowA} {v : Value} (hr : RowRel B Γ a v) {R' : Nat → Prop} (h1 : ∀ b, Γ.R b → R' b) (h2 : ∀ g, v.ownBlock = some g → R' g) : RepT Γ.w R' (.sl a.e) a.xs [v] := by
  obtain ⟨cs, ho, hR⟩ := hr.own
  simp only [RepT]
  rcases ho.2 with ⟨rfl, hn⟩ | ⟨g, cap, cur, rfl, hb, hg, hnc, hcm, hcs, htake⟩
  · have hx : a.xs = [] := List.eq_nil_of_length_eq_zero hn
    exact ⟨none, 0, by rw [hn], by rw [hn]; exact Nat.le_refl _, .inl hx⟩
  · refine ⟨_, cap, rfl, hnc, .inr ⟨_, rfl, h2 g rfl, fun i x hx => ?_⟩⟩
    obtain ⟨us, hus, hc⟩ := hR i x hx
    refine ⟨us, hus.mono (fun _ _ => rfl) h1, fun j u hj => ?_⟩
    have hjs : j < a.e.size := by rw [← hus.len]; exact (List.getElem?_eq_some_iff.1 hj).1
    have hi : i < List.length (α := a.e.T) a.xs := (List.getElem?_eq_some_iff.1 hx).1
    have hle : i * a.e.size + j < List.length (α := a.e.T) a.xs * a.e.size := by
      have : (i + 1) * a.e.size ≤ List.length (α := a.e.T) a.xs * a.e.size := Nat.mul_le_mul_right _ hi
      rw [Nat.add_mul, Nat.one_mul] at this
      omega
    rw [add_plain, Nat.zero_add, ho.cellAt _ hle]
    exact hc j u hj

theorem lendC_pure (m : Mem) (c : AV) : (lendC m c).pure = true := by
  unfold lendC
  split <;> first | rfl | skip
  split <;> rfl
theorem lendC_all (m : Mem) (cs : List AV) : (cs.map (lendC m)).all AV.pure = true := by
  rw [List.all_eq_true]
  intro x hx
  obtain ⟨c, _, rfl⟩ := List.mem_map.1 hx
  exact lendC_pure m c

/-- The ghosts of whoever is called: Γ' sees what is lent. -/
structure Lends (Γ Γ' : Gh) (m : Mem) (rows : List Nat) (ptrs : List Nat) : Prop where
  w : Γ'.w = Γ.w
  R : ∀ b, Γ.R b → Γ'.R b
  row : ∀ b, rowBlk Γ m rows b → Γ'.R b
  ptr : ∀ id ∈ ptrs, ∀ b, Γ.μ id = some b → Γ'.R b
theorem Lends.mono {Γ Γ' : Gh} {m : Mem} {r r' p p' : List Nat} (h : Lends Γ Γ' m r p) (hr : ∀ x ∈ r', x ∈ r) (hp : ∀ x ∈ p', x ∈ p) : Lends Γ Γ' m r' p' :=
  ⟨h.w, h.R, fun b ⟨i, hi, k⟩ => h.row b ⟨i, hr i hi, k⟩, fun i hi => h.ptr i (hp i hi)⟩
def ptrsP : AV → List Nat
  | .ptr id _ => [id]
  | _ => []
def ptrsA : AV → List Nat
  | .fn _ a b => a.flatMap ptrsP ++ b.flatMap ptrsP
  | v => ptrsP v

section
variable {B : Nat} {w0 : World} {Γ Γ' : Gh} {m : Mem} (M : MemRel B w0 Γ m)
include M
theorem lendC_rep {c : AV} {v : Value} (L : Lends Γ Γ' m (rowsC c) []) (h : RepV Γ c v) : RepV Γ' (lendC m c) v := by
  have hw := L.w
  unfold lendC
  split
  · rename_i id e0 n
    split
    · simp only [RepV]
    · rename_i e xs t st hd hrow
      simp only [RepV] at h
      have hd' : (⟨e, xs, t, st⟩ : RowA).st ≠ .dead := fun e' => hd e'
      have := row_sl (M.rowAt h.1 hrow hd') L.R (fun g hg => L.row g ⟨id, by simp [rowsC], ⟨_, hrow, hd'⟩, v, h.1, hg⟩)
      rw [← hw] at this
      simp only [RepV]
      exact this
    · simp only [RepV]
  · simpa only [RepV] using h
  · simpa only [RepV] using h
  · simpa only [RepV] using h
  · simpa only [RepV] using h
  · simp only [RepV] at h ⊢
    exact h.mono (fun b _ => by rw [hw]) L.R
  · simp only [RepV]
theorem lendCs_rep : ∀ {cs : List AV} {vs : List Value}, Lends Γ Γ' m (cs.flatMap rowsC) [] → RepL Γ cs vs → RepL Γ' (cs.map (lendC m)) vs
  | [], _, _, h => by simpa only [List.map_nil, RepL] using h
  | c :: cs, _, L, h => by
    simp only [RepL, List.map_cons] at h ⊢
    obtain ⟨v, vs, rfl, h1, h2⟩ := h
    exact ⟨v, vs, rfl, lendC_rep M (L.mono (by simp; exact fun x hx => .inl hx) (by simp)) h1, lendCs_rep (L.mono (by simp; exact fun x y hy hx => .inr ⟨y, hy, hx⟩) (by simp)) h2⟩
theorem lendP_rep {c : AV} {v : Value} (L : Lends Γ Γ' m (rowsP m c) (ptrsP c)) (h : RepV Γ c v) : RepV Γ' (lendP m c) v := by
  have hw := L.w
  unfold lendP
  split
  · rename_i cs
    simp only [RepV] at h ⊢
    obtain ⟨vs, rfl, h⟩ := h
    exact ⟨vs, rfl, lendCs_rep M (L.mono (fun x hx => hx) (by simp)) h⟩
  · rename_i cs
    simp only [RepV] at h ⊢
    obtain ⟨ad, us, rfl, hR, hp, hl, hc⟩ := h
    exact ⟨ad, us, rfl, L.R _ hR, hp, hl.pure (fun b _ => by rw [hw]) L.R hp, fun j u hj => by rw [hw]; exact hc j u hj⟩
  · rename_i id
    split
    · rename_i b hb
      simp only [RepV] at h
      obtain ⟨blk, hμ, rfl⟩ := h
      obtain ⟨us, ty, hcell, hl⟩ := (M.boxAt hμ hb).cells
      simp only [RepV]
      refine ⟨_, us.toList, rfl, L.ptr id (by simp [ptrsP]) blk hμ, lendC_all m _, lendCs_rep M (L.mono (fun x hx => by simpa [rowsP, cellsIn, hb] using hx) (by simp)) hl, fun j u hj => ?_⟩
      rw [hw, add_plain, cell_of_row Γ.w blk (0 + j) us ty (0, 0) hcell]
      simpa using hj
    · simp only [RepV]
  · rename_i h1 h2 h3
    refine lendC_rep M ?_ h
    refine L.mono (fun x hx => ?_) (by simp)
    unfold rowsP cellsIn
    cases c <;> simp_all [rowsC]
theorem lendPs_rep : ∀ {cs : List AV} {vs : List Value}, Lends Γ Γ' m (cs.flatMap (rowsP m)) (cs.flatMap ptrsP) → RepL Γ cs vs → RepL Γ' (cs.map (lendP m)) vs
  | [], _, _, h => by simpa only [List.map_nil, RepL] using h
  | c :: cs, _, L, h => by
    simp only [RepL, List.map_cons] at h ⊢
    obtain ⟨v, vs, rfl, h1, h2⟩ := h
    exact ⟨v, vs, rfl, lendP_rep M (L.mono (by simp; exact fun x hx => .inl hx) (by simp; exact fun x hx => .inl hx)) h1, lendPs_rep (L.mono (by simp; exact fun x y hy hx => .inr ⟨y, hy, hx⟩) (by simp; exact fun x y hy hx => .inr ⟨y, hy, hx⟩)) h2⟩
theorem lend_rep {c : AV} {v : Value} (L : Lends Γ Γ' m (rowsA m c) (ptrsA c)) (h : RepV Γ c v) : RepV Γ' (lend m c) v := by
  unfold lend
  split
  · rename_i f a b
    simp only [RepV] at h ⊢
    obtain ⟨us, vs, rfl, h1, h2⟩ := h
    exact ⟨us, vs, rfl, lendPs_rep M (L.mono (by simp [rowsA]; exact fun x y hy hx => .inl ⟨y, hy, hx⟩) (by simp [ptrsA]; exact fun x y hy hx => .inl ⟨y, hy, hx⟩)) h1, lendPs_rep M (L.mono (by simp [rowsA]; exact fun x y hy hx => .inr ⟨y, hy, hx⟩) (by simp [ptrsA]; exact fun x y hy hx => .inr ⟨y, hy, hx⟩)) h2⟩
  · refine lendP_rep M (L.mono (fun x hx => ?_) (fun x hx => ?_)) h
    · unfold rowsA
      split <;> simp_all
    · unfold ptrsA
      split <;> simp_all
theorem lends_rep : ∀ {cs : List AV} {vs : List Value}, Lends Γ Γ' m (cs.flatMap (rowsA m)) (cs.flatMap ptrsA) → RepL Γ cs vs → RepL Γ' (cs.map (lend m)) vs
  | [], _, _, h => by simpa only [List.map_nil, RepL] using h
  | c :: cs, _, L, h => by
    simp only [RepL, List.map_cons] at h ⊢
    obtain ⟨v, vs, rfl, h1, h2⟩ := h
    exact ⟨v, vs, rfl, lend_rep M (L.mono (by simp; exact fun x hx => .inl hx) (by simp; exact fun x hx => .inl hx)) h1, lends_rep (L.mono (by simp; exact fun x y hy hx => .inr ⟨y, hy, hx⟩) (by simp; exact fun x y hy hx => .inr ⟨y, hy, hx⟩)) h2⟩
end
theorem ptrsP_none {c : AV} (h : isPtr c = false) : ptrsP c = [] := by
  cases c <;> first | rfl | (simp [isPtr] at h)
theorem ptrs_none {c : AV} (h : ptrA c = false) : ptrsA c = [] := by
  have key : ∀ l : List AV, l.any isPtr = false → l.flatMap ptrsP = [] := by
    intro l hl
    rw [List.flatMap_eq_nil_iff]
    intro x hx
    exact ptrsP_none (by simpa using List.any_eq_false.1 hl x hx)
  cases c
  case fn f a b =>
    simp only [ptrA, Bool.or_eq_false_iff] at h
    simp [ptrsA, key _ h.1, key _ h.2]
  all_goals first | rfl | (simp [ptrA, isPtr] at h)
end Go.Proofs.Ytebokfdiamepcaa.AM
