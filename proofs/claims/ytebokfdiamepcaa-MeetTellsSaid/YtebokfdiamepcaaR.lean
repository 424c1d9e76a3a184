/- The abstract machine, 6: what the memory says in a world, and how it stays said. -/
import Derived.Test.YtebokfdiamepcaaB
import Derived.WalkKit
import Derived.Laws.Rows
import Derived.Laws.Tables
import Derived.Laws.OwnMore
import Derived.Laws.MakeOwn
import Derived.Maps.AppendAt
set_option linter.unusedVariables false
set_option linter.unusedSimpArgs false
namespace Go.Proofs.Ytebokfdiamepcaa.AM
open Go.RowKit

/-! ### Lists of cells -/
theorem RepL.len {Γ : Gh} : ∀ {cs : List AV} {vs : List Value}, RepL Γ cs vs → vs.length = cs.length
  | [], _, h => by simp only [RepL] at h; rw [h]; rfl
  | c :: cs, _, h => by
    simp only [RepL] at h
    obtain ⟨v, vs, rfl, _, h⟩ := h
    simp [RepL.len h]
theorem RepL.app {Γ : Gh} : ∀ {cs ds : List AV} {vs us : List Value}, RepL Γ cs vs → RepL Γ ds us → RepL Γ (cs ++ ds) (vs ++ us)
  | [], _, _, _, h, k => by simp only [RepL] at h; subst h; exact k
  | c :: cs, _, _, _, h, k => by
    simp only [RepL, List.cons_append] at h ⊢
    obtain ⟨v, vs, rfl, hv, h⟩ := h
    exact ⟨v, _, rfl, hv, RepL.app h k⟩
theorem RepL.split {Γ : Gh} : ∀ {cs ds : List AV} {vs : List Value}, RepL Γ (cs ++ ds) vs → ∃ us ws, vs = us ++ ws ∧ RepL Γ cs us ∧ RepL Γ ds ws
  | [], ds, vs, h => ⟨[], vs, rfl, by simp only [RepL], h⟩
  | c :: cs, ds, vs, h => by
    simp only [RepL, List.cons_append] at h
    obtain ⟨v, vs', rfl, hv, h⟩ := h
    obtain ⟨us, ws, rfl, h1, h2⟩ := RepL.split h
    exact ⟨v :: us, ws, rfl, by simp only [RepL]; exact ⟨v, us, rfl, hv, h1⟩, h2⟩
theorem RepL.take {Γ : Gh} : ∀ {cs : List AV} {vs : List Value} (n : Nat), RepL Γ cs vs → RepL Γ (cs.take n) (vs.take n)
  | [], _, n, h => by simp only [RepL] at h; subst h; simp [RepL]
  | c :: cs, _, 0, h => by simp [RepL]
  | c :: cs, _, n + 1, h => by
    simp only [RepL] at h
    obtain ⟨v, vs', rfl, hv, h⟩ := h
    simp only [List.take_succ_cons, RepL]
    exact ⟨v, _, rfl, hv, RepL.take n h⟩
theorem RepL.drop {Γ : Gh} : ∀ {cs : List AV} {vs : List Value} (n : Nat), RepL Γ cs vs → RepL Γ (cs.drop n) (vs.drop n)
  | [], _, n, h => by simp only [RepL] at h; subst h; simp [RepL]
  | c :: cs, _, 0, h => by simpa using h
  | c :: cs, _, n + 1, h => by
    simp only [RepL] at h
    obtain ⟨v, vs', rfl, hv, h⟩ := h
    simp only [List.drop_succ_cons]
    exact RepL.drop n h
theorem RepL.at {Γ : Gh} : ∀ {cs : List AV} {vs : List Value} {i : Nat} {c : AV}, RepL Γ cs vs → cs[i]? = some c → ∃ v, vs[i]? = some v ∧ RepV Γ c v
  | [], _, i, c, h, hc => by simp at hc
  | a :: cs, _, 0, c, h, hc => by
    simp only [RepL] at h
    obtain ⟨v, vs', rfl, hv, h⟩ := h
    obtain rfl : a = c := by simpa using hc
    exact ⟨v, rfl, hv⟩
  | a :: cs, _, i + 1, c, h, hc => by
    simp only [RepL] at h
    obtain ⟨v, vs', rfl, hv, h⟩ := h
    exact RepL.at (i := i) h (by simpa using hc)
theorem RepL.map {Γ : Gh} {f : Operand → AV} {g : Operand → Value} (h : ∀ x, RepV Γ (f x) (g x)) : ∀ l : List Operand, RepL Γ (l.map f) (l.map g)
  | [] => by simp [RepL]
  | x :: l => by simp only [List.map_cons, RepL]; exact ⟨_, _, rfl, h x, RepL.map h l⟩
theorem RepL.one {Γ : Gh} {c : AV} {vs : List Value} : RepL Γ [c] vs ↔ ∃ v, vs = [v] ∧ RepV Γ c v := by
  simp only [RepL]
  constructor
  · rintro ⟨v, vs', rfl, hv, rfl⟩
    exact ⟨v, rfl, hv⟩
  · rintro ⟨v, rfl, hv⟩
    exact ⟨v, [], rfl, hv, rfl⟩

/-- A datum's cells. -/
theorem RepT.cells {Γ : Gh} : ∀ {κ : Kd} {x : κ.T} {vs : List Value}, RepT Γ.w Γ.R κ x vs → RepL Γ (κ.cells x) vs
  | .int k, x, vs, h => by simp only [RepT] at h; subst h; simp [Kd.cells, RepL, RepV]
  | .bool, x, vs, h => by simp only [RepT] at h; subst h; simp [Kd.cells, RepL, RepV]
  | .str, x, vs, h => by simp only [RepT] at h; subst h; simp [Kd.cells, RepL, RepV]
  | .pair a b, x, vs, h => by
    simp only [RepT] at h
    obtain ⟨v1, v2, rfl, h1, h2⟩ := h
    simp only [Kd.cells]
    exact RepL.app h1.cells h2.cells
  | .sl e, x, vs, h => by
    have h' := h
    simp only [RepT] at h'
    obtain ⟨A, c, rfl, _⟩ := h'
    simp only [Kd.cells, RepL, RepV]
    exact ⟨_, _, rfl, h, rfl⟩
theorem cells_pure : ∀ (κ : Kd) (x : κ.T), (κ.cells x).all AV.pure = true
  | .int k, x => rfl
  | .bool, x => rfl
  | .str, x => rfl
  | .pair a b, x => by simp only [Kd.cells, List.all_append, cells_pure a x.1, cells_pure b x.2, Bool.and_self]
  | .sl e, x => rfl
theorem cells_length : ∀ (κ : Kd) (x : κ.T), (κ.cells x).length = κ.size
  | .int k, x => rfl
  | .bool, x => rfl
  | .str, x => rfl
  | .pair a b, x => by simp only [Kd.cells, List.length_append, cells_length a x.1, cells_length b x.2, Kd.size]
  | .sl e, x => rfl
theorem RepT.av {Γ : Gh} : ∀ {κ : Kd} {x : κ.T} {vs : List Value}, RepT Γ.w Γ.R κ x vs → ∃ v, RepV Γ (κ.av x) v ∧ v.cells.toList = vs
  | .int k, x, vs, h => by simp only [RepT] at h; subst h; exact ⟨.int k x, by simp only [Kd.av, RepV], rfl⟩
  | .bool, x, vs, h => by simp only [RepT] at h; subst h; exact ⟨.bool x, by simp only [Kd.av, RepV], rfl⟩
  | .str, x, vs, h => by simp only [RepT] at h; subst h; exact ⟨.string x, by simp only [Kd.av, RepV], rfl⟩
  | .pair a b, x, vs, h => ⟨.agg vs.toArray, by simp only [Kd.av, RepV]; exact ⟨vs, rfl, h.cells⟩, rfl⟩
  | .sl e, x, vs, h => by
    have h' := h
    simp only [RepT] at h'
    obtain ⟨A, c, rfl, _⟩ := h'
    exact ⟨_, by simp only [Kd.av, RepV]; exact h, rfl⟩

/-- What is pure says the same whatever the own rows are, as long as its blocks are not written. -/
theorem RepV.pure {Γ Γ' : Gh} (hw : ∀ b, Γ.R b → Γ'.w.heap[b]? = Γ.w.heap[b]?) (hR : ∀ b, Γ.R b → Γ'.R b) : ∀ {c : AV} {v : Value}, c.pure = true → RepV Γ c v → RepV Γ' c v
  | .int _ _, _, _, h => by simpa only [RepV] using h
  | .bool _, _, _, h => by simpa only [RepV] using h
  | .str _, _, _, h => by simpa only [RepV] using h
  | .nil, _, _, h => by simpa only [RepV] using h
  | .sl e xs, _, _, h => by
    simp only [RepV] at h ⊢
    exact h.mono hw hR
  | .dead, _, _, _ => by simp only [RepV]
theorem RepL.pure {Γ Γ' : Gh} (hw : ∀ b, Γ.R b → Γ'.w.heap[b]? = Γ.w.heap[b]?) (hR : ∀ b, Γ.R b → Γ'.R b) : ∀ {cs : List AV} {vs : List Value}, cs.all AV.pure = true → RepL Γ cs vs → RepL Γ' cs vs
  | [], _, _, h => by simpa only [RepL] using h
  | c :: cs, _, hp, h => by
    simp only [RepL] at h ⊢
    obtain ⟨v, vs, rfl, h1, h2⟩ := h
    have hp' : c.pure = true ∧ cs.all AV.pure = true := by simpa using hp
    exact ⟨v, vs, rfl, h1.pure hw hR hp'.1, RepL.pure hw hR hp'.2 h2⟩

/-- A datum read out of cells. -/
theorem dec_rep {Γ : Gh} : ∀ {κ : Kd} {cs r : List AV} {x : κ.T} {vs : List Value}, Kd.dec κ cs = some (x, r) → RepL Γ cs vs →
    ∃ us ws, vs = us ++ ws ∧ RepT Γ.w Γ.R κ x us ∧ RepL Γ r ws
  | .int k, .int j n :: r', r, x, vs, h, hv => by
    simp only [Kd.dec] at h
    split at h
    · rename_i hk
      simp only [Option.some.injEq, Prod.mk.injEq] at h
      obtain ⟨rfl, rfl⟩ := h
      simp only [RepL, RepV] at hv
      obtain ⟨v, vs', rfl, rfl, hv⟩ := hv
      refine ⟨[_], _, rfl, ?_, hv⟩
      simp only [RepT, kb_eq hk]
    · cases h
  | .bool, .bool b :: r', r, x, vs, h, hv => by
    simp only [Kd.dec, Option.some.injEq, Prod.mk.injEq] at h
    obtain ⟨rfl, rfl⟩ := h
    simp only [RepL, RepV] at hv
    obtain ⟨v, vs', rfl, rfl, hv⟩ := hv
    exact ⟨[_], _, rfl, by simp only [RepT], hv⟩
  | .str, .str b :: r', r, x, vs, h, hv => by
    simp only [Kd.dec, Option.some.injEq, Prod.mk.injEq] at h
    obtain ⟨rfl, rfl⟩ := h
    simp only [RepL, RepV] at hv
    obtain ⟨v, vs', rfl, rfl, hv⟩ := hv
    exact ⟨[_], _, rfl, by simp only [RepT], hv⟩
  | .pair a b, cs, r, x, vs, h, hv => by
    simp only [Kd.dec] at h
    split at h
    · rename_i y r1 ha
      split at h
      · rename_i z r2 hb
        simp only [Option.some.injEq, Prod.mk.injEq] at h
        obtain ⟨rfl, rfl⟩ := h
        obtain ⟨u1, w1, rfl, h1, hv1⟩ := dec_rep ha hv
        obtain ⟨u2, w2, rfl, h2, hv2⟩ := dec_rep hb hv1
        exact ⟨u1 ++ u2, w2, by simp, by simp only [RepT]; exact ⟨u1, u2, rfl, h1, h2⟩, hv2⟩
      · cases h
    · cases h
  | .sl e, .nil :: r', r, x, vs, h, hv => by
    simp only [Kd.dec, Option.some.injEq, Prod.mk.injEq] at h
    obtain ⟨rfl, rfl⟩ := h
    simp only [RepL, RepV] at hv
    obtain ⟨v, vs', rfl, rfl, hv⟩ := hv
    refine ⟨[_], _, rfl, ?_, hv⟩
    simp only [RepT]
    exact ⟨none, 0, rfl, Nat.zero_le _, .inl rfl⟩
  | .sl e, .sl e' xs :: r', r, x, vs, h, hv => by
    simp only [Kd.dec] at h
    split at h
    · rename_i ys hc
      simp only [Option.some.injEq, Prod.mk.injEq] at h
      obtain ⟨rfl, rfl⟩ := h
      simp only [RepL] at hv
      obtain ⟨v, vs', rfl, hv1, hv⟩ := hv
      obtain ⟨rfl, rfl⟩ := castL_some hc
      simp only [RepV] at hv1
      exact ⟨[_], _, rfl, hv1, hv⟩
    · cases h
  | .int _, [], _, _, _, h, _ => by simp [Kd.dec] at h
  | .bool, [], _, _, _, h, _ => by simp [Kd.dec] at h
  | .str, [], _, _, _, h, _ => by simp [Kd.dec] at h
  | .sl _, [], _, _, _, h, _ => by simp [Kd.dec] at h
  | .int _, .bool _ :: _, _, _, _, h, _ => by simp [Kd.dec] at h
  | .int _, .str _ :: _, _, _, _, h, _ => by simp [Kd.dec] at h
  | .int _, .nil :: _, _, _, _, h, _ => by simp [Kd.dec] at h
  | .int _, .sl _ _ :: _, _, _, _, h, _ => by simp [Kd.dec] at h
  | .int _, .row _ _ _ :: _, _, _, _, h, _ => by simp [Kd.dec] at h
  | .int _, .agg _ :: _, _, _, _, h, _ => by simp [Kd.dec] at h
  | .int _, .tup _ :: _, _, _, _, h, _ => by simp [Kd.dec] at h
  | .int _, .ptr _ _ :: _, _, _, _, h, _ => by simp [Kd.dec] at h
  | .int _, .kptr _ :: _, _, _, _, h, _ => by simp [Kd.dec] at h
  | .int _, .elem _ _ _ _ :: _, _, _, _, h, _ => by simp [Kd.dec] at h
  | .int _, .fn _ _ _ :: _, _, _, _, h, _ => by simp [Kd.dec] at h
  | .int _, .mp _ _ _ :: _, _, _, _, h, _ => by simp [Kd.dec] at h
  | .int _, .dead :: _, _, _, _, h, _ => by simp [Kd.dec] at h
  | .bool, .int _ _ :: _, _, _, _, h, _ => by simp [Kd.dec] at h
  | .bool, .str _ :: _, _, _, _, h, _ => by simp [Kd.dec] at h
  | .bool, .nil :: _, _, _, _, h, _ => by simp [Kd.dec] at h
  | .bool, .sl _ _ :: _, _, _, _, h, _ => by simp [Kd.dec] at h
  | .bool, .row _ _ _ :: _, _, _, _, h, _ => by simp [Kd.dec] at h
  | .bool, .agg _ :: _, _, _, _, h, _ => by simp [Kd.dec] at h
  | .bool, .tup _ :: _, _, _, _, h, _ => by simp [Kd.dec] at h
  | .bool, .ptr _ _ :: _, _, _, _, h, _ => by simp [Kd.dec] at h
  | .bool, .kptr _ :: _, _, _, _, h, _ => by simp [Kd.dec] at h
  | .bool, .elem _ _ _ _ :: _, _, _, _, h, _ => by simp [Kd.dec] at h
  | .bool, .fn _ _ _ :: _, _, _, _, h, _ => by simp [Kd.dec] at h
  | .bool, .mp _ _ _ :: _, _, _, _, h, _ => by simp [Kd.dec] at h
  | .bool, .dead :: _, _, _, _, h, _ => by simp [Kd.dec] at h
  | .str, .int _ _ :: _, _, _, _, h, _ => by simp [Kd.dec] at h
  | .str, .bool _ :: _, _, _, _, h, _ => by simp [Kd.dec] at h
  | .str, .nil :: _, _, _, _, h, _ => by simp [Kd.dec] at h
  | .str, .sl _ _ :: _, _, _, _, h, _ => by simp [Kd.dec] at h
  | .str, .row _ _ _ :: _, _, _, _, h, _ => by simp [Kd.dec] at h
  | .str, .agg _ :: _, _, _, _, h, _ => by simp [Kd.dec] at h
  | .str, .tup _ :: _, _, _, _, h, _ => by simp [Kd.dec] at h
  | .str, .ptr _ _ :: _, _, _, _, h, _ => by simp [Kd.dec] at h
  | .str, .kptr _ :: _, _, _, _, h, _ => by simp [Kd.dec] at h
  | .str, .elem _ _ _ _ :: _, _, _, _, h, _ => by simp [Kd.dec] at h
  | .str, .fn _ _ _ :: _, _, _, _, h, _ => by simp [Kd.dec] at h
  | .str, .mp _ _ _ :: _, _, _, _, h, _ => by simp [Kd.dec] at h
  | .str, .dead :: _, _, _, _, h, _ => by simp [Kd.dec] at h
  | .sl _, .int _ _ :: _, _, _, _, h, _ => by simp [Kd.dec] at h
  | .sl _, .bool _ :: _, _, _, _, h, _ => by simp [Kd.dec] at h
  | .sl _, .str _ :: _, _, _, _, h, _ => by simp [Kd.dec] at h
  | .sl _, .row _ _ _ :: _, _, _, _, h, _ => by simp [Kd.dec] at h
  | .sl _, .agg _ :: _, _, _, _, h, _ => by simp [Kd.dec] at h
  | .sl _, .tup _ :: _, _, _, _, h, _ => by simp [Kd.dec] at h
  | .sl _, .ptr _ _ :: _, _, _, _, h, _ => by simp [Kd.dec] at h
  | .sl _, .kptr _ :: _, _, _, _, h, _ => by simp [Kd.dec] at h
  | .sl _, .elem _ _ _ _ :: _, _, _, _, h, _ => by simp [Kd.dec] at h
  | .sl _, .fn _ _ _ :: _, _, _, _, h, _ => by simp [Kd.dec] at h
  | .sl _, .mp _ _ _ :: _, _, _, _, h, _ => by simp [Kd.dec] at h
  | .sl _, .dead :: _, _, _, _, h, _ => by simp [Kd.dec] at h
end Go.Proofs.Ytebokfdiamepcaa.AM
