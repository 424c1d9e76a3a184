/- The plain law of ValidHole. -/
import Derived.Test.YtjbimhfhapnjeaaV23
set_option linter.unusedVariables false
namespace Go.Proofs.Ytjbimhfhapnjeaa.Pure
open Go.RowKit Go.Proofs.Ytjbimhfhapnjeaa.AM PL
theorem rng8 {x : Int} (h : Kd.good (.int .u8) x) : 0 ≤ x ∧ x ≤ 255 := by
  have h' : (Lit.int .u8 x).wf = true := h
  simp only [Lit.wf, decide_eq_true_eq, Bool.and_eq_true] at h'
  simpa [IntKind.min, IntKind.max, IntKind.signed, IntKind.bits] using h'
theorem side_of {x : Int} (h : 0 ≤ x ∧ x ≤ 255) : ∃ a, w64 (8 + w64 (x.tmod 50)) = a ∧ 8 ≤ a ∧ a ≤ 57 := by
  rw [Int.tmod_eq_emod_of_nonneg h.1, w64_id (x := x % 50) (by omega) (by omega), w64_id (by omega) (by omega)]
  exact ⟨_, rfl, by omega, by omega⟩
theorem place_of {x a : Int} (h : 0 ≤ x ∧ x ≤ 255) (ha : 8 ≤ a ∧ a ≤ 57) : ∃ c, w64 (1 + (w64 x).tmod (w64 (a - 6))) = c ∧ 1 ≤ c ∧ c + 6 ≤ a := by
  rw [w64_id (x := x) (by omega) (by omega), w64_id (x := a - 6) (by omega) (by omega), Int.tmod_eq_emod_of_nonneg h.1]
  have h2 := Int.emod_nonneg x (show a - 6 ≠ 0 by omega)
  have h3 := Int.emod_lt_of_pos x (show 0 < a - 6 by omega)
  rw [w64_id (by omega) (by omega)]
  exact ⟨_, rfl, by omega, by omega⟩
theorem bx_step : ∀ i : Nat, i < 8 → bxL.take i ++ [((i : Int), w64 ((w64 ((w64 ((i : Int).tdiv 4)) * 4)) + ((w64 ((i : Int) + 1)).tmod 4)))] = bxL.take (i + 1) := by decide +kernel
theorem hole_law (m : Nat) (x0 x1 x2 x3 : Int) (h0 : 0 ≤ x0 ∧ x0 ≤ 255) (h1 : 0 ≤ x1 ∧ x1 ≤ 255) (h2 : 0 ≤ x2 ∧ x2 ≤ 255) (h3 : 0 ≤ x3 ∧ x3 ≤ 255) : g_parquetlaw10_ValidHole (m + 1000) x0 x1 x2 x3 = some true := by
  unfold g_parquetlaw10_ValidHole b_parquetlaw10_ValidHole
  simp only [meet]
  obtain ⟨a, ea, a1, a2⟩ := side_of h0
  obtain ⟨b, eb, b1, b2⟩ := side_of h1
  rw [ea, eb]
  obtain ⟨c, ec, c1, c2⟩ := place_of h2 ⟨a1, a2⟩
  obtain ⟨d, ed, d1, d2⟩ := place_of h3 ⟨b1, b2⟩
  rw [ec, ed]
  have H : Hl a b c d := ⟨⟨c1, c2, by omega⟩, ⟨d1, d2, by omega⟩⟩
  rw [w64_id (x := a - 6) (by omega) (by omega), w64_id (x := b - 6) (by omega) (by omega), w64_id (x := c + 4) (by omega) (by omega), w64_id (x := d + 4) (by omega) (by omega)]
  rw [gd_t (by rw [decide_eq_false (by omega)]; rfl), gd_t (by rw [decide_eq_false (by omega)]; rfl)]
  have eP : ([(0, 0), (a, 0), (a, b), (0, b), (c, d), (c + 4, d), (c + 4, d + 4), (c, d + 4)] : List Pt) = outP a b ++ q4.map (mv (c, d)) := by
    unfold outP q4 mv
    simp [Int.add_comm]
  rw [eP]
  have hlen : (outP a b ++ q4.map (mv (c, d))).length = 8 := rfl
  refine loop_list (fun i => (c, d, (outP a b ++ q4.map (mv (c, d)), bxL.take i, []), (i : Int))) 8 (fun _ => some true) ?_ ?_ (m + 1000) 0 (Nat.zero_le _) (by omega)
  · intro next
    dsimp only
    rw [bif_F (by omega), show bxL.take 8 = bxL from rfl]
    have e2 : outP a b ++ q4.map (mv (c, d)) ++ [(w64 (c + 2), w64 (d + 2))] = outP a b ++ (q4 ++ [(2, 2)]).map (mv (c, d)) := by
      rw [w64_id (x := c + 2) (by omega) (by omega), w64_id (x := d + 2) (by omega) (by omega), List.map_append, ← List.append_assoc]
      unfold mv
      simp [Int.add_comm]
    have e3 : outP a b ++ q4.map (mv (c, d)) ++ [(w64 (c + 1), w64 (d + 1)), (w64 (c + 3), w64 (d + 1)), (w64 (c + 3), w64 (d + 3))] = outP a b ++ (q4 ++ tri).map (mv (c, d)) := by
      rw [w64_id (x := c + 1) (by omega) (by omega), w64_id (x := d + 1) (by omega) (by omega), w64_id (x := c + 3) (by omega) (by omega), w64_id (x := d + 3) (by omega) (by omega), List.map_append, ← List.append_assoc]
      unfold mv tri
      simp [Int.add_comm]
    have P := p_right H
    have T := two_right H
    have A : g_valid_First (m + 1000) (outP a b ++ q4.map (mv (c, d)), bxL, []) = some (fz, 0) := (First_ok m P.fine.sm).trans (by rw [P.good])
    have B : g_valid_First (m + 1000) (outP a b ++ (q4 ++ [(2, 2)]).map (mv (c, d)), bxL, []) = some ((8, 8, 0), 0) := (First_ok m (in_fine H).1.sm).trans (by rw [in_flaw H])
    have C : g_valid_First (m + 1000) (outP a b ++ (q4 ++ tri).map (mv (c, d)), bxL ++ [(8, 9), (9, 10), (10, 8)], []) = some (fz, 0) := (First_ok m T.fine.sm).trans (by rw [T.good])
    have D : g_valid_First (m + 1000) (outP a b ++ q4.map (mv (c, d)), bxL, [(4, 6)]) = some ((7, 0, 0), 0) := (First_ok m (side_fine H).1.sm).trans (by rw [side_flaw H])
    have E : g_valid_Inside (m + 1000) (outP a b ++ q4.map (mv (c, d)), bxL, []) 0 4 = some true := (Inside_v m P.fine.sm 0 4).trans (by rw [across H])
    have G : g_valid_Loops (m + 1000) (outP a b ++ (q4 ++ tri).map (mv (c, d)), bxL ++ [(8, 9), (9, 10), (10, 8)], []) = some (loopsv (hl a b c d tri triL [])) := Loops_f m T.fine.sm
    have l3 := two_loops H
    rw [e2, e3, A, bnd_s, B, C, D, E, G, known_f]
    have w1 : few (outP a b ++ q4.map (mv (c, d))).length = true := by rw [hlen]; rfl
    have w2 : few bxL.length = true := rfl
    have w3 : few ([] : List Pt).length = true := rfl
    have w4 : few ((outP a b ++ q4.map (mv (c, d))).length + 1) = true := by rw [hlen]; rfl
    have w5 : few ((outP a b ++ q4.map (mv (c, d))).length + 3) = true := by rw [hlen]; rfl
    have w6 : few (bxL.length + 3) = true := rfl
    simp only [w1, w2, w3, w4, w5, w6, gT, bnd_s, l3]
    rfl
  · intro i hi next hn
    dsimp only at hn ⊢
    rw [bif_T (by omega), gd_t (few_t (by rw [List.length_take]; omega)), bx_step i hi, w64_id (x := (i : Int) + 1) (by omega) (by omega)]
    exact hn
theorem ValidHole (x0 : Int) (x1 : Int) (x2 : Int) (x3 : Int) (g0 : Kd.good (.int .u8) x0) (g1 : Kd.good (.int .u8) x1) (g2 : Kd.good (.int .u8) x2) (g3 : Kd.good (.int .u8) x3) : ∃ k, g_parquetlaw10_ValidHole k x0 x1 x2 x3 = some true :=
  ⟨0 + 1000, hole_law 0 x0 x1 x2 x3 (rng8 g0) (rng8 g1) (rng8 g2) (rng8 g3)⟩
end Go.Proofs.Ytjbimhfhapnjeaa.Pure
