/- The plain law of WithinMiddles. -/
import Derived.Test.YtgbgihofehmjpaaW3
set_option linter.unusedVariables false
set_option linter.unusedSimpArgs false
namespace Go.Proofs.Ytgbgihofehmjpaa.Pure
open Go.RowKit Go.Proofs.Ytgbgihofehmjpaa.AM
theorem mid_two (p l : List Pt) (a b : Int) : midv p l [b, a] = midv p l [a, b] := by
  unfold midv
  have e1 : oki p [b, a] = oki p [a, b] := by unfold oki; simp [Bool.and_comm]
  have e2 : sumP p (0, 0) [b, a] = sumP p (0, 0) [a, b] := by
    simp only [sumP]
    exact Prod.ext (by dsimp only; omega) (by dsimp only; omega)
  rw [e1, e2]; rfl
theorem mid_three (p l : List Pt) (a b c : Int) : midv p l [c, a, b] = midv p l [a, b, c] := by
  unfold midv
  have e1 : oki p [c, a, b] = oki p [a, b, c] := by
    unfold oki; simp only [List.all_cons, List.all_nil, Bool.and_true]
    generalize decide (OkI p a) = x; generalize decide (OkI p b) = y; generalize decide (OkI p c) = z
    cases x <;> cases y <;> cases z <;> rfl
  have e2 : sumP p (0, 0) [c, a, b] = sumP p (0, 0) [a, b, c] := by
    simp only [sumP]
    exact Prod.ext (by dsimp only; omega) (by dsimp only; omega)
  rw [e1, e2]; rfl
theorem middles_law (m : Nat) (p l : List Pt) (a b c : Int) : g_parquetlaw09_WithinMiddles (m + 400) p l a b c = some true := by
  unfold g_parquetlaw09_WithinMiddles b_parquetlaw09_WithinMiddles
  rw [many_f, known_f]
  simp only [bnd_s, meet, etaP]
  by_cases h : p.length > 200 ∨ l.length > 200
  · rw [bif_T h]
  · rw [bif_F h, Halfway_f m p l _ _ (by omega), Halfway_f m p l _ _ (by omega), Third_f m p l _ _ _ (by omega), Third_f m p l _ _ _ (by omega), rMiddle_f m p l [a, b] (by simp) (by simp) (by omega), rMiddle_f m p l [a, b, c] (by simp) (by simp) (by omega), mid_two p l a b, mid_three p l a b c]
    simp only [bnd_s, decide_true, cT]
theorem WithinMiddles (x0 : (List (Int × Int))) (x1 : (List (Int × Int))) (x2 : Int) (x3 : Int) (x4 : Int) (g0 : Kd.good (.sl (.pair kI kI)) x0) (g1 : Kd.good (.sl (.pair kI kI)) x1) (g2 : Kd.good kI x2) (g3 : Kd.good kI x3) (g4 : Kd.good kI x4) : ∃ k, g_parquetlaw09_WithinMiddles k x0 x1 x2 x3 x4 = some true :=
  ⟨400, by have := middles_law 0 x0 x1 x2 x3 x4; rwa [Nat.zero_add] at this⟩
end Go.Proofs.Ytgbgihofehmjpaa.Pure
