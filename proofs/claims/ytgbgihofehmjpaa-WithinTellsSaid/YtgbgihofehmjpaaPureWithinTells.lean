/- The plain law of WithinTells. -/
import Derived.Test.YtgbgihofehmjpaaW3
set_option linter.unusedVariables false
set_option linter.unusedSimpArgs false
namespace Go.Proofs.Ytgbgihofehmjpaa.Pure
open Go.RowKit Go.Proofs.Ytgbgihofehmjpaa.AM
theorem tells_law (m : Nat) (p l : List Pt) (q : Pt) : g_parquetlaw09_WithinTells (m + 400) p l q = some true := by
  unfold g_parquetlaw09_WithinTells b_parquetlaw09_WithinTells
  rw [many_f, known_f]
  simp only [bnd_s, meet, etaP]
  by_cases h : p.length > 200 ∨ l.length > 200
  · rw [bif_T h]
  · rw [bif_F h, At_f m p l q (by omega), rAt_f m p l q (by omega)]
    simp only [bnd_s, decide_true, cT]
theorem WithinTells (x0 : (List (Int × Int))) (x1 : (List (Int × Int))) (x2 : (Int × Int)) (g0 : Kd.good (.sl (.pair kI kI)) x0) (g1 : Kd.good (.sl (.pair kI kI)) x1) (g2 : Kd.good (.pair kI kI) x2) : ∃ k, g_parquetlaw09_WithinTells k x0 x1 x2 = some true :=
  ⟨400, by have := tells_law 0 x0 x1 x2; rwa [Nat.zero_add] at this⟩
end Go.Proofs.Ytgbgihofehmjpaa.Pure
