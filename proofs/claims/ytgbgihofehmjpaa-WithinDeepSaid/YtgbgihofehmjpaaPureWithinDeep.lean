/- The plain law of WithinDeep. -/
import Derived.Test.YtgbgihofehmjpaaW4
set_option linter.unusedVariables false
set_option linter.unusedSimpArgs false
namespace Go.Proofs.Ytgbgihofehmjpaa.Pure
open Go.RowKit Go.Proofs.Ytgbgihofehmjpaa.AM
theorem mn_min (a b : Int) : mnI a b = min a b := by unfold mnI; split <;> omega
theorem deep_law (m : Nat) (p : List Pt) (R : List (List Int)) (hg : R.length ≤ 9223372036854775807) : g_parquetlaw09_WithinDeep (m + 400) p R = some true := by
  unfold g_parquetlaw09_WithinDeep b_parquetlaw09_WithinDeep
  rw [known_f]
  refine loop_rel (fun c s v => ∃ (i : Nat) (n : Int), i ≤ R.length ∧ (R.length : Int) ≤ n ∧ n ≤ 9223372036854775807 ∧ (300 ≤ n ∨ ∀ r ∈ R.take i, (r.length : Int) ≤ n) ∧ c = (if 300 ≤ n then 0 else 300 - i) ∧ s = (p, R, n, (i : Int)) ∧ v = some true) ?_ (m + 400) (if (300 : Int) ≤ R.length then 0 else 300 - 0) _ _ ⟨0, R.length, by omega, by omega, by omega, .inr (by simp), rfl, rfl, rfl⟩ (by split <;> omega)
  rintro c s v ⟨i, n, hi, hRn, hn2, hrow, rfl, rfl, rfl⟩ next hn
  dsimp only
  simp only [meet, bnd_s]
  by_cases h1 : 300 ≤ n
  · have e1 : decide (n < 300) = false := decide_eq_false (by omega)
    have e2 : decide (n ≥ 300) = true := decide_eq_true (by omega)
    rw [e1, e2]
    cases decide ((i : Int) < (R.length : Int)) <;> rfl
  · by_cases h2 : i < R.length
    · rw [bif_T (by omega), decide_eq_true (show n < 300 by omega), cT, gd_t (inb_t ⟨by omega, by omega⟩), rd_get _ R i h2, mn_min, w64_id (by omega) (by omega), w64_id (x := (i : Int) + 1) (by omega) (by omega)]
      refine hn (if 300 ≤ n + min (R[i].length : Int) 300 then 0 else 300 - (i + 1)) _ _ ?_ ⟨i + 1, n + min (R[i].length : Int) 300, by omega, by omega, by omega, ?_, rfl, rfl, rfl⟩
      · rw [if_neg h1]; split <;> omega
      · by_cases h3 : 300 ≤ n + min (R[i].length : Int) 300
        · exact .inl h3
        · right
          rw [List.take_succ_eq_append_getElem h2]
          intro r hr
          rcases List.mem_append.1 hr with hr | hr
          · have := (hrow.resolve_left h1) r hr; omega
          · rw [List.mem_singleton] at hr; rw [hr]; omega
    · obtain rfl : i = R.length := by omega
      rw [List.take_length] at hrow
      have hr := hrow.resolve_left h1
      rw [bif_F (by omega), cF, bif_F (show ¬ n ≥ 300 by omega)]
      by_cases h4 : (p.length : Int) > 200
      · rw [bif_T h4]
      · rw [bif_F h4, Deep_f m p R (by omega) (fun r h => by have := hr r h; omega), rDeep_f m p R (by omega) (fun r h => by have := hr r h; omega)]
        simp only [bnd_s]
        rw [same_f m _ (by have := deepv_len p R; omega)]
        simp only [bnd_s, decide_true, cT]
theorem WithinDeep (x0 : (List (Int × Int))) (x1 : (List (List Int))) (g0 : Kd.good (.sl (.pair kI kI)) x0) (g1 : Kd.good (.sl (.sl kI)) x1) : ∃ k, g_parquetlaw09_WithinDeep k x0 x1 = some true :=
  ⟨400, by have := deep_law 0 x0 x1 g1.1; rwa [Nat.zero_add] at this⟩
end Go.Proofs.Ytgbgihofehmjpaa.Pure
