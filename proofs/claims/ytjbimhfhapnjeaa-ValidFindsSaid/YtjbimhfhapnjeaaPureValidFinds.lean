/- The plain law of ValidFinds. -/
import Derived.Test.YtjbimhfhapnjeaaV9
set_option linter.unusedVariables false
namespace Go.Proofs.Ytjbimhfhapnjeaa.Pure
open Go.RowKit Go.Proofs.Ytjbimhfhapnjeaa.AM PL
theorem finds_law (m : Nat) (p : Poly) : g_parquetlaw10_ValidFinds (m + 1000) p = some true := by
  unfold g_parquetlaw10_ValidFinds b_parquetlaw10_ValidFinds
  obtain ⟨b, hb, hm⟩ := many_f (m + 1000) p
  rw [show g_parquetlaw10_many (m + 1000) (p.1, p.2.1, p.2.2) = some b from hb, bnd_s, known_f, bnd_s]
  cases b with
  | true => rfl
  | false =>
    have hn := notMany (hm rfl)
    rw [cF, gd_t (few_t (by omega)), gd_t (few_t (by omega)), gd_t (few_t (by omega))]
    have hF : ∃ r, g_valid_First (m + 1000) (p.1, p.2.1, p.2.2) = some r ∧ g_parquetref10_First (m + 1000) (p.1, p.2.1, p.2.2) = some r := by
      rcases small_of (hm rfl) with h | h
      · exact ⟨_, First_bad m h, rFirst_bad m h⟩
      · exact ⟨_, First_ok m h, rFirst_ok m h⟩
    obtain ⟨r, h1, h2⟩ := hF
    rw [h1, bnd_s, h2, bnd_s]
    rw [show g_parquetref05_Same (m + 1000) (p.1, p.2.1, p.2.2) (p.1, p.2.1, p.2.2) = some true from same_f m hn]
    simp only [meet]
    refine (bif_t (by simp)).trans ((bif_t (by simp)).trans ?_)
    rfl
theorem ValidFinds (x0 : ((List (Int × Int)) × ((List (Int × Int)) × (List (Int × Int))))) (g0 : Kd.good (.pair (.sl (.pair kI kI)) (.pair (.sl (.pair kI kI)) (.sl (.pair kI kI)))) x0) : ∃ k, g_parquetlaw10_ValidFinds k x0 = some true :=
  ⟨0 + 1000, finds_law 0 x0⟩
end Go.Proofs.Ytjbimhfhapnjeaa.Pure
