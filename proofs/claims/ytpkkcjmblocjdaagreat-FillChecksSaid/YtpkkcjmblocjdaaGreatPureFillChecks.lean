/- The plain law of FillChecks. -/
import Derived.Test.YtpkkcjmblocjdaaGreatT11
set_option linter.unusedVariables false
set_option linter.unusedSimpArgs false
namespace Go.Proofs.YtpkkcjmblocjdaaGreat.Pure
open Go.RowKit Go.Proofs.YtpkkcjmblocjdaaGreat.AM PL

theorem sameI_f (m : Nat) (l : List Int) (hl : l.length ≤ 900) : g_parquetref00_SameInts (m + 1000) l l = some true := by
  unfold g_parquetref00_SameInts
  rw [bif_nT rfl]
  refine loop_from (fun i => (l, l, (i : Int))) l.length rfl (fun next => ?_) (fun i hi next hn => ?_) _ (by omega)
  · dsimp only
    rw [bif_F (by omega)]
  · dsimp only
    have hin : inb (i : Int) l.length = true := inb_t ⟨by omega, by omega⟩
    simp only [hin, gT]
    rw [bif_T (by omega), w64_id (x := (i : Int) + 1) (by omega) (by omega), bif_nT trivial]
    exact hn
theorem sameM_f (m : Nat) (M : Mesh) (hp : M.1.length ≤ 600) (hT : M.2.1.length ≤ 600) (hS : M.2.2.length ≤ 600) : g_parquetref12_Same (m + 1000) M M = some true := by
  unfold g_parquetref12_Same b_parquetref12_Same
  simp only [meet]
  rw [sameP_f m _ hp, bnd_s, cT, sameT_f m _ (by omega), bnd_s, cT, sameS_f m _ hS, bnd_s]
theorem checks_law (m : Nat) (M : Mesh) (a b c : Int) : g_parquetlaw12_FillChecks (m + 1000) M a b c = some true := by
  unfold g_parquetlaw12_FillChecks b_parquetlaw12_FillChecks
  simp only [meet]
  have kn : (bnd (g_parquetlaw12_known (m + 1000)) fun r5 => some r5) = some true := by rw [known_f, bnd_s]
  by_cases h1 : (M.1.length : Int) > 60
  · rw [bif_T h1, cT, kn]
  rw [bif_F h1]
  by_cases h2 : (M.2.1.length : Int) > 80
  · rw [bif_T h2, cT, kn]
  rw [bif_F h2]
  by_cases h3 : (M.2.2.length : Int) > 80
  · rw [decide_eq_true h3, cT, kn]
  rw [decide_eq_false h3, cF, gd_t (few_t (by omega)), gd_t (few_t (by omega)), gd_t (few_t (by omega)), Tri_f m _ _ _ _ (by omega), bnd_s, rTri_f m _ _ _ _ (by omega), bnd_s, Faces_f m _ (by omega), bnd_s, rFaces_f m _ (by omega), bnd_s, bif_nT rfl]
  have hlen : (M.2.1.map rowT).length = M.2.1.length := List.length_map _
  refine loop_from (fun i => (M, M, (triv M.1 a b c).1, (triv M.1 a b c).2, (triv M.1 a b c).1, (triv M.1 a b c).2, M.2.1.map rowT, M.2.1.map rowT, (i : Int))) (M.2.1.map rowT).length rfl (fun next => ?_) (fun i hi next hn => ?_) _ (by omega)
  · dsimp only
    rw [bif_F (by omega), show g_fill_Check (m + 1000) (M.1, M.2.1, M.2.2) = _ from fCheck_f m M (by omega) (by omega) (by omega), bnd_s, show g_parquetref12_Check (m + 1000) (M.1, M.2.1, M.2.2) = _ from rCheck_f m M (by omega) (by omega) (by omega), bnd_s, bif_T (chk_same M)]
    simp only [decide_true, Bool.and_self, cT, beq_self_eq_true]
    rw [show g_parquetref12_Same (m + 1000) (M.1, M.2.1, M.2.2) (M.1, M.2.1, M.2.2) = _ from sameM_f m M (by omega) (by omega) (by omega), bnd_s, cT, kn]
  · dsimp only
    have hin : inb (i : Int) (M.2.1.map rowT).length = true := inb_t ⟨by omega, by omega⟩
    have h3 : ((M.2.1.map rowT)[i]'hi).length ≤ 900 := by rw [List.getElem_map]; show 3 ≤ 900; omega
    rw [bif_T (by omega), gd_t hin, gd_t hin, rd_get _ _ i hi, sameI_f m _ h3, bnd_s, Bool.not_true, cF, w64_id (x := (i : Int) + 1) (by omega) (by omega)]
    exact hn
theorem FillChecks (x0 : ((List (Int × Int)) × ((List (Int × (Int × Int))) × (List (Int × Int))))) (x1 : Int) (x2 : Int) (x3 : Int) (g0 : Kd.good (.pair (.sl (.pair kI kI)) (.pair (.sl (.pair kI (.pair kI kI))) (.sl (.pair kI kI)))) x0) (g1 : Kd.good kI x1) (g2 : Kd.good kI x2) (g3 : Kd.good kI x3) : ∃ k, g_parquetlaw12_FillChecks k x0 x1 x2 x3 = some true :=
  ⟨1000, (by simpa using checks_law 0 x0 x1 x2 x3)⟩
end Go.Proofs.YtpkkcjmblocjdaaGreat.Pure
