/- The plain law of HalveTells. -/
import Derived.Test.YtiejhpighhjgiaaB8
set_option linter.unusedVariables false
namespace Go.Proofs.Ytiejhpighhjgiaa.Pure
open Go.RowKit Go.Proofs.Ytiejhpighhjgiaa.AM
theorem runv_len (p : List Pt) (f : List (List Int)) (h : NotMany p f) : (runv p f).1.length ≤ 500 ∧ (runv p f).2.1.length ≤ 200 ∧ ∀ c ∈ (runv p f).2.1, c.length = 4 := by
  unfold runv
  split
  · rename_i hr
    have h1 := h.hp
    have h2 := h.hf
    have h3 := h.ht
    have hl : (edgs f).length ≤ (alls f).length := by
      have : (edgs f).length = (ups f).length := by rw [edgs, if_pos (chk_mono hr.1)]; exact (srtL_perm _).length_eq
      rw [this, ← tab_len]
      exact List.length_filterMap_le _ _
    refine ⟨?_, ?_, ?_⟩
    · unfold plc
      simp only [List.length_append, List.length_map]
      omega
    · show (outs _ _ f f.length).length ≤ 200
      rw [outs_len _ _ _ (Nat.le_refl _), List.take_length]
      unfold alls at h3
      omega
    · intro c hc
      obtain ⟨i, _, hc⟩ := List.mem_flatMap.1 hc
      obtain ⟨k, _, rfl⟩ := List.mem_map.1 hc
      rfl
  · exact ⟨by simp, by simp, by simp⟩
theorem tells_law (m : Nat) (p : List Pt) (f : List (List Int)) (c : List Int) : g_parquetlaw20_HalveTells (m + 1000) p f c = some true := by
  unfold g_parquetlaw20_HalveTells b_parquetlaw20_HalveTells
  simp only [meet]
  obtain ⟨b, hb, hm⟩ := many_f m p f
  rw [hb, bnd_s]
  simp only [known_ok, bnd_s]
  cases b with
  | true => rfl
  | false =>
    have h := hm rfl
    have hf := h.few
    rw [cF]
    by_cases hc : (c.length : Int) > 100
    · rw [bif_T hc]
    rw [bif_F hc, gd_t (few_t (by have := h.hp; omega)), run_f m p f hf, bnd_s, rRun_f m p f hf, bnd_s, middle_f, bnd_s, rMiddle_f, bnd_s]
    obtain ⟨h1, h2, h3⟩ := runv_len p f h
    rw [samePoints_f m _ _ (by omega), bnd_s, bif_T rfl, same_f m _ _ (by omega) (fun c hc => by have := h3 c hc; omega), bnd_s, bif_T rfl, bif_T rfl, bif_t (by rw [eqP]; exact decide_eq_true rfl), bif_T rfl, samePoints_f m _ _ (by have := h.hp; omega), bnd_s, bif_T rfl]
theorem HalveTells (x0 : (List (Int × Int))) (x1 : (List (List Int))) (x2 : (List Int)) (g0 : Kd.good (.sl (.pair kI kI)) x0) (g1 : Kd.good (.sl (.sl kI)) x1) (g2 : Kd.good (.sl kI) x2) : ∃ k, g_parquetlaw20_HalveTells k x0 x1 x2 = some true := ⟨1000, tells_law 0 x0 x1 x2⟩
end Go.Proofs.Ytiejhpighhjgiaa.Pure
