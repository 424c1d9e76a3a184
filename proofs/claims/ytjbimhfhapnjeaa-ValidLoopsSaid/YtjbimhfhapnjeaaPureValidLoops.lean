/- The plain law of ValidLoops. -/
import Derived.Test.YtjbimhfhapnjeaaV12
set_option linter.unusedVariables false
namespace Go.Proofs.Ytjbimhfhapnjeaa.Pure
open Go.RowKit Go.Proofs.Ytjbimhfhapnjeaa.AM PL
theorem loops_law (m : Nat) (hm : 130000 ≤ m) (p : Poly) (a b : Int) : g_parquetlaw10_ValidLoops (m + 1000) p a b = some true := by
  unfold g_parquetlaw10_ValidLoops b_parquetlaw10_ValidLoops
  obtain ⟨bb, hb, hmm⟩ := many_f (m + 1000) p
  rw [show g_parquetlaw10_many (m + 1000) (p.1, p.2.1, p.2.2) = some bb from hb, bnd_s, known_f, bnd_s]
  cases bb with
  | true => rfl
  | false =>
    have key : ∃ (R : List (List Int)) (e : Int) (i : Bool), R.length ≤ 350 ∧ (∀ r ∈ R, r.length ≤ 350) ∧ g_valid_Loops (m + 1000) (p.1, p.2.1, p.2.2) = some (R, e) ∧ g_parquetref10_Loops (m + 1000) (p.1, p.2.1, p.2.2) = some (R, e) ∧
        g_valid_Inside (m + 1000) (p.1, p.2.1, p.2.2) a b = some i ∧ g_parquetref10_Inside (m + 1000) (p.1, p.2.1, p.2.2) a b = some i ∧ g_valid_Inside (m + 1000) (p.1, p.2.1, p.2.2) b a = some i := by
      rcases small_of (hmm rfl) with h | h
      · exact ⟨[], 2, false, by simp, fun r hr => (by cases hr), Loops_bad m h, rLoops_bad m h, Inside_bad m h a b, rInside_bad m h a b, Inside_bad m h b a⟩
      · have hP := h.P
        have hlen : (loopsv p).1.length ≤ 350 ∧ ∀ r ∈ (loopsv p).1, r.length ≤ 350 := by
          unfold loopsv
          cases hg : good0 p with
          | false => exact ⟨by simp, fun r hr => by simp at hr⟩
          | true =>
            have R := good0_right h hg
            have lp := lp_of R.fine.okL R.fine.twoL R.n5
            rw [if_pos rfl]
            refine ⟨Nat.le_trans (outs_len _ _ _) (by omega), fun r hr => ?_⟩
            obtain ⟨v, hv, rfl⟩ := outs_mem lp _ (Nat.le_refl _) r hr
            exact Nat.le_trans (ring_len lp hv) (by omega)
        exact ⟨(loopsv p).1, (loopsv p).2, insv p a b, hlen.1, hlen.2, Loops_f m h, rLoops_f m hm h, Inside_v m h a b, rInside_v m h a b, by rw [← insv_swap]; exact Inside_v m h b a⟩
    obtain ⟨R, e, i, hR, hr, k1, k2, k3, k4, k5⟩ := key
    rw [cF, k1, bnd_s, k2, bnd_s]
    simp only [meet]
    refine (bif_f (by simp)).trans ((bif_f (by simp)).trans ?_)
    refine loop_list (fun j => (a, b, p, R, R, (j : Int))) R.length (fun _ => some true) ?_ ?_ (m + 1000) 0 (Nat.zero_le _) (by omega)
    · intro next
      dsimp only
      rw [bif_F (by omega), k3, bnd_s, k4, bnd_s]
      refine (bif_t (by simp)).trans ?_
      rw [k5, bnd_s]
      exact bif_t (by simp)
    · intro j hj next hn
      dsimp only at hn ⊢
      rw [bif_T (by omega), gd_t (inb_t ⟨by omega, by omega⟩), gd_t (inb_t ⟨by omega, by omega⟩), rd_get _ R j hj, sameI_f m _ (hr _ (List.getElem_mem hj)), bnd_s, Bool.not_true, cF, w64_id (by omega) (by omega)]
      exact hn
theorem ValidLoops (x0 : ((List (Int × Int)) × ((List (Int × Int)) × (List (Int × Int))))) (x1 : Int) (x2 : Int) (g0 : Kd.good (.pair (.sl (.pair kI kI)) (.pair (.sl (.pair kI kI)) (.sl (.pair kI kI)))) x0) (g1 : Kd.good kI x1) (g2 : Kd.good kI x2) : ∃ k, g_parquetlaw10_ValidLoops k x0 x1 x2 = some true :=
  ⟨130000 + 1000, loops_law 130000 (Nat.le_refl _) x0 x1 x2⟩
end Go.Proofs.Ytjbimhfhapnjeaa.Pure
