/- The plain law of ValidMoved. -/
import Derived.Test.YtjbimhfhapnjeaaV15
set_option linter.unusedVariables false
namespace Go.Proofs.Ytjbimhfhapnjeaa.Pure
open Go.RowKit Go.Proofs.Ytjbimhfhapnjeaa.AM PL
theorem moved_law (m : Nat) (p : Poly) (t : Pt) : g_parquetlaw10_ValidMoved (m + 1000) p t = some true := by
  unfold g_parquetlaw10_ValidMoved b_parquetlaw10_ValidMoved
  simp only [meet]
  obtain ⟨bb, hb, hmm⟩ := many_f (m + 1000) p
  rw [show g_parquetlaw10_many (m + 1000) (p.1, p.2.1, p.2.2) = some bb from hb, bnd_s, known_f, bnd_s]
  cases bb with
  | true => rfl
  | false =>
    rw [cF, show g_parquetref05_Check (m + 1000) (p.1, p.2.1, p.2.2) = ans (chk p) from rchk_f m p]
    cases hc : chk p with
    | false => rfl
    | true =>
      have h : Sm p := (small_of (hmm rfl)).resolve_left (by rw [hc]; simp)
      have hP := h.P
      have hL := h.L
      have hI := h.I
      rw [show ans true = some 0 from rfl, bnd_s]
      refine (bif_f (by rfl)).trans ?_
      by_cases c1 : t.1 > 2097152
      · rw [bif_T c1]; rfl
      rw [bif_F c1]
      by_cases c2 : t.1 < -2097152
      · rw [bif_T c2]; rfl
      rw [bif_F c2]
      by_cases c3 : t.2 > 2097152
      · rw [bif_T c3]; rfl
      rw [bif_F c3]
      by_cases c4 : t.2 < -2097152
      · rw [bif_T c4]
      rw [bif_F c4, gd_t (few_t (by omega)), gd_t (few_t (by omega)), gd_t (few_t (by omega))]
      have ez : (p.1, p.2.1, p.2.2) = ((p.1.take 0).map (mv t) ++ p.1.drop 0, p.2.1, p.2.2) := by simp
      have e0 : ∀ (f : Poly × Pt × Poly × Int → (Poly × Pt × Poly × Int → Option Bool) → Option Bool), loopN f (m + 1000) (p, t, ((p.1.take 0).map (mv t) ++ p.1.drop 0, p.2.1, p.2.2), 0) = some true → loopN f (m + 1000) ((p.1, p.2.1, p.2.2), (t.1, t.2), (p.1, p.2.1, p.2.2), 0) = some true := by
        intro f hf
        have : ((p.1, p.2.1, p.2.2) : Poly) = ((p.1.take 0).map (mv t) ++ p.1.drop 0, p.2.1, p.2.2) := ez
        rw [← this] at hf
        exact hf
      refine e0 _ ?_
      refine loop_list (fun i => (p, t, ((p.1.take i).map (mv t) ++ p.1.drop i, p.2.1, p.2.2), (i : Int))) p.1.length (fun _ => some true) ?_ ?_ (m + 1000) 0 (Nat.zero_le _) (by omega)
      · intro next
        dsimp only
        rw [bif_F (by omega), List.take_length, List.drop_length, List.append_nil]
        rw [show g_valid_First (m + 1000) (p.1, p.2.1, p.2.2) = some (flaw p, 0) from First_ok m h, bnd_s]
        rw [show g_parquetref05_Check (m + 1000) (p.1.map (mv t), p.2.1, p.2.2) = ans (chk (mvp t p)) from rchk_f m (mvp t p)]
        cases hc' : chk (mvp t p) with
        | false =>
          rw [show g_valid_First (m + 1000) (p.1.map (mv t), p.2.1, p.2.2) = some (fz, 2) from First_bad m hc', bnd_s]
          rfl
        | true =>
          have h' : Sm (mvp t p) := ⟨hc', by rw [mvp_len]; exact hP, hL, hI⟩
          have M : Mvd t p := ⟨h, h'⟩
          rw [show g_valid_First (m + 1000) (p.1.map (mv t), p.2.1, p.2.2) = some (flaw (mvp t p), 0) from First_ok m h', bnd_s, M.flaw]
          rw [show ans true = some 0 from rfl, bnd_s]
          refine (bif_f (by rfl)).trans ?_
          refine (bif_t (by simp)).trans ?_
          rfl
      · intro i hi next hn
        have hq := h.q _ (List.getElem_mem hi)
        dsimp only at hn ⊢
        rw [bif_T (by omega), gd_t (inb_t ⟨by omega, by omega⟩), gd_t (inb_t ⟨by omega, by omega⟩), gd_t (inb_t ⟨by omega, by simp; omega⟩), rd_get _ p.1 i hi, w64_id (x := (i : Int) + 1) (by omega) (by omega)]
        unfold okq at hq
        rw [w64_id (x := p.1[i].1 + t.1) (by omega) (by omega), w64_id (x := p.1[i].2 + t.2) (by omega) (by omega)]
        have es : stL ((p.1.take i).map (mv t) ++ p.1.drop i) (i : Int) (p.1[i].1 + t.1, p.1[i].2 + t.2) = (p.1.take (i + 1)).map (mv t) ++ p.1.drop (i + 1) := by
          unfold stL
          rw [Int.toNat_natCast, List.take_succ_eq_append_getElem hi, List.map_append, List.drop_eq_getElem_cons hi]
          have hl : ((p.1.take i).map (mv t)).length = i := by simp; omega
          rw [List.set_append_right _ _ (by omega), hl, Nat.sub_self, List.set_cons_zero, List.append_assoc]
          rfl
        rw [es]
        exact hn
theorem ValidMoved (x0 : ((List (Int × Int)) × ((List (Int × Int)) × (List (Int × Int))))) (x1 : (Int × Int)) (g0 : Kd.good (.pair (.sl (.pair kI kI)) (.pair (.sl (.pair kI kI)) (.sl (.pair kI kI)))) x0) (g1 : Kd.good (.pair kI kI) x1) : ∃ k, g_parquetlaw10_ValidMoved k x0 x1 = some true :=
  ⟨0 + 1000, moved_law 0 x0 x1⟩
end Go.Proofs.Ytjbimhfhapnjeaa.Pure
