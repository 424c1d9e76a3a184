/- The plain law of MeetParts. -/
import Derived.Test.YtebokfdiamepcaaH6
set_option linter.unusedVariables false
set_option linter.unusedSimpArgs false
namespace Go.Proofs.Ytebokfdiamepcaa.Pure
open Go.RowKit Go.Proofs.Ytebokfdiamepcaa.AM
theorem sg0 : sg 0 = 0 := rfl
theorem ori0 {a b c : Pt} (h : crs a b c = 0) : ori a b c = 0 := by unfold ori; rw [h]; simp [sg0]
theorem not_ins_a {a b : Pt} : ¬ Ins a b a := fun h => h.2.1 rfl
theorem not_ins_b {a b : Pt} : ¬ Ins a b b := fun h => h.2.2 rfl
theorem segs_whole {a b p : Pt} (hp : Ins a b p) : segs a b a p = (4, 0) := by
  obtain ⟨fa, fb, fp⟩ := fit_of hp
  have hb : ¬ Bad a b a p := by
    rintro (h | h | h)
    · exact hp.1.1 h
    · exact hp.2.1 h.symm
    · exact h ⟨fa, fb, fa, fp⟩
  have hc : ¬ Cro a b a p := by
    rintro ⟨h, _⟩
    rw [ori0 (by unfold crs; grind), Int.zero_mul] at h
    omega
  have nb : ¬ Ins a p b := by
    intro h
    have h1 := ins_trans hp h
    exact not_ins_b h1
  have e1 : ends a b a p = 1 := by
    unfold ends
    rw [decide_eq_true rfl, decide_eq_false (fun h : a = p => hp.2.1 h.symm), decide_eq_false (fun h : b = a => hp.1.1 h.symm), decide_eq_false (fun h : b = p => hp.2.2 h.symm)]
    rfl
  have e2 : inss a b a p = 1 := by
    unfold inss
    rw [decide_eq_false not_ins_a, decide_eq_true hp, decide_eq_false not_ins_a, decide_eq_false nb]
    rfl
  rw [segs, if_neg hb, how, if_neg hc, if_pos (Or.inr (Or.inr ⟨e1, e2⟩))]
theorem segs_halves {a b p : Pt} (hp : Ins a b p) : segs a p p b = (1, 0) := by
  obtain ⟨fa, fb, fp⟩ := fit_of hp
  have hb : ¬ Bad a p p b := by
    rintro (h | h | h)
    · exact hp.2.1 h.symm
    · exact hp.2.2 h
    · exact h ⟨fa, fp, fp, fb⟩
  have hc : ¬ Cro a p p b := by
    rintro ⟨h, _⟩
    rw [ori0 (a := a) (b := p) (c := p) (by unfold crs; grind), Int.zero_mul] at h
    omega
  have nb : ¬ Ins a p b := fun h => not_ins_b (ins_trans hp h)
  have na : ¬ Ins p b a := fun h => not_ins_b (ins_trans (ins_swap.1 hp) (ins_swap.1 h))
  have e1 : ends a p p b = 1 := by
    unfold ends
    rw [decide_eq_false (fun h : a = p => hp.2.1 h.symm), decide_eq_false hp.1.1, decide_eq_true (rfl : p = p), decide_eq_false hp.2.2]
    rfl
  have e2 : inss a p p b = 0 := by
    rw [inss_zero]
    rintro (h | h | h | h)
    · exact not_ins_b h
    · exact nb h
    · exact na h
    · exact not_ins_a h
  rw [segs, if_neg hb, how, if_neg hc, if_neg (by omega), if_pos e1]
theorem parts_law (m : Nat) (a b p c d : Pt) : g_parquetlaw04_MeetParts (m + 6) a b p c d = some true := by
  unfold g_parquetlaw04_MeetParts b_parquetlaw04_MeetParts
  simp only [etaP, meet]
  rw [Inside_f, known_f]
  simp only [bnd_s, Segs_f]
  by_cases hnp : ¬ Ins a b p
  · rw [decide_eq_false hnp]; rfl
  have hp := Decidable.not_not.1 hnp
  rw [decide_eq_true hp]
  simp only [Bool.not_true, cF]
  rw [segs_whole hp, segs_halves hp]
  simp only [decide_true, Bool.not_true, cF]
  obtain ⟨fa, fb, fp⟩ := fit_of hp
  by_cases hb : Bad a b c d
  · rw [show segs a b c d = (0, 2) by rw [segs, if_pos hb]]; rfl
  have hcd : c ≠ d := fun e => hb (Or.inr (Or.inl e))
  have hf : Fit a ∧ Fit b ∧ Fit c ∧ Fit d := Decidable.not_not.1 fun e => hb (Or.inr (Or.inr e))
  obtain ⟨_, _, fc, fd⟩ := hf
  have b1 : ¬ Bad a p c d := by
    rintro (h | h | h)
    · exact hp.2.1 h.symm
    · exact hcd h
    · exact h ⟨fa, fp, fc, fd⟩
  have b2 : ¬ Bad p b c d := by
    rintro (h | h | h)
    · exact hp.2.2 h
    · exact hcd h
    · exact h ⟨fp, fb, fc, fd⟩
  rw [show segs a b c d = (how a b c d, 0) by rw [segs, if_neg hb], show segs a p c d = (how a p c d, 0) by rw [segs, if_neg b1], show segs p b c d = (how p b c d, 0) by rw [segs, if_neg b2]]
  simp only [decide_true, Bool.not_true, cF]
  have hp' := ins_swap.1 hp
  by_cases h0 : how a b c d = 0
  · have k1 := part_zero hp fc fd hcd h0
    have k2 : how p b c d = 0 := by
      rw [← how_swap]
      exact part_zero hp' fc fd hcd (by rw [how_swap]; exact h0)
    rw [bif_T h0, bif_T k1, bif_T k2]
  rw [bif_F h0]
  by_cases h3 : how a b c d = 3
  · rw [bif_T h3]
    have hc := how_three.1 h3
    have hs := ((cro_iff hp fc fd).1 hc).2
    by_cases f0 : crs c d p = 0
    · have k1 := cross_at hp fc fd hcd hc f0
      have k2 : how p b c d = 2 := by
        rw [← how_swap]
        exact cross_at hp' fc fd hcd (cro_swap.2 hc) f0
      rw [k1, k2]; rfl
    · by_cases f1 : (0 < crs c d a ∧ crs c d p < 0) ∨ (crs c d a < 0 ∧ 0 < crs c d p)
      · obtain ⟨k1, k2⟩ := cross_part hp fc fd hcd hc f1
        rw [k1, k2]; rfl
      · obtain ⟨k1, k2⟩ := cross_part hp' fc fd hcd (cro_swap.2 hc) (by omega)
        rw [how_swap] at k1 k2
        rw [k1, k2]; rfl
  · rw [bif_F h3]
    have ht : Touch a b c d := Classical.byContradiction fun e => h0 ((how_zero hb).2 e)
    rcases touch_split hp (fun e => h3 (how_three.2 e)) ht with h | h
    · have : ¬ how a p c d = 0 := fun e => ((how_zero b1).1 e) h
      rw [bif_t (by simp [this])]
    · by_cases k : how a p c d = 0
      · have : ¬ how p b c d = 0 := fun e => ((how_zero b2).1 e) h
        rw [bif_f (by simp [k]), bif_t (by simp [this])]
      · rw [bif_t (by simp [k])]
theorem MeetParts (x0 : (Int × Int)) (x1 : (Int × Int)) (x2 : (Int × Int)) (x3 : (Int × Int)) (x4 : (Int × Int)) (g0 : Kd.good (.pair kI kI) x0) (g1 : Kd.good (.pair kI kI) x1) (g2 : Kd.good (.pair kI kI) x2) (g3 : Kd.good (.pair kI kI) x3) (g4 : Kd.good (.pair kI kI) x4) : ∃ k, g_parquetlaw04_MeetParts k x0 x1 x2 x3 x4 = some true :=
  ⟨6, parts_law 0 x0 x1 x2 x3 x4⟩
end Go.Proofs.Ytebokfdiamepcaa.Pure
