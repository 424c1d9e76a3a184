/- What touches a part of a segment, and what the whole. -/
import Derived.Test.YtjbimhfhapnjeaaH5
set_option linter.unusedVariables false
set_option linter.unusedSimpArgs false
namespace Go.Proofs.Ytjbimhfhapnjeaa.Pure
open Go.RowKit Go.Proofs.Ytjbimhfhapnjeaa.AM
/-- Two segments touch. -/
def Touch (a b c d : Pt) : Prop := Cro a b c d ∨ (a = c ∨ a = d ∨ b = c ∨ b = d) ∨ (Ins a b c ∨ Ins a b d ∨ Ins c d a ∨ Ins c d b)
theorem count4 : ∀ x y z w : Bool, [x, y, z, w].count true = 0 ↔ ¬ (x = true ∨ y = true ∨ z = true ∨ w = true) := by decide
theorem ends_zero {a b c d : Pt} : ends a b c d = 0 ↔ ¬ (a = c ∨ a = d ∨ b = c ∨ b = d) := by
  unfold ends
  rw [count4]
  simp only [decide_eq_true_eq]
theorem inss_zero {a b c d : Pt} : inss a b c d = 0 ↔ ¬ (Ins a b c ∨ Ins a b d ∨ Ins c d a ∨ Ins c d b) := by
  unfold inss
  rw [count4]
  simp only [decide_eq_true_eq]
theorem line_back {a b c d : Pt} (hab : a ≠ b) (hc : crs a b c = 0) (hd : crs a b d = 0) : crs c d a = 0 := by
  have hne : b.1 - a.1 ≠ 0 ∨ b.2 - a.2 ≠ 0 := by
    apply Decidable.byContradiction
    intro hh
    exact hab (by cases a; cases b; simp at *; omega)
  unfold crs at *
  rcases hne with hh | hh
  · have : (b.1 - a.1) * ((d.1 - c.1) * (a.2 - c.2) - (d.2 - c.2) * (a.1 - c.1)) = 0 := by grind
    exact (Int.mul_eq_zero.1 this).resolve_left hh
  · have : (b.2 - a.2) * ((d.1 - c.1) * (a.2 - c.2) - (d.2 - c.2) * (a.1 - c.1)) = 0 := by grind
    exact (Int.mul_eq_zero.1 this).resolve_left hh
theorem how_zero {a b c d : Pt} (hb : ¬ Bad a b c d) : how a b c d = 0 ↔ ¬ Touch a b c d := by
  have he := (ons_eq hb).2
  unfold Touch how
  rw [not_or, not_or, ← ends_zero, ← inss_zero]
  by_cases hc : Cro a b c d
  · rw [if_pos hc]; simp [hc]
  · rw [if_neg hc]
    (repeat' split) <;> simp [hc] <;> omega
theorem how_three {a b c d : Pt} : how a b c d = 3 ↔ Cro a b c d := by
  unfold how
  by_cases hc : Cro a b c d
  · rw [if_pos hc]; simp [hc]
  · rw [if_neg hc]
    (repeat' split) <;> simp [hc]
theorem sg_swap (a b x : Pt) : ori b a x = -ori a b x := by
  unfold ori
  rw [crs_swap a b x]
  by_cases h : Fit a ∧ Fit b ∧ Fit x
  · rw [if_pos h, if_pos ⟨h.2.1, h.1, h.2.2⟩]
    unfold sg
    (repeat' split) <;> omega
  · rw [if_neg h, if_neg (fun x => h ⟨x.2.1, x.1, x.2.2⟩)]; rfl
theorem cro_swap {a b c d : Pt} : Cro b a c d ↔ Cro a b c d := by
  unfold Cro
  rw [sg_swap a b c, sg_swap a b d, Int.neg_mul_neg, Int.mul_comm (ori c d b)]
theorem touch_swap {a b c d : Pt} : Touch b a c d ↔ Touch a b c d := by
  unfold Touch
  rw [cro_swap, ins_swap (a := b) (b := a) (p := c), ins_swap (a := b) (b := a) (p := d)]
  constructor
  · rintro (h | (h | h | h | h) | (h | h | h | h)) <;> simp [h]
  · rintro (h | (h | h | h | h) | (h | h | h | h)) <;> simp [h]
theorem how_swap {a b c d : Pt} : how b a c d = how a b c d := by
  have e1 : ends b a c d = ends a b c d := by
    unfold ends
    generalize decide (a = c) = x; generalize decide (a = d) = y; generalize decide (b = c) = z; generalize decide (b = d) = w
    cases x <;> cases y <;> cases z <;> cases w <;> rfl
  have e2 : inss b a c d = inss a b c d := by
    unfold inss
    simp only [ins_swap (a := b) (b := a)]
    generalize decide (Ins a b c) = x; generalize decide (Ins a b d) = y; generalize decide (Ins c d a) = z; generalize decide (Ins c d b) = w
    cases x <;> cases y <;> cases z <;> cases w <;> rfl
  unfold how
  rw [e1, e2]
  simp only [cro_swap]
/-- Signs that are against one another. -/
theorem against {x y : Int} : sg x * sg y < 0 ↔ (0 < x ∧ y < 0) ∨ (x < 0 ∧ 0 < y) := by
  unfold sg
  (repeat' split) <;> omega
section
variable {a b c d p : Pt} (hp : Ins a b p) (hcd : c ≠ d) (fc : Fit c) (fd : Fit d)
include hp fc fd
theorem cro_iff : Cro a b c d ↔ ((0 < crs a b c ∧ crs a b d < 0) ∨ (crs a b c < 0 ∧ 0 < crs a b d)) ∧ ((0 < crs c d a ∧ crs c d b < 0) ∨ (crs c d a < 0 ∧ 0 < crs c d b)) := by
  obtain ⟨fa, fb, fp⟩ := fit_of hp
  unfold Cro ori
  rw [if_pos ⟨fa, fb, fc⟩, if_pos ⟨fa, fb, fd⟩, if_pos ⟨fc, fd, fa⟩, if_pos ⟨fc, fd, fb⟩, against, against]
theorem cro_first : Cro a p c d ↔ ((0 < crs a b c ∧ crs a b d < 0) ∨ (crs a b c < 0 ∧ 0 < crs a b d)) ∧ ((0 < crs c d a ∧ crs c d p < 0) ∨ (crs c d a < 0 ∧ 0 < crs c d p)) := by
  obtain ⟨fa, fb, fp⟩ := fit_of hp
  obtain ⟨N, M, h⟩ := par_of hp
  have hN : 0 < N := by have := h.1; have := h.2.1; omega
  unfold Cro ori
  rw [if_pos ⟨fa, fp, fc⟩, if_pos ⟨fa, fp, fd⟩, if_pos ⟨fc, fd, fa⟩, if_pos ⟨fc, fd, fp⟩, sg_scale hN h.1 (crs_first h c), sg_scale hN h.1 (crs_first h d), against, against]
/-- The ends of one lie on the other one's line, all: then one lies between. -/
theorem touch_line (hc0 : crs a b c = 0) (hd0 : crs a b d = 0) (hi : Ins c d p) : Touch a b c d := by
  obtain ⟨fa, fb, fp⟩ := fit_of hp
  have hab := hp.1.1
  have hcd := hi.1.1
  have on_ab : ∀ x, Fit x → crs a b x = 0 → Btw a.1 b.1 x.1 → Btw a.2 b.2 x.2 → x = a ∨ x = b ∨ Ins a b x := by
    intro x fx h0 h1 h2
    have ho : On a b x := ⟨hab, ⟨fa, fb, fx⟩, h0, h1, h2⟩
    rcases (on_iff hab ⟨fa, fb, fx⟩).1 ho with h | h | h
    · exact .inr (.inr h)
    · exact .inl h
    · exact .inr (.inl h)
  have on_cd : ∀ x, Fit x → crs c d x = 0 → Btw c.1 d.1 x.1 → Btw c.2 d.2 x.2 → x = c ∨ x = d ∨ Ins c d x := by
    intro x fx h0 h1 h2
    have ho : On c d x := ⟨hcd, ⟨fc, fd, fx⟩, h0, h1, h2⟩
    rcases (on_iff hcd ⟨fc, fd, fx⟩).1 ho with h | h | h
    · exact .inr (.inr h)
    · exact .inl h
    · exact .inr (.inl h)
  obtain ⟨N, M, hpar⟩ := par_of hp
  obtain ⟨K, L, hpar'⟩ := par_of hi
  obtain ⟨n1, n2, n3, n4⟩ := hpar
  obtain ⟨k1, k2, k3, k4⟩ := hpar'
  have a1 := conv (by omega) (by omega) (by omega) n3
  have a2 := conv (by omega) (by omega) (by omega) n4
  have c1 := conv (by omega) (by omega) (by omega) k3
  have c2 := conv (by omega) (by omega) (by omega) k4
  -- which end lies between, by the first or the second number
  have fin : (Btw a.1 b.1 c.1 ∧ Btw a.2 b.2 c.2) ∨ (Btw a.1 b.1 d.1 ∧ Btw a.2 b.2 d.2) ∨ (Btw c.1 d.1 a.1 ∧ Btw c.2 d.2 a.2) → crs c d a = 0 → Touch a b c d := by
    rintro (⟨h1, h2⟩ | ⟨h1, h2⟩ | ⟨h1, h2⟩) hz
    · rcases on_ab c fc hc0 h1 h2 with h | h | h
      · exact .inr (.inl (.inl h.symm))
      · exact .inr (.inl (.inr (.inr (.inl h.symm))))
      · exact .inr (.inr (.inl h))
    · rcases on_ab d fd hd0 h1 h2 with h | h | h
      · exact .inr (.inl (.inr (.inl h.symm)))
      · exact .inr (.inl (.inr (.inr (.inr h.symm))))
      · exact .inr (.inr (.inr (.inl h)))
    · rcases on_cd a fa hz h1 h2 with h | h | h
      · exact .inr (.inl (.inl h))
      · exact .inr (.inl (.inr (.inl h)))
      · exact .inr (.inr (.inr (.inr (.inl h))))
  -- everything in numbers from a on
  have hz : crs c d a = 0 := line_back hab hc0 hd0
  refine fin ?_ hz
  unfold crs at hc0 hd0 hz
  have hu : b.1 - a.1 ≠ 0 ∨ b.2 - a.2 ≠ 0 := by
    apply Decidable.byContradiction
    intro h
    exact hab (by cases a; cases b; simp at *; omega)
  have way : ∀ {u v s t : Int}, u ≠ 0 → u * t = v * s → (0 ≤ s ∧ s ≤ u) ∨ (u ≤ s ∧ s ≤ 0) → (0 ≤ t ∧ t ≤ v) ∨ (v ≤ t ∧ t ≤ 0) := by
    intro u v s t h1 h2 h3
    by_cases h : 0 < u
    · exact conv (N := u) (M := s) (by omega) (by omega) h (by rw [h2, Int.mul_comm])
    · exact conv (N := -u) (M := -s) (by omega) (by omega) (by omega) (by rw [Int.neg_mul, h2, Int.neg_mul, Int.mul_comm])
  unfold Btw
  rcases hu with hu | hu
  · have ec : (b.1 - a.1) * (c.2 - a.2) = (b.2 - a.2) * (c.1 - a.1) := by omega
    have ed : (b.1 - a.1) * (d.2 - a.2) = (b.2 - a.2) * (d.1 - a.1) := by omega
    by_cases q1 : (0 ≤ c.1 - a.1 ∧ c.1 - a.1 ≤ b.1 - a.1) ∨ (b.1 - a.1 ≤ c.1 - a.1 ∧ c.1 - a.1 ≤ 0)
    · have := way hu ec q1
      left; omega
    · by_cases q2 : (0 ≤ d.1 - a.1 ∧ d.1 - a.1 ≤ b.1 - a.1) ∨ (b.1 - a.1 ≤ d.1 - a.1 ∧ d.1 - a.1 ≤ 0)
      · have := way hu ed q2
        right; left; omega
      · right; right
        have hw : d.1 - c.1 ≠ 0 := by omega
        have ez : (d.1 - c.1) * (a.2 - c.2) = (d.2 - c.2) * (a.1 - c.1) := by omega
        have q3 : (0 ≤ a.1 - c.1 ∧ a.1 - c.1 ≤ d.1 - c.1) ∨ (d.1 - c.1 ≤ a.1 - c.1 ∧ a.1 - c.1 ≤ 0) := by omega
        have := way hw ez q3
        omega
  · have ec : (b.2 - a.2) * (c.1 - a.1) = (b.1 - a.1) * (c.2 - a.2) := by omega
    have ed : (b.2 - a.2) * (d.1 - a.1) = (b.1 - a.1) * (d.2 - a.2) := by omega
    by_cases q1 : (0 ≤ c.2 - a.2 ∧ c.2 - a.2 ≤ b.2 - a.2) ∨ (b.2 - a.2 ≤ c.2 - a.2 ∧ c.2 - a.2 ≤ 0)
    · have := way hu ec q1
      left; omega
    · by_cases q2 : (0 ≤ d.2 - a.2 ∧ d.2 - a.2 ≤ b.2 - a.2) ∨ (b.2 - a.2 ≤ d.2 - a.2 ∧ d.2 - a.2 ≤ 0)
      · have := way hu ed q2
        right; left; omega
      · right; right
        have hw : d.2 - c.2 ≠ 0 := by omega
        have ez : (d.2 - c.2) * (a.1 - c.1) = (d.1 - c.1) * (a.2 - c.2) := by omega
        have q3 : (0 ≤ a.2 - c.2 ∧ a.2 - c.2 ≤ d.2 - c.2) ∨ (d.2 - c.2 ≤ a.2 - c.2 ∧ a.2 - c.2 ≤ 0) := by omega
        have := way hw ez q3
        omega
/-- What touches a part touches the whole. -/
theorem touch_part (h : Touch a p c d) : Touch a b c d := by
  obtain ⟨fa, fb, fp⟩ := fit_of hp
  rcases h with h | (h | h | h | h) | (h | h | h | h)
  · left
    rw [cro_first hp fc fd] at h
    rw [cro_iff hp fc fd]
    refine ⟨h.1, ?_⟩
    obtain ⟨N, M, hpar⟩ := par_of hp
    have e := crs_part hpar c d
    obtain ⟨n1, n2, _, _⟩ := hpar
    have hN : 0 < N := by omega
    rcases h.2 with ⟨h1, h2⟩ | ⟨h1, h2⟩
    · left
      refine ⟨h1, ?_⟩
      have k1 := Int.mul_pos (show 0 < N - M by omega) h1
      have k2 := Int.mul_neg_of_pos_of_neg hN h2
      apply Decidable.byContradiction
      intro hn
      have := Int.mul_nonneg (Int.le_of_lt n1) (show 0 ≤ crs c d b by omega)
      omega
    · right
      refine ⟨h1, ?_⟩
      have k1 := Int.mul_neg_of_pos_of_neg (show 0 < N - M by omega) h1
      have k2 := Int.mul_pos hN h2
      apply Decidable.byContradiction
      intro hn
      have := Int.mul_nonneg (Int.le_of_lt n1) (show 0 ≤ -crs c d b by omega)
      rw [Int.mul_neg] at this
      omega
  · exact .inr (.inl (.inl h))
  · exact .inr (.inl (.inr (.inl h)))
  · exact .inr (.inr (.inl (h ▸ hp)))
  · exact .inr (.inr (.inr (.inl (h ▸ hp))))
  · exact .inr (.inr (.inl (ins_trans hp h)))
  · exact .inr (.inr (.inr (.inl (ins_trans hp h))))
  · exact .inr (.inr (.inr (.inr (.inl h))))
  · by_cases hc0 : crs a b c = 0
    · refine touch_line hp fc fd hc0 ?_ h
      obtain ⟨K, L, hpar⟩ := par_of h
      have e := crs_part hpar a b
      rw [hp.1.2.2.1, hc0] at e
      rw [Int.mul_zero, Int.mul_zero, Int.zero_add] at e
      exact mul_zero_pos hpar.1 e.symm
    · obtain ⟨K, L, hpar⟩ := par_of h
      have e := crs_part hpar a b
      rw [hp.1.2.2.1] at e
      obtain ⟨N, M, hpar2⟩ := par_of hp
      have e2 := crs_part hpar2 c d
      rw [h.1.2.2.1] at e2
      left
      rw [cro_iff hp fc fd]
      have opp : ∀ {K L x y : Int}, 0 < L → L < K → K * 0 = (K - L) * x + L * y → x ≠ 0 → (0 < x ∧ y < 0) ∨ (x < 0 ∧ 0 < y) := by
        intro K L x y h1 h2 h3 h4
        rw [Int.mul_zero] at h3
        by_cases hx : 0 < x
        · left
          refine ⟨hx, ?_⟩
          have := Int.mul_pos (show 0 < K - L by omega) hx
          apply Decidable.byContradiction
          intro hn
          have := Int.mul_nonneg (Int.le_of_lt h1) (show 0 ≤ y by omega)
          omega
        · right
          refine ⟨by omega, ?_⟩
          have := Int.mul_neg_of_pos_of_neg (show 0 < K - L by omega) (show x < 0 by omega)
          apply Decidable.byContradiction
          intro hn
          have := Int.mul_nonneg (Int.le_of_lt h1) (show 0 ≤ -y by omega)
          rw [Int.mul_neg] at this
          omega
      refine ⟨opp hpar.1 hpar.2.1 e hc0, opp hpar2.1 hpar2.2.1 e2 ?_⟩
      intro ha0
      have hb0 : crs c d b = 0 := by
        rw [ha0] at e2
        rw [Int.mul_zero, Int.mul_zero, Int.zero_add] at e2
        exact mul_zero_pos hpar2.1 e2.symm
      have hne : d.1 - c.1 ≠ 0 ∨ d.2 - c.2 ≠ 0 := by
        apply Decidable.byContradiction
        intro hh
        exact h.1.1 (by cases c; cases d; simp at *; omega)
      unfold crs at ha0 hb0 hc0
      rcases hne with hh | hh
      · have : (d.1 - c.1) * ((b.1 - a.1) * (c.2 - a.2) - (b.2 - a.2) * (c.1 - a.1)) = 0 := by grind
        exact hc0 ((Int.mul_eq_zero.1 this).resolve_left hh)
      · have : (d.2 - c.2) * ((b.1 - a.1) * (c.2 - a.2) - (b.2 - a.2) * (c.1 - a.1)) = 0 := by grind
        exact hc0 ((Int.mul_eq_zero.1 this).resolve_left hh)
theorem part_zero (hcd : c ≠ d) : how a b c d = 0 → how a p c d = 0 := by
  obtain ⟨fa, fb, fp⟩ := fit_of hp
  have b1 : ¬ Bad a b c d := by
    rintro (h | h | h)
    · exact hp.1.1 h
    · exact hcd h
    · exact h ⟨fa, fb, fc, fd⟩
  have b2 : ¬ Bad a p c d := by
    rintro (h | h | h)
    · exact hp.2.1 h.symm
    · exact hcd h
    · exact h ⟨fa, fp, fc, fd⟩
  rw [how_zero b1, how_zero b2]
  exact fun h h' => h (touch_part hp fc fd h')
/-- Where the whole crosses: on p's far side nothing is met, if the first part crosses. -/
theorem cross_part (hcd : c ≠ d) (hc : Cro a b c d) (h1 : (0 < crs c d a ∧ crs c d p < 0) ∨ (crs c d a < 0 ∧ 0 < crs c d p)) : how a p c d = 3 ∧ how p b c d = 0 := by
  obtain ⟨fa, fb, fp⟩ := fit_of hp
  have hc' := (cro_iff hp fc fd).1 hc
  refine ⟨how_three.2 ((cro_first hp fc fd).2 ⟨hc'.1, h1⟩), ?_⟩
  have b2 : ¬ Bad p b c d := by
    rintro (h | h | h)
    · exact hp.2.2 h
    · exact hcd h
    · exact h ⟨fp, fb, fc, fd⟩
  rw [how_zero b2]
  obtain ⟨N, M, hpar⟩ := par_of hp
  have hN : 0 < N := by have := hpar.1; have := hpar.2.1; omega
  have hz : ∀ x, crs p b x = 0 → crs a b x = 0 := by
    intro x hx
    have e := crs_last hpar x
    rw [hx, Int.mul_zero] at e
    exact mul_zero_pos (by have := hpar.2.1; omega) e.symm
  have hc0 : crs a b c ≠ 0 := by omega
  have hd0 : crs a b d ≠ 0 := by omega
  have hb2 : crs a b b = 0 := by unfold crs; grind
  rintro (h | (h | h | h | h) | (h | h | h | h))
  · have hs := (cro_first (ins_swap.1 hp) fc fd).1 (cro_swap.2 h)
    omega
  · exact hc0 (h ▸ hp.1.2.2.1)
  · exact hd0 (h ▸ hp.1.2.2.1)
  · exact hc0 (h ▸ hb2)
  · exact hd0 (h ▸ hb2)
  · exact hc0 (hz c h.1.2.2.1)
  · exact hd0 (hz d h.1.2.2.1)
  · have := h.1.2.2.1; omega
  · have := h.1.2.2.1; omega
/-- Where the whole crosses at p. -/
theorem cross_at (hcd : c ≠ d) (hc : Cro a b c d) (h0 : crs c d p = 0) : how a p c d = 2 := by
  obtain ⟨fa, fb, fp⟩ := fit_of hp
  have hc' := (cro_iff hp fc fd).1 hc
  obtain ⟨N, M, hpar⟩ := par_of hp
  have hN : 0 < N := by have := hpar.1; have := hpar.2.1; omega
  have hz : ∀ x, crs a p x = 0 → crs a b x = 0 := by
    intro x hx
    have e := crs_first hpar x
    rw [hx, Int.mul_zero] at e
    exact mul_zero_pos hpar.1 e.symm
  have hc0 : crs a b c ≠ 0 := by omega
  have hd0 : crs a b d ≠ 0 := by omega
  have ha2 : crs a b a = 0 := by unfold crs; grind
  have hi : Ins c d p := by
    have e1 : crs a b p = 0 := hp.1.2.2.1
    -- the parts of c d at p
    have key : ∀ {x y : Int}, 0 < x → y < 0 → x * (p.1 - d.1) = y * (p.1 - c.1) → x * (p.2 - d.2) = y * (p.2 - c.2) → Ins c d p := by
      intro x y hx hy e1 e2
      exact ins_of (N := x - y) (M := x) ⟨hx, by omega, by grind, by grind⟩ hcd fc fd fp
    have i1 : crs a b c * (p.1 - d.1) - crs a b d * (p.1 - c.1) = (crs a b c - crs a b d) * p.1 - (crs a b c * d.1 - crs a b d * c.1) := by grind
    have id1 : crs a b c * (p.1 - d.1) = crs a b d * (p.1 - c.1) := by
      have hu : (d.1 - c.1) * (p.2 - c.2) - (d.2 - c.2) * (p.1 - c.1) = 0 := h0
      unfold crs at e1 ⊢
      grind
    have id2 : crs a b c * (p.2 - d.2) = crs a b d * (p.2 - c.2) := by
      have hu : (d.1 - c.1) * (p.2 - c.2) - (d.2 - c.2) * (p.1 - c.1) = 0 := h0
      unfold crs at e1 ⊢
      grind
    rcases hc'.1 with ⟨h1, h2⟩ | ⟨h1, h2⟩
    · exact key h1 h2 id1 id2
    · exact key (x := -crs a b c) (y := -crs a b d) (by omega) (by omega) (by rw [Int.neg_mul, Int.neg_mul, id1]) (by rw [Int.neg_mul, Int.neg_mul, id2])
  have n1 : ¬ Cro a p c d := by
    rw [cro_first hp fc fd]; omega
  have n2 : ends a p c d = 0 := by
    rw [ends_zero]
    rintro (h | h | h | h)
    · exact hc0 (h ▸ ha2)
    · exact hd0 (h ▸ ha2)
    · exact hc0 (h ▸ hp.1.2.2.1)
    · exact hd0 (h ▸ hp.1.2.2.1)
  have n3 : inss a p c d = 1 := by
    unfold inss
    rw [decide_eq_false (fun h : Ins a p c => hc0 (hz c h.1.2.2.1)), decide_eq_false (fun h : Ins a p d => hd0 (hz d h.1.2.2.1)), decide_eq_false (fun h : Ins c d a => by have := h.1.2.2.1; omega), decide_eq_true hi]
    rfl
  rw [how, if_neg n1, if_neg (by omega), if_neg (by omega), if_pos n3]
end
theorem touch_split {a b c d p : Pt} (hp : Ins a b p) (h : ¬ Cro a b c d) (ht : Touch a b c d) : Touch a p c d ∨ Touch p b c d := by
  rcases ht with ht | (ht | ht | ht | ht) | (ht | ht | ht | ht)
  · exact absurd ht h
  · exact .inl (.inr (.inl (.inl ht)))
  · exact .inl (.inr (.inl (.inr (.inl ht))))
  · exact .inr (.inr (.inl (.inr (.inr (.inl ht)))))
  · exact .inr (.inr (.inl (.inr (.inr (.inr ht)))))
  · rcases ins_split hp ht with e | e | e
    · exact .inl (.inr (.inl (.inr (.inr (.inl e.symm)))))
    · exact .inl (.inr (.inr (.inl e)))
    · exact .inr (.inr (.inr (.inl e)))
  · rcases ins_split hp ht with e | e | e
    · exact .inl (.inr (.inl (.inr (.inr (.inr e.symm)))))
    · exact .inl (.inr (.inr (.inr (.inl e))))
    · exact .inr (.inr (.inr (.inr (.inl e))))
  · exact .inl (.inr (.inr (.inr (.inr (.inl ht)))))
  · exact .inr (.inr (.inr (.inr (.inr (.inr ht)))))
end Go.Proofs.Ytjbimhfhapnjeaa.Pure
