/- A place inside a segment, as a part of the way. -/
import Derived.Test.YtjbimhfhapnjeaaH4
set_option linter.unusedSimpArgs false
set_option linter.unusedVariables false
namespace Go.Proofs.Ytjbimhfhapnjeaa.Pure
open Go.RowKit Go.Proofs.Ytjbimhfhapnjeaa.AM

/-- p lies M parts of N from a to b. -/
def Par (N M : Int) (a b p : Pt) : Prop := 0 < M ∧ M < N ∧ N * (p.1 - a.1) = M * (b.1 - a.1) ∧ N * (p.2 - a.2) = M * (b.2 - a.2)
theorem mul_zero_pos {n x : Int} (hn : 0 < n) (h : n * x = 0) : x = 0 := (Int.mul_eq_zero.1 h).resolve_left (by omega)
theorem par_of {a b p : Pt} (h : Ins a b p) : ∃ N M, Par N M a b p := by
  obtain ⟨⟨hab, hf, hc, hx, hy⟩, hpa, hpb⟩ := h
  unfold crs at hc
  unfold Btw at hx hy
  obtain ⟨a1, a2⟩ := a
  obtain ⟨b1, b2⟩ := b
  obtain ⟨p1, p2⟩ := p
  dsimp only at *
  simp only [ne_eq, Prod.mk.injEq, not_and] at hab hpa hpb
  by_cases hu : b1 - a1 = 0
  · have hp1 : p1 = a1 := by omega
    have hv : b2 ≠ a2 := fun e => hab (by omega) e.symm
    have hp2 : p2 ≠ a2 := fun e => hpa hp1 e
    have hp3 : p2 ≠ b2 := fun e => hpb (by omega) e
    by_cases hv2 : b2 - a2 > 0
    · exact ⟨b2 - a2, p2 - a2, by omega, by omega, by dsimp only; rw [hu, hp1]; simp, by dsimp only; rw [Int.mul_comm]⟩
    · exact ⟨a2 - b2, a2 - p2, by omega, by omega, by dsimp only; rw [hu, hp1]; simp, by dsimp only; grind⟩
  · have h0 : p1 - a1 ≠ 0 := by
      intro e
      rw [e, Int.mul_zero, Int.sub_zero] at hc
      have := (Int.mul_eq_zero.1 hc).resolve_left hu
      exact hpa (by omega) (by omega)
    have h1 : p1 - a1 ≠ b1 - a1 := by
      intro e
      have e2 : (b1 - a1) * (p2 - b2) = 0 := by
        rw [e] at hc
        grind
      have := (Int.mul_eq_zero.1 e2).resolve_left hu
      exact hpb (by omega) (by omega)
    by_cases hu2 : b1 - a1 > 0
    · exact ⟨b1 - a1, p1 - a1, by omega, by omega, by dsimp only; rw [Int.mul_comm], by dsimp only; grind⟩
    · exact ⟨a1 - b1, a1 - p1, by omega, by omega, by dsimp only; grind, by dsimp only; grind⟩
/-- What lies a part of the way lies between. -/
theorem conv {N M s u : Int} (h0 : 0 ≤ M) (h1 : M ≤ N) (hN : 0 < N) (h : N * s = M * u) : (0 ≤ s ∧ s ≤ u) ∨ (u ≤ s ∧ s ≤ 0) := by
  by_cases hu : 0 ≤ u
  · left
    have h2 : 0 ≤ N * s := by rw [h]; exact Int.mul_nonneg h0 hu
    have h3 : N * s ≤ N * u := by rw [h]; exact Int.mul_le_mul_of_nonneg_right h1 hu
    exact ⟨Int.le_of_mul_le_mul_left (a := N) (by simpa using h2) hN, Int.le_of_mul_le_mul_left h3 hN⟩
  · right
    have h2 : N * s ≤ 0 := by rw [h]; have := Int.mul_nonneg h0 (show 0 ≤ -u by omega); rw [Int.mul_neg] at this; omega
    have h3 : N * u ≤ N * s := by
      rw [h]
      have := Int.mul_le_mul_of_nonneg_right h1 (show 0 ≤ -u by omega)
      rw [Int.mul_neg, Int.mul_neg] at this
      omega
    exact ⟨Int.le_of_mul_le_mul_left h3 hN, Int.le_of_mul_le_mul_left (a := N) (by simpa using h2) hN⟩
theorem ins_of {N M : Int} {a b p : Pt} (h : Par N M a b p) (hab : a ≠ b) (ha : Fit a) (hb : Fit b) (hp : Fit p) : Ins a b p := by
  obtain ⟨h0, h1, h2, h3⟩ := h
  have c1 := conv (by omega) (by omega) (by omega) h2
  have c2 := conv (by omega) (by omega) (by omega) h3
  have hne : ¬ (b.1 - a.1 = 0 ∧ b.2 - a.2 = 0) := by
    rintro ⟨e1, e2⟩
    exact hab (by cases a; cases b; simp at *; omega)
  refine ⟨⟨hab, ⟨ha, hb, hp⟩, ?_, by unfold Btw; omega, by unfold Btw; omega⟩, ?_, ?_⟩
  · have : N * crs a b p = 0 := by
      have e : N * crs a b p = (b.1 - a.1) * (N * (p.2 - a.2)) - (b.2 - a.2) * (N * (p.1 - a.1)) := by unfold crs; grind
      rw [e, h2, h3]; grind
    exact mul_zero_pos (by omega) this
  · rintro rfl
    have e1 : M * (b.1 - p.1) = 0 := by rw [← h2]; simp
    have e2 : M * (b.2 - p.2) = 0 := by rw [← h3]; simp
    exact hne ⟨mul_zero_pos h0 e1, mul_zero_pos h0 e2⟩
  · rintro rfl
    have e1 : (N - M) * (p.1 - a.1) = 0 := by rw [Int.sub_mul, h2]; omega
    have e2 : (N - M) * (p.2 - a.2) = 0 := by rw [Int.sub_mul, h3]; omega
    exact hne ⟨mul_zero_pos (by omega) e1, mul_zero_pos (by omega) e2⟩
theorem par_swap {N M : Int} {a b p : Pt} (h : Par N M a b p) : Par N (N - M) b a p := by
  obtain ⟨h0, h1, h2, h3⟩ := h
  exact ⟨by omega, by omega, by grind, by grind⟩
theorem crs_part {N M : Int} {a b p : Pt} (h : Par N M a b p) (c d : Pt) : N * crs c d p = (N - M) * crs c d a + M * crs c d b := by
  obtain ⟨_, _, h2, h3⟩ := h
  have e : N * crs c d p - ((N - M) * crs c d a + M * crs c d b) = (d.1 - c.1) * (N * (p.2 - a.2) - M * (b.2 - a.2)) - (d.2 - c.2) * (N * (p.1 - a.1) - M * (b.1 - a.1)) := by unfold crs; grind
  rw [h2, h3] at e
  simp at e
  omega
theorem crs_first {N M : Int} {a b p : Pt} (h : Par N M a b p) (x : Pt) : N * crs a p x = M * crs a b x := by
  obtain ⟨_, _, h2, h3⟩ := h
  have e : N * crs a p x = (N * (p.1 - a.1)) * (x.2 - a.2) - (N * (p.2 - a.2)) * (x.1 - a.1) := by unfold crs; grind
  rw [e, h2, h3]; unfold crs; grind
theorem crs_swap (a b x : Pt) : crs b a x = -crs a b x := by unfold crs; grind
theorem crs_last {N M : Int} {a b p : Pt} (h : Par N M a b p) (x : Pt) : N * crs p b x = (N - M) * crs a b x := by
  have := crs_first (par_swap h) x
  rw [crs_swap p b, crs_swap a b] at this
  grind
theorem sg_scale {N K x y : Int} (hN : 0 < N) (hK : 0 < K) (h : N * y = K * x) : sg y = sg x := by
  rcases Int.lt_trichotomy x 0 with hx | hx | hx
  · have h1 : N * y < 0 := by rw [h]; exact Int.mul_neg_of_pos_of_neg hK hx
    have h2 : y < 0 := by
      apply Decidable.byContradiction
      intro hy
      have := Int.mul_nonneg (Int.le_of_lt hN) (show 0 ≤ y by omega)
      omega
    rw [sg, sg, if_neg (by omega), if_pos h2, if_neg (by omega), if_pos hx]
  · subst hx
    have : y = 0 := mul_zero_pos hN (by rw [h]; simp)
    rw [this]
  · have h1 : 0 < N * y := by rw [h]; exact Int.mul_pos hK hx
    have h2 : 0 < y := by
      apply Decidable.byContradiction
      intro hy
      have := Int.mul_nonneg (Int.le_of_lt hN) (show 0 ≤ -y by omega)
      rw [Int.mul_neg] at this
      omega
    rw [sg, sg, if_pos h2, if_pos hx]
theorem fit_of {a b p : Pt} (h : Ins a b p) : Fit a ∧ Fit b ∧ Fit p := h.1.2.1
theorem on_swap {a b p : Pt} : On a b p ↔ On b a p := by
  have key : ∀ {a b p : Pt}, On a b p → On b a p := by
    rintro a b p ⟨h1, ⟨f1, f2, f3⟩, h3, h4, h5⟩
    refine ⟨Ne.symm h1, ⟨f2, f1, f3⟩, by unfold crs at *; grind, by unfold Btw at *; omega, by unfold Btw at *; omega⟩
  exact ⟨key, key⟩
theorem ins_swap {a b p : Pt} : Ins a b p ↔ Ins b a p := by
  unfold Ins
  rw [on_swap]
  exact ⟨fun ⟨h1, h2, h3⟩ => ⟨h1, h3, h2⟩, fun ⟨h1, h2, h3⟩ => ⟨h1, h3, h2⟩⟩
/-- From a to p, which lies inside a b: what lies there lies inside a b. -/
theorem ins_trans {a b p c : Pt} (hp : Ins a b p) (hc : Ins a p c) : Ins a b c := by
  obtain ⟨N, M, h⟩ := par_of hp
  obtain ⟨K, L, h'⟩ := par_of hc
  refine ins_of (N := N * K) (M := M * L) ⟨Int.mul_pos h.1 h'.1, ?_, ?_, ?_⟩ hp.1.1 (fit_of hp).1 (fit_of hp).2.1 (fit_of hc).2.2
  · obtain ⟨h1, h2, _, _⟩ := h
    obtain ⟨h3, h4, _, _⟩ := h'
    exact Int.lt_of_lt_of_le (Int.mul_lt_mul_of_pos_right h2 h3) (Int.mul_le_mul_of_nonneg_left (by omega) (by omega))
  · have := h.2.2.1; have := h'.2.2.1; grind
  · have := h.2.2.2; have := h'.2.2.2; grind
/-- What lies inside a b lies before p, is p, or lies behind it. -/
theorem ins_split {a b p c : Pt} (hp : Ins a b p) (hc : Ins a b c) : c = p ∨ Ins a p c ∨ Ins p b c := by
  obtain ⟨N, M, h1, h2, h3, h4⟩ := par_of hp
  obtain ⟨K, L, k1, k2, k3, k4⟩ := par_of hc
  have hN : 0 < N := by omega
  have hK : 0 < K := by omega
  rcases Int.lt_trichotomy (L * N) (M * K) with e | e | e
  · right; left
    refine ins_of (N := K * M) (M := L * N) ⟨Int.mul_pos k1 hN, by rw [Int.mul_comm K]; exact e, by grind, by grind⟩ (Ne.symm hp.2.1) (fit_of hp).1 (fit_of hp).2.2 (fit_of hc).2.2
  · left
    have hNK : 0 < N * K := Int.mul_pos hN hK
    have e1 : (N * K) * (c.1 - p.1) = 0 := by grind
    have e2 : (N * K) * (c.2 - p.2) = 0 := by grind
    have := mul_zero_pos hNK e1
    have := mul_zero_pos hNK e2
    cases c; cases p; simp at *; omega
  · right; right
    rw [ins_swap]
    refine ins_of (N := K * (N - M)) (M := (K - L) * N) ⟨Int.mul_pos (by omega) hN, by grind, by grind, by grind⟩ (Ne.symm hp.2.2) (fit_of hp).2.1 (fit_of hp).2.2 (fit_of hc).2.2
end Go.Proofs.Ytjbimhfhapnjeaa.Pure
