/- The plain law of WithinBox. -/
import Derived.Test.YtgbgihofehmjpaaW5
set_option linter.unusedVariables false
set_option linter.unusedSimpArgs false
set_option linter.unusedSectionVars false
namespace Go.Proofs.Ytgbgihofehmjpaa.Pure
open Go.RowKit Go.Proofs.Ytgbgihofehmjpaa.AM
def box (x0 x1 y0 y1 : Int) : List Sg := [((x0, y0), (x1, y0)), ((x1, y0), (x1, y1)), ((x1, y1), (x0, y1)), ((x0, y1), (x0, y0))]
theorem zero_mul_pos {w x : Int} (h : 0 < w) : (w * x = 0 ↔ x = 0) ∧ (0 < w * x ↔ 0 < x) ∧ (w * x < 0 ↔ x < 0) := by
  rcases Int.lt_trichotomy x 0 with hx | hx | hx
  · have := Int.mul_neg_of_pos_of_neg h hx; omega
  · subst hx; simp
  · have := Int.mul_pos h hx; omega
section
variable {x0 x1 y0 y1 : Int} {q : Pt} (hx : x0 < x1) (hy : y0 < y1) (f0 : Fit (x0, y0)) (f1 : Fit (x1, y1)) (hq : Fit q)
include hx hy f0 f1 hq
theorem fits4 : Fit (x0, y0) ∧ Fit (x1, y0) ∧ Fit (x1, y1) ∧ Fit (x0, y1) := by unfold Fit at *; dsimp only at *; omega
theorem box_rim : rim (box x0 x1 y0 y1) q = true ↔ ((x0 ≤ q.1 ∧ q.1 ≤ x1 ∧ y0 ≤ q.2 ∧ q.2 ≤ y1) ∧ ¬ (x0 < q.1 ∧ q.1 < x1 ∧ y0 < q.2 ∧ q.2 < y1)) := by
  obtain ⟨a1, a2, a3, a4⟩ := fits4 hx hy f0 f1 hq
  have c1 : crs (x0, y0) (x1, y0) q = (x1 - x0) * (q.2 - y0) := by unfold crs; dsimp only; grind
  have c2 : crs (x1, y0) (x1, y1) q = (y1 - y0) * (x1 - q.1) := by unfold crs; dsimp only; grind
  have c3 : crs (x1, y1) (x0, y1) q = (x1 - x0) * (y1 - q.2) := by unfold crs; dsimp only; grind
  have c4 : crs (x0, y1) (x0, y0) q = (y1 - y0) * (q.1 - x0) := by unfold crs; dsimp only; grind
  have z1 := (zero_mul_pos (x := q.2 - y0) (show 0 < x1 - x0 by omega)).1
  have z2 := (zero_mul_pos (x := x1 - q.1) (show 0 < y1 - y0 by omega)).1
  have z3 := (zero_mul_pos (x := y1 - q.2) (show 0 < x1 - x0 by omega)).1
  have z4 := (zero_mul_pos (x := q.1 - x0) (show 0 < y1 - y0 by omega)).1
  rw [← c1] at z1; rw [← c2] at z2; rw [← c3] at z3; rw [← c4] at z4
  have ne : ∀ {a b c d : Int}, (a ≠ c ∨ b ≠ d) → ((a, b) : Pt) ≠ (c, d) := by
    intro a b c d h e; rw [Prod.mk.injEq] at e; omega
  have o1 : On (x0, y0) (x1, y0) q ↔ (q.2 = y0 ∧ x0 ≤ q.1 ∧ q.1 ≤ x1) := by
    unfold On; rw [z1]; unfold Btw; dsimp only
    exact ⟨fun h => by omega, fun h => ⟨ne (by omega), ⟨a1, a2, hq⟩, by omega, by omega, by omega⟩⟩
  have o2 : On (x1, y0) (x1, y1) q ↔ (q.1 = x1 ∧ y0 ≤ q.2 ∧ q.2 ≤ y1) := by
    unfold On; rw [z2]; unfold Btw; dsimp only
    exact ⟨fun h => by omega, fun h => ⟨ne (by omega), ⟨a2, a3, hq⟩, by omega, by omega, by omega⟩⟩
  have o3 : On (x1, y1) (x0, y1) q ↔ (q.2 = y1 ∧ x0 ≤ q.1 ∧ q.1 ≤ x1) := by
    unfold On; rw [z3]; unfold Btw; dsimp only
    exact ⟨fun h => by omega, fun h => ⟨ne (by omega), ⟨a3, a4, hq⟩, by omega, by omega, by omega⟩⟩
  have o4 : On (x0, y1) (x0, y0) q ↔ (q.1 = x0 ∧ y0 ≤ q.2 ∧ q.2 ≤ y1) := by
    unfold On; rw [z4]; unfold Btw; dsimp only
    exact ⟨fun h => by omega, fun h => ⟨ne (by omega), ⟨a4, a1, hq⟩, by omega, by omega, by omega⟩⟩
  unfold rim box
  simp only [List.any_cons, List.any_nil, Bool.or_eq_true, decide_eq_true_eq, Bool.false_eq_true, or_false]
  rw [o1, o2, o3, o4]
  omega
theorem box_par (hr : ¬ rim (box x0 x1 y0 y1) q = true) : par (box x0 x1 y0 y1) q = decide (x0 < q.1 ∧ q.1 < x1 ∧ y0 < q.2 ∧ q.2 < y1) := by
  rw [box_rim hx hy f0 f1 hq] at hr
  have c2 : crs (x1, y0) (x1, y1) q = (y1 - y0) * (x1 - q.1) := by unfold crs; dsimp only; grind
  have c4 : crs (x0, y1) (x0, y0) q = (y1 - y0) * (q.1 - x0) := by unfold crs; dsimp only; grind
  have z2 := (zero_mul_pos (x := x1 - q.1) (show 0 < y1 - y0 by omega)).2
  have z4 := (zero_mul_pos (x := q.1 - x0) (show 0 < y1 - y0 by omega)).2
  rw [← c2] at z2; rw [← c4] at z4
  have r1 : ¬ Rgt (x0, y0) (x1, y0) q := by unfold Rgt; dsimp only; omega
  have r3 : ¬ Rgt (x1, y1) (x0, y1) q := by unfold Rgt; dsimp only; omega
  have r2 : Rgt (x1, y0) (x1, y1) q ↔ (y0 ≤ q.2 ∧ q.2 < y1 ∧ q.1 < x1) := by unfold Rgt; dsimp only; omega
  have r4 : Rgt (x0, y1) (x0, y0) q ↔ (y0 ≤ q.2 ∧ q.2 < y1 ∧ q.1 < x0) := by unfold Rgt; dsimp only; omega
  unfold box
  rw [par_cons, par_cons, par_cons, par_cons]
  rw [decide_eq_false r1, decide_eq_false r3, decide_eq_decide.2 r2, decide_eq_decide.2 r4, show par [] q = false from rfl]
  rw [Bool.false_xor, Bool.false_xor, Bool.xor_false]
  by_cases p1 : y0 ≤ q.2 ∧ q.2 < y1 ∧ q.1 < x1
  · by_cases p2 : y0 ≤ q.2 ∧ q.2 < y1 ∧ q.1 < x0
    · rw [decide_eq_true p1, decide_eq_true p2, decide_eq_false (by omega)]; rfl
    · rw [decide_eq_true p1, decide_eq_false p2, decide_eq_true (by omega)]; rfl
  · by_cases p2 : y0 ≤ q.2 ∧ q.2 < y1 ∧ q.1 < x0
    · omega
    · rw [decide_eq_false p1, decide_eq_false p2, decide_eq_false (by omega)]; rfl
theorem box_whr : whr (box x0 x1 y0 y1) q = if x0 < q.1 ∧ q.1 < x1 ∧ y0 < q.2 ∧ q.2 < y1 then 1 else if x0 ≤ q.1 ∧ q.1 ≤ x1 ∧ y0 ≤ q.2 ∧ q.2 ≤ y1 then 0 else -1 := by
  unfold whr
  by_cases h : rim (box x0 x1 y0 y1) q = true
  · have h' := (box_rim hx hy f0 f1 hq).1 h
    rw [if_pos h, if_neg h'.2, if_pos h'.1]
  · have h' := h
    rw [box_rim hx hy f0 f1 hq] at h'
    rw [if_neg h, box_par hx hy f0 f1 hq h]
    by_cases c : x0 < q.1 ∧ q.1 < x1 ∧ y0 < q.2 ∧ q.2 < y1
    · rw [decide_eq_true c, if_pos rfl, if_pos c]
    · have c2 : ¬ (x0 ≤ q.1 ∧ q.1 ≤ x1 ∧ y0 ≤ q.2 ∧ q.2 ≤ y1) := by omega
      rw [decide_eq_false c, if_neg c, if_neg c2]; rfl
end
theorem box_at (g : Int) (hg : 1 ≤ g) {x0 x1 y0 y1 : Int} {q : Pt} (hx : x0 < x1) (hy : y0 < y1) (f0 : Fit (x0, y0)) (f1 : Fit (x1, y1)) (s0 : Fit (g * x0, g * y0)) (s1 : Fit (g * x1, g * y1)) (hq : Fit q) :
    atg g (box x0 x1 y0 y1) q = (if g * x0 < q.1 ∧ q.1 < g * x1 ∧ g * y0 < q.2 ∧ q.2 < g * y1 then 1 else if g * x0 ≤ q.1 ∧ q.1 ≤ g * x1 ∧ g * y0 ≤ q.2 ∧ q.2 ≤ g * y1 then 0 else -1, 0) := by
  have hgx : g * x0 < g * x1 := Int.mul_lt_mul_of_pos_left hx (by omega)
  have hgy : g * y0 < g * y1 := Int.mul_lt_mul_of_pos_left hy (by omega)
  obtain ⟨a1, a2, a3, a4⟩ := fits4 hx hy f0 f1 hq
  obtain ⟨b1, b2, b3, b4⟩ := fits4 hgx hgy s0 s1 hq
  have ne : ∀ {a b c d : Int}, (a ≠ c ∨ b ≠ d) → ((a, b) : Pt) ≠ (c, d) := by
    intro a b c d h e; rw [Prod.mk.injEq] at e; omega
  have ok : okg g (box x0 x1 y0 y1) = true := by
    unfold okg box
    simp only [List.all_cons, List.all_nil, Bool.and_true, Bool.and_eq_true, decide_eq_true_eq]
    unfold OkG sc
    exact ⟨⟨ne (by omega), ⟨a1, a2⟩, b1, b2⟩, ⟨ne (by omega), ⟨a2, a3⟩, b2, b3⟩, ⟨ne (by omega), ⟨a3, a4⟩, b3, b4⟩, ⟨ne (by omega), ⟨a4, a1⟩, b4, b1⟩⟩
  unfold atg
  rw [if_pos ⟨ok, hq⟩]
  have e : scl g (box x0 x1 y0 y1) = box (g * x0) (g * x1) (g * y0) (g * y1) := rfl
  rw [e, box_whr hgx hgy s0 s1 hq]
theorem box_law (m : Nat) (lo : Pt) (wide high : Int) (q : Pt) (hw : 0 ≤ wide ∧ wide ≤ 65535) (hh : 0 ≤ high ∧ high ≤ 65535) : g_parquetlaw09_WithinBox (m + 400) lo wide high q = some true := by
  unfold g_parquetlaw09_WithinBox b_parquetlaw09_WithinBox
  rw [known_f]
  simp only [meet, bnd_s, etaP]
  rw [w64_id (x := wide) (by omega) (by omega), w64_id (x := high) (by omega) (by omega), w64_id (x := 1 + wide) (by omega) (by omega), w64_id (x := 1 + high) (by omega) (by omega)]
  obtain ⟨w, hw'⟩ : ∃ w, w = 1 + wide := ⟨_, rfl⟩
  obtain ⟨h, hh'⟩ : ∃ h, h = 1 + high := ⟨_, rfl⟩
  rw [← hw', ← hh']
  by_cases k1 : lo.1 > 1073741824
  · rw [bif_T k1]; rfl
  rw [bif_F k1]
  by_cases k2 : lo.1 < -1073741824
  · rw [bif_T k2]; rfl
  rw [bif_F k2]
  by_cases k3 : lo.2 > 1073741824
  · rw [bif_T k3]; rfl
  rw [bif_F k3]
  by_cases k4 : lo.2 < -1073741824
  · rw [bif_T k4]; rfl
  rw [bif_F k4]
  by_cases k5 : q.1 > 1073741824
  · rw [bif_T k5]; rfl
  rw [bif_F k5]
  by_cases k6 : q.1 < -1073741824
  · rw [bif_T k6]; rfl
  rw [bif_F k6]
  by_cases k7 : q.2 > 1073741824
  · rw [bif_T k7]; rfl
  rw [bif_F k7]
  by_cases k8 : q.2 < -1073741824
  · rw [decide_eq_true k8]; rfl
  rw [decide_eq_false k8, cF]
  rw [w64_id (x := lo.1 + w) (by omega) (by omega), w64_id (x := lo.2 + h) (by omega) (by omega)]
  obtain ⟨X, Y⟩ := lo
  obtain ⟨u, v⟩ := q
  dsimp only at *
  have hfq : Fit (u, v) := by unfold Fit; dsimp only; omega
  have hf0 : Fit (X, Y) := by unfold Fit; dsimp only; omega
  have hf1 : Fit (X + w, Y + h) := by unfold Fit; dsimp only; omega
  have ec : cyc [(X, Y), (X + w, Y), (X + w, Y + h), (X, Y + h)] = box X (X + w) Y (Y + h) := rfl
  have el : tkL [(X, Y), (X + w, Y), (X + w, Y + h), (X, Y + h), (u, v)] 4 = [(X, Y), (X + w, Y), (X + w, Y + h), (X, Y + h)] := rfl
  have ea : ([(X, Y), (X + w, Y), (X + w, Y + h), (X, Y + h), (u, v)] : List Pt) = [(X, Y), (X + w, Y), (X + w, Y + h), (X, Y + h)] ++ [(u, v)] := rfl
  rw [gd_t (by rfl), el, ring_f m _ (by simp), bnd_s]
  have at1 : ∀ g x, atv [(X, Y), (X + w, Y), (X + w, Y + h), (X, Y + h), (u, v)] (ringv [(X, Y), (X + w, Y), (X + w, Y + h), (X, Y + h)].length) g x = atg g (box X (X + w) Y (Y + h)) x := by
    intro g x; rw [ea, atv_ring, ec]
  rw [At_f m _ _ _ (by simp [ringv_len]), bnd_s, at1, Halfway_f m _ _ _ _ (by simp [ringv_len]), Third_f m _ _ _ _ _ (by simp [ringv_len]), fitP]
  simp only [bnd_s]
  have e1 := box_at 1 (by omega) (q := (u, v)) (show X < X + w by omega) (show Y < Y + h by omega) hf0 hf1 (by rw [Int.one_mul, Int.one_mul]; exact hf0) (by rw [Int.one_mul, Int.one_mul]; exact hf1) hfq
  simp only [Int.one_mul] at e1
  have fB : Fit (X + w, Y) := by unfold Fit; dsimp only; omega
  have i0 : OkI [(X, Y), (X + w, Y), (X + w, Y + h), (X, Y + h), (u, v)] 0 := ⟨⟨by omega, by simp⟩, hf0⟩
  have i1 : OkI [(X, Y), (X + w, Y), (X + w, Y + h), (X, Y + h), (u, v)] 1 := ⟨⟨by omega, by simp⟩, fB⟩
  have i4 : OkI [(X, Y), (X + w, Y), (X + w, Y + h), (X, Y + h), (u, v)] 4 := ⟨⟨by omega, by simp⟩, hfq⟩
  have m2 : midv [(X, Y), (X + w, Y), (X + w, Y + h), (X, Y + h), (u, v)] (ringv [(X, Y), (X + w, Y), (X + w, Y + h), (X, Y + h)].length) [0, 4] = atg 2 (box X (X + w) Y (Y + h)) (0 + X + u, 0 + Y + v) := by
    unfold midv
    rw [oki_cons, oki_cons, decide_eq_true i0, decide_eq_true i4]
    exact at1 2 _
  have m3 : midv [(X, Y), (X + w, Y), (X + w, Y + h), (X, Y + h), (u, v)] (ringv [(X, Y), (X + w, Y), (X + w, Y + h), (X, Y + h)].length) [1, 4, 4] = atg 3 (box X (X + w) Y (Y + h)) (0 + (X + w) + u + u, 0 + Y + v + v) := by
    unfold midv
    rw [oki_cons, oki_cons, oki_cons, decide_eq_true i1, decide_eq_true i4]
    exact at1 3 _
  have e2 := box_at 2 (by omega) (q := (0 + X + u, 0 + Y + v)) (show X < X + w by omega) (show Y < Y + h by omega) hf0 hf1 (by unfold Fit; dsimp only; omega) (by unfold Fit; dsimp only; omega) (by unfold Fit; dsimp only; omega)
  have e3 := box_at 3 (by omega) (q := (0 + (X + w) + u + u, 0 + Y + v + v)) (show X < X + w by omega) (show Y < Y + h by omega) hf0 hf1 (by unfold Fit; dsimp only; omega) (by unfold Fit; dsimp only; omega) (by unfold Fit; dsimp only; omega)
  obtain ⟨z2, ez2, hz2⟩ : ∃ z, atg 2 (box X (X + w) Y (Y + h)) (0 + X + u, 0 + Y + v) = (z, 0) ∧ (u > X ∧ u < X + w ∧ v > Y ∧ v < Y + h → z = 1) := ⟨_, e2, fun c => if_pos (by dsimp only; omega)⟩
  obtain ⟨z3, ez3, hz3⟩ : ∃ z, atg 3 (box X (X + w) Y (Y + h)) (0 + (X + w) + u + u, 0 + Y + v + v) = (z, 0) ∧ (u > X ∧ u < X + w ∧ v > Y ∧ v < Y + h → z = 1) := ⟨_, e3, fun c => if_pos (by dsimp only; omega)⟩
  clear e2 e3
  rw [m2, m3, e1, ez2, ez3, decide_eq_true hfq]
  dsimp only
  simp only [decide_true, Bool.not_true, cT, cF]
  by_cases hin : u > X ∧ u < X + w ∧ v > Y ∧ v < Y + h
  · rw [bif_T hin.1, bif_T hin.2.1, bif_T hin.2.2.1, decide_eq_true hin.2.2.2]
    rw [bif_T (show u ≥ X by omega), bif_T (show u ≤ X + w by omega), bif_T (show v ≥ Y by omega), decide_eq_true (show v ≤ Y + h by omega)]
    rw [hz2 hin, hz3 hin, if_pos (show X < u ∧ u < X + w ∧ Y < v ∧ v < Y + h by omega)]
    rfl
  · rw [if_neg (show ¬ (X < u ∧ u < X + w ∧ Y < v ∧ v < Y + h) by omega)]
    by_cases hon : u ≥ X ∧ u ≤ X + w ∧ v ≥ Y ∧ v ≤ Y + h
    · rw [if_pos (show X ≤ u ∧ u ≤ X + w ∧ Y ≤ v ∧ v ≤ Y + h by omega)]
      rw [decide_eq_true hon.1, decide_eq_true hon.2.1, decide_eq_true hon.2.2.1, decide_eq_true hon.2.2.2]
      by_cases c1 : u > X
      · rw [decide_eq_true c1]
        by_cases c2 : u < X + w
        · rw [decide_eq_true c2]
          by_cases c3 : v > Y
          · rw [decide_eq_true c3, decide_eq_false (show ¬ v < Y + h by omega)]; rfl
          · rw [decide_eq_false c3]; rfl
        · rw [decide_eq_false c2]; rfl
      · rw [decide_eq_false c1]; rfl
    · rw [if_neg (show ¬ (X ≤ u ∧ u ≤ X + w ∧ Y ≤ v ∧ v ≤ Y + h) by omega)]
      by_cases d1 : u ≥ X
      · rw [decide_eq_true d1]
        by_cases d2 : u ≤ X + w
        · rw [decide_eq_true d2]
          by_cases d3 : v ≥ Y
          · have d4 : ¬ v ≤ Y + h := by omega
            rw [decide_eq_true d3, decide_eq_false d4, decide_eq_false (show ¬ v < Y + h by omega)]
            cases decide (u > X) <;> cases decide (u < X + w) <;> cases decide (v > Y) <;> rfl
          · rw [decide_eq_false d3, decide_eq_false (show ¬ v > Y by omega)]
            cases decide (u > X) <;> cases decide (u < X + w) <;> rfl
        · rw [decide_eq_false d2, decide_eq_false (show ¬ u < X + w by omega)]
          cases decide (u > X) <;> rfl
      · rw [decide_eq_false d1, decide_eq_false (show ¬ u > X by omega)]; rfl
theorem rng16 {x : Int} (h : Kd.good (.int .u16) x) : 0 ≤ x ∧ x ≤ 65535 := by
  have h' : (Lit.int .u16 x).wf = true := h
  simp only [Lit.wf, decide_eq_true_eq, Bool.and_eq_true] at h'
  simpa [IntKind.min, IntKind.max, IntKind.signed, IntKind.bits] using h'
theorem WithinBox (x0 : (Int × Int)) (x1 : Int) (x2 : Int) (x3 : (Int × Int)) (g0 : Kd.good (.pair kI kI) x0) (g1 : Kd.good (.int .u16) x1) (g2 : Kd.good (.int .u16) x2) (g3 : Kd.good (.pair kI kI) x3) : ∃ k, g_parquetlaw09_WithinBox k x0 x1 x2 x3 = some true :=
  ⟨400, by have := box_law 0 x0 x1 x2 x3 (rng16 g1) (rng16 g2); rwa [Nat.zero_add] at this⟩
end Go.Proofs.Ytgbgihofehmjpaa.Pure
