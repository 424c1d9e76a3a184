-- PRINTED by print.py (a twelfth state) out of the translation. Not trusted: Lean checks it.
import Derived.Test.YtfmeicojiadeiaaPx0
import Derived.Test.YtfmeicojiadeiaaPx1
namespace Go.Proofs.Ytfmeicojiadeiaa.P
open Go.RowKit Go.Proofs.YtfmeicojiadeiaaW.PrintWords Go.Proofs.YtfmeicojiadeiaaW.PrintLast Go.Proofs.YtfmeicojiadeiaaW.PrintMore
attribute [local go_sem] max2_int min2_int max_two min_two max_three min_three max_four min_four   -- for this text's walks alone
set_option linter.unusedVariables false
set_option linter.unusedSimpArgs false

attribute [local go_sem high] eqA28
/-! ### parquetref07_Twice: function 17 -/
mutual
def parquetref07_Twice.l0 : Nat → List (S28) → Int → Option (Int × Int × Bool)
  | 0, _, _ => none
  | k + 1, x0, x5 => if x5 < (x0.length : Int) then (parquetref07_Twice.l1 k x0 x5 (wrap64 (x5 + 1))) else (some (0, 0, false))
def parquetref07_Twice.l1 : Nat → List (S28) → Int → Int → Option (Int × Int × Bool)
  | 0, _, _, _ => none
  | k + 1, x0, x5, x6 => if x6 < (x0.length : Int) then (if 0 ≤ x5 then (if x5 < (x0.length : Int) then (if 0 ≤ x6 then (if (((rd_T28 x0 x5).f0) == ((rd_T28 x0 x6).f0) && (((rd_T28 x0 x5).f1) == ((rd_T28 x0 x6).f1))) = true then (some (x5, x6, true)) else (parquetref07_Twice.l1 k x0 x5 (wrap64 (x6 + 1)))) else (none)) else (none)) else (none)) else (parquetref07_Twice.l0 k x0 (wrap64 (x5 + 1)))
end
def parquetref07_Twice.f (k : Nat) (l0 : List (S28)) : Option (Int × Int × Bool) := parquetref07_Twice.l0 k l0 0
theorem parquetref07_Twice.mono_l : ∀ k, (∀ y0 y1, LeO (parquetref07_Twice.l0 k y0 y1) (parquetref07_Twice.l0 (k + 1) y0 y1)) ∧ (∀ y0 y1 y2, LeO (parquetref07_Twice.l1 k y0 y1 y2) (parquetref07_Twice.l1 (k + 1) y0 y1 y2))
  | 0 => ⟨fun _ _ r h => by simp [parquetref07_Twice.l0] at h, fun _ _ _ r h => by simp [parquetref07_Twice.l1] at h⟩
  | k + 1 => by
    obtain ⟨ih0, ih1⟩ := parquetref07_Twice.mono_l k
    refine ⟨?_, ?_⟩
    · intro y0 y1
      unfold parquetref07_Twice.l0
      repeat' first
      | (with_reducible exact ih0 _ _)
      | (with_reducible exact ih1 _ _ _)
      | (with_reducible exact LeO.refl _)
      | (with_reducible exact LeO.none _)
      | (with_reducible refine LeO.ite ?_ ?_)
      | (with_reducible refine LeO.bind ?_ (fun _ => ?_))
      | exact ih0 _ _
      | exact ih1 _ _ _
      | exact LeO.none _
      | refine LeO.ite ?_ ?_
      | refine LeO.bind ?_ (fun _ => ?_)
    · intro y0 y1 y2
      unfold parquetref07_Twice.l1
      repeat' first
      | (with_reducible exact ih0 _ _)
      | (with_reducible exact ih1 _ _ _)
      | (with_reducible exact LeO.refl _)
      | (with_reducible exact LeO.none _)
      | (with_reducible refine LeO.ite ?_ ?_)
      | (with_reducible refine LeO.bind ?_ (fun _ => ?_))
      | exact ih0 _ _
      | exact ih1 _ _ _
      | exact LeO.none _
      | refine LeO.ite ?_ ?_
      | refine LeO.bind ?_ (fun _ => ?_)
theorem parquetref07_Twice.mono : ∀ a0 k, LeO (parquetref07_Twice.f k a0) (parquetref07_Twice.f (k + 1) a0) := by
  intro a0 k
  obtain ⟨ih0, ih1⟩ := parquetref07_Twice.mono_l k
  unfold parquetref07_Twice.f
  repeat' first
      | (with_reducible exact ih0 _ _)
      | (with_reducible exact ih1 _ _ _)
      | (with_reducible exact LeO.refl _)
      | (with_reducible exact LeO.none _)
      | (with_reducible refine LeO.ite ?_ ?_)
      | (with_reducible refine LeO.bind ?_ (fun _ => ?_))
      | exact ih0 _ _
      | exact ih1 _ _ _
      | exact LeO.none _
      | refine LeO.ite ?_ ?_
      | refine LeO.bind ?_ (fun _ => ?_)
set_option maxHeartbeats 8000000 in
set_option maxRecDepth 100000 in
theorem parquetref07_Twice.calls (k : Nat) (A0 : Option Addr) (c0 : Nat) (l0 : List (S28)) (r1 : Int) (r2 : Int) (r3 : Bool) (w : World) (hr0 : Kd.C k28 w A0 l0.length l0) (hc0 : l0.length ≤ c0) (h : parquetref07_Twice.f k l0 = some (r1, r2, r3)) :
    Calls Try.prog 17 #[.slice A0 l0.length c0] w fun e w' => e = .returned (.tuple #[.int .i64 r1, .int .i64 r2, .bool r3]) ∧ Drawn0 w w' := by
  have hu28 := Try.underlying28
  have HR0 := Aside0.mk hr0
  have HC0 := Aside0.mk hc0
  clear hr0 hc0
  have H : (parquetref07_Twice.l0 k l0 0) = some (r1, r2, r3) := h
  clear h
  have H' := Aside0.mk H
  clear H
  go_enter Try.func17, Try.ntmps17
  go_wp2
  repeat (go_quiet (fail); try go_wp2)
  go_loopg [5] k (fun kq v5 w' => ∃ (x5_1 : Int), v5 = .int .i64 x5_1 ∧ Aside0 (parquetref07_Twice.l0 kq l0 x5_1 = some (r1, r2, r3)) ∧ Aside0 (kq ≤ k) ∧ Drawn0 w w')
  case atStart => exact ⟨(0), (by first | rfl | (simp; done) | (simp [*]; done)), H', ⟨Nat.le_refl _⟩, by repeat (first | exact Drawn0.refl _ | apply Drawn0.step)⟩
  case round =>
    clear H'
    (try clear c1)
    obtain ⟨x5_1, rfl, HA, HK1, ⟨m1, rfl⟩⟩ := hrel
    cases gk with
    | zero => exact absurd HA.out (by simp [parquetref07_Twice.l0])
    | succ k1 =>
      have H := HA.out
      clear HA
      simp only [parquetref07_Twice.l0] at H
      by_cases c2 : x5_1 < (l0.length : Int)
      · rw [if_pos c2] at H
        have c2b0 : decide (x5_1 < (l0.length : Int)) = true := decide_eq_true c2
        clear c2
        have H' := Aside0.mk H
        clear H
        go_wp2
        repeat (go_quiet (fail); try go_wp2)
        go_loopg [6] k1 (fun kq v6 w' => ∃ (x6_2 : Int), v6 = .int .i64 x6_2 ∧ Aside0 (parquetref07_Twice.l1 kq l0 x5_1 x6_2 = some (r1, r2, r3)) ∧ Aside0 (kq ≤ k1) ∧ Drawn0 w w')
        case atStart => exact ⟨(wrap64 (x5_1 + 1)), (by first | rfl | (simp; done) | (simp [*]; done)), H', ⟨Nat.le_refl _⟩, by repeat (first | exact Drawn0.refl _ | apply Drawn0.step)⟩
        case round =>
          clear H'
          (try clear c1); (try clear c2); (try clear c2b0); (try clear p2)
          obtain ⟨x6_2, rfl, HA, HK2, ⟨m2, rfl⟩⟩ := hrel
          cases gk with
          | zero => exact absurd HA.out (by simp [parquetref07_Twice.l1])
          | succ k2 =>
            have H := HA.out
            clear HA
            simp only [parquetref07_Twice.l1] at H
            by_cases c3 : x6_2 < (l0.length : Int)
            · rw [if_pos c3] at H
              have c3b0 : decide (x6_2 < (l0.length : Int)) = true := decide_eq_true c3
              clear c3
              by_cases c4 : 0 ≤ x5_1
              · rw [if_pos c4] at H
                have c4b0 : decide (0 ≤ x5_1) = true := decide_eq_true c4
                clear c4
                by_cases c5 : x5_1 < (l0.length : Int)
                · rw [if_pos c5] at H
                  have c5b0 : decide (x5_1 < (l0.length : Int)) = true := decide_eq_true c5
                  clear c5
                  by_cases c6 : 0 ≤ x6_2
                  · rw [if_pos c6] at H
                    have c6b0 : decide (0 ≤ x6_2) = true := decide_eq_true c6
                    clear c6
                    by_cases c7 : (((rd_T28 l0 x5_1).f0) == ((rd_T28 l0 x6_2).f0) && (((rd_T28 l0 x5_1).f1) == ((rd_T28 l0 x6_2).f1))) = true
                    · rw [if_pos c7] at H
                      have c7b0 : (((rd_T28 l0 x5_1).f0) == ((rd_T28 l0 x6_2).f0) && (((rd_T28 l0 x5_1).f1) == ((rd_T28 l0 x6_2).f1))) = true := c7
                      (try (have c7b1 : decide (((rd_T28 l0 x5_1).f0) = ((rd_T28 l0 x6_2).f0) && (((rd_T28 l0 x5_1).f1) == ((rd_T28 l0 x6_2).f1))) = true := by simpa using c7))
                      (try (have c7b2 : (((rd_T28 l0 x5_1).f0) == ((rd_T28 l0 x6_2).f0) && (((rd_T28 l0 x5_1).f1) == ((rd_T28 l0 x6_2).f1))) = true := by simpa using c7))
                      (try (have c7b3 : (!(((rd_T28 l0 x5_1).f0) == ((rd_T28 l0 x6_2).f0)) || (!(((rd_T28 l0 x5_1).f1) == ((rd_T28 l0 x6_2).f1)))) = false := by rw [show (!(((rd_T28 l0 x5_1).f0) == ((rd_T28 l0 x6_2).f0)) || (!(((rd_T28 l0 x5_1).f1) == ((rd_T28 l0 x6_2).f1)))) = !(((rd_T28 l0 x5_1).f0) == ((rd_T28 l0 x6_2).f0) && (((rd_T28 l0 x5_1).f1) == ((rd_T28 l0 x6_2).f1))) from by simp [Bool.not_and]]; rw [c7b0]; rfl))
                      clear c7
                      simp only [Option.some.injEq, Prod.mk.injEq] at H
                      obtain ⟨rfl, rfl, rfl⟩ := H
                      have p271 : 0 ≤ (x5_1 : Int) := of_decide_eq_true (by first | (with_reducible assumption) | assumption)
                      have q271 : x5_1 < (l0.length : Int) := of_decide_eq_true (by first | (with_reducible assumption) | assumption)
                      obtain ⟨ad271, e271, hx271_0, hx271_1⟩ := at_T28 HR0.out x5_1 p271 q271
                      cases e271
                      replace p271 := eq_true p271
                      replace q271 := eq_true q271
                      have p272 : 0 ≤ (x6_2 : Int) := of_decide_eq_true (by first | (with_reducible assumption) | assumption)
                      have q272 : x6_2 < (l0.length : Int) := of_decide_eq_true (by first | (with_reducible assumption) | assumption)
                      obtain ⟨ad272, e272, hx272_0, hx272_1⟩ := at_T28 HR0.out x6_2 p272 q272
                      obtain rfl : ad271 = ad272 := (by injection e272)
                      replace p272 := eq_true p272
                      replace q272 := eq_true q272
                      go_wp2
                      repeat (go_quiet (fail); try go_wp2)
                      go_ret3
                      exact ⟨by first | rfl | (simp; done) | (simp [*]; done), by repeat (first | exact Drawn0.refl _ | apply Drawn0.step)⟩
                    · rw [if_neg c7] at H
                      have c7b0 : (((rd_T28 l0 x5_1).f0) == ((rd_T28 l0 x6_2).f0) && (((rd_T28 l0 x5_1).f1) == ((rd_T28 l0 x6_2).f1))) = false := by simpa using c7
                      (try (have c7b1 : decide (((rd_T28 l0 x5_1).f0) = ((rd_T28 l0 x6_2).f0) && (((rd_T28 l0 x5_1).f1) == ((rd_T28 l0 x6_2).f1))) = false := by simpa using c7))
                      (try (have c7b2 : (((rd_T28 l0 x5_1).f0) == ((rd_T28 l0 x6_2).f0) && (((rd_T28 l0 x5_1).f1) == ((rd_T28 l0 x6_2).f1))) = false := by simpa using c7))
                      (try (have c7b3 : ¬ (((rd_T28 l0 x5_1).f0) = ((rd_T28 l0 x6_2).f0) && (((rd_T28 l0 x5_1).f1) == ((rd_T28 l0 x6_2).f1))) := by simpa using c7))
                      (try (have c7b4 : (!(((rd_T28 l0 x5_1).f0) == ((rd_T28 l0 x6_2).f0)) || (!(((rd_T28 l0 x5_1).f1) == ((rd_T28 l0 x6_2).f1)))) = true := by rw [show (!(((rd_T28 l0 x5_1).f0) == ((rd_T28 l0 x6_2).f0)) || (!(((rd_T28 l0 x5_1).f1) == ((rd_T28 l0 x6_2).f1)))) = !(((rd_T28 l0 x5_1).f0) == ((rd_T28 l0 x6_2).f0) && (((rd_T28 l0 x5_1).f1) == ((rd_T28 l0 x6_2).f1))) from by simp [Bool.not_and]]; rw [c7b0]; rfl))
                      clear c7
                      have H' := Aside0.mk H
                      clear H
                      have p271 : 0 ≤ (x5_1 : Int) := of_decide_eq_true (by first | (with_reducible assumption) | assumption)
                      have q271 : x5_1 < (l0.length : Int) := of_decide_eq_true (by first | (with_reducible assumption) | assumption)
                      obtain ⟨ad271, e271, hx271_0, hx271_1⟩ := at_T28 HR0.out x5_1 p271 q271
                      cases e271
                      replace p271 := eq_true p271
                      replace q271 := eq_true q271
                      have p272 : 0 ≤ (x6_2 : Int) := of_decide_eq_true (by first | (with_reducible assumption) | assumption)
                      have q272 : x6_2 < (l0.length : Int) := of_decide_eq_true (by first | (with_reducible assumption) | assumption)
                      obtain ⟨ad272, e272, hx272_0, hx272_1⟩ := at_T28 HR0.out x6_2 p272 q272
                      obtain rfl : ad271 = ad272 := (by injection e272)
                      replace p272 := eq_true p272
                      replace q272 := eq_true q272
                      go_wp2
                      repeat (go_quiet (fail); try go_wp2)
                      go_roundg k2
                      case measure => have := HK1.out; have := HK2.out; omega
                      case rel => exact ⟨(wrap64 (x6_2 + 1)), (by first | rfl | (simp; done) | (simp [*]; done)), H', ⟨by have := HK1.out; have := HK2.out; omega⟩, by repeat (first | exact Drawn0.refl _ | apply Drawn0.step)⟩
                  · rw [if_neg c6] at H
                    exact absurd H (by simp)
                · rw [if_neg c5] at H
                  exact absurd H (by simp)
              · rw [if_neg c4] at H
                exact absurd H (by simp)
            · rw [if_neg c3] at H
              have c3b0 : decide (x6_2 < (l0.length : Int)) = false := decide_eq_false c3
              clear c3
              have H' := Aside0.mk H
              clear H
              go_wp2
              repeat (go_quiet (fail); try go_wp2)
              go_roundg k2
              case measure => have := HK1.out; have := HK2.out; omega
              case rel => exact ⟨(wrap64 (x5_1 + 1)), (by first | rfl | (simp; done) | (simp [*]; done)), H', ⟨by have := HK1.out; have := HK2.out; omega⟩, by repeat (first | exact Drawn0.refl _ | apply Drawn0.step)⟩
      · rw [if_neg c2] at H
        have c2b0 : decide (x5_1 < (l0.length : Int)) = false := decide_eq_false c2
        clear c2
        simp only [Option.some.injEq, Prod.mk.injEq] at H
        obtain ⟨rfl, rfl, rfl⟩ := H
        go_wp2
        repeat (go_quiet (fail); try go_wp2)
        go_ret3
        exact ⟨by first | rfl | (simp; done) | (simp [*]; done), by repeat (first | exact Drawn0.refl _ | apply Drawn0.step)⟩

end Go.Proofs.Ytfmeicojiadeiaa.P
