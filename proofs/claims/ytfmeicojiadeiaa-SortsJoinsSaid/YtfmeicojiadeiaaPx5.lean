-- PRINTED by print.py (a twelfth state) out of the translation. Not trusted: Lean checks it.
import Derived.Test.YtfmeicojiadeiaaPx0
import Derived.Test.YtfmeicojiadeiaaPx1
import Derived.Test.YtfmeicojiadeiaaPx3
namespace Go.Proofs.Ytfmeicojiadeiaa.P
open Go.RowKit Go.Proofs.YtfmeicojiadeiaaW.PrintWords Go.Proofs.YtfmeicojiadeiaaW.PrintLast Go.Proofs.YtfmeicojiadeiaaW.PrintMore
attribute [local go_sem] max2_int min2_int max_two min_two max_three min_three max_four min_four   -- for this text's walks alone
set_option linter.unusedVariables false
set_option linter.unusedSimpArgs false

attribute [local go_sem high] eqA28
/-! ### sorts_Twice: function 16 -/
def sorts_Twice.l0 : Nat → List (S28) → Int → Int → Bool → List Int → Int → Option (Int × Int × Bool)
  | 0, _, _, _, _, _, _ => none
  | k + 1, x0, x5, x6, x7, x8, x9 => if x9 < (x8.length : Int) then (if 0 ≤ (wrap64 (x9 - 1)) then (if (wrap64 (x9 - 1)) < (x8.length : Int) then (if 0 ≤ x9 then (if 0 ≤ (rd x8 (wrap64 (x9 - 1))) then (if (rd x8 (wrap64 (x9 - 1))) < (x0.length : Int) then (if 0 ≤ (rd x8 x9) then (if (rd x8 x9) < (x0.length : Int) then (if (((rd_T28 x0 (rd x8 (wrap64 (x9 - 1)))).f0) == ((rd_T28 x0 (rd x8 x9)).f0) && (((rd_T28 x0 (rd x8 (wrap64 (x9 - 1)))).f1) == ((rd_T28 x0 (rd x8 x9)).f1))) = true then (if x7 = true then (if (rd x8 (wrap64 (x9 - 1))) < x5 then (sorts_Twice.l0 k x0 (rd x8 (wrap64 (x9 - 1))) (rd x8 x9) true x8 (wrap64 (x9 + 1))) else (sorts_Twice.l0 k x0 x5 x6 x7 x8 (wrap64 (x9 + 1)))) else (sorts_Twice.l0 k x0 (rd x8 (wrap64 (x9 - 1))) (rd x8 x9) true x8 (wrap64 (x9 + 1)))) else (sorts_Twice.l0 k x0 x5 x6 x7 x8 (wrap64 (x9 + 1)))) else (none)) else (none)) else (none)) else (none)) else (none)) else (none)) else (none)) else (some (x5, x6, x7))
def sorts_Twice.f (k : Nat) (l0 : List (S28)) : Option (Int × Int × Bool) := (sorts_Order.f k l0).bind fun t169 => (sorts_Twice.l0 k l0 0 0 false t169 1)
theorem sorts_Twice.mono_l : ∀ k, (∀ y0 y1 y2 y3 y4 y5, LeO (sorts_Twice.l0 k y0 y1 y2 y3 y4 y5) (sorts_Twice.l0 (k + 1) y0 y1 y2 y3 y4 y5))
  | 0 => fun _ _ _ _ _ _ r h => by simp [sorts_Twice.l0] at h
  | k + 1 => by
    have ih0 := sorts_Twice.mono_l k
    · intro y0 y1 y2 y3 y4 y5
      unfold sorts_Twice.l0
      repeat' first
      | (with_reducible exact ih0 _ _ _ _ _ _)
      | (with_reducible exact sorts_Order.mono _ _)
      | (with_reducible exact LeO.refl _)
      | (with_reducible exact LeO.none _)
      | (with_reducible refine LeO.ite ?_ ?_)
      | (with_reducible refine LeO.bind ?_ (fun _ => ?_))
      | exact ih0 _ _ _ _ _ _
      | exact sorts_Order.mono _ _
      | exact LeO.none _
      | refine LeO.ite ?_ ?_
      | refine LeO.bind ?_ (fun _ => ?_)
theorem sorts_Twice.mono : ∀ a0 k, LeO (sorts_Twice.f k a0) (sorts_Twice.f (k + 1) a0) := by
  intro a0 k
  have ih0 := sorts_Twice.mono_l k
  unfold sorts_Twice.f
  repeat' first
      | (with_reducible exact ih0 _ _ _ _ _ _)
      | (with_reducible exact sorts_Order.mono _ _)
      | (with_reducible exact LeO.refl _)
      | (with_reducible exact LeO.none _)
      | (with_reducible refine LeO.ite ?_ ?_)
      | (with_reducible refine LeO.bind ?_ (fun _ => ?_))
      | exact ih0 _ _ _ _ _ _
      | exact sorts_Order.mono _ _
      | exact LeO.none _
      | refine LeO.ite ?_ ?_
      | refine LeO.bind ?_ (fun _ => ?_)
set_option maxHeartbeats 8000000 in
set_option maxRecDepth 100000 in
theorem sorts_Twice.calls (k : Nat) (A0 : Option Addr) (c0 : Nat) (l0 : List (S28)) (r1 : Int) (r2 : Int) (r3 : Bool) (w : World) (hr0 : Kd.C k28 w A0 l0.length l0) (hc0 : l0.length ≤ c0) (h : sorts_Twice.f k l0 = some (r1, r2, r3)) :
    Calls Try.prog 16 #[.slice A0 l0.length c0] w fun e w' => e = .returned (.tuple #[.int .i64 r1, .int .i64 r2, .bool r3]) ∧ Below w.heap.size w w' := by
  have hu28 := Try.underlying28
  have HR0 := Aside0.mk hr0
  have HC0 := Aside0.mk hc0
  clear hr0 hc0
  have HB := Aside0.mk (Below.refl w.heap.size w)
  have H : ((sorts_Order.f k l0).bind fun t169 => (sorts_Twice.l0 k l0 0 0 false t169 1)) = some (r1, r2, r3) := h
  clear h
  replace H := Option.bind_eq_some_iff.mp H
  obtain ⟨t169, A20, H⟩ := H
  replace H : (sorts_Twice.l0 k l0 0 0 false t169 1) = some (r1, r2, r3) := H
  have A2 := Aside0.mk A20
  clear A20
  have H' := Aside0.mk H
  clear H
  go_enter Try.func16, Try.ntmps16
  go_wp2_with (first | (go_at_call 11; (with_reducible refine (sorts_Order.calls k _ _ l0 t169 _ ?side1 ?side2 A2.out).mono ?_); (case side1 => repeat (first | exact HR0.out | (with_reducible refine Kd.C_alloc ?_ _) | (with_reducible refine Kd.C_drewN ?_ _) | (with_reducible refine Kd.C_drew ?_))); (case side2 => exact HC0.out); rintro e w3 ⟨v170, rfl, ho0, hb⟩; have n0_ := Aside0.mk (Kd.R_lower ho0 (below_size (by repeat (first | (with_reducible first | exact HB.out | apply below_alloc | apply pw_below_drewN | apply below_drew1) | exact HB.out)))); have n1_ := Aside0.mk (below_step (by repeat (first | (with_reducible first | exact HB.out | apply below_alloc | apply pw_below_drewN | apply below_drew1) | exact HB.out)) hb); clear HB; have HO171 := n0_; have HB := n1_; clear n0_ n1_; (try clear hb); (try clear hb2); (try clear hk); (try clear hi); (try clear ho0)))
  repeat (go_quiet (first | (go_at_call 11; (with_reducible refine (sorts_Order.calls k _ _ l0 t169 _ ?side1 ?side2 A2.out).mono ?_); (case side1 => repeat (first | exact HR0.out | (with_reducible refine Kd.C_alloc ?_ _) | (with_reducible refine Kd.C_drewN ?_ _) | (with_reducible refine Kd.C_drew ?_))); (case side2 => exact HC0.out); rintro e w3 ⟨v170, rfl, ho0, hb⟩; have n0_ := Aside0.mk (Kd.R_lower ho0 (below_size (by repeat (first | (with_reducible first | exact HB.out | apply below_alloc | apply pw_below_drewN | apply below_drew1) | exact HB.out)))); have n1_ := Aside0.mk (below_step (by repeat (first | (with_reducible first | exact HB.out | apply below_alloc | apply pw_below_drewN | apply below_drew1) | exact HB.out)) hb); clear HB; have HO171 := n0_; have HB := n1_; clear n0_ n1_; (try clear hb); (try clear hb2); (try clear hk); (try clear hi); (try clear ho0))); try go_wp2_with (first | (go_at_call 11; (with_reducible refine (sorts_Order.calls k _ _ l0 t169 _ ?side1 ?side2 A2.out).mono ?_); (case side1 => repeat (first | exact HR0.out | (with_reducible refine Kd.C_alloc ?_ _) | (with_reducible refine Kd.C_drewN ?_ _) | (with_reducible refine Kd.C_drew ?_))); (case side2 => exact HC0.out); rintro e w3 ⟨v170, rfl, ho0, hb⟩; have n0_ := Aside0.mk (Kd.R_lower ho0 (below_size (by repeat (first | (with_reducible first | exact HB.out | apply below_alloc | apply pw_below_drewN | apply below_drew1) | exact HB.out)))); have n1_ := Aside0.mk (below_step (by repeat (first | (with_reducible first | exact HB.out | apply below_alloc | apply pw_below_drewN | apply below_drew1) | exact HB.out)) hb); clear HB; have HO171 := n0_; have HB := n1_; clear n0_ n1_; (try clear hb); (try clear hb2); (try clear hk); (try clear hi); (try clear ho0))))
  go_loopg [5, 6, 7, 9] k (fun kq v5 v6 v7 v9 w' => ∃ (x5_1 : Int) (x6_1 : Int) (x7_1 : Bool) (x9_1 : Int), v5 = .int .i64 x5_1 ∧ v6 = .int .i64 x6_1 ∧ v7 = .bool x7_1 ∧ v9 = .int .i64 x9_1 ∧ Aside0 (sorts_Twice.l0 kq l0 x5_1 x6_1 x7_1 t169 x9_1 = some (r1, r2, r3)) ∧ Aside0 (kq ≤ k) ∧ Aside0 (Kd.R (Kd.int .i64) 3 w' w.heap.size (fun _ => True) v170 t169) ∧ Aside0 (Below w.heap.size w w'))
  case atStart => exact ⟨(0), (0), (false), (1), (by first | rfl | (simp; done) | (simp [*]; done)), (by first | rfl | (simp; done) | (simp [*]; done)), (by first | rfl | (simp; done) | (simp [*]; done)), (by first | rfl | (simp; done) | (simp [*]; done)), H', ⟨Nat.le_refl _⟩, ⟨by (with_reducible repeat (first | apply Kd.R_alloc | apply Kd.R_drewN | apply Kd.R_drew)); exact HO171.out⟩, ⟨by repeat (first | (with_reducible first | exact HB.out | apply below_alloc | apply pw_below_drewN | apply below_drew1) | exact HB.out)⟩⟩
  case round =>
    clear H'
    (try clear c1); (try clear p2)
    obtain ⟨x5_1, x6_1, x7_1, x9_1, rfl, rfl, rfl, rfl, HA, HK1, HO_8, HB⟩ := hrel
    cases gk with
    | zero => exact absurd HA.out (by simp [sorts_Twice.l0])
    | succ k1 =>
      have H := HA.out
      clear HA
      simp only [sorts_Twice.l0] at H
      by_cases c4 : x9_1 < (t169.length : Int)
      · rw [if_pos c4] at H
        have c4b0 : decide (x9_1 < (t169.length : Int)) = true := decide_eq_true c4
        clear c4
        obtain ⟨ji5, hji5⟩ : ∃ j_ : Int, (wrap64 (x9_1 - 1)) = j_ := ⟨_, rfl⟩
        replace H : (if 0 ≤ (ji5) then (if (ji5) < (t169.length : Int) then (if 0 ≤ x9_1 then (if 0 ≤ (rd t169 (ji5)) then (if (rd t169 (ji5)) < (l0.length : Int) then (if 0 ≤ (rd t169 x9_1) then (if (rd t169 x9_1) < (l0.length : Int) then (if (((rd_T28 l0 (rd t169 (ji5))).f0) == ((rd_T28 l0 (rd t169 x9_1)).f0) && (((rd_T28 l0 (rd t169 (ji5))).f1) == ((rd_T28 l0 (rd t169 x9_1)).f1))) = true then (if x7_1 = true then (if (rd t169 (ji5)) < x5_1 then (sorts_Twice.l0 k1 l0 (rd t169 (ji5)) (rd t169 x9_1) true t169 (wrap64 (x9_1 + 1))) else (sorts_Twice.l0 k1 l0 x5_1 x6_1 x7_1 t169 (wrap64 (x9_1 + 1)))) else (sorts_Twice.l0 k1 l0 (rd t169 (ji5)) (rd t169 x9_1) true t169 (wrap64 (x9_1 + 1)))) else (sorts_Twice.l0 k1 l0 x5_1 x6_1 x7_1 t169 (wrap64 (x9_1 + 1)))) else (none)) else (none)) else (none)) else (none)) else (none)) else (none)) else (none)) = some (r1, r2, r3) := by first | (rw [hji5] at H; exact H) | (simp only [hji5] at H ⊢; exact H)
        have hji5w : (IntKind.i64.wrap (x9_1 - 1)) = ji5 := (i64_w _).trans hji5
        by_cases c6 : 0 ≤ (ji5)
        · rw [if_pos c6] at H
          have c6b0 : decide (0 ≤ (ji5)) = true := decide_eq_true c6
          clear c6
          by_cases c7 : (ji5) < (t169.length : Int)
          · rw [if_pos c7] at H
            have c7b0 : decide ((ji5) < (t169.length : Int)) = true := decide_eq_true c7
            clear c7
            by_cases c8 : 0 ≤ x9_1
            · rw [if_pos c8] at H
              have c8b0 : decide (0 ≤ x9_1) = true := decide_eq_true c8
              clear c8
              by_cases c9 : 0 ≤ (rd t169 (ji5))
              · rw [if_pos c9] at H
                have c9b0 : decide (0 ≤ (rd t169 (ji5))) = true := decide_eq_true c9
                clear c9
                by_cases c10 : (rd t169 (ji5)) < (l0.length : Int)
                · rw [if_pos c10] at H
                  have c10b0 : decide ((rd t169 (ji5)) < (l0.length : Int)) = true := decide_eq_true c10
                  clear c10
                  by_cases c11 : 0 ≤ (rd t169 x9_1)
                  · rw [if_pos c11] at H
                    have c11b0 : decide (0 ≤ (rd t169 x9_1)) = true := decide_eq_true c11
                    clear c11
                    by_cases c12 : (rd t169 x9_1) < (l0.length : Int)
                    · rw [if_pos c12] at H
                      have c12b0 : decide ((rd t169 x9_1) < (l0.length : Int)) = true := decide_eq_true c12
                      clear c12
                      by_cases c13 : (((rd_T28 l0 (rd t169 (ji5))).f0) == ((rd_T28 l0 (rd t169 x9_1)).f0) && (((rd_T28 l0 (rd t169 (ji5))).f1) == ((rd_T28 l0 (rd t169 x9_1)).f1))) = true
                      · rw [if_pos c13] at H
                        have c13b0 : (((rd_T28 l0 (rd t169 (ji5))).f0) == ((rd_T28 l0 (rd t169 x9_1)).f0) && (((rd_T28 l0 (rd t169 (ji5))).f1) == ((rd_T28 l0 (rd t169 x9_1)).f1))) = true := c13
                        (try (have c13b1 : decide (((rd_T28 l0 (rd t169 (ji5))).f0) = ((rd_T28 l0 (rd t169 x9_1)).f0) && (((rd_T28 l0 (rd t169 (ji5))).f1) == ((rd_T28 l0 (rd t169 x9_1)).f1))) = true := by simpa using c13))
                        (try (have c13b2 : (((rd_T28 l0 (rd t169 (ji5))).f0) == ((rd_T28 l0 (rd t169 x9_1)).f0) && (((rd_T28 l0 (rd t169 (ji5))).f1) == ((rd_T28 l0 (rd t169 x9_1)).f1))) = true := by simpa using c13))
                        (try (have c13b3 : (!(((rd_T28 l0 (rd t169 (ji5))).f0) == ((rd_T28 l0 (rd t169 x9_1)).f0)) || (!(((rd_T28 l0 (rd t169 (ji5))).f1) == ((rd_T28 l0 (rd t169 x9_1)).f1)))) = false := by rw [show (!(((rd_T28 l0 (rd t169 (ji5))).f0) == ((rd_T28 l0 (rd t169 x9_1)).f0)) || (!(((rd_T28 l0 (rd t169 (ji5))).f1) == ((rd_T28 l0 (rd t169 x9_1)).f1)))) = !(((rd_T28 l0 (rd t169 (ji5))).f0) == ((rd_T28 l0 (rd t169 x9_1)).f0) && (((rd_T28 l0 (rd t169 (ji5))).f1) == ((rd_T28 l0 (rd t169 x9_1)).f1))) from by simp [Bool.not_and]]; rw [c13b0]; rfl))
                        clear c13
                        by_cases c14 : x7_1 = true
                        · subst c14
                          have H1 : (if (rd t169 (ji5)) < x5_1 then (sorts_Twice.l0 k1 l0 (rd t169 (ji5)) (rd t169 x9_1) true t169 (wrap64 (x9_1 + 1))) else (sorts_Twice.l0 k1 l0 x5_1 x6_1 true t169 (wrap64 (x9_1 + 1)))) = some (r1, r2, r3) := by rw [if_pos rfl] at H; exact H
                          clear H
                          have H := H1
                          clear H1
                          by_cases c15 : (rd t169 (ji5)) < x5_1
                          · rw [if_pos c15] at H
                            have c15b0 : decide ((rd t169 (ji5)) < x5_1) = true := decide_eq_true c15
                            clear c15
                            have H' := Aside0.mk H
                            clear H
                            obtain ⟨Ao16, co16, eo16⟩ := Kd.R_slice HO_8.out
                            subst eo16
                            have p172 : 0 ≤ ((ji5) : Int) := of_decide_eq_true (by first | (with_reducible assumption) | assumption)
                            have q172 : (ji5) < (t169.length : Int) := of_decide_eq_true (by first | (with_reducible assumption) | assumption)
                            obtain ⟨ad172, e172, hx172_0⟩ := Kd.at_int (Kd.R_reads' HO_8.out).2.2 (ji5) p172 q172
                            cases e172
                            replace p172 := eq_true p172
                            replace q172 := eq_true q172
                            have p173 : 0 ≤ (x9_1 : Int) := of_decide_eq_true (by first | (with_reducible assumption) | assumption)
                            have q173 : x9_1 < (t169.length : Int) := of_decide_eq_true (by first | (with_reducible assumption) | assumption)
                            obtain ⟨ad173, e173, hx173_0⟩ := Kd.at_int (Kd.R_reads' HO_8.out).2.2 x9_1 p173 q173
                            obtain rfl : ad172 = ad173 := (by injection e173)
                            replace p173 := eq_true p173
                            replace q173 := eq_true q173
                            have p174 : 0 ≤ ((rd t169 (ji5)) : Int) := of_decide_eq_true (by first | (with_reducible assumption) | assumption)
                            have q174 : (rd t169 (ji5)) < (l0.length : Int) := of_decide_eq_true (by first | (with_reducible assumption) | assumption)
                            obtain ⟨ad174, e174, hx174_0, hx174_1⟩ := at_T28 HR0.out (rd t169 (ji5)) p174 q174
                            cases e174
                            replace hx174_0 := (HB.out.cell (World.block_lt_of_cell? w _ hx174_0)).trans hx174_0
                            replace hx174_1 := (HB.out.cell (World.block_lt_of_cell? w _ hx174_1)).trans hx174_1
                            replace p174 := eq_true p174
                            replace q174 := eq_true q174
                            have p175 : 0 ≤ ((rd t169 x9_1) : Int) := of_decide_eq_true (by first | (with_reducible assumption) | assumption)
                            have q175 : (rd t169 x9_1) < (l0.length : Int) := of_decide_eq_true (by first | (with_reducible assumption) | assumption)
                            obtain ⟨ad175, e175, hx175_0, hx175_1⟩ := at_T28 HR0.out (rd t169 x9_1) p175 q175
                            obtain rfl : ad174 = ad175 := (by injection e175)
                            replace hx175_0 := (HB.out.cell (World.block_lt_of_cell? w _ hx175_0)).trans hx175_0
                            replace hx175_1 := (HB.out.cell (World.block_lt_of_cell? w _ hx175_1)).trans hx175_1
                            replace p175 := eq_true p175
                            replace q175 := eq_true q175
                            go_wp2
                            repeat (go_quiet (fail); try go_wp2)
                            go_roundg k1
                            case measure => have := HK1.out; omega
                            case rel => exact ⟨(rd t169 (ji5)), (rd t169 x9_1), (true), (wrap64 (x9_1 + 1)), (by first | rfl | (simp; done) | (simp only [← hji5] <;> (first | rfl | simp)) | (simp [*]; done)), (by first | rfl | (simp; done) | (simp [*]; done)), (by first | rfl | (simp; done) | (simp [*]; done)), (by first | rfl | (simp; done) | (simp [*]; done)), H', ⟨by have := HK1.out; omega⟩, ⟨by (with_reducible repeat (first | apply Kd.R_alloc | apply Kd.R_drewN | apply Kd.R_drew)); exact HO_8.out⟩, ⟨by repeat (first | (with_reducible first | exact HB.out | apply below_alloc | apply pw_below_drewN | apply below_drew1) | exact HB.out)⟩⟩
                          · rw [if_neg c15] at H
                            have c15b0 : decide ((rd t169 (ji5)) < x5_1) = false := decide_eq_false c15
                            clear c15
                            have H' := Aside0.mk H
                            clear H
                            obtain ⟨Ao17, co17, eo17⟩ := Kd.R_slice HO_8.out
                            subst eo17
                            have p172 : 0 ≤ ((ji5) : Int) := of_decide_eq_true (by first | (with_reducible assumption) | assumption)
                            have q172 : (ji5) < (t169.length : Int) := of_decide_eq_true (by first | (with_reducible assumption) | assumption)
                            obtain ⟨ad172, e172, hx172_0⟩ := Kd.at_int (Kd.R_reads' HO_8.out).2.2 (ji5) p172 q172
                            cases e172
                            replace p172 := eq_true p172
                            replace q172 := eq_true q172
                            have p173 : 0 ≤ (x9_1 : Int) := of_decide_eq_true (by first | (with_reducible assumption) | assumption)
                            have q173 : x9_1 < (t169.length : Int) := of_decide_eq_true (by first | (with_reducible assumption) | assumption)
                            obtain ⟨ad173, e173, hx173_0⟩ := Kd.at_int (Kd.R_reads' HO_8.out).2.2 x9_1 p173 q173
                            obtain rfl : ad172 = ad173 := (by injection e173)
                            replace p173 := eq_true p173
                            replace q173 := eq_true q173
                            have p174 : 0 ≤ ((rd t169 (ji5)) : Int) := of_decide_eq_true (by first | (with_reducible assumption) | assumption)
                            have q174 : (rd t169 (ji5)) < (l0.length : Int) := of_decide_eq_true (by first | (with_reducible assumption) | assumption)
                            obtain ⟨ad174, e174, hx174_0, hx174_1⟩ := at_T28 HR0.out (rd t169 (ji5)) p174 q174
                            cases e174
                            replace hx174_0 := (HB.out.cell (World.block_lt_of_cell? w _ hx174_0)).trans hx174_0
                            replace hx174_1 := (HB.out.cell (World.block_lt_of_cell? w _ hx174_1)).trans hx174_1
                            replace p174 := eq_true p174
                            replace q174 := eq_true q174
                            have p175 : 0 ≤ ((rd t169 x9_1) : Int) := of_decide_eq_true (by first | (with_reducible assumption) | assumption)
                            have q175 : (rd t169 x9_1) < (l0.length : Int) := of_decide_eq_true (by first | (with_reducible assumption) | assumption)
                            obtain ⟨ad175, e175, hx175_0, hx175_1⟩ := at_T28 HR0.out (rd t169 x9_1) p175 q175
                            obtain rfl : ad174 = ad175 := (by injection e175)
                            replace hx175_0 := (HB.out.cell (World.block_lt_of_cell? w _ hx175_0)).trans hx175_0
                            replace hx175_1 := (HB.out.cell (World.block_lt_of_cell? w _ hx175_1)).trans hx175_1
                            replace p175 := eq_true p175
                            replace q175 := eq_true q175
                            go_wp2
                            repeat (go_quiet (fail); try go_wp2)
                            go_roundg k1
                            case measure => have := HK1.out; omega
                            case rel => exact ⟨(x5_1), (x6_1), (true), (wrap64 (x9_1 + 1)), (by first | rfl | (simp; done) | (simp [*]; done)), (by first | rfl | (simp; done) | (simp [*]; done)), (by first | rfl | (simp; done) | (simp [*]; done)), (by first | rfl | (simp; done) | (simp [*]; done)), H', ⟨by have := HK1.out; omega⟩, ⟨by (with_reducible repeat (first | apply Kd.R_alloc | apply Kd.R_drewN | apply Kd.R_drew)); exact HO_8.out⟩, ⟨by repeat (first | (with_reducible first | exact HB.out | apply below_alloc | apply pw_below_drewN | apply below_drew1) | exact HB.out)⟩⟩
                        · replace c14 := Bool.eq_false_iff.mpr c14
                          subst c14
                          have H1 : (sorts_Twice.l0 k1 l0 (rd t169 (ji5)) (rd t169 x9_1) true t169 (wrap64 (x9_1 + 1))) = some (r1, r2, r3) := by rw [if_neg (show ¬ (false = true) by decide)] at H; exact H
                          clear H
                          have H := H1
                          clear H1
                          have H' := Aside0.mk H
                          clear H
                          obtain ⟨Ao18, co18, eo18⟩ := Kd.R_slice HO_8.out
                          subst eo18
                          have p172 : 0 ≤ ((ji5) : Int) := of_decide_eq_true (by first | (with_reducible assumption) | assumption)
                          have q172 : (ji5) < (t169.length : Int) := of_decide_eq_true (by first | (with_reducible assumption) | assumption)
                          obtain ⟨ad172, e172, hx172_0⟩ := Kd.at_int (Kd.R_reads' HO_8.out).2.2 (ji5) p172 q172
                          cases e172
                          replace p172 := eq_true p172
                          replace q172 := eq_true q172
                          have p173 : 0 ≤ (x9_1 : Int) := of_decide_eq_true (by first | (with_reducible assumption) | assumption)
                          have q173 : x9_1 < (t169.length : Int) := of_decide_eq_true (by first | (with_reducible assumption) | assumption)
                          obtain ⟨ad173, e173, hx173_0⟩ := Kd.at_int (Kd.R_reads' HO_8.out).2.2 x9_1 p173 q173
                          obtain rfl : ad172 = ad173 := (by injection e173)
                          replace p173 := eq_true p173
                          replace q173 := eq_true q173
                          have p174 : 0 ≤ ((rd t169 (ji5)) : Int) := of_decide_eq_true (by first | (with_reducible assumption) | assumption)
                          have q174 : (rd t169 (ji5)) < (l0.length : Int) := of_decide_eq_true (by first | (with_reducible assumption) | assumption)
                          obtain ⟨ad174, e174, hx174_0, hx174_1⟩ := at_T28 HR0.out (rd t169 (ji5)) p174 q174
                          cases e174
                          replace hx174_0 := (HB.out.cell (World.block_lt_of_cell? w _ hx174_0)).trans hx174_0
                          replace hx174_1 := (HB.out.cell (World.block_lt_of_cell? w _ hx174_1)).trans hx174_1
                          replace p174 := eq_true p174
                          replace q174 := eq_true q174
                          have p175 : 0 ≤ ((rd t169 x9_1) : Int) := of_decide_eq_true (by first | (with_reducible assumption) | assumption)
                          have q175 : (rd t169 x9_1) < (l0.length : Int) := of_decide_eq_true (by first | (with_reducible assumption) | assumption)
                          obtain ⟨ad175, e175, hx175_0, hx175_1⟩ := at_T28 HR0.out (rd t169 x9_1) p175 q175
                          obtain rfl : ad174 = ad175 := (by injection e175)
                          replace hx175_0 := (HB.out.cell (World.block_lt_of_cell? w _ hx175_0)).trans hx175_0
                          replace hx175_1 := (HB.out.cell (World.block_lt_of_cell? w _ hx175_1)).trans hx175_1
                          replace p175 := eq_true p175
                          replace q175 := eq_true q175
                          go_wp2
                          repeat (go_quiet (fail); try go_wp2)
                          go_roundg k1
                          case measure => have := HK1.out; omega
                          case rel => exact ⟨(rd t169 (ji5)), (rd t169 x9_1), (true), (wrap64 (x9_1 + 1)), (by first | rfl | (simp; done) | (simp only [← hji5] <;> (first | rfl | simp)) | (simp [*]; done)), (by first | rfl | (simp; done) | (simp [*]; done)), (by first | rfl | (simp; done) | (simp [*]; done)), (by first | rfl | (simp; done) | (simp [*]; done)), H', ⟨by have := HK1.out; omega⟩, ⟨by (with_reducible repeat (first | apply Kd.R_alloc | apply Kd.R_drewN | apply Kd.R_drew)); exact HO_8.out⟩, ⟨by repeat (first | (with_reducible first | exact HB.out | apply below_alloc | apply pw_below_drewN | apply below_drew1) | exact HB.out)⟩⟩
                      · rw [if_neg c13] at H
                        have c13b0 : (((rd_T28 l0 (rd t169 (ji5))).f0) == ((rd_T28 l0 (rd t169 x9_1)).f0) && (((rd_T28 l0 (rd t169 (ji5))).f1) == ((rd_T28 l0 (rd t169 x9_1)).f1))) = false := by simpa using c13
                        (try (have c13b1 : decide (((rd_T28 l0 (rd t169 (ji5))).f0) = ((rd_T28 l0 (rd t169 x9_1)).f0) && (((rd_T28 l0 (rd t169 (ji5))).f1) == ((rd_T28 l0 (rd t169 x9_1)).f1))) = false := by simpa using c13))
                        (try (have c13b2 : (((rd_T28 l0 (rd t169 (ji5))).f0) == ((rd_T28 l0 (rd t169 x9_1)).f0) && (((rd_T28 l0 (rd t169 (ji5))).f1) == ((rd_T28 l0 (rd t169 x9_1)).f1))) = false := by simpa using c13))
                        (try (have c13b3 : ¬ (((rd_T28 l0 (rd t169 (ji5))).f0) = ((rd_T28 l0 (rd t169 x9_1)).f0) && (((rd_T28 l0 (rd t169 (ji5))).f1) == ((rd_T28 l0 (rd t169 x9_1)).f1))) := by simpa using c13))
                        (try (have c13b4 : (!(((rd_T28 l0 (rd t169 (ji5))).f0) == ((rd_T28 l0 (rd t169 x9_1)).f0)) || (!(((rd_T28 l0 (rd t169 (ji5))).f1) == ((rd_T28 l0 (rd t169 x9_1)).f1)))) = true := by rw [show (!(((rd_T28 l0 (rd t169 (ji5))).f0) == ((rd_T28 l0 (rd t169 x9_1)).f0)) || (!(((rd_T28 l0 (rd t169 (ji5))).f1) == ((rd_T28 l0 (rd t169 x9_1)).f1)))) = !(((rd_T28 l0 (rd t169 (ji5))).f0) == ((rd_T28 l0 (rd t169 x9_1)).f0) && (((rd_T28 l0 (rd t169 (ji5))).f1) == ((rd_T28 l0 (rd t169 x9_1)).f1))) from by simp [Bool.not_and]]; rw [c13b0]; rfl))
                        clear c13
                        have H' := Aside0.mk H
                        clear H
                        obtain ⟨Ao19, co19, eo19⟩ := Kd.R_slice HO_8.out
                        subst eo19
                        have p172 : 0 ≤ ((ji5) : Int) := of_decide_eq_true (by first | (with_reducible assumption) | assumption)
                        have q172 : (ji5) < (t169.length : Int) := of_decide_eq_true (by first | (with_reducible assumption) | assumption)
                        obtain ⟨ad172, e172, hx172_0⟩ := Kd.at_int (Kd.R_reads' HO_8.out).2.2 (ji5) p172 q172
                        cases e172
                        replace p172 := eq_true p172
                        replace q172 := eq_true q172
                        have p173 : 0 ≤ (x9_1 : Int) := of_decide_eq_true (by first | (with_reducible assumption) | assumption)
                        have q173 : x9_1 < (t169.length : Int) := of_decide_eq_true (by first | (with_reducible assumption) | assumption)
                        obtain ⟨ad173, e173, hx173_0⟩ := Kd.at_int (Kd.R_reads' HO_8.out).2.2 x9_1 p173 q173
                        obtain rfl : ad172 = ad173 := (by injection e173)
                        replace p173 := eq_true p173
                        replace q173 := eq_true q173
                        have p174 : 0 ≤ ((rd t169 (ji5)) : Int) := of_decide_eq_true (by first | (with_reducible assumption) | assumption)
                        have q174 : (rd t169 (ji5)) < (l0.length : Int) := of_decide_eq_true (by first | (with_reducible assumption) | assumption)
                        obtain ⟨ad174, e174, hx174_0, hx174_1⟩ := at_T28 HR0.out (rd t169 (ji5)) p174 q174
                        cases e174
                        replace hx174_0 := (HB.out.cell (World.block_lt_of_cell? w _ hx174_0)).trans hx174_0
                        replace hx174_1 := (HB.out.cell (World.block_lt_of_cell? w _ hx174_1)).trans hx174_1
                        replace p174 := eq_true p174
                        replace q174 := eq_true q174
                        have p175 : 0 ≤ ((rd t169 x9_1) : Int) := of_decide_eq_true (by first | (with_reducible assumption) | assumption)
                        have q175 : (rd t169 x9_1) < (l0.length : Int) := of_decide_eq_true (by first | (with_reducible assumption) | assumption)
                        obtain ⟨ad175, e175, hx175_0, hx175_1⟩ := at_T28 HR0.out (rd t169 x9_1) p175 q175
                        obtain rfl : ad174 = ad175 := (by injection e175)
                        replace hx175_0 := (HB.out.cell (World.block_lt_of_cell? w _ hx175_0)).trans hx175_0
                        replace hx175_1 := (HB.out.cell (World.block_lt_of_cell? w _ hx175_1)).trans hx175_1
                        replace p175 := eq_true p175
                        replace q175 := eq_true q175
                        go_wp2
                        repeat (go_quiet (fail); try go_wp2)
                        go_roundg k1
                        case measure => have := HK1.out; omega
                        case rel => exact ⟨(x5_1), (x6_1), (x7_1), (wrap64 (x9_1 + 1)), (by first | rfl | (simp; done) | (simp [*]; done)), (by first | rfl | (simp; done) | (simp [*]; done)), (by first | rfl | (simp; done) | (simp [*]; done)), (by first | rfl | (simp; done) | (simp [*]; done)), H', ⟨by have := HK1.out; omega⟩, ⟨by (with_reducible repeat (first | apply Kd.R_alloc | apply Kd.R_drewN | apply Kd.R_drew)); exact HO_8.out⟩, ⟨by repeat (first | (with_reducible first | exact HB.out | apply below_alloc | apply pw_below_drewN | apply below_drew1) | exact HB.out)⟩⟩
                    · rw [if_neg c12] at H
                      exact absurd H (by simp)
                  · rw [if_neg c11] at H
                    exact absurd H (by simp)
                · rw [if_neg c10] at H
                  exact absurd H (by simp)
              · rw [if_neg c9] at H
                exact absurd H (by simp)
            · rw [if_neg c8] at H
              exact absurd H (by simp)
          · rw [if_neg c7] at H
            exact absurd H (by simp)
        · rw [if_neg c6] at H
          exact absurd H (by simp)
      · rw [if_neg c4] at H
        have c4b0 : decide (x9_1 < (t169.length : Int)) = false := decide_eq_false c4
        clear c4
        simp only [Option.some.injEq, Prod.mk.injEq] at H
        obtain ⟨rfl, rfl, rfl⟩ := H
        obtain ⟨Ao20, co20, eo20⟩ := Kd.R_slice HO_8.out
        subst eo20
        go_wp2
        repeat (go_quiet (fail); try go_wp2)
        go_ret3
        exact ⟨by first | rfl | (simp [errW_none, errW_some] <;> rfl) | (simp [*, errW_none, errW_some] <;> rfl), by repeat (first | (with_reducible first | exact HB.out | apply below_alloc | apply pw_below_drewN | apply below_drew1) | exact HB.out)⟩

end Go.Proofs.Ytfmeicojiadeiaa.P
