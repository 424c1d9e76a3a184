-- PRINTED by print.py (a twelfth state) out of the translation. Not trusted: Lean checks it.
import Derived.Test.YtfmeicojiadeiaaPx0
import Derived.Test.YtfmeicojiadeiaaPx1
import Derived.Test.YtfmeicojiadeiaaPx3
import Derived.Test.YtfmeicojiadeiaaPx4
import Derived.Test.YtfmeicojiadeiaaPx6
import Derived.Test.YtfmeicojiadeiaaPx12
namespace Go.Proofs.Ytfmeicojiadeiaa.P
open Go.RowKit Go.Proofs.YtfmeicojiadeiaaW.PrintWords Go.Proofs.YtfmeicojiadeiaaW.PrintLast Go.Proofs.YtfmeicojiadeiaaW.PrintMore
attribute [local go_sem] max2_int min2_int max_two min_two max_three min_three max_four min_four   -- for this text's walks alone
set_option linter.unusedVariables false
set_option linter.unusedSimpArgs false

attribute [local go_sem high] eqA28
/-! ### parquetlaw07_SortsStands: function 7 -/
mutual
def parquetlaw07_SortsStands.j0 : Nat → List (S28) → List Int → List Int → Bool → Option (Bool)
  | 0, _, _, _, _ => none
  | k + 1, x0, x3, x4, x29 => if x29 = true then (some false) else (parquetlaw07_SortsStands.l0 k x0 x3 x4 0)
def parquetlaw07_SortsStands.l0 : Nat → List (S28) → List Int → List Int → Int → Option (Bool)
  | 0, _, _, _, _ => none
  | k + 1, x0, x3, x4, x5 => if x5 < (x3.length : Int) then (if 0 ≤ x5 then (if (rd x3 x5) < 0 then (some false) else (if (rd x3 x5) ≥ (x0.length : Int) then (some false) else ((parquetlaw07_count.f k x3 (rd x3 x5)).bind fun t428 => (if t428 = 1 then (parquetlaw07_SortsStands.l0 k x0 x3 x4 (wrap64 (x5 + 1))) else (some false))))) else (none)) else (parquetlaw07_SortsStands.l1 k x0 x3 x4 1)
def parquetlaw07_SortsStands.l1 : Nat → List (S28) → List Int → List Int → Int → Option (Bool)
  | 0, _, _, _, _ => none
  | k + 1, x0, x3, x4, x6 => if x6 < (x3.length : Int) then (if 0 ≤ (wrap64 (x6 - 1)) then (if (wrap64 (x6 - 1)) < (x3.length : Int) then (if 0 ≤ x6 then (if 0 ≤ (rd x3 x6) then (if (rd x3 x6) < (x4.length : Int) then (if 0 ≤ (rd x3 (wrap64 (x6 - 1))) then (if (rd x3 (wrap64 (x6 - 1))) < (x4.length : Int) then (if (rd x3 x6) < (x0.length : Int) then (if (rd x3 (wrap64 (x6 - 1))) < (x0.length : Int) then ((parquetref07_Less.f ((rd_T28 x0 (rd x3 x6)).f0) ((rd_T28 x0 (rd x3 x6)).f1) ((rd_T28 x0 (rd x3 (wrap64 (x6 - 1)))).f0) ((rd_T28 x0 (rd x3 (wrap64 (x6 - 1)))).f1)).bind fun t435 => (if t435 = true then (some false) else (if (((rd_T28 x0 (rd x3 (wrap64 (x6 - 1)))).f0) == ((rd_T28 x0 (rd x3 x6)).f0) && (((rd_T28 x0 (rd x3 (wrap64 (x6 - 1)))).f1) == ((rd_T28 x0 (rd x3 x6)).f1))) = true then (if (rd x3 (wrap64 (x6 - 1))) > (rd x3 x6) then (some false) else (if (wrap64 ((rd x4 (rd x3 x6)) - (rd x4 (rd x3 (wrap64 (x6 - 1)))))) = 0 then (parquetlaw07_SortsStands.l1 k x0 x3 x4 (wrap64 (x6 + 1))) else (some false))) else (if (wrap64 ((rd x4 (rd x3 x6)) - (rd x4 (rd x3 (wrap64 (x6 - 1)))))) = 1 then (parquetlaw07_SortsStands.l1 k x0 x3 x4 (wrap64 (x6 + 1))) else (some false))))) else (none)) else (none)) else (none)) else (none)) else (none)) else (none)) else (none)) else (none)) else (none)) else ((parquetlaw07_known.f k).bind fun t442 => (some t442))
end
def parquetlaw07_SortsStands.f (k : Nat) (l0 : List (S28)) : Option (Bool) := if (l0.length : Int) > 120 then ((parquetlaw07_known.f k).bind fun t418 => (some t418)) else ((sorts_Order.f k l0).bind fun t419 => ((sorts_Ranks.f k l0).bind fun t422 => (if (t419.length : Int) = (l0.length : Int) then (parquetlaw07_SortsStands.j0 k l0 t419 t422 ((t422.length : Int) != (l0.length : Int))) else (parquetlaw07_SortsStands.j0 k l0 t419 t422 true))))
def parquetlaw07_SortsStands.T17 : Bool × List (List Nat × List Nat) := (true, [([], []), ([], []), ([0, 1], [0, 1]), ([2], [2]), ([], []), ([], []), ([4, 5], [4, 5]), ([6], [6]), ([3, 7], [3, 7]), ([8, 0, 1, 2, 3, 4, 5, 6, 7, 8], [8])])
def parquetlaw07_SortsStands.B17 : List Nat := [0, 0, 3, 7, 0, 0, 48, 112, 255, 511]
theorem parquetlaw07_SortsStands.tab17 : rtab .any (opsOf Try.f7 17) = parquetlaw07_SortsStands.T17 := by kernel_rfl
theorem parquetlaw07_SortsStands.bits17 : waitsOk parquetlaw07_SortsStands.T17.2 parquetlaw07_SortsStands.B17 = true := by kernel_rfl
def parquetlaw07_SortsStands.T18 : Bool × List (List Nat × List Nat) := (true, [([], []), ([], []), ([0, 1], [0, 1]), ([2], [2]), ([], []), ([], []), ([4, 5], [4, 5]), ([6], [6]), ([3, 7], [3, 7]), ([8, 8], [8]), ([9], [9]), ([9], [9]), ([10, 11, 9], [9, 10, 11]), ([12, 9], [9, 12]), ([9], [9]), ([9], [9]), ([14, 15, 9], [9, 14, 15]), ([16, 9], [9, 16]), ([13, 17, 9], [9, 13, 17]), ([18, 9, 9], [9, 18]), ([19], [19]), ([19], [19]), ([20, 21, 19], [19, 20, 21]), ([22, 19, 19], [19, 22]), ([23], [23]), ([24, 23], [23, 24]), ([23, 25, 19], [19, 23, 25]), ([19, 26, 9], [9, 19, 26]), ([9, 27], [9, 27]), ([28, 23], [28]), ([29], [29]), ([29], [29]), ([30, 31, 29], [29, 30, 31]), ([32, 29], [29, 32]), ([29], [29]), ([29], [29]), ([34, 35, 29], [29, 34, 35]), ([36, 29], [29, 36]), ([33, 37, 29], [29, 33, 37]), ([38, 29, 29], [29, 38]), ([39], [39]), ([40, 39], [39, 40]), ([39, 41, 29], [29, 39, 41]), ([29, 42], [29, 42])])
def parquetlaw07_SortsStands.B18 : List Nat := [0, 0, 3, 7, 0, 0, 48, 112, 255, 511, 1023, 1023, 4095, 8191, 1023, 1023, 50175, 115711, 262143, 524287, 1048575, 1048575, 4194303, 8388607, 16777215, 33554431, 67108863, 134217727, 268435455, 536870911, 1073741823, 1073741823, 4294967295, 8589934591, 1073741823, 1073741823, 52613349375, 121332826111, 274877906943, 549755813887, 1099511627775, 2199023255551, 4398046511103, 8796093022207]
theorem parquetlaw07_SortsStands.tab18 : rtab .any (opsOf Try.f7 18) = parquetlaw07_SortsStands.T18 := by kernel_rfl
theorem parquetlaw07_SortsStands.bits18 : waitsOk parquetlaw07_SortsStands.T18.2 parquetlaw07_SortsStands.B18 = true := by kernel_rfl
set_option maxHeartbeats 8000000 in
set_option maxRecDepth 100000 in
theorem parquetlaw07_SortsStands.calls (k : Nat) (A0 : Option Addr) (c0 : Nat) (l0 : List (S28)) (r : Bool) (w : World) (hr0 : Kd.C k28 w A0 l0.length l0) (hc0 : l0.length ≤ c0) (hT : Aside0 (r = true)) (h : parquetlaw07_SortsStands.f k l0 = some r) :
    Calls Try.prog 7 #[.slice A0 l0.length c0] w fun e w' => e = .returned (.bool r) ∧ Below w.heap.size w w' := by
  have hu28 := Try.underlying28
  have HR0 := Aside0.mk hr0
  have HC0 := Aside0.mk hc0
  clear hr0 hc0
  have HB := Aside0.mk (Below.refl w.heap.size w)
  have H : (if (l0.length : Int) > 120 then ((parquetlaw07_known.f k).bind fun t418 => (some t418)) else ((sorts_Order.f k l0).bind fun t419 => ((sorts_Ranks.f k l0).bind fun t422 => (if (t419.length : Int) = (l0.length : Int) then (parquetlaw07_SortsStands.j0 k l0 t419 t422 ((t422.length : Int) != (l0.length : Int))) else (parquetlaw07_SortsStands.j0 k l0 t419 t422 true))))) = some r := h
  clear h
  by_cases c2 : (l0.length : Int) > 120
  · rw [if_pos c2] at H
    have c2b0 : decide (120 < (l0.length : Int)) = true := decide_eq_true c2
    have c2b1 : decide (120 < l0.length) = true := decide_eq_true (by omega)
    clear c2
    replace H := Option.bind_eq_some_iff.mp H
    obtain ⟨t418, A30, H⟩ := H
    replace H : (some t418) = some r := H
    have A3 := Aside0.mk A30
    clear A30
    obtain rfl := Option.some.inj H
    go_enter Try.func7, Try.ntmps7
    go_wp2_with (first | ((with_reducible refine gate_callee (f := 10) rfl ?_); refine goesL_ (some 13) rfl rfl Try.func10 (by kernel_rfl) rfl #[] rfl (by (try simp only [List.map_toArray, List.map_cons, List.map_nil]); first | done | rfl | (simp only [List.length_drop, List.length_take]; rfl)) ?_; (with_reducible refine (parquetlaw07_known.calls k  t418 _ (by first | exact hT | exact ⟨rfl⟩) A3.out).mono ?_); rintro e w4 ⟨rfl, hb⟩; refine ⟨_, rfl, ?_⟩; have n0_ := Aside0.mk (below_step (by repeat (first | (with_reducible first | exact HB.out | apply below_alloc | apply pw_below_drewN | apply below_drew1) | exact HB.out)) hb); clear HB; have HB := n0_; clear n0_; (try clear hb); (try clear hb2); (try clear hk); (try clear hi)))
    go_ret
    exact ⟨by first | rfl | (simp [errW_none, errW_some] <;> rfl) | (simp [*, errW_none, errW_some] <;> rfl), by repeat (first | (with_reducible first | exact HB.out | apply below_alloc | apply pw_below_drewN | apply below_drew1) | exact HB.out)⟩
  · rw [if_neg c2] at H
    have c2b0 : decide (120 < (l0.length : Int)) = false := decide_eq_false c2
    have c2b1 : decide (120 < l0.length) = false := decide_eq_false (by omega)
    clear c2
    replace H := Option.bind_eq_some_iff.mp H
    obtain ⟨t419, A50, H⟩ := H
    replace H : ((sorts_Ranks.f k l0).bind fun t422 => (if (t419.length : Int) = (l0.length : Int) then (parquetlaw07_SortsStands.j0 k l0 t419 t422 ((t422.length : Int) != (l0.length : Int))) else (parquetlaw07_SortsStands.j0 k l0 t419 t422 true))) = some r := H
    have A5 := Aside0.mk A50
    clear A50
    replace H := Option.bind_eq_some_iff.mp H
    obtain ⟨t422, A60, H⟩ := H
    replace H : (if (t419.length : Int) = (l0.length : Int) then (parquetlaw07_SortsStands.j0 k l0 t419 t422 ((t422.length : Int) != (l0.length : Int))) else (parquetlaw07_SortsStands.j0 k l0 t419 t422 true)) = some r := H
    have A6 := Aside0.mk A60
    clear A60
    have HU7 := Aside0.mk H
    clear H
    go_enter Try.func7, Try.ntmps7
    go_upto_region 5 with (first | ((with_reducible refine gate_callee (f := 11) rfl ?_); refine goesL_ (some 15) rfl rfl Try.func11 (by kernel_rfl) rfl #[.slice A0 l0.length c0] rfl (by (try simp only [List.map_toArray, List.map_cons, List.map_nil]); first | done | rfl | (simp only [List.length_drop, List.length_take]; rfl)) ?_; (with_reducible refine (sorts_Order.calls k _ _ l0 t419 _ ?side1 ?side2 A5.out).mono ?_); (case side1 => repeat (first | exact HR0.out | (with_reducible refine Kd.C_alloc ?_ _) | (with_reducible refine Kd.C_drewN ?_ _) | (with_reducible refine Kd.C_drew ?_))); (case side2 => exact HC0.out); rintro e w8 ⟨v420, rfl, ho0, hb⟩; refine ⟨_, rfl, ?_⟩; have n0_ := Aside0.mk (Kd.R_lower ho0 (below_size (by repeat (first | (with_reducible first | exact HB.out | apply below_alloc | apply pw_below_drewN | apply below_drew1) | exact HB.out)))); have n1_ := Aside0.mk (below_step (by repeat (first | (with_reducible first | exact HB.out | apply below_alloc | apply pw_below_drewN | apply below_drew1) | exact HB.out)) hb); clear HB; have HO421 := n0_; have HB := n1_; clear n0_ n1_; (try clear hb); (try clear hb2); (try clear hk); (try clear hi); (try clear ho0)) | ((with_reducible refine gate_callee (f := 12) rfl ?_); refine goesL_ (some 17) rfl rfl Try.func12 (by kernel_rfl) rfl #[.slice A0 l0.length c0] rfl (by (try simp only [List.map_toArray, List.map_cons, List.map_nil]); first | done | rfl | (simp only [List.length_drop, List.length_take]; rfl)) ?_; (with_reducible refine (sorts_Ranks.calls k _ _ l0 t422 _ ?side1 ?side2 A6.out).mono ?_); (case side1 => repeat (first | exact (Kd.C_below HR0.out HB.out) | (with_reducible refine Kd.C_alloc ?_ _) | (with_reducible refine Kd.C_drewN ?_ _) | (with_reducible refine Kd.C_drew ?_))); (case side2 => exact HC0.out); rintro e w9 ⟨v423, rfl, ho0, hb⟩; refine ⟨_, rfl, ?_⟩; have n0_ := Aside0.mk (Kd.R_elder' (by (with_reducible repeat (first | apply Kd.R_alloc | apply Kd.R_drewN | apply Kd.R_drew)); exact HO421.out) (Kd.R_base ho0) hb); have n1_ := Aside0.mk (Kd.R_lower (Kd.R_new' ho0 (Kd.R_lt (by (with_reducible repeat (first | apply Kd.R_alloc | apply Kd.R_drewN | apply Kd.R_drew)); exact HO421.out))) (below_size (by repeat (first | (with_reducible first | exact HB.out | apply below_alloc | apply pw_below_drewN | apply below_drew1) | exact HB.out)))); have n2_ := Aside0.mk (below_step (by repeat (first | (with_reducible first | exact HB.out | apply below_alloc | apply pw_below_drewN | apply below_drew1) | exact HB.out)) hb); clear HO421; clear HB; have HO421 := n0_; have HO424 := n1_; have HB := n2_; clear n0_ n1_ n2_; (try clear hb); (try clear hb2); (try clear hk); (try clear hi); (try clear ho0)))
    have H := HU7.out
    clear HU7
    have HC10 := Aside0.mk H
    clear H
    go_upto_region 5 with (fail)
    go_cut [29] (fun v29 wc => ∃ (kq : Nat) (x29_9 : Bool), v29 = .bool x29_9 ∧ Aside0 (parquetlaw07_SortsStands.j0 kq l0 t419 t422 x29_9 = some r) ∧ Aside0 (kq ≤ k) ∧ Aside0 (Kd.R (Kd.int .i64) 3 wc w.heap.size (fun k_ => some k_ ≠ (v423 : Value).ownBlock) v420 t419) ∧ Aside0 (Kd.R (Kd.int .i64) 3 wc w.heap.size (fun k_ => some k_ ≠ (v420 : Value).ownBlock) v423 t422) ∧ Aside0 (Below w.heap.size w wc))
    case first =>
      have H := HC10.out
      clear HC10
      by_cases c11 : (t419.length : Int) = (l0.length : Int)
      · rw [if_pos c11] at H
        have c11b0 : ((t419.length : Int) == (l0.length : Int)) = true := beq_iff_eq.mpr c11
        have c11b1 : ((t419.length : Int) != (l0.length : Int)) = false := bne_eq_false_iff_eq.mpr c11
        have c11b2 : (t419.length == l0.length) = true := by first | simpa using c11 | (simp at c11 ⊢; omega)
        clear c11
        (first | rw [c11b0] | (simp only [i64_w, i32_w]; rw [c11b0]) | skip)
        have H' := Aside0.mk H
        clear H
        obtain ⟨Ao12, co12, eo12⟩ := Kd.R_slice HO421.out
        subst eo12
        obtain ⟨Ao13, co13, eo13⟩ := Kd.R_slice HO424.out
        subst eo13
        go_wp2
        go_meet
        case rel => exact ⟨_, (((t422.length : Int) != (l0.length : Int))), (by first | rfl | (simp; done) | (simp [*]; done)), H', ⟨by first | omega | exact Nat.le_refl _⟩, ⟨by (with_reducible repeat (first | apply Kd.R_alloc | apply Kd.R_drewN | apply Kd.R_drew)); exact Kd.R_mono HO421.out (fun _ hk => hk.2)⟩, ⟨by (with_reducible repeat (first | apply Kd.R_alloc | apply Kd.R_drewN | apply Kd.R_drew)); exact Kd.R_mono HO424.out (fun _ hk => hk.2)⟩, ⟨by repeat (first | (with_reducible first | exact HB.out | apply below_alloc | apply pw_below_drewN | apply below_drew1) | exact HB.out)⟩⟩
      · rw [if_neg c11] at H
        have c11b0 : ((t419.length : Int) == (l0.length : Int)) = false := beq_eq_false_iff_ne.mpr c11
        have c11b1 : ((t419.length : Int) != (l0.length : Int)) = true := bne_iff_ne.mpr c11
        have c11b2 : (t419.length == l0.length) = false := by first | simpa using c11 | (simp at c11 ⊢; omega)
        (first | rw [c11b0] | (simp only [i64_w, i32_w]; rw [c11b0]) | skip)
        have H' := Aside0.mk H
        clear H
        obtain ⟨Ao14, co14, eo14⟩ := Kd.R_slice HO421.out
        subst eo14
        go_wp2
        go_meet
        case rel => exact ⟨_, (true), (by first | rfl | (simp; done) | (simp [*]; done)), H', ⟨by first | omega | exact Nat.le_refl _⟩, ⟨by (with_reducible repeat (first | apply Kd.R_alloc | apply Kd.R_drewN | apply Kd.R_drew)); exact Kd.R_mono HO421.out (fun _ hk => hk.2)⟩, ⟨by (with_reducible repeat (first | apply Kd.R_alloc | apply Kd.R_drewN | apply Kd.R_drew)); exact Kd.R_mono HO424.out (fun _ hk => hk.2)⟩, ⟨by repeat (first | (with_reducible first | exact HB.out | apply below_alloc | apply pw_below_drewN | apply below_drew1) | exact HB.out)⟩⟩
    case rest =>
      clear HC10
      (try clear c1); (try clear c2); (try clear c2b0); (try clear c2b1); (try clear p2); (try clear c7); (try clear c10); (try clear c11); (try clear c11b0); (try clear c11b1); (try clear c11b2); (try clear c12)
      obtain ⟨kq, x29_9, rfl, HA, HJ9, HO_3, HO_4, HB⟩ := hcut
      cases kq with
      | zero => exact absurd HA.out (by simp [parquetlaw07_SortsStands.j0])
      | succ kj9 =>
        have H := HA.out
        clear HA
        simp only [parquetlaw07_SortsStands.j0] at H
        by_cases c15 : x29_9 = true
        · subst c15
          have H1 : (some false) = some r := by rw [if_pos rfl] at H; exact H
          clear H
          have H := H1
          clear H1
          obtain rfl := Option.some.inj H
          exact absurd hT.out (by simp)
        · replace c15 := Bool.eq_false_iff.mpr c15
          subst c15
          have H1 : (parquetlaw07_SortsStands.l0 kj9 l0 t419 t422 0) = some r := by rw [if_neg (show ¬ (false = true) by decide)] at H; exact H
          clear H
          have H := H1
          clear H1
          have H' := Aside0.mk H
          clear H
          go_wp2
          go_loopg [5] kj9 (fun kq v5 w' => ∃ (x5_2 : Int), v5 = .int .i64 x5_2 ∧ Aside0 (parquetlaw07_SortsStands.l0 kq l0 t419 t422 x5_2 = some r) ∧ Aside0 (kq ≤ kj9) ∧ Aside0 (Kd.R (Kd.int .i64) 3 w' w.heap.size (fun k_ => some k_ ≠ (v423 : Value).ownBlock) v420 t419) ∧ Aside0 (Kd.R (Kd.int .i64) 3 w' w.heap.size (fun k_ => some k_ ≠ (v420 : Value).ownBlock) v423 t422) ∧ Aside0 (Below w.heap.size w w'))
          case atStart => exact ⟨(0), (by first | rfl | (simp; done) | (simp [*]; done)), H', ⟨Nat.le_refl _⟩, ⟨by (with_reducible repeat (first | apply Kd.R_alloc | apply Kd.R_drewN | apply Kd.R_drew)); exact HO_3.out⟩, ⟨by (with_reducible repeat (first | apply Kd.R_alloc | apply Kd.R_drewN | apply Kd.R_drew)); exact HO_4.out⟩, ⟨by repeat (first | (with_reducible first | exact HB.out | apply below_alloc | apply pw_below_drewN | apply below_drew1) | exact HB.out)⟩⟩
          case round =>
            clear H'
            (try clear c1); (try clear c2); (try clear c2b0); (try clear c2b1); (try clear p2); (try clear c7); (try clear c10); (try clear c11); (try clear c11b0); (try clear c11b1); (try clear c11b2); (try clear c12); (try clear c15); (try clear p2)
            obtain ⟨x5_2, rfl, HA, HK2, HO_3, HO_4, HB⟩ := hrel
            cases gk with
            | zero => exact absurd HA.out (by simp [parquetlaw07_SortsStands.l0])
            | succ k2 =>
              have H := HA.out
              clear HA
              simp only [parquetlaw07_SortsStands.l0] at H
              by_cases c16 : x5_2 < (t419.length : Int)
              · rw [if_pos c16] at H
                have c16b0 : decide (x5_2 < (t419.length : Int)) = true := decide_eq_true c16
                clear c16
                have HU17 := Aside0.mk H
                clear H
                obtain ⟨Ao18, co18, eo18⟩ := Kd.R_slice HO_3.out
                subst eo18
                go_upto_region 10 with (fail)
                have H := HU17.out
                clear HU17
                by_cases c19 : 0 ≤ x5_2
                · rw [if_pos c19] at H
                  have c19b0 : decide (0 ≤ x5_2) = true := decide_eq_true c19
                  clear c19
                  (first | rw [c19b0] | (simp only [i64_w, i32_w]; rw [c19b0]) | skip)
                  by_cases c20 : (rd t419 x5_2) < 0
                  · rw [if_pos c20] at H
                    have c20b0 : decide ((rd t419 x5_2) < 0) = true := decide_eq_true c20
                    clear c20
                    obtain rfl := Option.some.inj H
                    exact absurd hT.out (by simp)
                  · rw [if_neg c20] at H
                    have c20b0 : decide ((rd t419 x5_2) < 0) = false := decide_eq_false c20
                    clear c20
                    by_cases c21 : (rd t419 x5_2) ≥ (l0.length : Int)
                    · rw [if_pos c21] at H
                      have c21b0 : decide ((l0.length : Int) ≤ (rd t419 x5_2)) = true := decide_eq_true c21
                      clear c21
                      obtain rfl := Option.some.inj H
                      exact absurd hT.out (by simp)
                    · rw [if_neg c21] at H
                      have c21b0 : decide ((l0.length : Int) ≤ (rd t419 x5_2)) = false := decide_eq_false c21
                      clear c21
                      replace H := Option.bind_eq_some_iff.mp H
                      obtain ⟨t428, A220, H⟩ := H
                      replace H : (if t428 = 1 then (parquetlaw07_SortsStands.l0 k2 l0 t419 t422 (wrap64 (x5_2 + 1))) else (some false)) = some r := H
                      have A22 := Aside0.mk A220
                      clear A220
                      by_cases c23 : t428 = 1
                      · rw [if_pos c23] at H
                        have c23b0 : (t428 == 1) = true := beq_iff_eq.mpr c23
                        have c23b1 : (t428 != 1) = false := bne_eq_false_iff_eq.mpr c23
                        clear c23
                        have H' := Aside0.mk H
                        clear H
                        have p425 : 0 ≤ (x5_2 : Int) := of_decide_eq_true (by first | (with_reducible assumption) | assumption)
                        have q425 : x5_2 < (t419.length : Int) := of_decide_eq_true (by first | (with_reducible assumption) | assumption)
                        obtain ⟨ad425, e425, hx425_0⟩ := Kd.at_int (Kd.R_reads' HO_3.out).2.2 x5_2 p425 q425
                        cases e425
                        replace p425 := eq_true p425
                        replace q425 := eq_true q425
                        have p426 : 0 ≤ (x5_2 : Int) := of_decide_eq_true (by first | (with_reducible assumption) | assumption)
                        have q426 : x5_2 < (t419.length : Int) := of_decide_eq_true (by first | (with_reducible assumption) | assumption)
                        obtain ⟨ad426, e426, hx426_0⟩ := Kd.at_int (Kd.R_reads' HO_3.out).2.2 x5_2 p426 q426
                        obtain rfl : ad425 = ad426 := (by injection e426)
                        replace p426 := eq_true p426
                        replace q426 := eq_true q426
                        have p427 : 0 ≤ (x5_2 : Int) := of_decide_eq_true (by first | (with_reducible assumption) | assumption)
                        have q427 : x5_2 < (t419.length : Int) := of_decide_eq_true (by first | (with_reducible assumption) | assumption)
                        obtain ⟨ad427, e427, hx427_0⟩ := Kd.at_int (Kd.R_reads' HO_3.out).2.2 x5_2 p427 q427
                        obtain rfl : ad425 = ad427 := (by injection e427)
                        replace p427 := eq_true p427
                        replace q427 := eq_true q427
                        go_wp2_with (first | (go_at_call 28; (with_reducible refine (parquetlaw07_count.calls k2 _ _ t419 (rd t419 x5_2) t428 _ ?side1 ?side2 A22.out).mono ?_); (case side1 => repeat (first | exact (Kd.R_reads' HO_3.out).2.2 | (with_reducible refine Kd.C_alloc ?_ _) | (with_reducible refine Kd.C_drewN ?_ _) | (with_reducible refine Kd.C_drew ?_))); (case side2 => exact (Kd.R_reads' HO_3.out).2.1); rintro e w' ⟨rfl, ⟨nd, rfl⟩⟩))
                        go_roundg k2
                        case measure => have := HJ9.out; have := HK2.out; omega
                        case rel => exact ⟨(wrap64 (x5_2 + 1)), (by first | rfl | (simp; done) | (simp [*]; done)), H', ⟨by have := HJ9.out; have := HK2.out; omega⟩, ⟨by (with_reducible repeat (first | apply Kd.R_alloc | apply Kd.R_drewN | apply Kd.R_drew)); exact HO_3.out⟩, ⟨by (with_reducible repeat (first | apply Kd.R_alloc | apply Kd.R_drewN | apply Kd.R_drew)); exact HO_4.out⟩, ⟨by repeat (first | (with_reducible first | exact HB.out | apply below_alloc | apply pw_below_drewN | apply below_drew1) | exact HB.out)⟩⟩
                      · rw [if_neg c23] at H
                        have c23b0 : (t428 == 1) = false := beq_eq_false_iff_ne.mpr c23
                        have c23b1 : (t428 != 1) = true := bne_iff_ne.mpr c23
                        obtain rfl := Option.some.inj H
                        exact absurd hT.out (by simp)
                · rw [if_neg c19] at H
                  exact absurd H (by simp)
              · rw [if_neg c16] at H
                have c16b0 : decide (x5_2 < (t419.length : Int)) = false := decide_eq_false c16
                clear c16
                have H' := Aside0.mk H
                clear H
                obtain ⟨Ao24, co24, eo24⟩ := Kd.R_slice HO_3.out
                subst eo24
                go_wp2
                go_loopg [6] k2 (fun kq v6 w' => ∃ (x6_3 : Int), v6 = .int .i64 x6_3 ∧ Aside0 (parquetlaw07_SortsStands.l1 kq l0 t419 t422 x6_3 = some r) ∧ Aside0 (kq ≤ k2) ∧ Aside0 (Kd.R (Kd.int .i64) 3 w' w.heap.size (fun k_ => some k_ ≠ (v423 : Value).ownBlock) (.slice Ao24 t419.length co24) t419) ∧ Aside0 (Kd.R (Kd.int .i64) 3 w' w.heap.size (fun k_ => some k_ ≠ ((.slice Ao24 t419.length co24) : Value).ownBlock) v423 t422) ∧ Aside0 (Below w.heap.size w w'))
                case atStart => exact ⟨(1), (by first | rfl | (simp; done) | (simp [*]; done)), H', ⟨Nat.le_refl _⟩, ⟨by (with_reducible repeat (first | apply Kd.R_alloc | apply Kd.R_drewN | apply Kd.R_drew)); exact HO_3.out⟩, ⟨by (with_reducible repeat (first | apply Kd.R_alloc | apply Kd.R_drewN | apply Kd.R_drew)); exact HO_4.out⟩, ⟨by repeat (first | (with_reducible first | exact HB.out | apply below_alloc | apply pw_below_drewN | apply below_drew1) | exact HB.out)⟩⟩
                case round =>
                  clear H'
                  (try clear c1); (try clear c2); (try clear c2b0); (try clear c2b1); (try clear p2); (try clear p4); (try clear q4); (try clear hx4); (try clear p6); (try clear c7); (try clear c10); (try clear c11); (try clear c11b0); (try clear c11b1); (try clear c11b2); (try clear c12); (try clear c15); (try clear c16); (try clear c16b0); (try clear c19); (try clear c19b0); (try clear c20); (try clear c20b0); (try clear c21); (try clear c21b0); (try clear c23); (try clear c23b0); (try clear c23b1); (try clear hx425_0); (try clear hx426_0); (try clear hx427_0); (try clear p2); (try clear p425); (try clear p426); (try clear p427); (try clear q425); (try clear q426); (try clear q427)
                  obtain ⟨x6_3, rfl, HA, HK3, HO_3, HO_4, HB⟩ := hrel
                  cases gk with
                  | zero => exact absurd HA.out (by simp [parquetlaw07_SortsStands.l1])
                  | succ k3 =>
                    have H := HA.out
                    clear HA
                    simp only [parquetlaw07_SortsStands.l1] at H
                    by_cases c25 : x6_3 < (t419.length : Int)
                    · rw [if_pos c25] at H
                      have c25b0 : decide (x6_3 < (t419.length : Int)) = true := decide_eq_true c25
                      clear c25
                      obtain ⟨ji26, hji26⟩ : ∃ j_ : Int, (wrap64 (x6_3 - 1)) = j_ := ⟨_, rfl⟩
                      replace H : (if 0 ≤ (ji26) then (if (ji26) < (t419.length : Int) then (if 0 ≤ x6_3 then (if 0 ≤ (rd t419 x6_3) then (if (rd t419 x6_3) < (t422.length : Int) then (if 0 ≤ (rd t419 (ji26)) then (if (rd t419 (ji26)) < (t422.length : Int) then (if (rd t419 x6_3) < (l0.length : Int) then (if (rd t419 (ji26)) < (l0.length : Int) then ((parquetref07_Less.f ((rd_T28 l0 (rd t419 x6_3)).f0) ((rd_T28 l0 (rd t419 x6_3)).f1) ((rd_T28 l0 (rd t419 (ji26))).f0) ((rd_T28 l0 (rd t419 (ji26))).f1)).bind fun t435 => (if t435 = true then (some false) else (if (((rd_T28 l0 (rd t419 (ji26))).f0) == ((rd_T28 l0 (rd t419 x6_3)).f0) && (((rd_T28 l0 (rd t419 (ji26))).f1) == ((rd_T28 l0 (rd t419 x6_3)).f1))) = true then (if (rd t419 (ji26)) > (rd t419 x6_3) then (some false) else (if (wrap64 ((rd t422 (rd t419 x6_3)) - (rd t422 (rd t419 (ji26))))) = 0 then (parquetlaw07_SortsStands.l1 k3 l0 t419 t422 (wrap64 (x6_3 + 1))) else (some false))) else (if (wrap64 ((rd t422 (rd t419 x6_3)) - (rd t422 (rd t419 (ji26))))) = 1 then (parquetlaw07_SortsStands.l1 k3 l0 t419 t422 (wrap64 (x6_3 + 1))) else (some false))))) else (none)) else (none)) else (none)) else (none)) else (none)) else (none)) else (none)) else (none)) else (none)) = some r := by first | (rw [hji26] at H; exact H) | (simp only [hji26] at H ⊢; exact H)
                      have hji26w : (IntKind.i64.wrap (x6_3 - 1)) = ji26 := (i64_w _).trans hji26
                      by_cases c27 : 0 ≤ (ji26)
                      · rw [if_pos c27] at H
                        have c27b0 : decide (0 ≤ (ji26)) = true := decide_eq_true c27
                        clear c27
                        by_cases c28 : (ji26) < (t419.length : Int)
                        · rw [if_pos c28] at H
                          have c28b0 : decide ((ji26) < (t419.length : Int)) = true := decide_eq_true c28
                          clear c28
                          by_cases c29 : 0 ≤ x6_3
                          · rw [if_pos c29] at H
                            have c29b0 : decide (0 ≤ x6_3) = true := decide_eq_true c29
                            clear c29
                            by_cases c30 : 0 ≤ (rd t419 x6_3)
                            · rw [if_pos c30] at H
                              have c30b0 : decide (0 ≤ (rd t419 x6_3)) = true := decide_eq_true c30
                              clear c30
                              by_cases c31 : (rd t419 x6_3) < (t422.length : Int)
                              · rw [if_pos c31] at H
                                have c31b0 : decide ((rd t419 x6_3) < (t422.length : Int)) = true := decide_eq_true c31
                                clear c31
                                by_cases c32 : 0 ≤ (rd t419 (ji26))
                                · rw [if_pos c32] at H
                                  have c32b0 : decide (0 ≤ (rd t419 (ji26))) = true := decide_eq_true c32
                                  clear c32
                                  by_cases c33 : (rd t419 (ji26)) < (t422.length : Int)
                                  · rw [if_pos c33] at H
                                    have c33b0 : decide ((rd t419 (ji26)) < (t422.length : Int)) = true := decide_eq_true c33
                                    clear c33
                                    have HU34 := Aside0.mk H
                                    clear H
                                    have p429 : 0 ≤ ((ji26) : Int) := of_decide_eq_true (by first | (with_reducible assumption) | assumption)
                                    have q429 : (ji26) < (t419.length : Int) := of_decide_eq_true (by first | (with_reducible assumption) | assumption)
                                    obtain ⟨ad429, e429, hx429_0⟩ := Kd.at_int (Kd.R_reads' HO_3.out).2.2 (ji26) p429 q429
                                    cases e429
                                    replace p429 := eq_true p429
                                    replace q429 := eq_true q429
                                    have p430 : 0 ≤ (x6_3 : Int) := of_decide_eq_true (by first | (with_reducible assumption) | assumption)
                                    have q430 : x6_3 < (t419.length : Int) := of_decide_eq_true (by first | (with_reducible assumption) | assumption)
                                    obtain ⟨ad430, e430, hx430_0⟩ := Kd.at_int (Kd.R_reads' HO_3.out).2.2 x6_3 p430 q430
                                    obtain rfl : ad429 = ad430 := (by injection e430)
                                    replace p430 := eq_true p430
                                    replace q430 := eq_true q430
                                    try go_wp2
                                    have n0_ := Aside0.mk (Kd.R_drew HO_3.out)
                                    have n1_ := Aside0.mk (Kd.R_drew HO_4.out)
                                    have n2_ := Aside0.mk (below_drew1 HB.out)
                                    clear HO_3
                                    clear HO_4
                                    clear HB
                                    have HO_3 := n0_
                                    have HO_4 := n1_
                                    have HB := n2_
                                    clear n0_ n1_ n2_
                                    obtain ⟨Ao36, co36, eo36⟩ := Kd.R_slice HO_4.out
                                    (first | subst eo36 | (injection eo36 with f1_ f2_ f3_; have f4_ := f1_.symm; have f5_ := f3_.symm; clear f1_ f2_ f3_; subst f4_; subst f5_))
                                    have p431 : 0 ≤ ((rd t419 x6_3) : Int) := of_decide_eq_true (by first | (with_reducible assumption) | assumption)
                                    have q431 : (rd t419 x6_3) < (t422.length : Int) := of_decide_eq_true (by first | (with_reducible assumption) | assumption)
                                    obtain ⟨ad431, e431, hx431_0⟩ := Kd.at_int (Kd.R_reads' HO_4.out).2.2 (rd t419 x6_3) p431 q431
                                    cases e431
                                    replace p431 := eq_true p431
                                    replace q431 := eq_true q431
                                    have p432 : 0 ≤ ((rd t419 (ji26)) : Int) := of_decide_eq_true (by first | (with_reducible assumption) | assumption)
                                    have q432 : (rd t419 (ji26)) < (t422.length : Int) := of_decide_eq_true (by first | (with_reducible assumption) | assumption)
                                    obtain ⟨ad432, e432, hx432_0⟩ := Kd.at_int (Kd.R_reads' HO_4.out).2.2 (rd t419 (ji26)) p432 q432
                                    obtain rfl : ad431 = ad432 := (by injection e432)
                                    replace p432 := eq_true p432
                                    replace q432 := eq_true q432
                                    refine start_ (n := 10) (S := fun w' => w'.cell? (ad431.add ((rd t419 x6_3)).toNat) = some (.int .i64 (rd t422 (rd t419 x6_3))) ∧ w'.cell? (ad431.add ((rd t419 (ji26))).toNat) = some (.int .i64 (rd t422 (rd t419 (ji26))))) (ds := []) #[false, false, false, false, false, false, false, false, false, false] (by kernel_rfl) rfl rfl ⟨hx431_0, hx432_0⟩ (fun hHeld => ?_); refine with_tabW parquetlaw07_SortsStands.tab17 parquetlaw07_SortsStands.bits17 (fun HT_ HW_ => ?_)
                                    generalize wr.drew = w35 at HO_3 HO_4 HB hx431_0 hx432_0 hHeld ⊢
                                    refine pure_ (i := 0) (N := some 74) (v := ?_) (a' := ?_) #[true, false, false, false, false, false, false, false, false, false] rfl rfl (any_of HT_.out (by kernel_rfl)) (fun _ _ _ h => h) (Or.inl ⟨by rfl, ?_⟩) ?_ ?_
                                    rotate_left
                                    · intro w'
                                      go_simp
                                      with_reducible rfl
                                    rotate_left
                                    · simp only [Act.put, List.setIfInBounds_toArray, List.set_cons_zero, List.set_cons_succ, i64_w, i32_w]
                                      rfl
                                    refine pure_ (i := 1) (N := some 75) (v := ?_) (a' := ?_) #[true, true, false, false, false, false, false, false, false, false] rfl rfl (any_of HT_.out (by kernel_rfl)) (fun _ _ _ h => h) (Or.inl ⟨by rfl, ?_⟩) ?_ ?_
                                    rotate_left
                                    · intro w'
                                      go_simp
                                      with_reducible rfl
                                    rotate_left
                                    · simp only [Act.put, List.setIfInBounds_toArray, List.set_cons_zero, List.set_cons_succ, i64_w, i32_w]
                                      rfl
                                    refine pure_ (i := 2) (N := some 76) (v := ?_) (a' := ?_) #[true, true, true, false, false, false, false, false, false, false] rfl rfl (any_of HT_.out (by kernel_rfl)) (fun _ _ _ h => h) (Or.inl ⟨by rfl, ?_⟩) ?_ ?_
                                    rotate_left
                                    · intro w'
                                      go_simp
                                      with_reducible rfl
                                    rotate_left
                                    · simp only [Act.put, List.setIfInBounds_toArray, List.set_cons_zero, List.set_cons_succ, i64_w, i32_w]
                                      rfl
                                    refine pure_ (i := 4) (N := some 78) (v := ?_) (a' := ?_) #[true, true, true, false, true, false, false, false, false, false] rfl rfl (any_of HT_.out (by kernel_rfl)) (fun _ _ _ h => h) (Or.inl ⟨by rfl, ?_⟩) ?_ ?_
                                    rotate_left
                                    · intro w'
                                      go_simp
                                      with_reducible rfl
                                    rotate_left
                                    · simp only [Act.put, List.setIfInBounds_toArray, List.set_cons_zero, List.set_cons_succ, i64_w, i32_w]
                                      rfl
                                    refine pure_ (i := 5) (N := some 79) (v := ?_) (a' := ?_) #[true, true, true, false, true, true, false, false, false, false] rfl rfl (any_of HT_.out (by kernel_rfl)) (fun _ _ _ h => h) (Or.inl ⟨by rfl, ?_⟩) ?_ ?_
                                    rotate_left
                                    · intro w'
                                      go_simp
                                      with_reducible rfl
                                    rotate_left
                                    · simp only [Act.put, List.setIfInBounds_toArray, List.set_cons_zero, List.set_cons_succ, i64_w, i32_w]
                                      rfl
                                    refine pure_ (i := 6) (N := some 80) (v := ?_) (a' := ?_) #[true, true, true, false, true, true, true, false, false, false] rfl rfl (any_of HT_.out (by kernel_rfl)) (fun _ _ _ h => h) (Or.inl ⟨by rfl, ?_⟩) ?_ ?_
                                    rotate_left
                                    · intro w'
                                      go_simp
                                      with_reducible rfl
                                    rotate_left
                                    · simp only [Act.put, List.setIfInBounds_toArray, List.set_cons_zero, List.set_cons_succ, i64_w, i32_w]
                                      rfl
                                    refine take_ (i := 3) (N := some 77) (v := ?_) (a' := ?_) #[true, true, true, true, true, true, true, false, false, false] rfl rfl (take_ofW HT_.out HW_.out (by kernel_rfl)) (fun _ _ _ h => h) (Or.inl ⟨by rfl, ?_⟩) hHeld ?_ ?_
                                    rotate_left
                                    · rintro w' ⟨s0, s1⟩
                                      go_simp
                                      with_reducible rfl
                                    rotate_left
                                    · simp only [Act.put, List.setIfInBounds_toArray, List.set_cons_zero, List.set_cons_succ, i64_w, i32_w]
                                      rfl
                                    refine take_ (i := 7) (N := some 81) (v := ?_) (a' := ?_) #[true, true, true, true, true, true, true, true, false, false] rfl rfl (take_ofW HT_.out HW_.out (by kernel_rfl)) (fun _ _ _ h => h) (Or.inl ⟨by rfl, ?_⟩) hHeld ?_ ?_
                                    rotate_left
                                    · rintro w' ⟨s0, s1⟩
                                      go_simp
                                      with_reducible rfl
                                    rotate_left
                                    · simp only [Act.put, List.setIfInBounds_toArray, List.set_cons_zero, List.set_cons_succ, i64_w, i32_w]
                                      rfl
                                    refine pure_ (i := 8) (N := some 82) (v := ?_) (a' := ?_) #[true, true, true, true, true, true, true, true, true, false] rfl rfl (any_of HT_.out (by kernel_rfl)) (fun _ _ _ h => h) (Or.inl ⟨by rfl, ?_⟩) ?_ ?_
                                    rotate_left
                                    · intro w'
                                      go_simp
                                      with_reducible rfl
                                    rotate_left
                                    · simp only [Act.put, List.setIfInBounds_toArray, List.set_cons_zero, List.set_cons_succ, i64_w, i32_w]
                                      rfl
                                    refine pure_ (i := 9) (N := some 9) (v := ?_) (a' := ?_) #[true, true, true, true, true, true, true, true, true, true] rfl rfl (any_of HT_.out (by kernel_rfl)) (fun _ _ _ h => h) (Or.inl ⟨by rfl, ?_⟩) ?_ ?_
                                    rotate_left
                                    · intro w'
                                      go_simp
                                      with_reducible rfl
                                    rotate_left
                                    · simp only [Act.put, List.setIfInBounds_toArray, List.set_cons_zero, List.set_cons_succ, i64_w, i32_w]
                                      rfl
                                    refine done_ (done_of HT_.out (by kernel_rfl)) ?_
                                    go_upto_region 18 with (fail)
                                    have H := HU34.out
                                    clear HU34
                                    by_cases c37 : (rd t419 x6_3) < (l0.length : Int)
                                    · rw [if_pos c37] at H
                                      have c37b0 : decide ((rd t419 x6_3) < (l0.length : Int)) = true := decide_eq_true c37
                                      clear c37
                                      (first | rw [c37b0] | (simp only [i64_w, i32_w]; rw [c37b0]) | skip)
                                      by_cases c38 : (rd t419 (ji26)) < (l0.length : Int)
                                      · rw [if_pos c38] at H
                                        have c38b0 : decide ((rd t419 (ji26)) < (l0.length : Int)) = true := decide_eq_true c38
                                        clear c38
                                        replace H := Option.bind_eq_some_iff.mp H
                                        obtain ⟨t435, A390, H⟩ := H
                                        replace H : (if t435 = true then (some false) else (if (((rd_T28 l0 (rd t419 (ji26))).f0) == ((rd_T28 l0 (rd t419 x6_3)).f0) && (((rd_T28 l0 (rd t419 (ji26))).f1) == ((rd_T28 l0 (rd t419 x6_3)).f1))) = true then (if (rd t419 (ji26)) > (rd t419 x6_3) then (some false) else (if (wrap64 ((rd t422 (rd t419 x6_3)) - (rd t422 (rd t419 (ji26))))) = 0 then (parquetlaw07_SortsStands.l1 k3 l0 t419 t422 (wrap64 (x6_3 + 1))) else (some false))) else (if (wrap64 ((rd t422 (rd t419 x6_3)) - (rd t422 (rd t419 (ji26))))) = 1 then (parquetlaw07_SortsStands.l1 k3 l0 t419 t422 (wrap64 (x6_3 + 1))) else (some false)))) = some r := H
                                        have A39 := Aside0.mk A390
                                        clear A390
                                        by_cases c40 : t435 = true
                                        · subst c40
                                          have H1 : (some false) = some r := by rw [if_pos rfl] at H; exact H
                                          clear H
                                          have H := H1
                                          clear H1
                                          obtain rfl := Option.some.inj H
                                          exact absurd hT.out (by simp)
                                        · replace c40 := Bool.eq_false_iff.mpr c40
                                          subst c40
                                          have H1 : (if (((rd_T28 l0 (rd t419 (ji26))).f0) == ((rd_T28 l0 (rd t419 x6_3)).f0) && (((rd_T28 l0 (rd t419 (ji26))).f1) == ((rd_T28 l0 (rd t419 x6_3)).f1))) = true then (if (rd t419 (ji26)) > (rd t419 x6_3) then (some false) else (if (wrap64 ((rd t422 (rd t419 x6_3)) - (rd t422 (rd t419 (ji26))))) = 0 then (parquetlaw07_SortsStands.l1 k3 l0 t419 t422 (wrap64 (x6_3 + 1))) else (some false))) else (if (wrap64 ((rd t422 (rd t419 x6_3)) - (rd t422 (rd t419 (ji26))))) = 1 then (parquetlaw07_SortsStands.l1 k3 l0 t419 t422 (wrap64 (x6_3 + 1))) else (some false))) = some r := by rw [if_neg (show ¬ (false = true) by decide)] at H; exact H
                                          clear H
                                          have H := H1
                                          clear H1
                                          by_cases c41 : (((rd_T28 l0 (rd t419 (ji26))).f0) == ((rd_T28 l0 (rd t419 x6_3)).f0) && (((rd_T28 l0 (rd t419 (ji26))).f1) == ((rd_T28 l0 (rd t419 x6_3)).f1))) = true
                                          · rw [if_pos c41] at H
                                            have c41b0 : (((rd_T28 l0 (rd t419 (ji26))).f0) == ((rd_T28 l0 (rd t419 x6_3)).f0) && (((rd_T28 l0 (rd t419 (ji26))).f1) == ((rd_T28 l0 (rd t419 x6_3)).f1))) = true := c41
                                            (try (have c41b1 : decide (((rd_T28 l0 (rd t419 (ji26))).f0) = ((rd_T28 l0 (rd t419 x6_3)).f0) && (((rd_T28 l0 (rd t419 (ji26))).f1) == ((rd_T28 l0 (rd t419 x6_3)).f1))) = true := by simpa using c41))
                                            (try (have c41b2 : (((rd_T28 l0 (rd t419 (ji26))).f0) == ((rd_T28 l0 (rd t419 x6_3)).f0) && (((rd_T28 l0 (rd t419 (ji26))).f1) == ((rd_T28 l0 (rd t419 x6_3)).f1))) = true := by simpa using c41))
                                            (try (have c41b3 : (!(((rd_T28 l0 (rd t419 (ji26))).f0) == ((rd_T28 l0 (rd t419 x6_3)).f0)) || (!(((rd_T28 l0 (rd t419 (ji26))).f1) == ((rd_T28 l0 (rd t419 x6_3)).f1)))) = false := by rw [show (!(((rd_T28 l0 (rd t419 (ji26))).f0) == ((rd_T28 l0 (rd t419 x6_3)).f0)) || (!(((rd_T28 l0 (rd t419 (ji26))).f1) == ((rd_T28 l0 (rd t419 x6_3)).f1)))) = !(((rd_T28 l0 (rd t419 (ji26))).f0) == ((rd_T28 l0 (rd t419 x6_3)).f0) && (((rd_T28 l0 (rd t419 (ji26))).f1) == ((rd_T28 l0 (rd t419 x6_3)).f1))) from by simp [Bool.not_and]]; rw [c41b0]; rfl))
                                            clear c41
                                            by_cases c42 : (rd t419 (ji26)) > (rd t419 x6_3)
                                            · rw [if_pos c42] at H
                                              have c42b0 : decide ((rd t419 x6_3) < (rd t419 (ji26))) = true := decide_eq_true c42
                                              clear c42
                                              obtain rfl := Option.some.inj H
                                              exact absurd hT.out (by simp)
                                            · rw [if_neg c42] at H
                                              have c42b0 : decide ((rd t419 x6_3) < (rd t419 (ji26))) = false := decide_eq_false c42
                                              clear c42
                                              by_cases c43 : (wrap64 ((rd t422 (rd t419 x6_3)) - (rd t422 (rd t419 (ji26))))) = 0
                                              · rw [if_pos c43] at H
                                                have c43b0 : ((wrap64 ((rd t422 (rd t419 x6_3)) - (rd t422 (rd t419 (ji26))))) == 0) = true := beq_iff_eq.mpr c43
                                                have c43b1 : ((wrap64 ((rd t422 (rd t419 x6_3)) - (rd t422 (rd t419 (ji26))))) != 0) = false := bne_eq_false_iff_eq.mpr c43
                                                clear c43
                                                have H' := Aside0.mk H
                                                clear H
                                                try go_wp2
                                                have n0_ := Aside0.mk (Kd.R_drew HO_3.out)
                                                have n1_ := Aside0.mk (Kd.R_drew HO_4.out)
                                                have n2_ := Aside0.mk (below_drew1 HB.out)
                                                clear HO_3
                                                clear HO_4
                                                clear HB
                                                have HO_3 := n0_
                                                have HO_4 := n1_
                                                have HB := n2_
                                                clear n0_ n1_ n2_
                                                have p433 : 0 ≤ ((rd t419 x6_3) : Int) := of_decide_eq_true (by first | (with_reducible assumption) | assumption)
                                                have q433 : (rd t419 x6_3) < (l0.length : Int) := of_decide_eq_true (by first | (with_reducible assumption) | assumption)
                                                obtain ⟨ad433, e433, hx433_0, hx433_1⟩ := at_T28 HR0.out (rd t419 x6_3) p433 q433
                                                have hw433_1 := hx433_1
                                                have hw433_0 := hx433_0
                                                cases e433
                                                replace hx433_0 := (HB.out.cell (World.block_lt_of_cell? w _ hx433_0)).trans hx433_0
                                                replace hx433_1 := (HB.out.cell (World.block_lt_of_cell? w _ hx433_1)).trans hx433_1
                                                replace p433 := eq_true p433
                                                replace q433 := eq_true q433
                                                have p434 : 0 ≤ ((rd t419 (ji26)) : Int) := of_decide_eq_true (by first | (with_reducible assumption) | assumption)
                                                have q434 : (rd t419 (ji26)) < (l0.length : Int) := of_decide_eq_true (by first | (with_reducible assumption) | assumption)
                                                obtain ⟨ad434, e434, hx434_0, hx434_1⟩ := at_T28 HR0.out (rd t419 (ji26)) p434 q434
                                                have hw434_1 := hx434_1
                                                have hw434_0 := hx434_0
                                                obtain rfl : ad433 = ad434 := (by injection e434)
                                                replace hx434_0 := (HB.out.cell (World.block_lt_of_cell? w _ hx434_0)).trans hx434_0
                                                replace hx434_1 := (HB.out.cell (World.block_lt_of_cell? w _ hx434_1)).trans hx434_1
                                                replace p434 := eq_true p434
                                                replace q434 := eq_true q434
                                                have p436 : 0 ≤ ((rd t419 (ji26)) : Int) := of_decide_eq_true (by first | (with_reducible assumption) | assumption)
                                                have q436 : (rd t419 (ji26)) < (l0.length : Int) := of_decide_eq_true (by first | (with_reducible assumption) | assumption)
                                                obtain ⟨ad436, e436, hx436_0, hx436_1⟩ := at_T28 HR0.out (rd t419 (ji26)) p436 q436
                                                have hw436_1 := hx436_1
                                                have hw436_0 := hx436_0
                                                obtain rfl : ad433 = ad436 := (by injection e436)
                                                replace hx436_0 := (HB.out.cell (World.block_lt_of_cell? w _ hx436_0)).trans hx436_0
                                                replace hx436_1 := (HB.out.cell (World.block_lt_of_cell? w _ hx436_1)).trans hx436_1
                                                replace p436 := eq_true p436
                                                replace q436 := eq_true q436
                                                have p437 : 0 ≤ ((rd t419 x6_3) : Int) := of_decide_eq_true (by first | (with_reducible assumption) | assumption)
                                                have q437 : (rd t419 x6_3) < (l0.length : Int) := of_decide_eq_true (by first | (with_reducible assumption) | assumption)
                                                obtain ⟨ad437, e437, hx437_0, hx437_1⟩ := at_T28 HR0.out (rd t419 x6_3) p437 q437
                                                have hw437_1 := hx437_1
                                                have hw437_0 := hx437_0
                                                obtain rfl : ad433 = ad437 := (by injection e437)
                                                replace hx437_0 := (HB.out.cell (World.block_lt_of_cell? w _ hx437_0)).trans hx437_0
                                                replace hx437_1 := (HB.out.cell (World.block_lt_of_cell? w _ hx437_1)).trans hx437_1
                                                replace p437 := eq_true p437
                                                replace q437 := eq_true q437
                                                have p438 : 0 ≤ ((rd t419 (ji26)) : Int) := of_decide_eq_true (by first | (with_reducible assumption) | assumption)
                                                have q438 : (rd t419 (ji26)) < (l0.length : Int) := of_decide_eq_true (by first | (with_reducible assumption) | assumption)
                                                obtain ⟨ad438, e438, hx438_0, hx438_1⟩ := at_T28 HR0.out (rd t419 (ji26)) p438 q438
                                                have hw438_1 := hx438_1
                                                have hw438_0 := hx438_0
                                                obtain rfl : ad433 = ad438 := (by injection e438)
                                                replace hx438_0 := (HB.out.cell (World.block_lt_of_cell? w _ hx438_0)).trans hx438_0
                                                replace hx438_1 := (HB.out.cell (World.block_lt_of_cell? w _ hx438_1)).trans hx438_1
                                                replace p438 := eq_true p438
                                                replace q438 := eq_true q438
                                                have p439 : 0 ≤ ((rd t419 x6_3) : Int) := of_decide_eq_true (by first | (with_reducible assumption) | assumption)
                                                have q439 : (rd t419 x6_3) < (l0.length : Int) := of_decide_eq_true (by first | (with_reducible assumption) | assumption)
                                                obtain ⟨ad439, e439, hx439_0, hx439_1⟩ := at_T28 HR0.out (rd t419 x6_3) p439 q439
                                                have hw439_1 := hx439_1
                                                have hw439_0 := hx439_0
                                                obtain rfl : ad433 = ad439 := (by injection e439)
                                                replace hx439_0 := (HB.out.cell (World.block_lt_of_cell? w _ hx439_0)).trans hx439_0
                                                replace hx439_1 := (HB.out.cell (World.block_lt_of_cell? w _ hx439_1)).trans hx439_1
                                                replace p439 := eq_true p439
                                                replace q439 := eq_true q439
                                                refine start_ (n := 44) (S := fun w' => w'.cell? (ad433.add (((rd t419 x6_3)).toNat * 2)) = some (.int .i64 ((rd_T28 l0 (rd t419 x6_3)).f0)) ∧ w'.cell? ⟨(ad433.add (((rd t419 x6_3)).toNat * 2)).block, (ad433.add (((rd t419 x6_3)).toNat * 2)).off + 1, none⟩ = some (.int .i64 ((rd_T28 l0 (rd t419 x6_3)).f1)) ∧ w'.cell? (ad433.add (((rd t419 (ji26))).toNat * 2)) = some (.int .i64 ((rd_T28 l0 (rd t419 (ji26))).f0)) ∧ w'.cell? ⟨(ad433.add (((rd t419 (ji26))).toNat * 2)).block, (ad433.add (((rd t419 (ji26))).toNat * 2)).off + 1, none⟩ = some (.int .i64 ((rd_T28 l0 (rd t419 (ji26))).f1)) ∧ w'.cell? (ad433.add (((rd t419 (ji26))).toNat * 2)) = some (.int .i64 ((rd_T28 l0 (rd t419 (ji26))).f0)) ∧ w'.cell? ⟨(ad433.add (((rd t419 (ji26))).toNat * 2)).block, (ad433.add (((rd t419 (ji26))).toNat * 2)).off + 1, none⟩ = some (.int .i64 ((rd_T28 l0 (rd t419 (ji26))).f1)) ∧ w'.cell? (ad433.add (((rd t419 x6_3)).toNat * 2)) = some (.int .i64 ((rd_T28 l0 (rd t419 x6_3)).f0)) ∧ w'.cell? ⟨(ad433.add (((rd t419 x6_3)).toNat * 2)).block, (ad433.add (((rd t419 x6_3)).toNat * 2)).off + 1, none⟩ = some (.int .i64 ((rd_T28 l0 (rd t419 x6_3)).f1)) ∧ w'.cell? (ad433.add (((rd t419 (ji26))).toNat * 2)) = some (.int .i64 ((rd_T28 l0 (rd t419 (ji26))).f0)) ∧ w'.cell? ⟨(ad433.add (((rd t419 (ji26))).toNat * 2)).block, (ad433.add (((rd t419 (ji26))).toNat * 2)).off + 1, none⟩ = some (.int .i64 ((rd_T28 l0 (rd t419 (ji26))).f1)) ∧ w'.cell? (ad433.add (((rd t419 x6_3)).toNat * 2)) = some (.int .i64 ((rd_T28 l0 (rd t419 x6_3)).f0)) ∧ w'.cell? ⟨(ad433.add (((rd t419 x6_3)).toNat * 2)).block, (ad433.add (((rd t419 x6_3)).toNat * 2)).off + 1, none⟩ = some (.int .i64 ((rd_T28 l0 (rd t419 x6_3)).f1))) (ds := []) #[false, false, false, false, false, false, false, false, false, false, false, false, false, false, false, false, false, false, false, false, false, false, false, false, false, false, false, false, false, false, false, false, false, false, false, false, false, false, false, false, false, false, false, false] (by kernel_rfl) rfl rfl ⟨((HB.out.cell (World.block_lt_of_cell? w _ hw433_0)).trans hw433_0), ((HB.out.cell (World.block_lt_of_cell? w _ hw433_1)).trans hw433_1), ((HB.out.cell (World.block_lt_of_cell? w _ hw434_0)).trans hw434_0), ((HB.out.cell (World.block_lt_of_cell? w _ hw434_1)).trans hw434_1), ((HB.out.cell (World.block_lt_of_cell? w _ hw436_0)).trans hw436_0), ((HB.out.cell (World.block_lt_of_cell? w _ hw436_1)).trans hw436_1), ((HB.out.cell (World.block_lt_of_cell? w _ hw437_0)).trans hw437_0), ((HB.out.cell (World.block_lt_of_cell? w _ hw437_1)).trans hw437_1), ((HB.out.cell (World.block_lt_of_cell? w _ hw438_0)).trans hw438_0), ((HB.out.cell (World.block_lt_of_cell? w _ hw438_1)).trans hw438_1), ((HB.out.cell (World.block_lt_of_cell? w _ hw439_0)).trans hw439_0), ((HB.out.cell (World.block_lt_of_cell? w _ hw439_1)).trans hw439_1)⟩ (fun hHeld => ?_); refine with_tabW parquetlaw07_SortsStands.tab18 parquetlaw07_SortsStands.bits18 (fun HT_ HW_ => ?_)
                                                generalize w35.drew = w44 at HO_3 HO_4 HB hx433_0 hx433_1 hx434_0 hx434_1 hx436_0 hx436_1 hx437_0 hx437_1 hx438_0 hx438_1 hx439_0 hx439_1 hHeld ⊢
                                                refine pure_ (i := 0) (N := some 83) (v := ?_) (a' := ?_) #[true, false, false, false, false, false, false, false, false, false, false, false, false, false, false, false, false, false, false, false, false, false, false, false, false, false, false, false, false, false, false, false, false, false, false, false, false, false, false, false, false, false, false, false] rfl rfl (any_of HT_.out (by kernel_rfl)) (fun _ _ _ h => h) (Or.inl ⟨by rfl, ?_⟩) ?_ ?_
                                                rotate_left
                                                · intro w'
                                                  go_simp
                                                  with_reducible rfl
                                                rotate_left
                                                · simp only [Act.put, List.setIfInBounds_toArray, List.set_cons_zero, List.set_cons_succ, i64_w, i32_w]
                                                  rfl
                                                refine pure_ (i := 1) (N := some 84) (v := ?_) (a' := ?_) #[true, true, false, false, false, false, false, false, false, false, false, false, false, false, false, false, false, false, false, false, false, false, false, false, false, false, false, false, false, false, false, false, false, false, false, false, false, false, false, false, false, false, false, false] rfl rfl (any_of HT_.out (by kernel_rfl)) (fun _ _ _ h => h) (Or.inl ⟨by rfl, ?_⟩) ?_ ?_
                                                rotate_left
                                                · intro w'
                                                  go_simp
                                                  with_reducible rfl
                                                rotate_left
                                                · simp only [Act.put, List.setIfInBounds_toArray, List.set_cons_zero, List.set_cons_succ, i64_w, i32_w]
                                                  rfl
                                                refine pure_ (i := 2) (N := some 85) (v := ?_) (a' := ?_) #[true, true, true, false, false, false, false, false, false, false, false, false, false, false, false, false, false, false, false, false, false, false, false, false, false, false, false, false, false, false, false, false, false, false, false, false, false, false, false, false, false, false, false, false] rfl rfl (any_of HT_.out (by kernel_rfl)) (fun _ _ _ h => h) (Or.inl ⟨by rfl, ?_⟩) ?_ ?_
                                                rotate_left
                                                · intro w'
                                                  go_simp
                                                  with_reducible rfl
                                                rotate_left
                                                · simp only [Act.put, List.setIfInBounds_toArray, List.set_cons_zero, List.set_cons_succ, i64_w, i32_w]
                                                  rfl
                                                refine pure_ (i := 4) (N := some 87) (v := ?_) (a' := ?_) #[true, true, true, false, true, false, false, false, false, false, false, false, false, false, false, false, false, false, false, false, false, false, false, false, false, false, false, false, false, false, false, false, false, false, false, false, false, false, false, false, false, false, false, false] rfl rfl (any_of HT_.out (by kernel_rfl)) (fun _ _ _ h => h) (Or.inl ⟨by rfl, ?_⟩) ?_ ?_
                                                rotate_left
                                                · intro w'
                                                  go_simp
                                                  with_reducible rfl
                                                rotate_left
                                                · simp only [Act.put, List.setIfInBounds_toArray, List.set_cons_zero, List.set_cons_succ, i64_w, i32_w]
                                                  rfl
                                                refine pure_ (i := 5) (N := some 88) (v := ?_) (a' := ?_) #[true, true, true, false, true, true, false, false, false, false, false, false, false, false, false, false, false, false, false, false, false, false, false, false, false, false, false, false, false, false, false, false, false, false, false, false, false, false, false, false, false, false, false, false] rfl rfl (any_of HT_.out (by kernel_rfl)) (fun _ _ _ h => h) (Or.inl ⟨by rfl, ?_⟩) ?_ ?_
                                                rotate_left
                                                · intro w'
                                                  go_simp
                                                  with_reducible rfl
                                                rotate_left
                                                · simp only [Act.put, List.setIfInBounds_toArray, List.set_cons_zero, List.set_cons_succ, i64_w, i32_w]
                                                  rfl
                                                refine pure_ (i := 6) (N := some 89) (v := ?_) (a' := ?_) #[true, true, true, false, true, true, true, false, false, false, false, false, false, false, false, false, false, false, false, false, false, false, false, false, false, false, false, false, false, false, false, false, false, false, false, false, false, false, false, false, false, false, false, false] rfl rfl (any_of HT_.out (by kernel_rfl)) (fun _ _ _ h => h) (Or.inl ⟨by rfl, ?_⟩) ?_ ?_
                                                rotate_left
                                                · intro w'
                                                  go_simp
                                                  with_reducible rfl
                                                rotate_left
                                                · simp only [Act.put, List.setIfInBounds_toArray, List.set_cons_zero, List.set_cons_succ, i64_w, i32_w]
                                                  rfl
                                                refine take_ (i := 3) (N := some 86) (v := ?_) (a' := ?_) #[true, true, true, true, true, true, true, false, false, false, false, false, false, false, false, false, false, false, false, false, false, false, false, false, false, false, false, false, false, false, false, false, false, false, false, false, false, false, false, false, false, false, false, false] rfl rfl (take_ofW HT_.out HW_.out (by kernel_rfl)) (fun _ _ _ h => h) (Or.inl ⟨by rfl, ?_⟩) hHeld ?_ ?_
                                                rotate_left
                                                · rintro w' ⟨s0, s1, s2, s3, s4, s5, s6, s7, s8, s9, s10, s11⟩
                                                  go_simp
                                                  with_reducible rfl
                                                rotate_left
                                                · simp only [Act.put, List.setIfInBounds_toArray, List.set_cons_zero, List.set_cons_succ, i64_w, i32_w]
                                                  rfl
                                                refine take_ (i := 7) (N := some 90) (v := ?_) (a' := ?_) #[true, true, true, true, true, true, true, true, false, false, false, false, false, false, false, false, false, false, false, false, false, false, false, false, false, false, false, false, false, false, false, false, false, false, false, false, false, false, false, false, false, false, false, false] rfl rfl (take_ofW HT_.out HW_.out (by kernel_rfl)) (fun _ _ _ h => h) (Or.inl ⟨by rfl, ?_⟩) hHeld ?_ ?_
                                                rotate_left
                                                · rintro w' ⟨s0, s1, s2, s3, s4, s5, s6, s7, s8, s9, s10, s11⟩
                                                  go_simp
                                                  with_reducible rfl
                                                rotate_left
                                                · simp only [Act.put, List.setIfInBounds_toArray, List.set_cons_zero, List.set_cons_succ, i64_w, i32_w]
                                                  rfl
                                                refine one_ (i := 8) (N := some 91) #[true, true, true, true, true, true, true, true, true, false, false, false, false, false, false, false, false, false, false, false, false, false, false, false, false, false, false, false, false, false, false, false, false, false, false, false, false, false, false, false, false, false, false, false] rfl rfl (one_of HT_.out (by kernel_rfl)) (by decide) (fun K hK => ?_)
                                                refine goes_ Try.func21 (by kernel_rfl) rfl #[.agg #[.int .i64 ((rd_T28 l0 (rd t419 x6_3)).f0), .int .i64 ((rd_T28 l0 (rd t419 x6_3)).f1)], .agg #[.int .i64 ((rd_T28 l0 (rd t419 (ji26))).f0), .int .i64 ((rd_T28 l0 (rd t419 (ji26))).f1)]] (by rfl) rfl rfl (by (try simp only [List.map_toArray, List.map_cons, List.map_nil]); first | done | (simp only [hji26]; rfl) | rfl | (simp only [List.length_drop, List.length_take]; rfl)) ?_
                                                with_reducible refine (parquetref07_Less.calls ((rd_T28 l0 (rd t419 x6_3)).f0) ((rd_T28 l0 (rd t419 x6_3)).f1) ((rd_T28 l0 (rd t419 (ji26))).f0) ((rd_T28 l0 (rd t419 (ji26))).f1) false _ A39.out).mono ?_
                                                rintro e w45 ⟨rfl, hb⟩
                                                refine ⟨_, rfl, ?_⟩
                                                have n0_ := Aside0.mk (Kd.R_below (by (with_reducible repeat (first | apply Kd.R_alloc | apply Kd.R_drewN | apply Kd.R_drew)); exact HO_3.out) hb)
                                                have n1_ := Aside0.mk (Kd.R_below (by (with_reducible repeat (first | apply Kd.R_alloc | apply Kd.R_drewN | apply Kd.R_drew)); exact HO_4.out) hb)
                                                have n2_ := Aside0.mk (below_step (by repeat (first | (with_reducible first | exact HB.out | apply below_alloc | apply pw_below_drewN | apply below_drew1) | exact HB.out)) hb)
                                                clear HO_3
                                                clear HO_4
                                                clear HB
                                                have HO_3 := n0_
                                                have HO_4 := n1_
                                                have HB := n2_
                                                clear n0_ n1_ n2_
                                                (try clear hb)
                                                (try clear hb2)
                                                (try clear hk)
                                                (try clear hi)
                                                refine hK.out _ _ ⟨((HB.out.cell (World.block_lt_of_cell? w _ hw433_0)).trans hw433_0), ((HB.out.cell (World.block_lt_of_cell? w _ hw433_1)).trans hw433_1), ((HB.out.cell (World.block_lt_of_cell? w _ hw434_0)).trans hw434_0), ((HB.out.cell (World.block_lt_of_cell? w _ hw434_1)).trans hw434_1), ((HB.out.cell (World.block_lt_of_cell? w _ hw436_0)).trans hw436_0), ((HB.out.cell (World.block_lt_of_cell? w _ hw436_1)).trans hw436_1), ((HB.out.cell (World.block_lt_of_cell? w _ hw437_0)).trans hw437_0), ((HB.out.cell (World.block_lt_of_cell? w _ hw437_1)).trans hw437_1), ((HB.out.cell (World.block_lt_of_cell? w _ hw438_0)).trans hw438_0), ((HB.out.cell (World.block_lt_of_cell? w _ hw438_1)).trans hw438_1), ((HB.out.cell (World.block_lt_of_cell? w _ hw439_0)).trans hw439_0), ((HB.out.cell (World.block_lt_of_cell? w _ hw439_1)).trans hw439_1)⟩ (fun hHeld => ?_)
                                                clear hK K
                                                refine norm_ (a' := ?_) ?_ ?_
                                                rotate_left
                                                · show Act.put _ (some 91) _ = _
                                                  simp only [Act.put, List.setIfInBounds_toArray, List.set_cons_zero, List.set_cons_succ, i64_w, i32_w]
                                                  rfl
                                                refine pure_ (i := 9) (N := some 92) (v := ?_) (a' := ?_) #[true, true, true, true, true, true, true, true, true, true, false, false, false, false, false, false, false, false, false, false, false, false, false, false, false, false, false, false, false, false, false, false, false, false, false, false, false, false, false, false, false, false, false, false] rfl rfl (any_of HT_.out (by kernel_rfl)) (fun _ _ _ h => h) (Or.inl ⟨by rfl, ?_⟩) ?_ ?_
                                                rotate_left
                                                · intro w'
                                                  go_simp
                                                  with_reducible rfl
                                                rotate_left
                                                · simp only [Act.put, List.setIfInBounds_toArray, List.set_cons_zero, List.set_cons_succ, i64_w, i32_w]
                                                  rfl
                                                refine pure_ (i := 10) (N := some 93) (v := ?_) (a' := ?_) #[true, true, true, true, true, true, true, true, true, true, true, false, false, false, false, false, false, false, false, false, false, false, false, false, false, false, false, false, false, false, false, false, false, false, false, false, false, false, false, false, false, false, false, false] rfl rfl (any_of HT_.out (by kernel_rfl)) (fun _ _ _ h => h) (Or.inl ⟨by rfl, ?_⟩) ?_ ?_
                                                rotate_left
                                                · intro w'
                                                  go_simp
                                                  with_reducible rfl
                                                rotate_left
                                                · simp only [Act.put, List.setIfInBounds_toArray, List.set_cons_zero, List.set_cons_succ, i64_w, i32_w]
                                                  rfl
                                                refine pure_ (i := 11) (N := some 94) (v := ?_) (a' := ?_) #[true, true, true, true, true, true, true, true, true, true, true, true, false, false, false, false, false, false, false, false, false, false, false, false, false, false, false, false, false, false, false, false, false, false, false, false, false, false, false, false, false, false, false, false] rfl rfl (any_of HT_.out (by kernel_rfl)) (fun _ _ _ h => h) (Or.inl ⟨by rfl, ?_⟩) ?_ ?_
                                                rotate_left
                                                · intro w'
                                                  go_simp
                                                  with_reducible rfl
                                                rotate_left
                                                · simp only [Act.put, List.setIfInBounds_toArray, List.set_cons_zero, List.set_cons_succ, i64_w, i32_w]
                                                  rfl
                                                refine pure_ (i := 12) (N := some 95) (v := ?_) (a' := ?_) #[true, true, true, true, true, true, true, true, true, true, true, true, true, false, false, false, false, false, false, false, false, false, false, false, false, false, false, false, false, false, false, false, false, false, false, false, false, false, false, false, false, false, false, false] rfl rfl (any_of HT_.out (by kernel_rfl)) (fun _ _ _ h => h) (Or.inl ⟨by rfl, ?_⟩) ?_ ?_
                                                rotate_left
                                                · intro w'
                                                  go_simp
                                                  with_reducible rfl
                                                rotate_left
                                                · simp only [Act.put, List.setIfInBounds_toArray, List.set_cons_zero, List.set_cons_succ, i64_w, i32_w]
                                                  rfl
                                                refine pure_ (i := 14) (N := some 97) (v := ?_) (a' := ?_) #[true, true, true, true, true, true, true, true, true, true, true, true, true, false, true, false, false, false, false, false, false, false, false, false, false, false, false, false, false, false, false, false, false, false, false, false, false, false, false, false, false, false, false, false] rfl rfl (any_of HT_.out (by kernel_rfl)) (fun _ _ _ h => h) (Or.inl ⟨by rfl, ?_⟩) ?_ ?_
                                                rotate_left
                                                · intro w'
                                                  go_simp
                                                  with_reducible rfl
                                                rotate_left
                                                · simp only [Act.put, List.setIfInBounds_toArray, List.set_cons_zero, List.set_cons_succ, i64_w, i32_w]
                                                  rfl
                                                refine pure_ (i := 15) (N := some 98) (v := ?_) (a' := ?_) #[true, true, true, true, true, true, true, true, true, true, true, true, true, false, true, true, false, false, false, false, false, false, false, false, false, false, false, false, false, false, false, false, false, false, false, false, false, false, false, false, false, false, false, false] rfl rfl (any_of HT_.out (by kernel_rfl)) (fun _ _ _ h => h) (Or.inl ⟨by rfl, ?_⟩) ?_ ?_
                                                rotate_left
                                                · intro w'
                                                  go_simp
                                                  with_reducible rfl
                                                rotate_left
                                                · simp only [Act.put, List.setIfInBounds_toArray, List.set_cons_zero, List.set_cons_succ, i64_w, i32_w]
                                                  rfl
                                                refine pure_ (i := 16) (N := some 99) (v := ?_) (a' := ?_) #[true, true, true, true, true, true, true, true, true, true, true, true, true, false, true, true, true, false, false, false, false, false, false, false, false, false, false, false, false, false, false, false, false, false, false, false, false, false, false, false, false, false, false, false] rfl rfl (any_of HT_.out (by kernel_rfl)) (fun _ _ _ h => h) (Or.inl ⟨by rfl, ?_⟩) ?_ ?_
                                                rotate_left
                                                · intro w'
                                                  go_simp
                                                  with_reducible rfl
                                                rotate_left
                                                · simp only [Act.put, List.setIfInBounds_toArray, List.set_cons_zero, List.set_cons_succ, i64_w, i32_w]
                                                  rfl
                                                refine take_ (i := 13) (N := some 96) (v := ?_) (a' := ?_) #[true, true, true, true, true, true, true, true, true, true, true, true, true, true, true, true, true, false, false, false, false, false, false, false, false, false, false, false, false, false, false, false, false, false, false, false, false, false, false, false, false, false, false, false] rfl rfl (take_ofW HT_.out HW_.out (by kernel_rfl)) (fun _ _ _ h => h) (Or.inl ⟨by rfl, ?_⟩) hHeld ?_ ?_
                                                rotate_left
                                                · rintro w' ⟨s0, s1, s2, s3, s4, s5, s6, s7, s8, s9, s10, s11⟩
                                                  go_simp
                                                  with_reducible rfl
                                                rotate_left
                                                · simp only [Act.put, List.setIfInBounds_toArray, List.set_cons_zero, List.set_cons_succ, i64_w, i32_w]
                                                  rfl
                                                refine take_ (i := 17) (N := some 100) (v := ?_) (a' := ?_) #[true, true, true, true, true, true, true, true, true, true, true, true, true, true, true, true, true, true, false, false, false, false, false, false, false, false, false, false, false, false, false, false, false, false, false, false, false, false, false, false, false, false, false, false] rfl rfl (take_ofW HT_.out HW_.out (by kernel_rfl)) (fun _ _ _ h => h) (Or.inl ⟨by rfl, ?_⟩) hHeld ?_ ?_
                                                rotate_left
                                                · rintro w' ⟨s0, s1, s2, s3, s4, s5, s6, s7, s8, s9, s10, s11⟩
                                                  go_simp
                                                  with_reducible rfl
                                                rotate_left
                                                · simp only [Act.put, List.setIfInBounds_toArray, List.set_cons_zero, List.set_cons_succ, i64_w, i32_w]
                                                  rfl
                                                refine pure_ (i := 18) (N := some 101) (v := ?_) (a' := ?_) #[true, true, true, true, true, true, true, true, true, true, true, true, true, true, true, true, true, true, true, false, false, false, false, false, false, false, false, false, false, false, false, false, false, false, false, false, false, false, false, false, false, false, false, false] rfl rfl (any_of HT_.out (by kernel_rfl)) (fun _ _ _ h => h) (Or.inl ⟨by rfl, ?_⟩) ?_ ?_
                                                rotate_left
                                                · intro w'
                                                  go_simp
                                                  with_reducible rfl
                                                rotate_left
                                                · simp only [Act.put, List.setIfInBounds_toArray, List.set_cons_zero, List.set_cons_succ, i64_w, i32_w]
                                                  rfl
                                                refine pure_ (i := 19) (N := some 102) (v := ?_) (a' := ?_) #[true, true, true, true, true, true, true, true, true, true, true, true, true, true, true, true, true, true, true, true, false, false, false, false, false, false, false, false, false, false, false, false, false, false, false, false, false, false, false, false, false, false, false, false] rfl rfl (any_of HT_.out (by kernel_rfl)) (fun _ _ _ h => h) (Or.inl ⟨by rfl, ?_⟩) ?_ ?_
                                                rotate_left
                                                · intro w'
                                                  go_simp
                                                  with_reducible rfl
                                                rotate_left
                                                · simp only [Act.put, List.setIfInBounds_toArray, List.set_cons_zero, List.set_cons_succ, i64_w, i32_w]
                                                  rfl
                                                refine pure_ (i := 20) (N := some 103) (v := ?_) (a' := ?_) #[true, true, true, true, true, true, true, true, true, true, true, true, true, true, true, true, true, true, true, true, true, false, false, false, false, false, false, false, false, false, false, false, false, false, false, false, false, false, false, false, false, false, false, false] rfl rfl (any_of HT_.out (by kernel_rfl)) (fun _ _ _ h => h) (Or.inl ⟨by rfl, ?_⟩) ?_ ?_
                                                rotate_left
                                                · intro w'
                                                  go_simp
                                                  with_reducible rfl
                                                rotate_left
                                                · simp only [Act.put, List.setIfInBounds_toArray, List.set_cons_zero, List.set_cons_succ, i64_w, i32_w]
                                                  rfl
                                                refine pure_ (i := 21) (N := some 104) (v := ?_) (a' := ?_) #[true, true, true, true, true, true, true, true, true, true, true, true, true, true, true, true, true, true, true, true, true, true, false, false, false, false, false, false, false, false, false, false, false, false, false, false, false, false, false, false, false, false, false, false] rfl rfl (any_of HT_.out (by kernel_rfl)) (fun _ _ _ h => h) (Or.inl ⟨by rfl, ?_⟩) ?_ ?_
                                                rotate_left
                                                · intro w'
                                                  go_simp
                                                  with_reducible rfl
                                                rotate_left
                                                · simp only [Act.put, List.setIfInBounds_toArray, List.set_cons_zero, List.set_cons_succ, i64_w, i32_w]
                                                  rfl
                                                refine pure_ (i := 22) (N := some 105) (v := ?_) (a' := ?_) #[true, true, true, true, true, true, true, true, true, true, true, true, true, true, true, true, true, true, true, true, true, true, true, false, false, false, false, false, false, false, false, false, false, false, false, false, false, false, false, false, false, false, false, false] rfl rfl (any_of HT_.out (by kernel_rfl)) (fun _ _ _ h => h) (Or.inl ⟨by rfl, ?_⟩) ?_ ?_
                                                rotate_left
                                                · intro w'
                                                  go_simp
                                                  with_reducible rfl
                                                rotate_left
                                                · simp only [Act.put, List.setIfInBounds_toArray, List.set_cons_zero, List.set_cons_succ, i64_w, i32_w]
                                                  rfl
                                                refine pure_ (i := 23) (N := some 106) (v := ?_) (a' := ?_) #[true, true, true, true, true, true, true, true, true, true, true, true, true, true, true, true, true, true, true, true, true, true, true, true, false, false, false, false, false, false, false, false, false, false, false, false, false, false, false, false, false, false, false, false] rfl rfl (any_of HT_.out (by kernel_rfl)) (fun _ _ _ h => h) (Or.inl ⟨by rfl, ?_⟩) ?_ ?_
                                                rotate_left
                                                · intro w'
                                                  go_simp
                                                  with_reducible rfl
                                                rotate_left
                                                · simp only [Act.put, List.setIfInBounds_toArray, List.set_cons_zero, List.set_cons_succ, i64_w, i32_w]
                                                  rfl
                                                refine pure_ (i := 24) (N := some 107) (v := ?_) (a' := ?_) #[true, true, true, true, true, true, true, true, true, true, true, true, true, true, true, true, true, true, true, true, true, true, true, true, true, false, false, false, false, false, false, false, false, false, false, false, false, false, false, false, false, false, false, false] rfl rfl (any_of HT_.out (by kernel_rfl)) (fun _ _ _ h => h) (Or.inl ⟨by rfl, ?_⟩) ?_ ?_
                                                rotate_left
                                                · intro w'
                                                  go_simp
                                                  with_reducible rfl
                                                rotate_left
                                                · simp only [Act.put, List.setIfInBounds_toArray, List.set_cons_zero, List.set_cons_succ, i64_w, i32_w]
                                                  rfl
                                                refine pure_ (i := 25) (N := some 108) (v := ?_) (a' := ?_) #[true, true, true, true, true, true, true, true, true, true, true, true, true, true, true, true, true, true, true, true, true, true, true, true, true, true, false, false, false, false, false, false, false, false, false, false, false, false, false, false, false, false, false, false] rfl rfl (any_of HT_.out (by kernel_rfl)) (fun _ _ _ h => h) (Or.inl ⟨by rfl, ?_⟩) ?_ ?_
                                                rotate_left
                                                · intro w'
                                                  go_simp
                                                  with_reducible rfl
                                                rotate_left
                                                · simp only [Act.put, List.setIfInBounds_toArray, List.set_cons_zero, List.set_cons_succ, i64_w, i32_w]
                                                  rfl
                                                refine pure_ (i := 26) (N := some 109) (v := ?_) (a' := ?_) #[true, true, true, true, true, true, true, true, true, true, true, true, true, true, true, true, true, true, true, true, true, true, true, true, true, true, true, false, false, false, false, false, false, false, false, false, false, false, false, false, false, false, false, false] rfl rfl (any_of HT_.out (by kernel_rfl)) (fun _ _ _ h => h) (Or.inl ⟨by rfl, ?_⟩) ?_ ?_
                                                rotate_left
                                                · intro w'
                                                  go_simp
                                                  with_reducible rfl
                                                rotate_left
                                                · simp only [Act.put, List.setIfInBounds_toArray, List.set_cons_zero, List.set_cons_succ, i64_w, i32_w]
                                                  rfl
                                                refine pure_ (i := 27) (N := some 110) (v := ?_) (a' := ?_) #[true, true, true, true, true, true, true, true, true, true, true, true, true, true, true, true, true, true, true, true, true, true, true, true, true, true, true, true, false, false, false, false, false, false, false, false, false, false, false, false, false, false, false, false] rfl rfl (any_of HT_.out (by kernel_rfl)) (fun _ _ _ h => h) (Or.inl ⟨by rfl, ?_⟩) ?_ ?_
                                                rotate_left
                                                · intro w'
                                                  go_simp
                                                  with_reducible rfl
                                                rotate_left
                                                · simp only [Act.put, List.setIfInBounds_toArray, List.set_cons_zero, List.set_cons_succ, i64_w, i32_w]
                                                  rfl
                                                refine pure_ (i := 28) (N := some 111) (v := ?_) (a' := ?_) #[true, true, true, true, true, true, true, true, true, true, true, true, true, true, true, true, true, true, true, true, true, true, true, true, true, true, true, true, true, false, false, false, false, false, false, false, false, false, false, false, false, false, false, false] rfl rfl (any_of HT_.out (by kernel_rfl)) (fun _ _ _ h => h) (Or.inl ⟨by rfl, ?_⟩) ?_ ?_
                                                rotate_left
                                                · intro w'
                                                  go_simp
                                                  with_reducible rfl
                                                rotate_left
                                                · simp only [Act.put, List.setIfInBounds_toArray, List.set_cons_zero, List.set_cons_succ, i64_w, i32_w]
                                                  rfl
                                                refine pure_ (i := 29) (N := some 112) (v := ?_) (a' := ?_) #[true, true, true, true, true, true, true, true, true, true, true, true, true, true, true, true, true, true, true, true, true, true, true, true, true, true, true, true, true, true, false, false, false, false, false, false, false, false, false, false, false, false, false, false] rfl rfl (any_of HT_.out (by kernel_rfl)) (fun _ _ _ h => h) (Or.inl ⟨by rfl, ?_⟩) ?_ ?_
                                                rotate_left
                                                · intro w'
                                                  go_simp
                                                  with_reducible rfl
                                                rotate_left
                                                · simp only [Act.put, List.setIfInBounds_toArray, List.set_cons_zero, List.set_cons_succ, i64_w, i32_w]
                                                  rfl
                                                refine pure_ (i := 30) (N := some 113) (v := ?_) (a' := ?_) #[true, true, true, true, true, true, true, true, true, true, true, true, true, true, true, true, true, true, true, true, true, true, true, true, true, true, true, true, true, true, true, false, false, false, false, false, false, false, false, false, false, false, false, false] rfl rfl (any_of HT_.out (by kernel_rfl)) (fun _ _ _ h => h) (Or.inl ⟨by rfl, ?_⟩) ?_ ?_
                                                rotate_left
                                                · intro w'
                                                  go_simp
                                                  with_reducible rfl
                                                rotate_left
                                                · simp only [Act.put, List.setIfInBounds_toArray, List.set_cons_zero, List.set_cons_succ, i64_w, i32_w]
                                                  rfl
                                                refine pure_ (i := 31) (N := some 114) (v := ?_) (a' := ?_) #[true, true, true, true, true, true, true, true, true, true, true, true, true, true, true, true, true, true, true, true, true, true, true, true, true, true, true, true, true, true, true, true, false, false, false, false, false, false, false, false, false, false, false, false] rfl rfl (any_of HT_.out (by kernel_rfl)) (fun _ _ _ h => h) (Or.inl ⟨by rfl, ?_⟩) ?_ ?_
                                                rotate_left
                                                · intro w'
                                                  go_simp
                                                  with_reducible rfl
                                                rotate_left
                                                · simp only [Act.put, List.setIfInBounds_toArray, List.set_cons_zero, List.set_cons_succ, i64_w, i32_w]
                                                  rfl
                                                refine pure_ (i := 32) (N := some 115) (v := ?_) (a' := ?_) #[true, true, true, true, true, true, true, true, true, true, true, true, true, true, true, true, true, true, true, true, true, true, true, true, true, true, true, true, true, true, true, true, true, false, false, false, false, false, false, false, false, false, false, false] rfl rfl (any_of HT_.out (by kernel_rfl)) (fun _ _ _ h => h) (Or.inl ⟨by rfl, ?_⟩) ?_ ?_
                                                rotate_left
                                                · intro w'
                                                  go_simp
                                                  with_reducible rfl
                                                rotate_left
                                                · simp only [Act.put, List.setIfInBounds_toArray, List.set_cons_zero, List.set_cons_succ, i64_w, i32_w]
                                                  rfl
                                                refine pure_ (i := 34) (N := some 117) (v := ?_) (a' := ?_) #[true, true, true, true, true, true, true, true, true, true, true, true, true, true, true, true, true, true, true, true, true, true, true, true, true, true, true, true, true, true, true, true, true, false, true, false, false, false, false, false, false, false, false, false] rfl rfl (any_of HT_.out (by kernel_rfl)) (fun _ _ _ h => h) (Or.inl ⟨by rfl, ?_⟩) ?_ ?_
                                                rotate_left
                                                · intro w'
                                                  go_simp
                                                  with_reducible rfl
                                                rotate_left
                                                · simp only [Act.put, List.setIfInBounds_toArray, List.set_cons_zero, List.set_cons_succ, i64_w, i32_w]
                                                  rfl
                                                refine pure_ (i := 35) (N := some 118) (v := ?_) (a' := ?_) #[true, true, true, true, true, true, true, true, true, true, true, true, true, true, true, true, true, true, true, true, true, true, true, true, true, true, true, true, true, true, true, true, true, false, true, true, false, false, false, false, false, false, false, false] rfl rfl (any_of HT_.out (by kernel_rfl)) (fun _ _ _ h => h) (Or.inl ⟨by rfl, ?_⟩) ?_ ?_
                                                rotate_left
                                                · intro w'
                                                  go_simp
                                                  with_reducible rfl
                                                rotate_left
                                                · simp only [Act.put, List.setIfInBounds_toArray, List.set_cons_zero, List.set_cons_succ, i64_w, i32_w]
                                                  rfl
                                                refine pure_ (i := 36) (N := some 119) (v := ?_) (a' := ?_) #[true, true, true, true, true, true, true, true, true, true, true, true, true, true, true, true, true, true, true, true, true, true, true, true, true, true, true, true, true, true, true, true, true, false, true, true, true, false, false, false, false, false, false, false] rfl rfl (any_of HT_.out (by kernel_rfl)) (fun _ _ _ h => h) (Or.inl ⟨by rfl, ?_⟩) ?_ ?_
                                                rotate_left
                                                · intro w'
                                                  go_simp
                                                  with_reducible rfl
                                                rotate_left
                                                · simp only [Act.put, List.setIfInBounds_toArray, List.set_cons_zero, List.set_cons_succ, i64_w, i32_w]
                                                  rfl
                                                refine take_ (i := 33) (N := some 116) (v := ?_) (a' := ?_) #[true, true, true, true, true, true, true, true, true, true, true, true, true, true, true, true, true, true, true, true, true, true, true, true, true, true, true, true, true, true, true, true, true, true, true, true, true, false, false, false, false, false, false, false] rfl rfl (take_ofW HT_.out HW_.out (by kernel_rfl)) (fun _ _ _ h => h) (Or.inl ⟨by rfl, ?_⟩) hHeld ?_ ?_
                                                rotate_left
                                                · rintro w' ⟨s0, s1, s2, s3, s4, s5, s6, s7, s8, s9, s10, s11⟩
                                                  go_simp
                                                  with_reducible rfl
                                                rotate_left
                                                · simp only [Act.put, List.setIfInBounds_toArray, List.set_cons_zero, List.set_cons_succ, i64_w, i32_w]
                                                  rfl
                                                refine take_ (i := 37) (N := some 120) (v := ?_) (a' := ?_) #[true, true, true, true, true, true, true, true, true, true, true, true, true, true, true, true, true, true, true, true, true, true, true, true, true, true, true, true, true, true, true, true, true, true, true, true, true, true, false, false, false, false, false, false] rfl rfl (take_ofW HT_.out HW_.out (by kernel_rfl)) (fun _ _ _ h => h) (Or.inl ⟨by rfl, ?_⟩) hHeld ?_ ?_
                                                rotate_left
                                                · rintro w' ⟨s0, s1, s2, s3, s4, s5, s6, s7, s8, s9, s10, s11⟩
                                                  go_simp
                                                  with_reducible rfl
                                                rotate_left
                                                · simp only [Act.put, List.setIfInBounds_toArray, List.set_cons_zero, List.set_cons_succ, i64_w, i32_w]
                                                  rfl
                                                refine pure_ (i := 38) (N := some 121) (v := ?_) (a' := ?_) #[true, true, true, true, true, true, true, true, true, true, true, true, true, true, true, true, true, true, true, true, true, true, true, true, true, true, true, true, true, true, true, true, true, true, true, true, true, true, true, false, false, false, false, false] rfl rfl (any_of HT_.out (by kernel_rfl)) (fun _ _ _ h => h) (Or.inl ⟨by rfl, ?_⟩) ?_ ?_
                                                rotate_left
                                                · intro w'
                                                  go_simp
                                                  with_reducible rfl
                                                rotate_left
                                                · simp only [Act.put, List.setIfInBounds_toArray, List.set_cons_zero, List.set_cons_succ, i64_w, i32_w]
                                                  rfl
                                                refine pure_ (i := 39) (N := some 122) (v := ?_) (a' := ?_) #[true, true, true, true, true, true, true, true, true, true, true, true, true, true, true, true, true, true, true, true, true, true, true, true, true, true, true, true, true, true, true, true, true, true, true, true, true, true, true, true, false, false, false, false] rfl rfl (any_of HT_.out (by kernel_rfl)) (fun _ _ _ h => h) (Or.inl ⟨by rfl, ?_⟩) ?_ ?_
                                                rotate_left
                                                · intro w'
                                                  go_simp
                                                  with_reducible rfl
                                                rotate_left
                                                · simp only [Act.put, List.setIfInBounds_toArray, List.set_cons_zero, List.set_cons_succ, i64_w, i32_w]
                                                  rfl
                                                refine pure_ (i := 40) (N := some 123) (v := undef) (a' := ?_) #[true, true, true, true, true, true, true, true, true, true, true, true, true, true, true, true, true, true, true, true, true, true, true, true, true, true, true, true, true, true, true, true, true, true, true, true, true, true, true, true, true, false, false, false] rfl rfl (any_of HT_.out (by kernel_rfl)) (fun _ _ _ h => h) (Or.inr ⟨by rfl, rfl⟩) ?_ ?_
                                                rotate_left
                                                · simp only [Act.put, List.setIfInBounds_toArray, List.set_cons_zero, List.set_cons_succ, i64_w, i32_w]
                                                  rfl
                                                refine pure_ (i := 41) (N := some 124) (v := undef) (a' := ?_) #[true, true, true, true, true, true, true, true, true, true, true, true, true, true, true, true, true, true, true, true, true, true, true, true, true, true, true, true, true, true, true, true, true, true, true, true, true, true, true, true, true, true, false, false] rfl rfl (any_of HT_.out (by kernel_rfl)) (fun _ _ _ h => h) (Or.inr ⟨by rfl, rfl⟩) ?_ ?_
                                                rotate_left
                                                · simp only [Act.put, List.setIfInBounds_toArray, List.set_cons_zero, List.set_cons_succ, i64_w, i32_w]
                                                  rfl
                                                refine pure_ (i := 42) (N := some 125) (v := ?_) (a' := ?_) #[true, true, true, true, true, true, true, true, true, true, true, true, true, true, true, true, true, true, true, true, true, true, true, true, true, true, true, true, true, true, true, true, true, true, true, true, true, true, true, true, true, true, true, false] rfl rfl (any_of HT_.out (by kernel_rfl)) (fun _ _ _ h => h) (Or.inl ⟨by rfl, ?_⟩) ?_ ?_
                                                rotate_left
                                                · intro w'
                                                  go_simp
                                                  with_reducible rfl
                                                rotate_left
                                                · simp only [Act.put, List.setIfInBounds_toArray, List.set_cons_zero, List.set_cons_succ, i64_w, i32_w]
                                                  rfl
                                                refine pure_ (i := 43) (N := some 126) (v := ?_) (a' := ?_) #[true, true, true, true, true, true, true, true, true, true, true, true, true, true, true, true, true, true, true, true, true, true, true, true, true, true, true, true, true, true, true, true, true, true, true, true, true, true, true, true, true, true, true, true] rfl rfl (any_of HT_.out (by kernel_rfl)) (fun _ _ _ h => h) (Or.inl ⟨by rfl, ?_⟩) ?_ ?_
                                                rotate_left
                                                · intro w'
                                                  go_simp
                                                  with_reducible rfl
                                                rotate_left
                                                · simp only [Act.put, List.setIfInBounds_toArray, List.set_cons_zero, List.set_cons_succ, i64_w, i32_w]
                                                  rfl
                                                refine done_ (done_of HT_.out (by kernel_rfl)) ?_
                                                try go_wp2
                                                go_roundg k3
                                                case measure => have := HJ9.out; have := HK2.out; have := HK3.out; omega
                                                case rel => exact ⟨(wrap64 (x6_3 + 1)), (by first | rfl | (simp; done) | (simp [*]; done)), H', ⟨by have := HJ9.out; have := HK2.out; have := HK3.out; omega⟩, ⟨by (with_reducible repeat (first | apply Kd.R_alloc | apply Kd.R_drewN | apply Kd.R_drew)); exact HO_3.out⟩, ⟨by (with_reducible repeat (first | apply Kd.R_alloc | apply Kd.R_drewN | apply Kd.R_drew)); exact HO_4.out⟩, ⟨by repeat (first | (with_reducible first | exact HB.out | apply below_alloc | apply pw_below_drewN | apply below_drew1) | exact HB.out)⟩⟩
                                              · rw [if_neg c43] at H
                                                have c43b0 : ((wrap64 ((rd t422 (rd t419 x6_3)) - (rd t422 (rd t419 (ji26))))) == 0) = false := beq_eq_false_iff_ne.mpr c43
                                                have c43b1 : ((wrap64 ((rd t422 (rd t419 x6_3)) - (rd t422 (rd t419 (ji26))))) != 0) = true := bne_iff_ne.mpr c43
                                                obtain rfl := Option.some.inj H
                                                exact absurd hT.out (by simp)
                                          · rw [if_neg c41] at H
                                            have c41b0 : (((rd_T28 l0 (rd t419 (ji26))).f0) == ((rd_T28 l0 (rd t419 x6_3)).f0) && (((rd_T28 l0 (rd t419 (ji26))).f1) == ((rd_T28 l0 (rd t419 x6_3)).f1))) = false := by simpa using c41
                                            (try (have c41b1 : decide (((rd_T28 l0 (rd t419 (ji26))).f0) = ((rd_T28 l0 (rd t419 x6_3)).f0) && (((rd_T28 l0 (rd t419 (ji26))).f1) == ((rd_T28 l0 (rd t419 x6_3)).f1))) = false := by simpa using c41))
                                            (try (have c41b2 : (((rd_T28 l0 (rd t419 (ji26))).f0) == ((rd_T28 l0 (rd t419 x6_3)).f0) && (((rd_T28 l0 (rd t419 (ji26))).f1) == ((rd_T28 l0 (rd t419 x6_3)).f1))) = false := by simpa using c41))
                                            (try (have c41b3 : ¬ (((rd_T28 l0 (rd t419 (ji26))).f0) = ((rd_T28 l0 (rd t419 x6_3)).f0) && (((rd_T28 l0 (rd t419 (ji26))).f1) == ((rd_T28 l0 (rd t419 x6_3)).f1))) := by simpa using c41))
                                            (try (have c41b4 : (!(((rd_T28 l0 (rd t419 (ji26))).f0) == ((rd_T28 l0 (rd t419 x6_3)).f0)) || (!(((rd_T28 l0 (rd t419 (ji26))).f1) == ((rd_T28 l0 (rd t419 x6_3)).f1)))) = true := by rw [show (!(((rd_T28 l0 (rd t419 (ji26))).f0) == ((rd_T28 l0 (rd t419 x6_3)).f0)) || (!(((rd_T28 l0 (rd t419 (ji26))).f1) == ((rd_T28 l0 (rd t419 x6_3)).f1)))) = !(((rd_T28 l0 (rd t419 (ji26))).f0) == ((rd_T28 l0 (rd t419 x6_3)).f0) && (((rd_T28 l0 (rd t419 (ji26))).f1) == ((rd_T28 l0 (rd t419 x6_3)).f1))) from by simp [Bool.not_and]]; rw [c41b0]; rfl))
                                            clear c41
                                            by_cases c46 : (wrap64 ((rd t422 (rd t419 x6_3)) - (rd t422 (rd t419 (ji26))))) = 1
                                            · rw [if_pos c46] at H
                                              have c46b0 : ((wrap64 ((rd t422 (rd t419 x6_3)) - (rd t422 (rd t419 (ji26))))) == 1) = true := beq_iff_eq.mpr c46
                                              have c46b1 : ((wrap64 ((rd t422 (rd t419 x6_3)) - (rd t422 (rd t419 (ji26))))) != 1) = false := bne_eq_false_iff_eq.mpr c46
                                              clear c46
                                              have H' := Aside0.mk H
                                              clear H
                                              try go_wp2
                                              have n0_ := Aside0.mk (Kd.R_drew HO_3.out)
                                              have n1_ := Aside0.mk (Kd.R_drew HO_4.out)
                                              have n2_ := Aside0.mk (below_drew1 HB.out)
                                              clear HO_3
                                              clear HO_4
                                              clear HB
                                              have HO_3 := n0_
                                              have HO_4 := n1_
                                              have HB := n2_
                                              clear n0_ n1_ n2_
                                              have p433 : 0 ≤ ((rd t419 x6_3) : Int) := of_decide_eq_true (by first | (with_reducible assumption) | assumption)
                                              have q433 : (rd t419 x6_3) < (l0.length : Int) := of_decide_eq_true (by first | (with_reducible assumption) | assumption)
                                              obtain ⟨ad433, e433, hx433_0, hx433_1⟩ := at_T28 HR0.out (rd t419 x6_3) p433 q433
                                              have hw433_1 := hx433_1
                                              have hw433_0 := hx433_0
                                              cases e433
                                              replace hx433_0 := (HB.out.cell (World.block_lt_of_cell? w _ hx433_0)).trans hx433_0
                                              replace hx433_1 := (HB.out.cell (World.block_lt_of_cell? w _ hx433_1)).trans hx433_1
                                              replace p433 := eq_true p433
                                              replace q433 := eq_true q433
                                              have p434 : 0 ≤ ((rd t419 (ji26)) : Int) := of_decide_eq_true (by first | (with_reducible assumption) | assumption)
                                              have q434 : (rd t419 (ji26)) < (l0.length : Int) := of_decide_eq_true (by first | (with_reducible assumption) | assumption)
                                              obtain ⟨ad434, e434, hx434_0, hx434_1⟩ := at_T28 HR0.out (rd t419 (ji26)) p434 q434
                                              have hw434_1 := hx434_1
                                              have hw434_0 := hx434_0
                                              obtain rfl : ad433 = ad434 := (by injection e434)
                                              replace hx434_0 := (HB.out.cell (World.block_lt_of_cell? w _ hx434_0)).trans hx434_0
                                              replace hx434_1 := (HB.out.cell (World.block_lt_of_cell? w _ hx434_1)).trans hx434_1
                                              replace p434 := eq_true p434
                                              replace q434 := eq_true q434
                                              have p436 : 0 ≤ ((rd t419 (ji26)) : Int) := of_decide_eq_true (by first | (with_reducible assumption) | assumption)
                                              have q436 : (rd t419 (ji26)) < (l0.length : Int) := of_decide_eq_true (by first | (with_reducible assumption) | assumption)
                                              obtain ⟨ad436, e436, hx436_0, hx436_1⟩ := at_T28 HR0.out (rd t419 (ji26)) p436 q436
                                              have hw436_1 := hx436_1
                                              have hw436_0 := hx436_0
                                              obtain rfl : ad433 = ad436 := (by injection e436)
                                              replace hx436_0 := (HB.out.cell (World.block_lt_of_cell? w _ hx436_0)).trans hx436_0
                                              replace hx436_1 := (HB.out.cell (World.block_lt_of_cell? w _ hx436_1)).trans hx436_1
                                              replace p436 := eq_true p436
                                              replace q436 := eq_true q436
                                              have p437 : 0 ≤ ((rd t419 x6_3) : Int) := of_decide_eq_true (by first | (with_reducible assumption) | assumption)
                                              have q437 : (rd t419 x6_3) < (l0.length : Int) := of_decide_eq_true (by first | (with_reducible assumption) | assumption)
                                              obtain ⟨ad437, e437, hx437_0, hx437_1⟩ := at_T28 HR0.out (rd t419 x6_3) p437 q437
                                              have hw437_1 := hx437_1
                                              have hw437_0 := hx437_0
                                              obtain rfl : ad433 = ad437 := (by injection e437)
                                              replace hx437_0 := (HB.out.cell (World.block_lt_of_cell? w _ hx437_0)).trans hx437_0
                                              replace hx437_1 := (HB.out.cell (World.block_lt_of_cell? w _ hx437_1)).trans hx437_1
                                              replace p437 := eq_true p437
                                              replace q437 := eq_true q437
                                              have p440 : 0 ≤ ((rd t419 (ji26)) : Int) := of_decide_eq_true (by first | (with_reducible assumption) | assumption)
                                              have q440 : (rd t419 (ji26)) < (l0.length : Int) := of_decide_eq_true (by first | (with_reducible assumption) | assumption)
                                              obtain ⟨ad440, e440, hx440_0, hx440_1⟩ := at_T28 HR0.out (rd t419 (ji26)) p440 q440
                                              have hw440_1 := hx440_1
                                              have hw440_0 := hx440_0
                                              obtain rfl : ad433 = ad440 := (by injection e440)
                                              replace hx440_0 := (HB.out.cell (World.block_lt_of_cell? w _ hx440_0)).trans hx440_0
                                              replace hx440_1 := (HB.out.cell (World.block_lt_of_cell? w _ hx440_1)).trans hx440_1
                                              replace p440 := eq_true p440
                                              replace q440 := eq_true q440
                                              have p441 : 0 ≤ ((rd t419 x6_3) : Int) := of_decide_eq_true (by first | (with_reducible assumption) | assumption)
                                              have q441 : (rd t419 x6_3) < (l0.length : Int) := of_decide_eq_true (by first | (with_reducible assumption) | assumption)
                                              obtain ⟨ad441, e441, hx441_0, hx441_1⟩ := at_T28 HR0.out (rd t419 x6_3) p441 q441
                                              have hw441_1 := hx441_1
                                              have hw441_0 := hx441_0
                                              obtain rfl : ad433 = ad441 := (by injection e441)
                                              replace hx441_0 := (HB.out.cell (World.block_lt_of_cell? w _ hx441_0)).trans hx441_0
                                              replace hx441_1 := (HB.out.cell (World.block_lt_of_cell? w _ hx441_1)).trans hx441_1
                                              replace p441 := eq_true p441
                                              replace q441 := eq_true q441
                                              refine start_ (n := 44) (S := fun w' => w'.cell? (ad433.add (((rd t419 x6_3)).toNat * 2)) = some (.int .i64 ((rd_T28 l0 (rd t419 x6_3)).f0)) ∧ w'.cell? ⟨(ad433.add (((rd t419 x6_3)).toNat * 2)).block, (ad433.add (((rd t419 x6_3)).toNat * 2)).off + 1, none⟩ = some (.int .i64 ((rd_T28 l0 (rd t419 x6_3)).f1)) ∧ w'.cell? (ad433.add (((rd t419 (ji26))).toNat * 2)) = some (.int .i64 ((rd_T28 l0 (rd t419 (ji26))).f0)) ∧ w'.cell? ⟨(ad433.add (((rd t419 (ji26))).toNat * 2)).block, (ad433.add (((rd t419 (ji26))).toNat * 2)).off + 1, none⟩ = some (.int .i64 ((rd_T28 l0 (rd t419 (ji26))).f1)) ∧ w'.cell? (ad433.add (((rd t419 (ji26))).toNat * 2)) = some (.int .i64 ((rd_T28 l0 (rd t419 (ji26))).f0)) ∧ w'.cell? ⟨(ad433.add (((rd t419 (ji26))).toNat * 2)).block, (ad433.add (((rd t419 (ji26))).toNat * 2)).off + 1, none⟩ = some (.int .i64 ((rd_T28 l0 (rd t419 (ji26))).f1)) ∧ w'.cell? (ad433.add (((rd t419 x6_3)).toNat * 2)) = some (.int .i64 ((rd_T28 l0 (rd t419 x6_3)).f0)) ∧ w'.cell? ⟨(ad433.add (((rd t419 x6_3)).toNat * 2)).block, (ad433.add (((rd t419 x6_3)).toNat * 2)).off + 1, none⟩ = some (.int .i64 ((rd_T28 l0 (rd t419 x6_3)).f1)) ∧ w'.cell? (ad433.add (((rd t419 (ji26))).toNat * 2)) = some (.int .i64 ((rd_T28 l0 (rd t419 (ji26))).f0)) ∧ w'.cell? ⟨(ad433.add (((rd t419 (ji26))).toNat * 2)).block, (ad433.add (((rd t419 (ji26))).toNat * 2)).off + 1, none⟩ = some (.int .i64 ((rd_T28 l0 (rd t419 (ji26))).f1)) ∧ w'.cell? (ad433.add (((rd t419 x6_3)).toNat * 2)) = some (.int .i64 ((rd_T28 l0 (rd t419 x6_3)).f0)) ∧ w'.cell? ⟨(ad433.add (((rd t419 x6_3)).toNat * 2)).block, (ad433.add (((rd t419 x6_3)).toNat * 2)).off + 1, none⟩ = some (.int .i64 ((rd_T28 l0 (rd t419 x6_3)).f1))) (ds := []) #[false, false, false, false, false, false, false, false, false, false, false, false, false, false, false, false, false, false, false, false, false, false, false, false, false, false, false, false, false, false, false, false, false, false, false, false, false, false, false, false, false, false, false, false] (by kernel_rfl) rfl rfl ⟨((HB.out.cell (World.block_lt_of_cell? w _ hw433_0)).trans hw433_0), ((HB.out.cell (World.block_lt_of_cell? w _ hw433_1)).trans hw433_1), ((HB.out.cell (World.block_lt_of_cell? w _ hw434_0)).trans hw434_0), ((HB.out.cell (World.block_lt_of_cell? w _ hw434_1)).trans hw434_1), ((HB.out.cell (World.block_lt_of_cell? w _ hw436_0)).trans hw436_0), ((HB.out.cell (World.block_lt_of_cell? w _ hw436_1)).trans hw436_1), ((HB.out.cell (World.block_lt_of_cell? w _ hw437_0)).trans hw437_0), ((HB.out.cell (World.block_lt_of_cell? w _ hw437_1)).trans hw437_1), ((HB.out.cell (World.block_lt_of_cell? w _ hw440_0)).trans hw440_0), ((HB.out.cell (World.block_lt_of_cell? w _ hw440_1)).trans hw440_1), ((HB.out.cell (World.block_lt_of_cell? w _ hw441_0)).trans hw441_0), ((HB.out.cell (World.block_lt_of_cell? w _ hw441_1)).trans hw441_1)⟩ (fun hHeld => ?_); refine with_tabW parquetlaw07_SortsStands.tab18 parquetlaw07_SortsStands.bits18 (fun HT_ HW_ => ?_)
                                              generalize w35.drew = w47 at HO_3 HO_4 HB hx433_0 hx433_1 hx434_0 hx434_1 hx436_0 hx436_1 hx437_0 hx437_1 hx440_0 hx440_1 hx441_0 hx441_1 hHeld ⊢
                                              refine pure_ (i := 0) (N := some 83) (v := ?_) (a' := ?_) #[true, false, false, false, false, false, false, false, false, false, false, false, false, false, false, false, false, false, false, false, false, false, false, false, false, false, false, false, false, false, false, false, false, false, false, false, false, false, false, false, false, false, false, false] rfl rfl (any_of HT_.out (by kernel_rfl)) (fun _ _ _ h => h) (Or.inl ⟨by rfl, ?_⟩) ?_ ?_
                                              rotate_left
                                              · intro w'
                                                go_simp
                                                with_reducible rfl
                                              rotate_left
                                              · simp only [Act.put, List.setIfInBounds_toArray, List.set_cons_zero, List.set_cons_succ, i64_w, i32_w]
                                                rfl
                                              refine pure_ (i := 1) (N := some 84) (v := ?_) (a' := ?_) #[true, true, false, false, false, false, false, false, false, false, false, false, false, false, false, false, false, false, false, false, false, false, false, false, false, false, false, false, false, false, false, false, false, false, false, false, false, false, false, false, false, false, false, false] rfl rfl (any_of HT_.out (by kernel_rfl)) (fun _ _ _ h => h) (Or.inl ⟨by rfl, ?_⟩) ?_ ?_
                                              rotate_left
                                              · intro w'
                                                go_simp
                                                with_reducible rfl
                                              rotate_left
                                              · simp only [Act.put, List.setIfInBounds_toArray, List.set_cons_zero, List.set_cons_succ, i64_w, i32_w]
                                                rfl
                                              refine pure_ (i := 2) (N := some 85) (v := ?_) (a' := ?_) #[true, true, true, false, false, false, false, false, false, false, false, false, false, false, false, false, false, false, false, false, false, false, false, false, false, false, false, false, false, false, false, false, false, false, false, false, false, false, false, false, false, false, false, false] rfl rfl (any_of HT_.out (by kernel_rfl)) (fun _ _ _ h => h) (Or.inl ⟨by rfl, ?_⟩) ?_ ?_
                                              rotate_left
                                              · intro w'
                                                go_simp
                                                with_reducible rfl
                                              rotate_left
                                              · simp only [Act.put, List.setIfInBounds_toArray, List.set_cons_zero, List.set_cons_succ, i64_w, i32_w]
                                                rfl
                                              refine pure_ (i := 4) (N := some 87) (v := ?_) (a' := ?_) #[true, true, true, false, true, false, false, false, false, false, false, false, false, false, false, false, false, false, false, false, false, false, false, false, false, false, false, false, false, false, false, false, false, false, false, false, false, false, false, false, false, false, false, false] rfl rfl (any_of HT_.out (by kernel_rfl)) (fun _ _ _ h => h) (Or.inl ⟨by rfl, ?_⟩) ?_ ?_
                                              rotate_left
                                              · intro w'
                                                go_simp
                                                with_reducible rfl
                                              rotate_left
                                              · simp only [Act.put, List.setIfInBounds_toArray, List.set_cons_zero, List.set_cons_succ, i64_w, i32_w]
                                                rfl
                                              refine pure_ (i := 5) (N := some 88) (v := ?_) (a' := ?_) #[true, true, true, false, true, true, false, false, false, false, false, false, false, false, false, false, false, false, false, false, false, false, false, false, false, false, false, false, false, false, false, false, false, false, false, false, false, false, false, false, false, false, false, false] rfl rfl (any_of HT_.out (by kernel_rfl)) (fun _ _ _ h => h) (Or.inl ⟨by rfl, ?_⟩) ?_ ?_
                                              rotate_left
                                              · intro w'
                                                go_simp
                                                with_reducible rfl
                                              rotate_left
                                              · simp only [Act.put, List.setIfInBounds_toArray, List.set_cons_zero, List.set_cons_succ, i64_w, i32_w]
                                                rfl
                                              refine pure_ (i := 6) (N := some 89) (v := ?_) (a' := ?_) #[true, true, true, false, true, true, true, false, false, false, false, false, false, false, false, false, false, false, false, false, false, false, false, false, false, false, false, false, false, false, false, false, false, false, false, false, false, false, false, false, false, false, false, false] rfl rfl (any_of HT_.out (by kernel_rfl)) (fun _ _ _ h => h) (Or.inl ⟨by rfl, ?_⟩) ?_ ?_
                                              rotate_left
                                              · intro w'
                                                go_simp
                                                with_reducible rfl
                                              rotate_left
                                              · simp only [Act.put, List.setIfInBounds_toArray, List.set_cons_zero, List.set_cons_succ, i64_w, i32_w]
                                                rfl
                                              refine take_ (i := 3) (N := some 86) (v := ?_) (a' := ?_) #[true, true, true, true, true, true, true, false, false, false, false, false, false, false, false, false, false, false, false, false, false, false, false, false, false, false, false, false, false, false, false, false, false, false, false, false, false, false, false, false, false, false, false, false] rfl rfl (take_ofW HT_.out HW_.out (by kernel_rfl)) (fun _ _ _ h => h) (Or.inl ⟨by rfl, ?_⟩) hHeld ?_ ?_
                                              rotate_left
                                              · rintro w' ⟨s0, s1, s2, s3, s4, s5, s6, s7, s8, s9, s10, s11⟩
                                                go_simp
                                                with_reducible rfl
                                              rotate_left
                                              · simp only [Act.put, List.setIfInBounds_toArray, List.set_cons_zero, List.set_cons_succ, i64_w, i32_w]
                                                rfl
                                              refine take_ (i := 7) (N := some 90) (v := ?_) (a' := ?_) #[true, true, true, true, true, true, true, true, false, false, false, false, false, false, false, false, false, false, false, false, false, false, false, false, false, false, false, false, false, false, false, false, false, false, false, false, false, false, false, false, false, false, false, false] rfl rfl (take_ofW HT_.out HW_.out (by kernel_rfl)) (fun _ _ _ h => h) (Or.inl ⟨by rfl, ?_⟩) hHeld ?_ ?_
                                              rotate_left
                                              · rintro w' ⟨s0, s1, s2, s3, s4, s5, s6, s7, s8, s9, s10, s11⟩
                                                go_simp
                                                with_reducible rfl
                                              rotate_left
                                              · simp only [Act.put, List.setIfInBounds_toArray, List.set_cons_zero, List.set_cons_succ, i64_w, i32_w]
                                                rfl
                                              refine one_ (i := 8) (N := some 91) #[true, true, true, true, true, true, true, true, true, false, false, false, false, false, false, false, false, false, false, false, false, false, false, false, false, false, false, false, false, false, false, false, false, false, false, false, false, false, false, false, false, false, false, false] rfl rfl (one_of HT_.out (by kernel_rfl)) (by decide) (fun K hK => ?_)
                                              refine goes_ Try.func21 (by kernel_rfl) rfl #[.agg #[.int .i64 ((rd_T28 l0 (rd t419 x6_3)).f0), .int .i64 ((rd_T28 l0 (rd t419 x6_3)).f1)], .agg #[.int .i64 ((rd_T28 l0 (rd t419 (ji26))).f0), .int .i64 ((rd_T28 l0 (rd t419 (ji26))).f1)]] (by rfl) rfl rfl (by (try simp only [List.map_toArray, List.map_cons, List.map_nil]); first | done | (simp only [hji26]; rfl) | rfl | (simp only [List.length_drop, List.length_take]; rfl)) ?_
                                              with_reducible refine (parquetref07_Less.calls ((rd_T28 l0 (rd t419 x6_3)).f0) ((rd_T28 l0 (rd t419 x6_3)).f1) ((rd_T28 l0 (rd t419 (ji26))).f0) ((rd_T28 l0 (rd t419 (ji26))).f1) false _ A39.out).mono ?_
                                              rintro e w48 ⟨rfl, hb⟩
                                              refine ⟨_, rfl, ?_⟩
                                              have n0_ := Aside0.mk (Kd.R_below (by (with_reducible repeat (first | apply Kd.R_alloc | apply Kd.R_drewN | apply Kd.R_drew)); exact HO_3.out) hb)
                                              have n1_ := Aside0.mk (Kd.R_below (by (with_reducible repeat (first | apply Kd.R_alloc | apply Kd.R_drewN | apply Kd.R_drew)); exact HO_4.out) hb)
                                              have n2_ := Aside0.mk (below_step (by repeat (first | (with_reducible first | exact HB.out | apply below_alloc | apply pw_below_drewN | apply below_drew1) | exact HB.out)) hb)
                                              clear HO_3
                                              clear HO_4
                                              clear HB
                                              have HO_3 := n0_
                                              have HO_4 := n1_
                                              have HB := n2_
                                              clear n0_ n1_ n2_
                                              (try clear hb)
                                              (try clear hb2)
                                              (try clear hk)
                                              (try clear hi)
                                              refine hK.out _ _ ⟨((HB.out.cell (World.block_lt_of_cell? w _ hw433_0)).trans hw433_0), ((HB.out.cell (World.block_lt_of_cell? w _ hw433_1)).trans hw433_1), ((HB.out.cell (World.block_lt_of_cell? w _ hw434_0)).trans hw434_0), ((HB.out.cell (World.block_lt_of_cell? w _ hw434_1)).trans hw434_1), ((HB.out.cell (World.block_lt_of_cell? w _ hw436_0)).trans hw436_0), ((HB.out.cell (World.block_lt_of_cell? w _ hw436_1)).trans hw436_1), ((HB.out.cell (World.block_lt_of_cell? w _ hw437_0)).trans hw437_0), ((HB.out.cell (World.block_lt_of_cell? w _ hw437_1)).trans hw437_1), ((HB.out.cell (World.block_lt_of_cell? w _ hw440_0)).trans hw440_0), ((HB.out.cell (World.block_lt_of_cell? w _ hw440_1)).trans hw440_1), ((HB.out.cell (World.block_lt_of_cell? w _ hw441_0)).trans hw441_0), ((HB.out.cell (World.block_lt_of_cell? w _ hw441_1)).trans hw441_1)⟩ (fun hHeld => ?_)
                                              clear hK K
                                              refine norm_ (a' := ?_) ?_ ?_
                                              rotate_left
                                              · show Act.put _ (some 91) _ = _
                                                simp only [Act.put, List.setIfInBounds_toArray, List.set_cons_zero, List.set_cons_succ, i64_w, i32_w]
                                                rfl
                                              refine pure_ (i := 9) (N := some 92) (v := ?_) (a' := ?_) #[true, true, true, true, true, true, true, true, true, true, false, false, false, false, false, false, false, false, false, false, false, false, false, false, false, false, false, false, false, false, false, false, false, false, false, false, false, false, false, false, false, false, false, false] rfl rfl (any_of HT_.out (by kernel_rfl)) (fun _ _ _ h => h) (Or.inl ⟨by rfl, ?_⟩) ?_ ?_
                                              rotate_left
                                              · intro w'
                                                go_simp
                                                with_reducible rfl
                                              rotate_left
                                              · simp only [Act.put, List.setIfInBounds_toArray, List.set_cons_zero, List.set_cons_succ, i64_w, i32_w]
                                                rfl
                                              refine pure_ (i := 10) (N := some 93) (v := ?_) (a' := ?_) #[true, true, true, true, true, true, true, true, true, true, true, false, false, false, false, false, false, false, false, false, false, false, false, false, false, false, false, false, false, false, false, false, false, false, false, false, false, false, false, false, false, false, false, false] rfl rfl (any_of HT_.out (by kernel_rfl)) (fun _ _ _ h => h) (Or.inl ⟨by rfl, ?_⟩) ?_ ?_
                                              rotate_left
                                              · intro w'
                                                go_simp
                                                with_reducible rfl
                                              rotate_left
                                              · simp only [Act.put, List.setIfInBounds_toArray, List.set_cons_zero, List.set_cons_succ, i64_w, i32_w]
                                                rfl
                                              refine pure_ (i := 11) (N := some 94) (v := ?_) (a' := ?_) #[true, true, true, true, true, true, true, true, true, true, true, true, false, false, false, false, false, false, false, false, false, false, false, false, false, false, false, false, false, false, false, false, false, false, false, false, false, false, false, false, false, false, false, false] rfl rfl (any_of HT_.out (by kernel_rfl)) (fun _ _ _ h => h) (Or.inl ⟨by rfl, ?_⟩) ?_ ?_
                                              rotate_left
                                              · intro w'
                                                go_simp
                                                with_reducible rfl
                                              rotate_left
                                              · simp only [Act.put, List.setIfInBounds_toArray, List.set_cons_zero, List.set_cons_succ, i64_w, i32_w]
                                                rfl
                                              refine pure_ (i := 12) (N := some 95) (v := ?_) (a' := ?_) #[true, true, true, true, true, true, true, true, true, true, true, true, true, false, false, false, false, false, false, false, false, false, false, false, false, false, false, false, false, false, false, false, false, false, false, false, false, false, false, false, false, false, false, false] rfl rfl (any_of HT_.out (by kernel_rfl)) (fun _ _ _ h => h) (Or.inl ⟨by rfl, ?_⟩) ?_ ?_
                                              rotate_left
                                              · intro w'
                                                go_simp
                                                with_reducible rfl
                                              rotate_left
                                              · simp only [Act.put, List.setIfInBounds_toArray, List.set_cons_zero, List.set_cons_succ, i64_w, i32_w]
                                                rfl
                                              refine pure_ (i := 14) (N := some 97) (v := ?_) (a' := ?_) #[true, true, true, true, true, true, true, true, true, true, true, true, true, false, true, false, false, false, false, false, false, false, false, false, false, false, false, false, false, false, false, false, false, false, false, false, false, false, false, false, false, false, false, false] rfl rfl (any_of HT_.out (by kernel_rfl)) (fun _ _ _ h => h) (Or.inl ⟨by rfl, ?_⟩) ?_ ?_
                                              rotate_left
                                              · intro w'
                                                go_simp
                                                with_reducible rfl
                                              rotate_left
                                              · simp only [Act.put, List.setIfInBounds_toArray, List.set_cons_zero, List.set_cons_succ, i64_w, i32_w]
                                                rfl
                                              refine pure_ (i := 15) (N := some 98) (v := ?_) (a' := ?_) #[true, true, true, true, true, true, true, true, true, true, true, true, true, false, true, true, false, false, false, false, false, false, false, false, false, false, false, false, false, false, false, false, false, false, false, false, false, false, false, false, false, false, false, false] rfl rfl (any_of HT_.out (by kernel_rfl)) (fun _ _ _ h => h) (Or.inl ⟨by rfl, ?_⟩) ?_ ?_
                                              rotate_left
                                              · intro w'
                                                go_simp
                                                with_reducible rfl
                                              rotate_left
                                              · simp only [Act.put, List.setIfInBounds_toArray, List.set_cons_zero, List.set_cons_succ, i64_w, i32_w]
                                                rfl
                                              refine pure_ (i := 16) (N := some 99) (v := ?_) (a' := ?_) #[true, true, true, true, true, true, true, true, true, true, true, true, true, false, true, true, true, false, false, false, false, false, false, false, false, false, false, false, false, false, false, false, false, false, false, false, false, false, false, false, false, false, false, false] rfl rfl (any_of HT_.out (by kernel_rfl)) (fun _ _ _ h => h) (Or.inl ⟨by rfl, ?_⟩) ?_ ?_
                                              rotate_left
                                              · intro w'
                                                go_simp
                                                with_reducible rfl
                                              rotate_left
                                              · simp only [Act.put, List.setIfInBounds_toArray, List.set_cons_zero, List.set_cons_succ, i64_w, i32_w]
                                                rfl
                                              refine take_ (i := 13) (N := some 96) (v := ?_) (a' := ?_) #[true, true, true, true, true, true, true, true, true, true, true, true, true, true, true, true, true, false, false, false, false, false, false, false, false, false, false, false, false, false, false, false, false, false, false, false, false, false, false, false, false, false, false, false] rfl rfl (take_ofW HT_.out HW_.out (by kernel_rfl)) (fun _ _ _ h => h) (Or.inl ⟨by rfl, ?_⟩) hHeld ?_ ?_
                                              rotate_left
                                              · rintro w' ⟨s0, s1, s2, s3, s4, s5, s6, s7, s8, s9, s10, s11⟩
                                                go_simp
                                                with_reducible rfl
                                              rotate_left
                                              · simp only [Act.put, List.setIfInBounds_toArray, List.set_cons_zero, List.set_cons_succ, i64_w, i32_w]
                                                rfl
                                              refine take_ (i := 17) (N := some 100) (v := ?_) (a' := ?_) #[true, true, true, true, true, true, true, true, true, true, true, true, true, true, true, true, true, true, false, false, false, false, false, false, false, false, false, false, false, false, false, false, false, false, false, false, false, false, false, false, false, false, false, false] rfl rfl (take_ofW HT_.out HW_.out (by kernel_rfl)) (fun _ _ _ h => h) (Or.inl ⟨by rfl, ?_⟩) hHeld ?_ ?_
                                              rotate_left
                                              · rintro w' ⟨s0, s1, s2, s3, s4, s5, s6, s7, s8, s9, s10, s11⟩
                                                go_simp
                                                with_reducible rfl
                                              rotate_left
                                              · simp only [Act.put, List.setIfInBounds_toArray, List.set_cons_zero, List.set_cons_succ, i64_w, i32_w]
                                                rfl
                                              refine pure_ (i := 18) (N := some 101) (v := ?_) (a' := ?_) #[true, true, true, true, true, true, true, true, true, true, true, true, true, true, true, true, true, true, true, false, false, false, false, false, false, false, false, false, false, false, false, false, false, false, false, false, false, false, false, false, false, false, false, false] rfl rfl (any_of HT_.out (by kernel_rfl)) (fun _ _ _ h => h) (Or.inl ⟨by rfl, ?_⟩) ?_ ?_
                                              rotate_left
                                              · intro w'
                                                go_simp
                                                with_reducible rfl
                                              rotate_left
                                              · simp only [Act.put, List.setIfInBounds_toArray, List.set_cons_zero, List.set_cons_succ, i64_w, i32_w]
                                                rfl
                                              refine pure_ (i := 19) (N := some 102) (v := ?_) (a' := ?_) #[true, true, true, true, true, true, true, true, true, true, true, true, true, true, true, true, true, true, true, true, false, false, false, false, false, false, false, false, false, false, false, false, false, false, false, false, false, false, false, false, false, false, false, false] rfl rfl (any_of HT_.out (by kernel_rfl)) (fun _ _ _ h => h) (Or.inl ⟨by rfl, ?_⟩) ?_ ?_
                                              rotate_left
                                              · intro w'
                                                go_simp
                                                with_reducible rfl
                                              rotate_left
                                              · simp only [Act.put, List.setIfInBounds_toArray, List.set_cons_zero, List.set_cons_succ, i64_w, i32_w]
                                                rfl
                                              refine pure_ (i := 20) (N := some 103) (v := undef) (a' := ?_) #[true, true, true, true, true, true, true, true, true, true, true, true, true, true, true, true, true, true, true, true, true, false, false, false, false, false, false, false, false, false, false, false, false, false, false, false, false, false, false, false, false, false, false, false] rfl rfl (any_of HT_.out (by kernel_rfl)) (fun _ _ _ h => h) (Or.inr ⟨by rfl, rfl⟩) ?_ ?_
                                              rotate_left
                                              · simp only [Act.put, List.setIfInBounds_toArray, List.set_cons_zero, List.set_cons_succ, i64_w, i32_w]
                                                rfl
                                              refine pure_ (i := 21) (N := some 104) (v := undef) (a' := ?_) #[true, true, true, true, true, true, true, true, true, true, true, true, true, true, true, true, true, true, true, true, true, true, false, false, false, false, false, false, false, false, false, false, false, false, false, false, false, false, false, false, false, false, false, false] rfl rfl (any_of HT_.out (by kernel_rfl)) (fun _ _ _ h => h) (Or.inr ⟨by rfl, rfl⟩) ?_ ?_
                                              rotate_left
                                              · simp only [Act.put, List.setIfInBounds_toArray, List.set_cons_zero, List.set_cons_succ, i64_w, i32_w]
                                                rfl
                                              refine pure_ (i := 22) (N := some 105) (v := undef) (a' := ?_) #[true, true, true, true, true, true, true, true, true, true, true, true, true, true, true, true, true, true, true, true, true, true, true, false, false, false, false, false, false, false, false, false, false, false, false, false, false, false, false, false, false, false, false, false] rfl rfl (any_of HT_.out (by kernel_rfl)) (fun _ _ _ h => h) (Or.inr ⟨by rfl, rfl⟩) ?_ ?_
                                              rotate_left
                                              · simp only [Act.put, List.setIfInBounds_toArray, List.set_cons_zero, List.set_cons_succ, i64_w, i32_w]
                                                rfl
                                              refine pure_ (i := 23) (N := some 106) (v := undef) (a' := ?_) #[true, true, true, true, true, true, true, true, true, true, true, true, true, true, true, true, true, true, true, true, true, true, true, true, false, false, false, false, false, false, false, false, false, false, false, false, false, false, false, false, false, false, false, false] rfl rfl (any_of HT_.out (by kernel_rfl)) (fun _ _ _ h => h) (Or.inr ⟨by rfl, rfl⟩) ?_ ?_
                                              rotate_left
                                              · simp only [Act.put, List.setIfInBounds_toArray, List.set_cons_zero, List.set_cons_succ, i64_w, i32_w]
                                                rfl
                                              refine pure_ (i := 24) (N := some 107) (v := undef) (a' := ?_) #[true, true, true, true, true, true, true, true, true, true, true, true, true, true, true, true, true, true, true, true, true, true, true, true, true, false, false, false, false, false, false, false, false, false, false, false, false, false, false, false, false, false, false, false] rfl rfl (any_of HT_.out (by kernel_rfl)) (fun _ _ _ h => h) (Or.inr ⟨by rfl, rfl⟩) ?_ ?_
                                              rotate_left
                                              · simp only [Act.put, List.setIfInBounds_toArray, List.set_cons_zero, List.set_cons_succ, i64_w, i32_w]
                                                rfl
                                              refine pure_ (i := 25) (N := some 108) (v := undef) (a' := ?_) #[true, true, true, true, true, true, true, true, true, true, true, true, true, true, true, true, true, true, true, true, true, true, true, true, true, true, false, false, false, false, false, false, false, false, false, false, false, false, false, false, false, false, false, false] rfl rfl (any_of HT_.out (by kernel_rfl)) (fun _ _ _ h => h) (Or.inr ⟨by rfl, rfl⟩) ?_ ?_
                                              rotate_left
                                              · simp only [Act.put, List.setIfInBounds_toArray, List.set_cons_zero, List.set_cons_succ, i64_w, i32_w]
                                                rfl
                                              refine pure_ (i := 26) (N := some 109) (v := undef) (a' := ?_) #[true, true, true, true, true, true, true, true, true, true, true, true, true, true, true, true, true, true, true, true, true, true, true, true, true, true, true, false, false, false, false, false, false, false, false, false, false, false, false, false, false, false, false, false] rfl rfl (any_of HT_.out (by kernel_rfl)) (fun _ _ _ h => h) (Or.inr ⟨by rfl, rfl⟩) ?_ ?_
                                              rotate_left
                                              · simp only [Act.put, List.setIfInBounds_toArray, List.set_cons_zero, List.set_cons_succ, i64_w, i32_w]
                                                rfl
                                              refine pure_ (i := 27) (N := some 110) (v := ?_) (a' := ?_) #[true, true, true, true, true, true, true, true, true, true, true, true, true, true, true, true, true, true, true, true, true, true, true, true, true, true, true, true, false, false, false, false, false, false, false, false, false, false, false, false, false, false, false, false] rfl rfl (any_of HT_.out (by kernel_rfl)) (fun _ _ _ h => h) (Or.inl ⟨by rfl, ?_⟩) ?_ ?_
                                              rotate_left
                                              · intro w'
                                                go_simp
                                                with_reducible rfl
                                              rotate_left
                                              · simp only [Act.put, List.setIfInBounds_toArray, List.set_cons_zero, List.set_cons_succ, i64_w, i32_w]
                                                rfl
                                              refine pure_ (i := 28) (N := some 111) (v := ?_) (a' := ?_) #[true, true, true, true, true, true, true, true, true, true, true, true, true, true, true, true, true, true, true, true, true, true, true, true, true, true, true, true, true, false, false, false, false, false, false, false, false, false, false, false, false, false, false, false] rfl rfl (any_of HT_.out (by kernel_rfl)) (fun _ _ _ h => h) (Or.inl ⟨by rfl, ?_⟩) ?_ ?_
                                              rotate_left
                                              · intro w'
                                                go_simp
                                                with_reducible rfl
                                              rotate_left
                                              · simp only [Act.put, List.setIfInBounds_toArray, List.set_cons_zero, List.set_cons_succ, i64_w, i32_w]
                                                rfl
                                              refine pure_ (i := 29) (N := some 112) (v := ?_) (a' := ?_) #[true, true, true, true, true, true, true, true, true, true, true, true, true, true, true, true, true, true, true, true, true, true, true, true, true, true, true, true, true, true, false, false, false, false, false, false, false, false, false, false, false, false, false, false] rfl rfl (any_of HT_.out (by kernel_rfl)) (fun _ _ _ h => h) (Or.inl ⟨by rfl, ?_⟩) ?_ ?_
                                              rotate_left
                                              · intro w'
                                                go_simp
                                                with_reducible rfl
                                              rotate_left
                                              · simp only [Act.put, List.setIfInBounds_toArray, List.set_cons_zero, List.set_cons_succ, i64_w, i32_w]
                                                rfl
                                              refine pure_ (i := 30) (N := some 113) (v := ?_) (a' := ?_) #[true, true, true, true, true, true, true, true, true, true, true, true, true, true, true, true, true, true, true, true, true, true, true, true, true, true, true, true, true, true, true, false, false, false, false, false, false, false, false, false, false, false, false, false] rfl rfl (any_of HT_.out (by kernel_rfl)) (fun _ _ _ h => h) (Or.inl ⟨by rfl, ?_⟩) ?_ ?_
                                              rotate_left
                                              · intro w'
                                                go_simp
                                                with_reducible rfl
                                              rotate_left
                                              · simp only [Act.put, List.setIfInBounds_toArray, List.set_cons_zero, List.set_cons_succ, i64_w, i32_w]
                                                rfl
                                              refine pure_ (i := 31) (N := some 114) (v := ?_) (a' := ?_) #[true, true, true, true, true, true, true, true, true, true, true, true, true, true, true, true, true, true, true, true, true, true, true, true, true, true, true, true, true, true, true, true, false, false, false, false, false, false, false, false, false, false, false, false] rfl rfl (any_of HT_.out (by kernel_rfl)) (fun _ _ _ h => h) (Or.inl ⟨by rfl, ?_⟩) ?_ ?_
                                              rotate_left
                                              · intro w'
                                                go_simp
                                                with_reducible rfl
                                              rotate_left
                                              · simp only [Act.put, List.setIfInBounds_toArray, List.set_cons_zero, List.set_cons_succ, i64_w, i32_w]
                                                rfl
                                              refine pure_ (i := 32) (N := some 115) (v := ?_) (a' := ?_) #[true, true, true, true, true, true, true, true, true, true, true, true, true, true, true, true, true, true, true, true, true, true, true, true, true, true, true, true, true, true, true, true, true, false, false, false, false, false, false, false, false, false, false, false] rfl rfl (any_of HT_.out (by kernel_rfl)) (fun _ _ _ h => h) (Or.inl ⟨by rfl, ?_⟩) ?_ ?_
                                              rotate_left
                                              · intro w'
                                                go_simp
                                                with_reducible rfl
                                              rotate_left
                                              · simp only [Act.put, List.setIfInBounds_toArray, List.set_cons_zero, List.set_cons_succ, i64_w, i32_w]
                                                rfl
                                              refine pure_ (i := 34) (N := some 117) (v := ?_) (a' := ?_) #[true, true, true, true, true, true, true, true, true, true, true, true, true, true, true, true, true, true, true, true, true, true, true, true, true, true, true, true, true, true, true, true, true, false, true, false, false, false, false, false, false, false, false, false] rfl rfl (any_of HT_.out (by kernel_rfl)) (fun _ _ _ h => h) (Or.inl ⟨by rfl, ?_⟩) ?_ ?_
                                              rotate_left
                                              · intro w'
                                                go_simp
                                                with_reducible rfl
                                              rotate_left
                                              · simp only [Act.put, List.setIfInBounds_toArray, List.set_cons_zero, List.set_cons_succ, i64_w, i32_w]
                                                rfl
                                              refine pure_ (i := 35) (N := some 118) (v := ?_) (a' := ?_) #[true, true, true, true, true, true, true, true, true, true, true, true, true, true, true, true, true, true, true, true, true, true, true, true, true, true, true, true, true, true, true, true, true, false, true, true, false, false, false, false, false, false, false, false] rfl rfl (any_of HT_.out (by kernel_rfl)) (fun _ _ _ h => h) (Or.inl ⟨by rfl, ?_⟩) ?_ ?_
                                              rotate_left
                                              · intro w'
                                                go_simp
                                                with_reducible rfl
                                              rotate_left
                                              · simp only [Act.put, List.setIfInBounds_toArray, List.set_cons_zero, List.set_cons_succ, i64_w, i32_w]
                                                rfl
                                              refine pure_ (i := 36) (N := some 119) (v := ?_) (a' := ?_) #[true, true, true, true, true, true, true, true, true, true, true, true, true, true, true, true, true, true, true, true, true, true, true, true, true, true, true, true, true, true, true, true, true, false, true, true, true, false, false, false, false, false, false, false] rfl rfl (any_of HT_.out (by kernel_rfl)) (fun _ _ _ h => h) (Or.inl ⟨by rfl, ?_⟩) ?_ ?_
                                              rotate_left
                                              · intro w'
                                                go_simp
                                                with_reducible rfl
                                              rotate_left
                                              · simp only [Act.put, List.setIfInBounds_toArray, List.set_cons_zero, List.set_cons_succ, i64_w, i32_w]
                                                rfl
                                              refine take_ (i := 33) (N := some 116) (v := ?_) (a' := ?_) #[true, true, true, true, true, true, true, true, true, true, true, true, true, true, true, true, true, true, true, true, true, true, true, true, true, true, true, true, true, true, true, true, true, true, true, true, true, false, false, false, false, false, false, false] rfl rfl (take_ofW HT_.out HW_.out (by kernel_rfl)) (fun _ _ _ h => h) (Or.inl ⟨by rfl, ?_⟩) hHeld ?_ ?_
                                              rotate_left
                                              · rintro w' ⟨s0, s1, s2, s3, s4, s5, s6, s7, s8, s9, s10, s11⟩
                                                go_simp
                                                with_reducible rfl
                                              rotate_left
                                              · simp only [Act.put, List.setIfInBounds_toArray, List.set_cons_zero, List.set_cons_succ, i64_w, i32_w]
                                                rfl
                                              refine take_ (i := 37) (N := some 120) (v := ?_) (a' := ?_) #[true, true, true, true, true, true, true, true, true, true, true, true, true, true, true, true, true, true, true, true, true, true, true, true, true, true, true, true, true, true, true, true, true, true, true, true, true, true, false, false, false, false, false, false] rfl rfl (take_ofW HT_.out HW_.out (by kernel_rfl)) (fun _ _ _ h => h) (Or.inl ⟨by rfl, ?_⟩) hHeld ?_ ?_
                                              rotate_left
                                              · rintro w' ⟨s0, s1, s2, s3, s4, s5, s6, s7, s8, s9, s10, s11⟩
                                                go_simp
                                                with_reducible rfl
                                              rotate_left
                                              · simp only [Act.put, List.setIfInBounds_toArray, List.set_cons_zero, List.set_cons_succ, i64_w, i32_w]
                                                rfl
                                              refine pure_ (i := 38) (N := some 121) (v := ?_) (a' := ?_) #[true, true, true, true, true, true, true, true, true, true, true, true, true, true, true, true, true, true, true, true, true, true, true, true, true, true, true, true, true, true, true, true, true, true, true, true, true, true, true, false, false, false, false, false] rfl rfl (any_of HT_.out (by kernel_rfl)) (fun _ _ _ h => h) (Or.inl ⟨by rfl, ?_⟩) ?_ ?_
                                              rotate_left
                                              · intro w'
                                                go_simp
                                                with_reducible rfl
                                              rotate_left
                                              · simp only [Act.put, List.setIfInBounds_toArray, List.set_cons_zero, List.set_cons_succ, i64_w, i32_w]
                                                rfl
                                              refine pure_ (i := 39) (N := some 122) (v := ?_) (a' := ?_) #[true, true, true, true, true, true, true, true, true, true, true, true, true, true, true, true, true, true, true, true, true, true, true, true, true, true, true, true, true, true, true, true, true, true, true, true, true, true, true, true, false, false, false, false] rfl rfl (any_of HT_.out (by kernel_rfl)) (fun _ _ _ h => h) (Or.inl ⟨by rfl, ?_⟩) ?_ ?_
                                              rotate_left
                                              · intro w'
                                                go_simp
                                                with_reducible rfl
                                              rotate_left
                                              · simp only [Act.put, List.setIfInBounds_toArray, List.set_cons_zero, List.set_cons_succ, i64_w, i32_w]
                                                rfl
                                              refine pure_ (i := 40) (N := some 123) (v := ?_) (a' := ?_) #[true, true, true, true, true, true, true, true, true, true, true, true, true, true, true, true, true, true, true, true, true, true, true, true, true, true, true, true, true, true, true, true, true, true, true, true, true, true, true, true, true, false, false, false] rfl rfl (any_of HT_.out (by kernel_rfl)) (fun _ _ _ h => h) (Or.inl ⟨by rfl, ?_⟩) ?_ ?_
                                              rotate_left
                                              · intro w'
                                                go_simp
                                                with_reducible rfl
                                              rotate_left
                                              · simp only [Act.put, List.setIfInBounds_toArray, List.set_cons_zero, List.set_cons_succ, i64_w, i32_w]
                                                rfl
                                              refine pure_ (i := 41) (N := some 124) (v := ?_) (a' := ?_) #[true, true, true, true, true, true, true, true, true, true, true, true, true, true, true, true, true, true, true, true, true, true, true, true, true, true, true, true, true, true, true, true, true, true, true, true, true, true, true, true, true, true, false, false] rfl rfl (any_of HT_.out (by kernel_rfl)) (fun _ _ _ h => h) (Or.inl ⟨by rfl, ?_⟩) ?_ ?_
                                              rotate_left
                                              · intro w'
                                                go_simp
                                                with_reducible rfl
                                              rotate_left
                                              · simp only [Act.put, List.setIfInBounds_toArray, List.set_cons_zero, List.set_cons_succ, i64_w, i32_w]
                                                rfl
                                              refine pure_ (i := 42) (N := some 125) (v := ?_) (a' := ?_) #[true, true, true, true, true, true, true, true, true, true, true, true, true, true, true, true, true, true, true, true, true, true, true, true, true, true, true, true, true, true, true, true, true, true, true, true, true, true, true, true, true, true, true, false] rfl rfl (any_of HT_.out (by kernel_rfl)) (fun _ _ _ h => h) (Or.inl ⟨by rfl, ?_⟩) ?_ ?_
                                              rotate_left
                                              · intro w'
                                                go_simp
                                                with_reducible rfl
                                              rotate_left
                                              · simp only [Act.put, List.setIfInBounds_toArray, List.set_cons_zero, List.set_cons_succ, i64_w, i32_w]
                                                rfl
                                              refine pure_ (i := 43) (N := some 126) (v := ?_) (a' := ?_) #[true, true, true, true, true, true, true, true, true, true, true, true, true, true, true, true, true, true, true, true, true, true, true, true, true, true, true, true, true, true, true, true, true, true, true, true, true, true, true, true, true, true, true, true] rfl rfl (any_of HT_.out (by kernel_rfl)) (fun _ _ _ h => h) (Or.inl ⟨by rfl, ?_⟩) ?_ ?_
                                              rotate_left
                                              · intro w'
                                                go_simp
                                                with_reducible rfl
                                              rotate_left
                                              · simp only [Act.put, List.setIfInBounds_toArray, List.set_cons_zero, List.set_cons_succ, i64_w, i32_w]
                                                rfl
                                              refine done_ (done_of HT_.out (by kernel_rfl)) ?_
                                              try go_wp2
                                              go_roundg k3
                                              case measure => have := HJ9.out; have := HK2.out; have := HK3.out; omega
                                              case rel => exact ⟨(wrap64 (x6_3 + 1)), (by first | rfl | (simp; done) | (simp [*]; done)), H', ⟨by have := HJ9.out; have := HK2.out; have := HK3.out; omega⟩, ⟨by (with_reducible repeat (first | apply Kd.R_alloc | apply Kd.R_drewN | apply Kd.R_drew)); exact HO_3.out⟩, ⟨by (with_reducible repeat (first | apply Kd.R_alloc | apply Kd.R_drewN | apply Kd.R_drew)); exact HO_4.out⟩, ⟨by repeat (first | (with_reducible first | exact HB.out | apply below_alloc | apply pw_below_drewN | apply below_drew1) | exact HB.out)⟩⟩
                                            · rw [if_neg c46] at H
                                              have c46b0 : ((wrap64 ((rd t422 (rd t419 x6_3)) - (rd t422 (rd t419 (ji26))))) == 1) = false := beq_eq_false_iff_ne.mpr c46
                                              have c46b1 : ((wrap64 ((rd t422 (rd t419 x6_3)) - (rd t422 (rd t419 (ji26))))) != 1) = true := bne_iff_ne.mpr c46
                                              obtain rfl := Option.some.inj H
                                              exact absurd hT.out (by simp)
                                      · rw [if_neg c38] at H
                                        exact absurd H (by simp)
                                    · rw [if_neg c37] at H
                                      exact absurd H (by simp)
                                  · rw [if_neg c33] at H
                                    exact absurd H (by simp)
                                · rw [if_neg c32] at H
                                  exact absurd H (by simp)
                              · rw [if_neg c31] at H
                                exact absurd H (by simp)
                            · rw [if_neg c30] at H
                              exact absurd H (by simp)
                          · rw [if_neg c29] at H
                            exact absurd H (by simp)
                        · rw [if_neg c28] at H
                          exact absurd H (by simp)
                      · rw [if_neg c27] at H
                        exact absurd H (by simp)
                    · rw [if_neg c25] at H
                      have c25b0 : decide (x6_3 < (t419.length : Int)) = false := decide_eq_false c25
                      clear c25
                      replace H := Option.bind_eq_some_iff.mp H
                      obtain ⟨t442, A490, H⟩ := H
                      replace H : (some t442) = some r := H
                      have A49 := Aside0.mk A490
                      clear A490
                      obtain rfl := Option.some.inj H
                      go_wp2_with (first | ((with_reducible refine gate_callee (f := 10) rfl ?_); refine goesL_ (some 127) rfl rfl Try.func10 (by kernel_rfl) rfl #[] rfl (by (try simp only [List.map_toArray, List.map_cons, List.map_nil]); first | done | rfl | (simp only [List.length_drop, List.length_take]; rfl)) ?_; (with_reducible refine (parquetlaw07_known.calls k3  t442 _ (by first | exact hT | exact ⟨rfl⟩) A49.out).mono ?_); rintro e w50 ⟨rfl, hb⟩; refine ⟨_, rfl, ?_⟩; have n0_ := Aside0.mk (Kd.R_below (by (with_reducible repeat (first | apply Kd.R_alloc | apply Kd.R_drewN | apply Kd.R_drew)); exact HO_3.out) hb); have n1_ := Aside0.mk (Kd.R_below (by (with_reducible repeat (first | apply Kd.R_alloc | apply Kd.R_drewN | apply Kd.R_drew)); exact HO_4.out) hb); have n2_ := Aside0.mk (below_step (by repeat (first | (with_reducible first | exact HB.out | apply below_alloc | apply pw_below_drewN | apply below_drew1) | exact HB.out)) hb); clear HO_3; clear HO_4; clear HB; have HO_3 := n0_; have HO_4 := n1_; have HB := n2_; clear n0_ n1_ n2_; (try clear hb); (try clear hb2); (try clear hk); (try clear hi)))
                      go_ret
                      exact ⟨by first | rfl | (simp [errW_none, errW_some] <;> rfl) | (simp [*, errW_none, errW_some] <;> rfl), by repeat (first | (with_reducible first | exact HB.out | apply below_alloc | apply pw_below_drewN | apply below_drew1) | exact HB.out)⟩

def parquetlaw07_SortsStands.Pure : Prop := ∀ (l0 : List (S28)), (l0.length ≤ 9223372036854775807 ∧ ∀ e443 ∈ l0, ((Lit.int .i64 e443.f0).wf = true) ∧ ((Lit.int .i64 e443.f1).wf = true)) → ∃ k, parquetlaw07_SortsStands.f k l0 = some true

end Go.Proofs.Ytfmeicojiadeiaa.P
