-- PRINTED by print.py (a twelfth state) out of the translation. Not trusted: Lean checks it.
import Derived.Test.YtfmeicojiadeiaaPx0
namespace Go.Proofs.Ytfmeicojiadeiaa.P
open Go.RowKit Go.Proofs.YtfmeicojiadeiaaW.PrintWords Go.Proofs.YtfmeicojiadeiaaW.PrintLast Go.Proofs.YtfmeicojiadeiaaW.PrintMore
attribute [local go_sem] max2_int min2_int max_two min_two max_three min_three max_four min_four   -- for this text's walks alone
set_option linter.unusedVariables false
set_option linter.unusedSimpArgs false

/-! ### api_Point_30: function 30 -/
mutual
def api_Point_30.l0 : Nat → List (S28) → List (S28) → (Int → Int → Int → Int → Option (Bool)) → List (S28) → Option ((List (S28)))
  | 0, _, _, _, _ => none
  | k + 1, x0, x1, x2, x7 => if (x0.length : Int) > 0 then (api_Point_30.j1 k x0 x1 x2 x7 (decide ((x1.length : Int) > 0))) else (api_Point_30.j1 k x0 x1 x2 x7 false)
def api_Point_30.j1 : Nat → List (S28) → List (S28) → (Int → Int → Int → Int → Option (Bool)) → List (S28) → Bool → Option ((List (S28)))
  | 0, _, _, _, _, _ => none
  | k + 1, x0, x1, x2, x7, x15 => if x15 = true then (if 0 < (x1.length : Int) then (if 0 < (x0.length : Int) then ((x2 ((rd_T28 x1 0).f0) ((rd_T28 x1 0).f1) ((rd_T28 x0 0).f0) ((rd_T28 x0 0).f1)).bind fun t497 => (if t497 = true then (if x7.length < 8796093022208 then (if 1 ≤ (x1.length : Int) then (api_Point_30.l0 k x0 (x1.drop 1) x2 (x7 ++ [(⟨(rd_T28 x1 0).f0, (rd_T28 x1 0).f1⟩ : S28)])) else (none)) else (none)) else (if x7.length < 8796093022208 then (if 1 ≤ (x0.length : Int) then (api_Point_30.l0 k (x0.drop 1) x1 x2 (x7 ++ [(⟨(rd_T28 x0 0).f0, (rd_T28 x0 0).f1⟩ : S28)])) else (none)) else (none)))) else (none)) else (none)) else (if x7.length + x0.length < 8796093022208 then ((some (x7 ++ x0 : List (S28))).bind fun y516 => (if y516.length + x1.length < 8796093022208 then (some (y516 ++ x1)) else (none))) else (none))
end
def api_Point_30.f (k : Nat) (l0 : List (S28)) (l1 : List (S28)) (a2 : (Int → Int → Int → Int → Option (Bool))) : Option ((List (S28))) := api_Point_30.l0 k l0 l1 a2 ([] : List (S28))
theorem api_Point_30.mono_l : ∀ k, (∀ y0 y1 y2 y3, LeO (api_Point_30.l0 k y0 y1 y2 y3) (api_Point_30.l0 (k + 1) y0 y1 y2 y3)) ∧ (∀ y0 y1 y2 y3 y4, LeO (api_Point_30.j1 k y0 y1 y2 y3 y4) (api_Point_30.j1 (k + 1) y0 y1 y2 y3 y4))
  | 0 => ⟨fun _ _ _ _ r h => by simp [api_Point_30.l0] at h, fun _ _ _ _ _ r h => by simp [api_Point_30.j1] at h⟩
  | k + 1 => by
    obtain ⟨ih0, ih1⟩ := api_Point_30.mono_l k
    refine ⟨?_, ?_⟩
    · intro y0 y1 y2 y3
      unfold api_Point_30.l0
      repeat' first
      | (with_reducible exact ih0 _ _ _ _)
      | (with_reducible exact ih1 _ _ _ _ _)
      | (with_reducible exact LeO.refl _)
      | (with_reducible exact LeO.none _)
      | (with_reducible refine LeO.ite ?_ ?_)
      | (with_reducible refine LeO.bind ?_ (fun _ => ?_))
      | exact ih0 _ _ _ _
      | exact ih1 _ _ _ _ _
      | exact LeO.none _
      | refine LeO.ite ?_ ?_
      | refine LeO.bind ?_ (fun _ => ?_)
    · intro y0 y1 y2 y3 y4
      unfold api_Point_30.j1
      repeat' first
      | (with_reducible exact ih0 _ _ _ _)
      | (with_reducible exact ih1 _ _ _ _ _)
      | (with_reducible exact LeO.refl _)
      | (with_reducible exact LeO.none _)
      | (with_reducible refine LeO.ite ?_ ?_)
      | (with_reducible refine LeO.bind ?_ (fun _ => ?_))
      | exact ih0 _ _ _ _
      | exact ih1 _ _ _ _ _
      | exact LeO.none _
      | refine LeO.ite ?_ ?_
      | refine LeO.bind ?_ (fun _ => ?_)
theorem api_Point_30.mono : ∀ a0 a1 a2 k, LeO (api_Point_30.f k a0 a1 a2) (api_Point_30.f (k + 1) a0 a1 a2) := by
  intro a0 a1 a2 k
  obtain ⟨ih0, ih1⟩ := api_Point_30.mono_l k
  unfold api_Point_30.f
  repeat' first
      | (with_reducible exact ih0 _ _ _ _)
      | (with_reducible exact ih1 _ _ _ _ _)
      | (with_reducible exact LeO.refl _)
      | (with_reducible exact LeO.none _)
      | (with_reducible refine LeO.ite ?_ ?_)
      | (with_reducible refine LeO.bind ?_ (fun _ => ?_))
      | exact ih0 _ _ _ _
      | exact ih1 _ _ _ _ _
      | exact LeO.none _
      | refine LeO.ite ?_ ?_
      | refine LeO.bind ?_ (fun _ => ?_)
def api_Point_30.T3 : Bool × List (List Nat × List Nat) := (true, [([], []), ([], []), ([1], [1]), ([2], [2]), ([], []), ([4], [4]), ([5], [5]), ([0, 3, 6], [0, 3, 6])])
def api_Point_30.B3 : List Nat := [0, 0, 2, 6, 0, 16, 48, 127]
theorem api_Point_30.tab3 : rtab .any (opsOf Try.f30 3) = api_Point_30.T3 := by kernel_rfl
theorem api_Point_30.bits3 : waitsOk api_Point_30.T3.2 api_Point_30.B3 = true := by kernel_rfl
def api_Point_30.T4 : Bool × List (List Nat × List Nat) := (true, [([], []), ([], []), ([1], [1]), ([2], [2]), ([3], [3]), ([0, 4], [0, 4]), ([], []), ([6], [6]), ([5, 5, 0, 1, 2, 3, 4, 5], [0, 5]), ([7, 8, 0, 1, 2, 3, 4, 5, 6, 7, 8], [1, 6, 7])])
def api_Point_30.B4 : List Nat := [0, 0, 2, 6, 14, 31, 0, 64, 63, 511]
theorem api_Point_30.tab4 : rtab .any (opsOf Try.f30 4) = api_Point_30.T4 := by kernel_rfl
theorem api_Point_30.bits4 : waitsOk api_Point_30.T4.2 api_Point_30.B4 = true := by kernel_rfl
def api_Point_30.T5 : Bool × List (List Nat × List Nat) := (true, [([], []), ([], []), ([1], [1]), ([2], [2]), ([3], [3]), ([0, 4], [0, 4]), ([], []), ([6], [6]), ([5, 5, 0, 1, 2, 3, 4, 5], [0, 5]), ([7, 8, 0, 1, 2, 3, 4, 5, 6, 7, 8], [1, 6, 7])])
def api_Point_30.B5 : List Nat := [0, 0, 2, 6, 14, 31, 0, 64, 63, 511]
theorem api_Point_30.tab5 : rtab .any (opsOf Try.f30 5) = api_Point_30.T5 := by kernel_rfl
theorem api_Point_30.bits5 : waitsOk api_Point_30.T5.2 api_Point_30.B5 = true := by kernel_rfl
set_option maxHeartbeats 8000000 in
set_option maxRecDepth 100000 in
theorem api_Point_30.calls (k : Nat) (P0_ : Nat → Prop) (A0 : Option Addr) (c0 : Nat) (l0 : List (S28)) (P1_ : Nat → Prop) (A1 : Option Addr) (c1 : Nat) (l1 : List (S28)) (F2 : FuncId) (fb2 fc2 : Array Value) (a2 : (Int → Int → Int → Int → Option (Bool))) (r : List (S28)) (w : World) (hs0 : Kd.V k28 28 w w.heap.size (fun k_ => P0_ k_) (.slice A0 l0.length c0) l0) (hs1 : Kd.V k28 28 w w.heap.size (fun k_ => P1_ k_) (.slice A1 l1.length c1) l1) (hF2 : FnT34 w F2 fb2 fc2 a2) (h : api_Point_30.f k l0 l1 a2 = some r) :
    Calls Try.prog 30 #[.slice A0 l0.length c0, .slice A1 l1.length c1, .func (.func F2) fb2 fc2] w fun e w' => ∃ v0_ : Value, e = .returned (v0_) ∧ Kd.R k28 28 w' w.heap.size (fun k_ => (w.heap.size ≤ k_)) v0_ r ∧ Below w.heap.size w w' := by
  have hu28 := Try.underlying28
  have HO0 := Aside0.mk (show Kd.V k28 28 w w.heap.size (fun k_ => ((P0_ k_ ∨ P1_ k_) ∨ w.heap.size ≤ k_)) (.slice A0 l0.length c0) l0 from Kd.V_mono hs0 (fun k_ hk => .inl (.inl hk)))
  have HO1 := Aside0.mk (show Kd.V k28 28 w w.heap.size (fun k_ => ((P0_ k_ ∨ P1_ k_) ∨ w.heap.size ≤ k_)) (.slice A1 l1.length c1) l1 from Kd.V_mono hs1 (fun k_ hk => .inl (.inr hk)))
  have HF2 := Aside0.mk hF2
  have HCF2 := hF2.1
  clear hF2
  have HB := Aside0.mk (Below.refl w.heap.size w)
  have H : (api_Point_30.l0 k l0 l1 a2 ([] : List (S28))) = some r := h
  clear h
  have H' := Aside0.mk H
  clear H
  go_enter Try.func30, Try.ntmps30
  go_wp2
  go_loopg [0, 1, 7] k (fun kq v0 v1 v7 w' => ∃ (x0_1 : List (S28)) (x1_1 : List (S28)) (x7_1 : List (S28)), Aside0 (api_Point_30.l0 kq x0_1 x1_1 a2 x7_1 = some r) ∧ Aside0 (kq ≤ k) ∧ Aside0 (Kd.V k28 28 w' w.heap.size (fun k_ => ((P0_ k_ ∨ P1_ k_) ∨ w.heap.size ≤ k_) ∧ some k_ ≠ (v7 : Value).ownBlock) v0 x0_1) ∧ Aside0 (Kd.V k28 28 w' w.heap.size (fun k_ => ((P0_ k_ ∨ P1_ k_) ∨ w.heap.size ≤ k_) ∧ some k_ ≠ (v7 : Value).ownBlock) v1 x1_1) ∧ Aside0 (Kd.R k28 28 w' w.heap.size (fun k_ => (w.heap.size ≤ k_)) v7 x7_1) ∧ Aside0 (Below w.heap.size w w'))
  case atStart => exact ⟨(l0), (l1), (([] : List (S28))), H', ⟨Nat.le_refl _⟩, ⟨by (with_reducible repeat (first | apply Kd.V_alloc | apply Kd.V_drewN | apply Kd.V_drew)); exact Kd.V_mono HO0.out (fun _ hk => ⟨hk, (by simp [Value.ownBlock])⟩)⟩, ⟨by (with_reducible repeat (first | apply Kd.V_alloc | apply Kd.V_drewN | apply Kd.V_drew)); exact Kd.V_mono HO1.out (fun _ hk => ⟨hk, (by simp [Value.ownBlock])⟩)⟩, ⟨by first | exact Kd.R_nil _ _ _ _ _ | exact Kd.N_nil _ _ _ _ _ | exact Kd.V_nil _ _ _ _ _ | exact Kd.Q_nil _ _ _ _ _ | exact Kd.S_nil _ _ _ _ _⟩, ⟨by repeat (first | (with_reducible first | exact HB.out | apply below_alloc | apply pw_below_drewN | apply below_drew1) | exact HB.out)⟩⟩
  case round =>
    clear H'
    (try clear c1); (try clear p2); (try clear c3)
    obtain ⟨x0_1, x1_1, x7_1, HA, HK1, HO_0, HO_1, HO_7, HB⟩ := hrel
    cases gk with
    | zero => exact absurd HA.out (by simp [api_Point_30.l0])
    | succ k1 =>
      have H := HA.out
      clear HA
      simp only [api_Point_30.l0] at H
      have HC4 := Aside0.mk H
      clear H
      go_upto_region 2 with (fail)
      go_cut [15] (fun v15 wc => ∃ (kq : Nat) (x15_3 : Bool), v15 = .bool x15_3 ∧ Aside0 (api_Point_30.j1 kq x0_1 x1_1 a2 x7_1 x15_3 = some r) ∧ Aside0 (kq ≤ k1) ∧ Aside0 (Kd.V k28 28 wc w.heap.size (fun k_ => ((P0_ k_ ∨ P1_ k_) ∨ w.heap.size ≤ k_) ∧ some k_ ≠ (u7 : Value).ownBlock) u0 x0_1) ∧ Aside0 (Kd.V k28 28 wc w.heap.size (fun k_ => ((P0_ k_ ∨ P1_ k_) ∨ w.heap.size ≤ k_) ∧ some k_ ≠ (u7 : Value).ownBlock) u1 x1_1) ∧ Aside0 (Kd.R k28 28 wc w.heap.size (fun k_ => (w.heap.size ≤ k_)) u7 x7_1) ∧ Aside0 (Below w.heap.size w wc))
      case first =>
        have H := HC4.out
        clear HC4
        by_cases c5 : (x0_1.length : Int) > 0
        · rw [if_pos c5] at H
          have c5b0 : decide (0 < (x0_1.length : Int)) = true := decide_eq_true c5
          have c5b1 : decide (0 < x0_1.length) = true := decide_eq_true (by omega)
          clear c5
          (first | rw [c5b0] | (simp only [i64_w, i32_w]; rw [c5b0]) | skip)
          have H' := Aside0.mk H
          clear H
          obtain ⟨Ao6, co6, eo6⟩ := Kd.V_slice HO_0.out
          subst eo6
          obtain ⟨Ao7, co7, eo7⟩ := Kd.V_slice HO_1.out
          subst eo7
          go_wp2
          go_meet
          case rel => exact ⟨_, (decide ((x1_1.length : Int) > 0)), (by first | rfl | (simp; done) | (simp [*]; done)), H', ⟨by have := HK1.out; first | omega | exact Nat.le_refl _⟩, ⟨by (with_reducible repeat (first | apply Kd.V_alloc | apply Kd.V_drewN | apply Kd.V_drew)); exact HO_0.out⟩, ⟨by (with_reducible repeat (first | apply Kd.V_alloc | apply Kd.V_drewN | apply Kd.V_drew)); exact HO_1.out⟩, ⟨by (with_reducible repeat (first | apply Kd.R_alloc | apply Kd.R_drewN | apply Kd.R_drew)); exact HO_7.out⟩, ⟨by repeat (first | (with_reducible first | exact HB.out | apply below_alloc | apply pw_below_drewN | apply below_drew1) | exact HB.out)⟩⟩
        · rw [if_neg c5] at H
          have c5b0 : decide (0 < (x0_1.length : Int)) = false := decide_eq_false c5
          have c5b1 : decide (0 < x0_1.length) = false := decide_eq_false (by omega)
          clear c5
          (first | rw [c5b0] | (simp only [i64_w, i32_w]; rw [c5b0]) | skip)
          have H' := Aside0.mk H
          clear H
          obtain ⟨Ao8, co8, eo8⟩ := Kd.V_slice HO_0.out
          subst eo8
          go_wp2
          go_meet
          case rel => exact ⟨_, (false), (by first | rfl | (simp; done) | (simp [*]; done)), H', ⟨by have := HK1.out; first | omega | exact Nat.le_refl _⟩, ⟨by (with_reducible repeat (first | apply Kd.V_alloc | apply Kd.V_drewN | apply Kd.V_drew)); exact HO_0.out⟩, ⟨by (with_reducible repeat (first | apply Kd.V_alloc | apply Kd.V_drewN | apply Kd.V_drew)); exact HO_1.out⟩, ⟨by (with_reducible repeat (first | apply Kd.R_alloc | apply Kd.R_drewN | apply Kd.R_drew)); exact HO_7.out⟩, ⟨by repeat (first | (with_reducible first | exact HB.out | apply below_alloc | apply pw_below_drewN | apply below_drew1) | exact HB.out)⟩⟩
      case rest =>
        clear HC4
        (try clear c1); (try clear p2); (try clear c3); (try clear c5); (try clear c5b0); (try clear c5b1); (try clear p2)
        obtain ⟨kq, x15_3, rfl, HA, HJ3, HO_0, HO_1, HO_7, HB⟩ := hcut
        cases kq with
        | zero => exact absurd HA.out (by simp [api_Point_30.j1])
        | succ kj3 =>
          have H := HA.out
          clear HA
          simp only [api_Point_30.j1] at H
          by_cases c9 : x15_3 = true
          · subst c9
            have H1 : (if 0 < (x1_1.length : Int) then (if 0 < (x0_1.length : Int) then ((a2 ((rd_T28 x1_1 0).f0) ((rd_T28 x1_1 0).f1) ((rd_T28 x0_1 0).f0) ((rd_T28 x0_1 0).f1)).bind fun t497 => (if t497 = true then (if x7_1.length < 8796093022208 then (if 1 ≤ (x1_1.length : Int) then (api_Point_30.l0 kj3 x0_1 (x1_1.drop 1) a2 (x7_1 ++ [(⟨(rd_T28 x1_1 0).f0, (rd_T28 x1_1 0).f1⟩ : S28)])) else (none)) else (none)) else (if x7_1.length < 8796093022208 then (if 1 ≤ (x0_1.length : Int) then (api_Point_30.l0 kj3 (x0_1.drop 1) x1_1 a2 (x7_1 ++ [(⟨(rd_T28 x0_1 0).f0, (rd_T28 x0_1 0).f1⟩ : S28)])) else (none)) else (none)))) else (none)) else (none)) = some r := by rw [if_pos rfl] at H; exact H
            clear H
            have H := H1
            clear H1
            by_cases c10 : 0 < (x1_1.length : Int)
            · rw [if_pos c10] at H
              have c10b0 : decide (0 < (x1_1.length : Int)) = true := decide_eq_true c10
              have c10b1 : decide (0 < x1_1.length) = true := decide_eq_true (by omega)
              clear c10
              by_cases c11 : 0 < (x0_1.length : Int)
              · rw [if_pos c11] at H
                have c11b0 : decide (0 < (x0_1.length : Int)) = true := decide_eq_true c11
                have c11b1 : decide (0 < x0_1.length) = true := decide_eq_true (by omega)
                clear c11
                replace H := Option.bind_eq_some_iff.mp H
                obtain ⟨t497, A120, H⟩ := H
                replace H : (if t497 = true then (if x7_1.length < 8796093022208 then (if 1 ≤ (x1_1.length : Int) then (api_Point_30.l0 kj3 x0_1 (x1_1.drop 1) a2 (x7_1 ++ [(⟨(rd_T28 x1_1 0).f0, (rd_T28 x1_1 0).f1⟩ : S28)])) else (none)) else (none)) else (if x7_1.length < 8796093022208 then (if 1 ≤ (x0_1.length : Int) then (api_Point_30.l0 kj3 (x0_1.drop 1) x1_1 a2 (x7_1 ++ [(⟨(rd_T28 x0_1 0).f0, (rd_T28 x0_1 0).f1⟩ : S28)])) else (none)) else (none))) = some r := H
                have A12 := Aside0.mk A120
                clear A120
                by_cases c13 : t497 = true
                · subst c13
                  have H1 : (if x7_1.length < 8796093022208 then (if 1 ≤ (x1_1.length : Int) then (api_Point_30.l0 kj3 x0_1 (x1_1.drop 1) a2 (x7_1 ++ [(⟨(rd_T28 x1_1 0).f0, (rd_T28 x1_1 0).f1⟩ : S28)])) else (none)) else (none)) = some r := by rw [if_pos rfl] at H; exact H
                  clear H
                  have H := H1
                  clear H1
                  by_cases c14 : x7_1.length < 8796093022208
                  · rw [if_pos c14] at H
                    have LMc14 := Aside0.mk c14
                    clear c14
                    obtain ⟨y499, hy499⟩ : ∃ y_ : List (S28), y_ = (x7_1 ++ [(⟨(rd_T28 x1_1 0).f0, (rd_T28 x1_1 0).f1⟩ : S28)]) := ⟨_, rfl⟩
                    replace H : (if 1 ≤ (x1_1.length : Int) then (api_Point_30.l0 kj3 x0_1 (x1_1.drop 1) a2 y499) else (none)) = some r := by first | (rw [hy499]; with_reducible exact H) | (have H2_ := (Option.bind_some _ _).symm.trans H; rw [hy499]; with_reducible exact H2_) | (have H2_ := (Option.bind_some _ _).symm.trans H; with_reducible exact H2_) | with_reducible exact H | (rw [hy499]; exact H) | exact H
                    have Ny499 := Aside0.mk hy499
                    clear hy499
                    by_cases c15 : 1 ≤ (x1_1.length : Int)
                    · rw [if_pos c15] at H
                      have c15b0 := eq_true c15
                      have c15b1 : decide (1 ≤ (x1_1.length : Int)) = true := decide_eq_true c15
                      clear c15
                      obtain ⟨y502, hy502⟩ : ∃ y_ : List (S28), y_ = (x1_1.drop 1) := ⟨_, rfl⟩
                      replace H : (api_Point_30.l0 kj3 x0_1 y502 a2 y499) = some r := by first | (rw [hy502]; with_reducible exact H) | (have H2_ := (Option.bind_some _ _).symm.trans H; rw [hy502]; with_reducible exact H2_) | (have H2_ := (Option.bind_some _ _).symm.trans H; with_reducible exact H2_) | with_reducible exact H | (rw [hy502]; exact H) | exact H
                      have Ny502 := Aside0.mk hy502
                      clear hy502
                      have H' := Aside0.mk H
                      clear H
                      try go_wp2
                      have n0_ := Aside0.mk (Kd.V_drew HO_0.out)
                      have n1_ := Aside0.mk (Kd.V_drew HO_1.out)
                      have n2_ := Aside0.mk (Kd.R_drew HO_7.out)
                      have n3_ := Aside0.mk (below_drew1 HB.out)
                      clear HO_0
                      clear HO_1
                      clear HO_7
                      clear HB
                      have HO_0 := n0_
                      have HO_1 := n1_
                      have HO_7 := n2_
                      have HB := n3_
                      clear n0_ n1_ n2_ n3_
                      obtain ⟨Ao17, co17, eo17⟩ := Kd.V_slice HO_1.out
                      (first | subst eo17 | (injection eo17 with f1_ f2_ f3_; have f4_ := f1_.symm; have f5_ := f3_.symm; clear f1_ f2_ f3_; subst f4_; subst f5_))
                      have p495 : 0 ≤ (0 : Int) := (by omega)
                      have q495 : 0 < (x1_1.length : Int) := of_decide_eq_true (by first | (with_reducible assumption) | assumption)
                      obtain ⟨ad495, e495, hx495_0, hx495_1⟩ := at_T28 (Kd.V_reads' HO_1.out).2.2 0 p495 q495
                      cases e495
                      have qi495 : (0 < x1_1.length) = True := eq_true (by omega)
                      (try rw [show ((0 : Int)).toNat = 0 from rfl] at hx495_0)
                      (try rw [show 0 * 2 = 0 from rfl] at hx495_0)
                      (try rw [Addr.add_zero'] at hx495_0)
                      (try rw [show ((0 : Int)).toNat = 0 from rfl] at hx495_1)
                      (try rw [show 0 * 2 = 0 from rfl] at hx495_1)
                      (try rw [Addr.add_zero'] at hx495_1)
                      replace p495 := eq_true p495
                      replace q495 := eq_true q495
                      obtain ⟨Ao18, co18, eo18⟩ := Kd.V_slice HO_0.out
                      (first | subst eo18 | (injection eo18 with f1_ f2_ f3_; have f4_ := f1_.symm; have f5_ := f3_.symm; clear f1_ f2_ f3_; subst f4_; subst f5_))
                      have p496 : 0 ≤ (0 : Int) := (by omega)
                      have q496 : 0 < (x0_1.length : Int) := of_decide_eq_true (by first | (with_reducible assumption) | assumption)
                      obtain ⟨ad496, e496, hx496_0, hx496_1⟩ := at_T28 (Kd.V_reads' HO_0.out).2.2 0 p496 q496
                      cases e496
                      have qi496 : (0 < x0_1.length) = True := eq_true (by omega)
                      (try rw [show ((0 : Int)).toNat = 0 from rfl] at hx496_0)
                      (try rw [show 0 * 2 = 0 from rfl] at hx496_0)
                      (try rw [Addr.add_zero'] at hx496_0)
                      (try rw [show ((0 : Int)).toNat = 0 from rfl] at hx496_1)
                      (try rw [show 0 * 2 = 0 from rfl] at hx496_1)
                      (try rw [Addr.add_zero'] at hx496_1)
                      replace p496 := eq_true p496
                      replace q496 := eq_true q496
                      refine start_ (n := 8) (S := fun w' => w'.cell? ad495 = some (.int .i64 ((rd_T28 x1_1 0).f0)) ∧ w'.cell? ⟨ad495.block, ad495.off + 1, none⟩ = some (.int .i64 ((rd_T28 x1_1 0).f1)) ∧ w'.cell? ad496 = some (.int .i64 ((rd_T28 x0_1 0).f0)) ∧ w'.cell? ⟨ad496.block, ad496.off + 1, none⟩ = some (.int .i64 ((rd_T28 x0_1 0).f1))) (ds := []) #[false, false, false, false, false, false, false, false] (by kernel_rfl) rfl rfl ⟨hx495_0, hx495_1, hx496_0, hx496_1⟩ (fun hHeld => ?_); refine with_tabW api_Point_30.tab3 api_Point_30.bits3 (fun HT_ HW_ => ?_)
                      generalize wc.drew = w16 at HO_0 HO_1 HO_7 HB hx495_0 hx495_1 hx496_0 hx496_1 hHeld ⊢
                      refine pure_ (i := 0) (N := some 16) (v := ?_) (a' := ?_) #[true, false, false, false, false, false, false, false] rfl rfl (any_of HT_.out (by kernel_rfl)) (fun _ _ _ h => h) (Or.inl ⟨by rfl, ?_⟩) ?_ ?_
                      rotate_left
                      · intro w'
                        go_simp
                        with_reducible rfl
                      rotate_left
                      · simp only [Act.put, List.setIfInBounds_toArray, List.set_cons_zero, List.set_cons_succ, i64_w, i32_w]
                        rfl
                      refine pure_ (i := 1) (N := some 17) (v := ?_) (a' := ?_) #[true, true, false, false, false, false, false, false] rfl rfl (any_of HT_.out (by kernel_rfl)) (fun _ _ _ h => h) (Or.inl ⟨by rfl, ?_⟩) ?_ ?_
                      rotate_left
                      · intro w'
                        go_simp
                        with_reducible rfl
                      rotate_left
                      · simp only [Act.put, List.setIfInBounds_toArray, List.set_cons_zero, List.set_cons_succ, i64_w, i32_w]
                        rfl
                      refine pure_ (i := 2) (N := some 18) (v := ?_) (a' := ?_) #[true, true, true, false, false, false, false, false] rfl rfl (any_of HT_.out (by kernel_rfl)) (fun _ _ _ h => h) (Or.inl ⟨by rfl, ?_⟩) ?_ ?_
                      rotate_left
                      · intro w'
                        go_simp
                        with_reducible rfl
                      rotate_left
                      · simp only [Act.put, List.setIfInBounds_toArray, List.set_cons_zero, List.set_cons_succ, i64_w, i32_w]
                        rfl
                      refine pure_ (i := 4) (N := some 20) (v := ?_) (a' := ?_) #[true, true, true, false, true, false, false, false] rfl rfl (any_of HT_.out (by kernel_rfl)) (fun _ _ _ h => h) (Or.inl ⟨by rfl, ?_⟩) ?_ ?_
                      rotate_left
                      · intro w'
                        go_simp
                        with_reducible rfl
                      rotate_left
                      · simp only [Act.put, List.setIfInBounds_toArray, List.set_cons_zero, List.set_cons_succ, i64_w, i32_w]
                        rfl
                      refine pure_ (i := 5) (N := some 21) (v := ?_) (a' := ?_) #[true, true, true, false, true, true, false, false] rfl rfl (any_of HT_.out (by kernel_rfl)) (fun _ _ _ h => h) (Or.inl ⟨by rfl, ?_⟩) ?_ ?_
                      rotate_left
                      · intro w'
                        go_simp
                        with_reducible rfl
                      rotate_left
                      · simp only [Act.put, List.setIfInBounds_toArray, List.set_cons_zero, List.set_cons_succ, i64_w, i32_w]
                        rfl
                      refine take_ (i := 3) (N := some 19) (v := ?_) (a' := ?_) #[true, true, true, true, true, true, false, false] rfl rfl (take_ofW HT_.out HW_.out (by kernel_rfl)) (fun _ _ _ h => h) (Or.inl ⟨by rfl, ?_⟩) hHeld ?_ ?_
                      rotate_left
                      · rintro w' ⟨s0, s1, s2, s3⟩
                        go_simp
                        with_reducible rfl
                      rotate_left
                      · simp only [Act.put, List.setIfInBounds_toArray, List.set_cons_zero, List.set_cons_succ, i64_w, i32_w]
                        rfl
                      refine take_ (i := 6) (N := some 22) (v := ?_) (a' := ?_) #[true, true, true, true, true, true, true, false] rfl rfl (take_ofW HT_.out HW_.out (by kernel_rfl)) (fun _ _ _ h => h) (Or.inl ⟨by rfl, ?_⟩) hHeld ?_ ?_
                      rotate_left
                      · rintro w' ⟨s0, s1, s2, s3⟩
                        go_simp
                        with_reducible rfl
                      rotate_left
                      · simp only [Act.put, List.setIfInBounds_toArray, List.set_cons_zero, List.set_cons_succ, i64_w, i32_w]
                        rfl
                      refine one_ (i := 7) (N := some 23) #[true, true, true, true, true, true, true, true] rfl rfl (one_of HT_.out (by kernel_rfl)) (by decide) (fun K hK => ?_)
                      refine goesF_ HF2.out.1 (fb2 ++ #[.agg #[.int .i64 ((rd_T28 x1_1 0).f0), .int .i64 ((rd_T28 x1_1 0).f1)], .agg #[.int .i64 ((rd_T28 x0_1 0).f0), .int .i64 ((rd_T28 x0_1 0).f1)]] ++ fc2) (by rfl) rfl rfl (by rfl) (by (try simp only [List.map_toArray, List.map_cons, List.map_nil]); first | done | rfl | (simp only [List.length_drop, List.length_take]; rfl)) ?_
                      refine (FnT34.call HF2.out ?side1 A12.out ?side2).mono ?_
                      (case side1 => exact by repeat (first | (with_reducible first | exact HB.out | apply below_alloc | apply pw_below_drewN | apply below_drew1) | exact HB.out))
                      (case side2 => first | rfl | simp)
                      rintro e w19 ⟨rfl, hb⟩
                      have HS0_ := (hb.cell (World.block_lt_of_cell? _ _ (hHeld.1))).trans (hHeld.1)
                      have HS1_ := (hb.cell (World.block_lt_of_cell? _ _ (hHeld.2.1))).trans (hHeld.2.1)
                      have HS2_ := (hb.cell (World.block_lt_of_cell? _ _ (hHeld.2.2.1))).trans (hHeld.2.2.1)
                      have HS3_ := (hb.cell (World.block_lt_of_cell? _ _ (hHeld.2.2.2))).trans (hHeld.2.2.2)
                      refine ⟨_, rfl, ?_⟩
                      have n0_ := Aside0.mk (Kd.V_below (by (with_reducible repeat (first | apply Kd.V_alloc | apply Kd.V_drewN | apply Kd.V_drew)); exact HO_0.out) hb)
                      have n1_ := Aside0.mk (Kd.V_below (by (with_reducible repeat (first | apply Kd.V_alloc | apply Kd.V_drewN | apply Kd.V_drew)); exact HO_1.out) hb)
                      have n2_ := Aside0.mk (Kd.R_below (by (with_reducible repeat (first | apply Kd.R_alloc | apply Kd.R_drewN | apply Kd.R_drew)); exact HO_7.out) hb)
                      have n3_ := Aside0.mk (below_step (by repeat (first | (with_reducible first | exact HB.out | apply below_alloc | apply pw_below_drewN | apply below_drew1) | exact HB.out)) hb)
                      clear HO_0
                      clear HO_1
                      clear HO_7
                      clear HB
                      have HO_0 := n0_
                      have HO_1 := n1_
                      have HO_7 := n2_
                      have HB := n3_
                      clear n0_ n1_ n2_ n3_
                      (try clear hb)
                      (try clear hb2)
                      (try clear hk)
                      (try clear hi)
                      refine hK.out _ _ ⟨HS0_, HS1_, HS2_, HS3_⟩ (fun hHeld => ?_)
                      clear hK K
                      refine norm_ (a' := ?_) ?_ ?_
                      rotate_left
                      · show Act.put _ (some 23) _ = _
                        simp only [Act.put, List.setIfInBounds_toArray, List.set_cons_zero, List.set_cons_succ, i64_w, i32_w]
                        rfl
                      refine done_ (done_of HT_.out (by kernel_rfl)) ?_
                      try go_wp2
                      have n0_ := Aside0.mk (Kd.V_drew HO_0.out)
                      have n1_ := Aside0.mk (Kd.V_drew HO_1.out)
                      have n2_ := Aside0.mk (Kd.R_drew HO_7.out)
                      have n3_ := Aside0.mk (below_drew1 HB.out)
                      clear HO_0
                      clear HO_1
                      clear HO_7
                      clear HB
                      have HO_0 := n0_
                      have HO_1 := n1_
                      have HO_7 := n2_
                      have HB := n3_
                      clear n0_ n1_ n2_ n3_
                      have p498 : 0 ≤ (0 : Int) := (by omega)
                      have q498 : 0 < (x1_1.length : Int) := of_decide_eq_true (by first | (with_reducible assumption) | assumption)
                      obtain ⟨ad498, e498, hx498_0, hx498_1⟩ := at_T28 (Kd.V_reads' HO_1.out).2.2 0 p498 q498
                      obtain rfl : ad495 = ad498 := (by injection e498)
                      have qi498 : (0 < x1_1.length) = True := eq_true (by omega)
                      (try rw [show ((0 : Int)).toNat = 0 from rfl] at hx498_0)
                      (try rw [show 0 * 2 = 0 from rfl] at hx498_0)
                      (try rw [Addr.add_zero'] at hx498_0)
                      (try rw [show ((0 : Int)).toNat = 0 from rfl] at hx498_1)
                      (try rw [show 0 * 2 = 0 from rfl] at hx498_1)
                      (try rw [Addr.add_zero'] at hx498_1)
                      replace p498 := eq_true p498
                      replace q498 := eq_true q498
                      have q21 : (1 : Int) ≤ ((x1_1.length : Int) : Int) := of_decide_eq_true (by first | (with_reducible assumption) | assumption)
                      obtain ⟨i021, hi021, _, hsz21, _⟩ := info_parts info28
                      have hroom21 : x1_1.length ≤ co17 := (Kd.V_reads' HO_1.out).2.1
                      have hC21 : Kd.F k28 _ _ (some ad495) x1_1.length x1_1 := (Kd.V_at (base := w.heap.size) HO_1.out).2.2
                      have hcut21 := cut_from (P := Try.prog) 22 28 .i64 Try.underlying22 hi021 2 hsz21 (some ad495) x1_1.length co17 1 (by omega) q21
                      have hr21 := Kd.F_cut (m := (1 : Int).toNat) (c := co17) hC21 (by omega) hroom21
                      obtain ⟨A21, hA21⟩ : ∃ A1, A1 = (if co17 = (1 : Int).toNat then (some ad495) else ((some ad495) : Option Addr).map (·.add ((1 : Int).toNat * 2))) := ⟨_, rfl⟩
                      obtain ⟨c21, hc21⟩ : ∃ c1, c1 = co17 - (1 : Int).toNat := ⟨_, rfl⟩
                      have hy21 : y502.length = x1_1.length - (1 : Int).toNat := (by rw [Ny502.out, List.length_drop] <;> omega)
                      rw [show (x1_1).drop (1 : Int).toNat = y502 from Ny502.out.symm] at hr21
                      replace hr21 : Kd.F k28 _ _ A21 y502.length y502 := (by rw [hA21]; exact hr21)
                      rw [← hy21, ← hA21, ← hc21] at hcut21
                      have HO506 := Aside0.mk (show Kd.V k28 28 _ w.heap.size _ (.slice A21 y502.length c21) y502 from Kd.V_mk (by rw [hy21, hc21]; exact Nat.sub_le_sub_right hroom21 _) hr21)
                      have HC506 := Aside0.mk (show y502.length ≤ c21 from by rw [hy21, hc21]; exact Nat.sub_le_sub_right hroom21 _)
                      clear hr21 hC21 hroom21 hi021 hsz21 hc21
                      have KY21 := Aside0.mk hy21
                      have KA21 := Aside0.mk hA21
                      clear hy21 hA21
                      replace q21 := eq_true q21
                      refine start_ (n := 10) (S := fun w' => w'.cell? ad495 = some (.int .i64 ((rd_T28 x1_1 0).f0)) ∧ w'.cell? ⟨ad495.block, ad495.off + 1, none⟩ = some (.int .i64 ((rd_T28 x1_1 0).f1))) (ds := [4, 5]) #[false, false, false, false, false, false, false, false, false, false] (by kernel_rfl) rfl rfl ⟨hx498_0, hx498_1⟩ (fun hHeld => ?_); refine with_tabW api_Point_30.tab4 api_Point_30.bits4 (fun HT_ HW_ => ?_)
                      generalize w19.drew = w20 at HO_0 HO_1 HO_7 HB HO506 hx498_0 hx498_1 hHeld ⊢
                      refine pure_ (i := 0) (N := some 24) (v := ?_) (a' := ?_) #[true, false, false, false, false, false, false, false, false, false] rfl rfl (any_of HT_.out (by kernel_rfl)) (fun _ _ _ h => h) (Or.inl ⟨by rfl, ?_⟩) ?_ ?_
                      rotate_left
                      · intro w'
                        go_simp
                        with_reducible rfl
                      rotate_left
                      · simp only [Act.put, List.setIfInBounds_toArray, List.set_cons_zero, List.set_cons_succ, i64_w, i32_w]
                        rfl
                      refine pure_ (i := 1) (N := some 25) (v := ?_) (a' := ?_) #[true, true, false, false, false, false, false, false, false, false] rfl rfl (any_of HT_.out (by kernel_rfl)) (fun _ _ _ h => h) (Or.inl ⟨by rfl, ?_⟩) ?_ ?_
                      rotate_left
                      · intro w'
                        go_simp
                        with_reducible rfl
                      rotate_left
                      · simp only [Act.put, List.setIfInBounds_toArray, List.set_cons_zero, List.set_cons_succ, i64_w, i32_w]
                        rfl
                      refine pure_ (i := 2) (N := some 26) (v := ?_) (a' := ?_) #[true, true, true, false, false, false, false, false, false, false] rfl rfl (any_of HT_.out (by kernel_rfl)) (fun _ _ _ h => h) (Or.inl ⟨by rfl, ?_⟩) ?_ ?_
                      rotate_left
                      · intro w'
                        go_simp
                        with_reducible rfl
                      rotate_left
                      · simp only [Act.put, List.setIfInBounds_toArray, List.set_cons_zero, List.set_cons_succ, i64_w, i32_w]
                        rfl
                      refine pure_ (i := 6) (N := some 30) (v := ?_) (a' := ?_) #[true, true, true, false, false, false, true, false, false, false] rfl rfl (any_of HT_.out (by kernel_rfl)) (fun _ _ _ h => h) (Or.inl ⟨by rfl, ?_⟩) ?_ ?_
                      rotate_left
                      · intro w'
                        go_simp
                        with_reducible rfl
                      rotate_left
                      · simp only [Act.put, List.setIfInBounds_toArray, List.set_cons_zero, List.set_cons_succ, i64_w, i32_w]
                        rfl
                      refine pure_ (i := 7) (N := some 31) (v := ?_) (a' := ?_) #[true, true, true, false, false, false, true, true, false, false] rfl rfl (any_of HT_.out (by kernel_rfl)) (fun _ _ _ h => h) (Or.inl ⟨by rfl, ?_⟩) ?_ ?_
                      rotate_left
                      · intro w'
                        go_simp
                        with_reducible rfl
                      rotate_left
                      · simp only [Act.put, List.setIfInBounds_toArray, List.set_cons_zero, List.set_cons_succ, i64_w, i32_w]
                        rfl
                      refine take_ (i := 3) (N := some 27) (v := ?_) (a' := ?_) #[true, true, true, true, false, false, true, true, false, false] rfl rfl (take_ofW HT_.out HW_.out (by kernel_rfl)) (fun _ _ _ h => h) (Or.inl ⟨by rfl, ?_⟩) hHeld ?_ ?_
                      rotate_left
                      · rintro w' ⟨s0, s1⟩
                        go_simp
                        with_reducible rfl
                      rotate_left
                      · simp only [Act.put, List.setIfInBounds_toArray, List.set_cons_zero, List.set_cons_succ, i64_w, i32_w]
                        rfl
                      refine last_ (i := 4) (N := some 28) #[true, true, true, true, true, false, true, true, false, false] rfl rfl (one_of HT_.out (by kernel_rfl)) (by decide) (fun K hK => ?_)
                      refine value_ (w1 := ?_) (v := ?_) (by rfl) rfl ?_ ?_
                      rotate_left 2
                      · go_simp
                        constructor
                        · rfl
                        · rfl
                      refine hK.out _ _ ?_
                      clear hK K
                      refine norm_ (a' := ?_) ?_ ?_
                      rotate_left
                      · show Act.put _ (some 28) _ = _
                        simp only [Act.put, List.setIfInBounds_toArray, List.set_cons_zero, List.set_cons_succ, i64_w, i32_w]
                        rfl
                      refine last_ (i := 5) (N := some 29) #[true, true, true, true, true, true, true, true, false, false] rfl rfl (one_of HT_.out (by kernel_rfl)) (by decide) (fun K hK => ?_)
                      refine Kd.R_append_step k28 (w0 := w) w.heap.size (by rfl) (.tmp 24) (.tmp 28) 22 28 (.agg #[(.int .i64 0), (.int .i64 0)]) 16 rfl Try.underlying22 info28 rfl (by decide) (by omega) u7 x7_1 (⟨(rd_T28 x1_1 0).f0, (rd_T28 x1_1 0).f1⟩ : S28) [.int .i64 ((rd_T28 x1_1 0).f0), .int .i64 ((rd_T28 x1_1 0).f1)] (fun k_ => (w.heap.size ≤ k_)) (fun _ => False) rfl rfl ?aP (fun _ hk => hk.elim) ?aF ?aO ?aB ?aS ?aL ?_
                      (case aP => exact k28_mkM _ _ _ (⟨(rd_T28 x1_1 0).f0, (rd_T28 x1_1 0).f1⟩ : S28))
                      (case aB => exact (by repeat (first | (with_reducible first | exact HB.out | apply below_alloc | apply pw_below_drewN | apply below_drew1) | exact HB.out)))
                      (case aF => exact (fun k_ hk => (Nat.le_trans (below_size (by repeat (first | (with_reducible first | exact HB.out | apply below_alloc | apply pw_below_drewN | apply below_drew1) | exact HB.out))) hk)))
                      (case aO => exact (by (with_reducible repeat (first | apply Kd.R_alloc | apply Kd.R_drewN | apply Kd.R_drew)); exact HO_7.out))
                      (case aS => exact (below_size (by repeat (first | (with_reducible first | exact HB.out | apply below_alloc | apply pw_below_drewN | apply below_drew1) | exact HB.out))))
                      (case aL => have := LMc14.out; omega)
                      intro v500 w22 ho hb hg hat
                      rw [← Ny499.out] at ho
                      have n0_ := Aside0.mk (Kd.V_afterv (ok := (fun k_ => ((P0_ k_ ∨ P1_ k_) ∨ w.heap.size ≤ k_))) (by (with_reducible repeat (first | apply Kd.V_alloc | apply Kd.V_drewN | apply Kd.V_drew)); exact HO_0.out) hg hat)
                      have n1_ := Aside0.mk (Kd.V_afterv (ok := (fun k_ => ((P0_ k_ ∨ P1_ k_) ∨ w.heap.size ≤ k_))) (by (with_reducible repeat (first | apply Kd.V_alloc | apply Kd.V_drewN | apply Kd.V_drew)); exact HO_1.out) hg hat)
                      have n2_ := Aside0.mk (Kd.V_afterv (ok := (fun k_ => ((P0_ k_ ∨ P1_ k_) ∨ w.heap.size ≤ k_))) (by (with_reducible repeat (first | apply Kd.V_alloc | apply Kd.V_drewN | apply Kd.V_drew)); exact HO506.out) hg hat)
                      have n3_ := Aside0.mk (hb)
                      have n4_ := Aside0.mk (ho)
                      clear HO_0
                      clear HO_1
                      clear HO506
                      clear HB
                      clear HO_7
                      have HO_0 := n0_
                      have HO_1 := n1_
                      have HO506 := n2_
                      have HB := n3_
                      have HO501 := n4_
                      clear n0_ n1_ n2_ n3_ n4_
                      clear ho hb hg hat
                      refine hK.out _ _ ?_
                      clear hK K
                      refine norm_ (a' := ?_) ?_ ?_
                      rotate_left
                      · show Act.put _ (some 29) _ = _
                        simp only [Act.put, List.setIfInBounds_toArray, List.set_cons_zero, List.set_cons_succ, i64_w, i32_w]
                        rfl
                      refine pure_ (i := 8) (N := some 7) (v := ?_) (a' := ?_) #[true, true, true, true, true, true, true, true, true, false] rfl rfl (any_of HT_.out (by kernel_rfl)) (fun _ _ _ h => h) (Or.inl ⟨by rfl, ?_⟩) ?_ ?_
                      rotate_left
                      · intro w'
                        go_simp
                        with_reducible rfl
                      rotate_left
                      · simp only [Act.put, List.setIfInBounds_toArray, List.set_cons_zero, List.set_cons_succ, i64_w, i32_w]
                        rfl
                      refine pure_ (i := 9) (N := some 1) (v := ?_) (a' := ?_) #[true, true, true, true, true, true, true, true, true, true] rfl rfl (any_of HT_.out (by kernel_rfl)) (fun _ _ _ h => h) (Or.inl ⟨by rfl, ?_⟩) ?_ ?_
                      rotate_left
                      · intro w'
                        go_simp
                        with_reducible rfl
                      rotate_left
                      · simp only [Act.put, List.setIfInBounds_toArray, List.set_cons_zero, List.set_cons_succ, i64_w, i32_w]
                        rfl
                      refine done_ (done_of HT_.out (by kernel_rfl)) ?_
                      try go_wp2
                      go_roundg kj3
                      case measure => have := HK1.out; have := HJ3.out; omega
                      case rel => exact ⟨(x0_1), (y502), (y499), H', ⟨by have := HK1.out; have := HJ3.out; omega⟩, ⟨by (with_reducible repeat (first | apply Kd.V_alloc | apply Kd.V_drewN | apply Kd.V_drew)); exact HO_0.out⟩, ⟨by (with_reducible repeat (first | apply Kd.V_alloc | apply Kd.V_drewN | apply Kd.V_drew)); exact HO506.out⟩, ⟨by (with_reducible repeat (first | apply Kd.R_alloc | apply Kd.R_drewN | apply Kd.R_drew)); exact HO501.out⟩, ⟨by repeat (first | (with_reducible first | exact HB.out | apply below_alloc | apply pw_below_drewN | apply below_drew1) | exact HB.out)⟩⟩
                    · rw [if_neg c15] at H
                      exact absurd H (by simp)
                  · rw [if_neg c14] at H
                    exact absurd H (by simp)
                · replace c13 := Bool.eq_false_iff.mpr c13
                  subst c13
                  have H1 : (if x7_1.length < 8796093022208 then (if 1 ≤ (x0_1.length : Int) then (api_Point_30.l0 kj3 (x0_1.drop 1) x1_1 a2 (x7_1 ++ [(⟨(rd_T28 x0_1 0).f0, (rd_T28 x0_1 0).f1⟩ : S28)])) else (none)) else (none)) = some r := by rw [if_neg (show ¬ (false = true) by decide)] at H; exact H
                  clear H
                  have H := H1
                  clear H1
                  by_cases c23 : x7_1.length < 8796093022208
                  · rw [if_pos c23] at H
                    have LMc23 := Aside0.mk c23
                    clear c23
                    obtain ⟨y508, hy508⟩ : ∃ y_ : List (S28), y_ = (x7_1 ++ [(⟨(rd_T28 x0_1 0).f0, (rd_T28 x0_1 0).f1⟩ : S28)]) := ⟨_, rfl⟩
                    replace H : (if 1 ≤ (x0_1.length : Int) then (api_Point_30.l0 kj3 (x0_1.drop 1) x1_1 a2 y508) else (none)) = some r := by first | (rw [hy508]; with_reducible exact H) | (have H2_ := (Option.bind_some _ _).symm.trans H; rw [hy508]; with_reducible exact H2_) | (have H2_ := (Option.bind_some _ _).symm.trans H; with_reducible exact H2_) | with_reducible exact H | (rw [hy508]; exact H) | exact H
                    have Ny508 := Aside0.mk hy508
                    clear hy508
                    by_cases c24 : 1 ≤ (x0_1.length : Int)
                    · rw [if_pos c24] at H
                      have c24b0 := eq_true c24
                      have c24b1 : decide (1 ≤ (x0_1.length : Int)) = true := decide_eq_true c24
                      clear c24
                      obtain ⟨y511, hy511⟩ : ∃ y_ : List (S28), y_ = (x0_1.drop 1) := ⟨_, rfl⟩
                      replace H : (api_Point_30.l0 kj3 y511 x1_1 a2 y508) = some r := by first | (rw [hy511]; with_reducible exact H) | (have H2_ := (Option.bind_some _ _).symm.trans H; rw [hy511]; with_reducible exact H2_) | (have H2_ := (Option.bind_some _ _).symm.trans H; with_reducible exact H2_) | with_reducible exact H | (rw [hy511]; exact H) | exact H
                      have Ny511 := Aside0.mk hy511
                      clear hy511
                      have H' := Aside0.mk H
                      clear H
                      try go_wp2
                      have n0_ := Aside0.mk (Kd.V_drew HO_0.out)
                      have n1_ := Aside0.mk (Kd.V_drew HO_1.out)
                      have n2_ := Aside0.mk (Kd.R_drew HO_7.out)
                      have n3_ := Aside0.mk (below_drew1 HB.out)
                      clear HO_0
                      clear HO_1
                      clear HO_7
                      clear HB
                      have HO_0 := n0_
                      have HO_1 := n1_
                      have HO_7 := n2_
                      have HB := n3_
                      clear n0_ n1_ n2_ n3_
                      obtain ⟨Ao26, co26, eo26⟩ := Kd.V_slice HO_1.out
                      (first | subst eo26 | (injection eo26 with f1_ f2_ f3_; have f4_ := f1_.symm; have f5_ := f3_.symm; clear f1_ f2_ f3_; subst f4_; subst f5_))
                      have p495 : 0 ≤ (0 : Int) := (by omega)
                      have q495 : 0 < (x1_1.length : Int) := of_decide_eq_true (by first | (with_reducible assumption) | assumption)
                      obtain ⟨ad495, e495, hx495_0, hx495_1⟩ := at_T28 (Kd.V_reads' HO_1.out).2.2 0 p495 q495
                      cases e495
                      have qi495 : (0 < x1_1.length) = True := eq_true (by omega)
                      (try rw [show ((0 : Int)).toNat = 0 from rfl] at hx495_0)
                      (try rw [show 0 * 2 = 0 from rfl] at hx495_0)
                      (try rw [Addr.add_zero'] at hx495_0)
                      (try rw [show ((0 : Int)).toNat = 0 from rfl] at hx495_1)
                      (try rw [show 0 * 2 = 0 from rfl] at hx495_1)
                      (try rw [Addr.add_zero'] at hx495_1)
                      replace p495 := eq_true p495
                      replace q495 := eq_true q495
                      obtain ⟨Ao27, co27, eo27⟩ := Kd.V_slice HO_0.out
                      (first | subst eo27 | (injection eo27 with f1_ f2_ f3_; have f4_ := f1_.symm; have f5_ := f3_.symm; clear f1_ f2_ f3_; subst f4_; subst f5_))
                      have p496 : 0 ≤ (0 : Int) := (by omega)
                      have q496 : 0 < (x0_1.length : Int) := of_decide_eq_true (by first | (with_reducible assumption) | assumption)
                      obtain ⟨ad496, e496, hx496_0, hx496_1⟩ := at_T28 (Kd.V_reads' HO_0.out).2.2 0 p496 q496
                      cases e496
                      have qi496 : (0 < x0_1.length) = True := eq_true (by omega)
                      (try rw [show ((0 : Int)).toNat = 0 from rfl] at hx496_0)
                      (try rw [show 0 * 2 = 0 from rfl] at hx496_0)
                      (try rw [Addr.add_zero'] at hx496_0)
                      (try rw [show ((0 : Int)).toNat = 0 from rfl] at hx496_1)
                      (try rw [show 0 * 2 = 0 from rfl] at hx496_1)
                      (try rw [Addr.add_zero'] at hx496_1)
                      replace p496 := eq_true p496
                      replace q496 := eq_true q496
                      refine start_ (n := 8) (S := fun w' => w'.cell? ad495 = some (.int .i64 ((rd_T28 x1_1 0).f0)) ∧ w'.cell? ⟨ad495.block, ad495.off + 1, none⟩ = some (.int .i64 ((rd_T28 x1_1 0).f1)) ∧ w'.cell? ad496 = some (.int .i64 ((rd_T28 x0_1 0).f0)) ∧ w'.cell? ⟨ad496.block, ad496.off + 1, none⟩ = some (.int .i64 ((rd_T28 x0_1 0).f1))) (ds := []) #[false, false, false, false, false, false, false, false] (by kernel_rfl) rfl rfl ⟨hx495_0, hx495_1, hx496_0, hx496_1⟩ (fun hHeld => ?_); refine with_tabW api_Point_30.tab3 api_Point_30.bits3 (fun HT_ HW_ => ?_)
                      generalize wc.drew = w25 at HO_0 HO_1 HO_7 HB hx495_0 hx495_1 hx496_0 hx496_1 hHeld ⊢
                      refine pure_ (i := 0) (N := some 16) (v := ?_) (a' := ?_) #[true, false, false, false, false, false, false, false] rfl rfl (any_of HT_.out (by kernel_rfl)) (fun _ _ _ h => h) (Or.inl ⟨by rfl, ?_⟩) ?_ ?_
                      rotate_left
                      · intro w'
                        go_simp
                        with_reducible rfl
                      rotate_left
                      · simp only [Act.put, List.setIfInBounds_toArray, List.set_cons_zero, List.set_cons_succ, i64_w, i32_w]
                        rfl
                      refine pure_ (i := 1) (N := some 17) (v := ?_) (a' := ?_) #[true, true, false, false, false, false, false, false] rfl rfl (any_of HT_.out (by kernel_rfl)) (fun _ _ _ h => h) (Or.inl ⟨by rfl, ?_⟩) ?_ ?_
                      rotate_left
                      · intro w'
                        go_simp
                        with_reducible rfl
                      rotate_left
                      · simp only [Act.put, List.setIfInBounds_toArray, List.set_cons_zero, List.set_cons_succ, i64_w, i32_w]
                        rfl
                      refine pure_ (i := 2) (N := some 18) (v := ?_) (a' := ?_) #[true, true, true, false, false, false, false, false] rfl rfl (any_of HT_.out (by kernel_rfl)) (fun _ _ _ h => h) (Or.inl ⟨by rfl, ?_⟩) ?_ ?_
                      rotate_left
                      · intro w'
                        go_simp
                        with_reducible rfl
                      rotate_left
                      · simp only [Act.put, List.setIfInBounds_toArray, List.set_cons_zero, List.set_cons_succ, i64_w, i32_w]
                        rfl
                      refine pure_ (i := 4) (N := some 20) (v := ?_) (a' := ?_) #[true, true, true, false, true, false, false, false] rfl rfl (any_of HT_.out (by kernel_rfl)) (fun _ _ _ h => h) (Or.inl ⟨by rfl, ?_⟩) ?_ ?_
                      rotate_left
                      · intro w'
                        go_simp
                        with_reducible rfl
                      rotate_left
                      · simp only [Act.put, List.setIfInBounds_toArray, List.set_cons_zero, List.set_cons_succ, i64_w, i32_w]
                        rfl
                      refine pure_ (i := 5) (N := some 21) (v := ?_) (a' := ?_) #[true, true, true, false, true, true, false, false] rfl rfl (any_of HT_.out (by kernel_rfl)) (fun _ _ _ h => h) (Or.inl ⟨by rfl, ?_⟩) ?_ ?_
                      rotate_left
                      · intro w'
                        go_simp
                        with_reducible rfl
                      rotate_left
                      · simp only [Act.put, List.setIfInBounds_toArray, List.set_cons_zero, List.set_cons_succ, i64_w, i32_w]
                        rfl
                      refine take_ (i := 3) (N := some 19) (v := ?_) (a' := ?_) #[true, true, true, true, true, true, false, false] rfl rfl (take_ofW HT_.out HW_.out (by kernel_rfl)) (fun _ _ _ h => h) (Or.inl ⟨by rfl, ?_⟩) hHeld ?_ ?_
                      rotate_left
                      · rintro w' ⟨s0, s1, s2, s3⟩
                        go_simp
                        with_reducible rfl
                      rotate_left
                      · simp only [Act.put, List.setIfInBounds_toArray, List.set_cons_zero, List.set_cons_succ, i64_w, i32_w]
                        rfl
                      refine take_ (i := 6) (N := some 22) (v := ?_) (a' := ?_) #[true, true, true, true, true, true, true, false] rfl rfl (take_ofW HT_.out HW_.out (by kernel_rfl)) (fun _ _ _ h => h) (Or.inl ⟨by rfl, ?_⟩) hHeld ?_ ?_
                      rotate_left
                      · rintro w' ⟨s0, s1, s2, s3⟩
                        go_simp
                        with_reducible rfl
                      rotate_left
                      · simp only [Act.put, List.setIfInBounds_toArray, List.set_cons_zero, List.set_cons_succ, i64_w, i32_w]
                        rfl
                      refine one_ (i := 7) (N := some 23) #[true, true, true, true, true, true, true, true] rfl rfl (one_of HT_.out (by kernel_rfl)) (by decide) (fun K hK => ?_)
                      refine goesF_ HF2.out.1 (fb2 ++ #[.agg #[.int .i64 ((rd_T28 x1_1 0).f0), .int .i64 ((rd_T28 x1_1 0).f1)], .agg #[.int .i64 ((rd_T28 x0_1 0).f0), .int .i64 ((rd_T28 x0_1 0).f1)]] ++ fc2) (by rfl) rfl rfl (by rfl) (by (try simp only [List.map_toArray, List.map_cons, List.map_nil]); first | done | rfl | (simp only [List.length_drop, List.length_take]; rfl)) ?_
                      refine (FnT34.call HF2.out ?side1 A12.out ?side2).mono ?_
                      (case side1 => exact by repeat (first | (with_reducible first | exact HB.out | apply below_alloc | apply pw_below_drewN | apply below_drew1) | exact HB.out))
                      (case side2 => first | rfl | simp)
                      rintro e w28 ⟨rfl, hb⟩
                      have HS0_ := (hb.cell (World.block_lt_of_cell? _ _ (hHeld.1))).trans (hHeld.1)
                      have HS1_ := (hb.cell (World.block_lt_of_cell? _ _ (hHeld.2.1))).trans (hHeld.2.1)
                      have HS2_ := (hb.cell (World.block_lt_of_cell? _ _ (hHeld.2.2.1))).trans (hHeld.2.2.1)
                      have HS3_ := (hb.cell (World.block_lt_of_cell? _ _ (hHeld.2.2.2))).trans (hHeld.2.2.2)
                      refine ⟨_, rfl, ?_⟩
                      have n0_ := Aside0.mk (Kd.V_below (by (with_reducible repeat (first | apply Kd.V_alloc | apply Kd.V_drewN | apply Kd.V_drew)); exact HO_0.out) hb)
                      have n1_ := Aside0.mk (Kd.V_below (by (with_reducible repeat (first | apply Kd.V_alloc | apply Kd.V_drewN | apply Kd.V_drew)); exact HO_1.out) hb)
                      have n2_ := Aside0.mk (Kd.R_below (by (with_reducible repeat (first | apply Kd.R_alloc | apply Kd.R_drewN | apply Kd.R_drew)); exact HO_7.out) hb)
                      have n3_ := Aside0.mk (below_step (by repeat (first | (with_reducible first | exact HB.out | apply below_alloc | apply pw_below_drewN | apply below_drew1) | exact HB.out)) hb)
                      clear HO_0
                      clear HO_1
                      clear HO_7
                      clear HB
                      have HO_0 := n0_
                      have HO_1 := n1_
                      have HO_7 := n2_
                      have HB := n3_
                      clear n0_ n1_ n2_ n3_
                      (try clear hb)
                      (try clear hb2)
                      (try clear hk)
                      (try clear hi)
                      refine hK.out _ _ ⟨HS0_, HS1_, HS2_, HS3_⟩ (fun hHeld => ?_)
                      clear hK K
                      refine norm_ (a' := ?_) ?_ ?_
                      rotate_left
                      · show Act.put _ (some 23) _ = _
                        simp only [Act.put, List.setIfInBounds_toArray, List.set_cons_zero, List.set_cons_succ, i64_w, i32_w]
                        rfl
                      refine done_ (done_of HT_.out (by kernel_rfl)) ?_
                      try go_wp2
                      have n0_ := Aside0.mk (Kd.V_drew HO_0.out)
                      have n1_ := Aside0.mk (Kd.V_drew HO_1.out)
                      have n2_ := Aside0.mk (Kd.R_drew HO_7.out)
                      have n3_ := Aside0.mk (below_drew1 HB.out)
                      clear HO_0
                      clear HO_1
                      clear HO_7
                      clear HB
                      have HO_0 := n0_
                      have HO_1 := n1_
                      have HO_7 := n2_
                      have HB := n3_
                      clear n0_ n1_ n2_ n3_
                      have p507 : 0 ≤ (0 : Int) := (by omega)
                      have q507 : 0 < (x0_1.length : Int) := of_decide_eq_true (by first | (with_reducible assumption) | assumption)
                      obtain ⟨ad507, e507, hx507_0, hx507_1⟩ := at_T28 (Kd.V_reads' HO_0.out).2.2 0 p507 q507
                      obtain rfl : ad496 = ad507 := (by injection e507)
                      have qi507 : (0 < x0_1.length) = True := eq_true (by omega)
                      (try rw [show ((0 : Int)).toNat = 0 from rfl] at hx507_0)
                      (try rw [show 0 * 2 = 0 from rfl] at hx507_0)
                      (try rw [Addr.add_zero'] at hx507_0)
                      (try rw [show ((0 : Int)).toNat = 0 from rfl] at hx507_1)
                      (try rw [show 0 * 2 = 0 from rfl] at hx507_1)
                      (try rw [Addr.add_zero'] at hx507_1)
                      replace p507 := eq_true p507
                      replace q507 := eq_true q507
                      have q30 : (1 : Int) ≤ ((x0_1.length : Int) : Int) := of_decide_eq_true (by first | (with_reducible assumption) | assumption)
                      obtain ⟨i030, hi030, _, hsz30, _⟩ := info_parts info28
                      have hroom30 : x0_1.length ≤ co27 := (Kd.V_reads' HO_0.out).2.1
                      have hC30 : Kd.F k28 _ _ (some ad496) x0_1.length x0_1 := (Kd.V_at (base := w.heap.size) HO_0.out).2.2
                      have hcut30 := cut_from (P := Try.prog) 22 28 .i64 Try.underlying22 hi030 2 hsz30 (some ad496) x0_1.length co27 1 (by omega) q30
                      have hr30 := Kd.F_cut (m := (1 : Int).toNat) (c := co27) hC30 (by omega) hroom30
                      obtain ⟨A30, hA30⟩ : ∃ A1, A1 = (if co27 = (1 : Int).toNat then (some ad496) else ((some ad496) : Option Addr).map (·.add ((1 : Int).toNat * 2))) := ⟨_, rfl⟩
                      obtain ⟨c30, hc30⟩ : ∃ c1, c1 = co27 - (1 : Int).toNat := ⟨_, rfl⟩
                      have hy30 : y511.length = x0_1.length - (1 : Int).toNat := (by rw [Ny511.out, List.length_drop] <;> omega)
                      rw [show (x0_1).drop (1 : Int).toNat = y511 from Ny511.out.symm] at hr30
                      replace hr30 : Kd.F k28 _ _ A30 y511.length y511 := (by rw [hA30]; exact hr30)
                      rw [← hy30, ← hA30, ← hc30] at hcut30
                      have HO515 := Aside0.mk (show Kd.V k28 28 _ w.heap.size _ (.slice A30 y511.length c30) y511 from Kd.V_mk (by rw [hy30, hc30]; exact Nat.sub_le_sub_right hroom30 _) hr30)
                      have HC515 := Aside0.mk (show y511.length ≤ c30 from by rw [hy30, hc30]; exact Nat.sub_le_sub_right hroom30 _)
                      clear hr30 hC30 hroom30 hi030 hsz30 hc30
                      have KY30 := Aside0.mk hy30
                      have KA30 := Aside0.mk hA30
                      clear hy30 hA30
                      replace q30 := eq_true q30
                      refine start_ (n := 10) (S := fun w' => w'.cell? ad496 = some (.int .i64 ((rd_T28 x0_1 0).f0)) ∧ w'.cell? ⟨ad496.block, ad496.off + 1, none⟩ = some (.int .i64 ((rd_T28 x0_1 0).f1))) (ds := [4, 5]) #[false, false, false, false, false, false, false, false, false, false] (by kernel_rfl) rfl rfl ⟨hx507_0, hx507_1⟩ (fun hHeld => ?_); refine with_tabW api_Point_30.tab5 api_Point_30.bits5 (fun HT_ HW_ => ?_)
                      generalize w28.drew = w29 at HO_0 HO_1 HO_7 HB HO515 hx507_0 hx507_1 hHeld ⊢
                      refine pure_ (i := 0) (N := some 32) (v := ?_) (a' := ?_) #[true, false, false, false, false, false, false, false, false, false] rfl rfl (any_of HT_.out (by kernel_rfl)) (fun _ _ _ h => h) (Or.inl ⟨by rfl, ?_⟩) ?_ ?_
                      rotate_left
                      · intro w'
                        go_simp
                        with_reducible rfl
                      rotate_left
                      · simp only [Act.put, List.setIfInBounds_toArray, List.set_cons_zero, List.set_cons_succ, i64_w, i32_w]
                        rfl
                      refine pure_ (i := 1) (N := some 33) (v := ?_) (a' := ?_) #[true, true, false, false, false, false, false, false, false, false] rfl rfl (any_of HT_.out (by kernel_rfl)) (fun _ _ _ h => h) (Or.inl ⟨by rfl, ?_⟩) ?_ ?_
                      rotate_left
                      · intro w'
                        go_simp
                        with_reducible rfl
                      rotate_left
                      · simp only [Act.put, List.setIfInBounds_toArray, List.set_cons_zero, List.set_cons_succ, i64_w, i32_w]
                        rfl
                      refine pure_ (i := 2) (N := some 34) (v := ?_) (a' := ?_) #[true, true, true, false, false, false, false, false, false, false] rfl rfl (any_of HT_.out (by kernel_rfl)) (fun _ _ _ h => h) (Or.inl ⟨by rfl, ?_⟩) ?_ ?_
                      rotate_left
                      · intro w'
                        go_simp
                        with_reducible rfl
                      rotate_left
                      · simp only [Act.put, List.setIfInBounds_toArray, List.set_cons_zero, List.set_cons_succ, i64_w, i32_w]
                        rfl
                      refine pure_ (i := 6) (N := some 38) (v := ?_) (a' := ?_) #[true, true, true, false, false, false, true, false, false, false] rfl rfl (any_of HT_.out (by kernel_rfl)) (fun _ _ _ h => h) (Or.inl ⟨by rfl, ?_⟩) ?_ ?_
                      rotate_left
                      · intro w'
                        go_simp
                        with_reducible rfl
                      rotate_left
                      · simp only [Act.put, List.setIfInBounds_toArray, List.set_cons_zero, List.set_cons_succ, i64_w, i32_w]
                        rfl
                      refine pure_ (i := 7) (N := some 39) (v := ?_) (a' := ?_) #[true, true, true, false, false, false, true, true, false, false] rfl rfl (any_of HT_.out (by kernel_rfl)) (fun _ _ _ h => h) (Or.inl ⟨by rfl, ?_⟩) ?_ ?_
                      rotate_left
                      · intro w'
                        go_simp
                        with_reducible rfl
                      rotate_left
                      · simp only [Act.put, List.setIfInBounds_toArray, List.set_cons_zero, List.set_cons_succ, i64_w, i32_w]
                        rfl
                      refine take_ (i := 3) (N := some 35) (v := ?_) (a' := ?_) #[true, true, true, true, false, false, true, true, false, false] rfl rfl (take_ofW HT_.out HW_.out (by kernel_rfl)) (fun _ _ _ h => h) (Or.inl ⟨by rfl, ?_⟩) hHeld ?_ ?_
                      rotate_left
                      · rintro w' ⟨s0, s1⟩
                        go_simp
                        with_reducible rfl
                      rotate_left
                      · simp only [Act.put, List.setIfInBounds_toArray, List.set_cons_zero, List.set_cons_succ, i64_w, i32_w]
                        rfl
                      refine last_ (i := 4) (N := some 36) #[true, true, true, true, true, false, true, true, false, false] rfl rfl (one_of HT_.out (by kernel_rfl)) (by decide) (fun K hK => ?_)
                      refine value_ (w1 := ?_) (v := ?_) (by rfl) rfl ?_ ?_
                      rotate_left 2
                      · go_simp
                        constructor
                        · rfl
                        · rfl
                      refine hK.out _ _ ?_
                      clear hK K
                      refine norm_ (a' := ?_) ?_ ?_
                      rotate_left
                      · show Act.put _ (some 36) _ = _
                        simp only [Act.put, List.setIfInBounds_toArray, List.set_cons_zero, List.set_cons_succ, i64_w, i32_w]
                        rfl
                      refine last_ (i := 5) (N := some 37) #[true, true, true, true, true, true, true, true, false, false] rfl rfl (one_of HT_.out (by kernel_rfl)) (by decide) (fun K hK => ?_)
                      refine Kd.R_append_step k28 (w0 := w) w.heap.size (by rfl) (.tmp 32) (.tmp 36) 22 28 (.agg #[(.int .i64 0), (.int .i64 0)]) 16 rfl Try.underlying22 info28 rfl (by decide) (by omega) u7 x7_1 (⟨(rd_T28 x0_1 0).f0, (rd_T28 x0_1 0).f1⟩ : S28) [.int .i64 ((rd_T28 x0_1 0).f0), .int .i64 ((rd_T28 x0_1 0).f1)] (fun k_ => (w.heap.size ≤ k_)) (fun _ => False) rfl rfl ?aP (fun _ hk => hk.elim) ?aF ?aO ?aB ?aS ?aL ?_
                      (case aP => exact k28_mkM _ _ _ (⟨(rd_T28 x0_1 0).f0, (rd_T28 x0_1 0).f1⟩ : S28))
                      (case aB => exact (by repeat (first | (with_reducible first | exact HB.out | apply below_alloc | apply pw_below_drewN | apply below_drew1) | exact HB.out)))
                      (case aF => exact (fun k_ hk => (Nat.le_trans (below_size (by repeat (first | (with_reducible first | exact HB.out | apply below_alloc | apply pw_below_drewN | apply below_drew1) | exact HB.out))) hk)))
                      (case aO => exact (by (with_reducible repeat (first | apply Kd.R_alloc | apply Kd.R_drewN | apply Kd.R_drew)); exact HO_7.out))
                      (case aS => exact (below_size (by repeat (first | (with_reducible first | exact HB.out | apply below_alloc | apply pw_below_drewN | apply below_drew1) | exact HB.out))))
                      (case aL => have := LMc23.out; omega)
                      intro v509 w31 ho hb hg hat
                      rw [← Ny508.out] at ho
                      have n0_ := Aside0.mk (Kd.V_afterv (ok := (fun k_ => ((P0_ k_ ∨ P1_ k_) ∨ w.heap.size ≤ k_))) (by (with_reducible repeat (first | apply Kd.V_alloc | apply Kd.V_drewN | apply Kd.V_drew)); exact HO_0.out) hg hat)
                      have n1_ := Aside0.mk (Kd.V_afterv (ok := (fun k_ => ((P0_ k_ ∨ P1_ k_) ∨ w.heap.size ≤ k_))) (by (with_reducible repeat (first | apply Kd.V_alloc | apply Kd.V_drewN | apply Kd.V_drew)); exact HO_1.out) hg hat)
                      have n2_ := Aside0.mk (Kd.V_afterv (ok := (fun k_ => ((P0_ k_ ∨ P1_ k_) ∨ w.heap.size ≤ k_))) (by (with_reducible repeat (first | apply Kd.V_alloc | apply Kd.V_drewN | apply Kd.V_drew)); exact HO515.out) hg hat)
                      have n3_ := Aside0.mk (hb)
                      have n4_ := Aside0.mk (ho)
                      clear HO_0
                      clear HO_1
                      clear HO515
                      clear HB
                      clear HO_7
                      have HO_0 := n0_
                      have HO_1 := n1_
                      have HO515 := n2_
                      have HB := n3_
                      have HO510 := n4_
                      clear n0_ n1_ n2_ n3_ n4_
                      clear ho hb hg hat
                      refine hK.out _ _ ?_
                      clear hK K
                      refine norm_ (a' := ?_) ?_ ?_
                      rotate_left
                      · show Act.put _ (some 37) _ = _
                        simp only [Act.put, List.setIfInBounds_toArray, List.set_cons_zero, List.set_cons_succ, i64_w, i32_w]
                        rfl
                      refine pure_ (i := 8) (N := some 7) (v := ?_) (a' := ?_) #[true, true, true, true, true, true, true, true, true, false] rfl rfl (any_of HT_.out (by kernel_rfl)) (fun _ _ _ h => h) (Or.inl ⟨by rfl, ?_⟩) ?_ ?_
                      rotate_left
                      · intro w'
                        go_simp
                        with_reducible rfl
                      rotate_left
                      · simp only [Act.put, List.setIfInBounds_toArray, List.set_cons_zero, List.set_cons_succ, i64_w, i32_w]
                        rfl
                      refine pure_ (i := 9) (N := some 0) (v := ?_) (a' := ?_) #[true, true, true, true, true, true, true, true, true, true] rfl rfl (any_of HT_.out (by kernel_rfl)) (fun _ _ _ h => h) (Or.inl ⟨by rfl, ?_⟩) ?_ ?_
                      rotate_left
                      · intro w'
                        go_simp
                        with_reducible rfl
                      rotate_left
                      · simp only [Act.put, List.setIfInBounds_toArray, List.set_cons_zero, List.set_cons_succ, i64_w, i32_w]
                        rfl
                      refine done_ (done_of HT_.out (by kernel_rfl)) ?_
                      try go_wp2
                      go_roundg kj3
                      case measure => have := HK1.out; have := HJ3.out; omega
                      case rel => exact ⟨(y511), (x1_1), (y508), H', ⟨by have := HK1.out; have := HJ3.out; omega⟩, ⟨by (with_reducible repeat (first | apply Kd.V_alloc | apply Kd.V_drewN | apply Kd.V_drew)); exact HO515.out⟩, ⟨by (with_reducible repeat (first | apply Kd.V_alloc | apply Kd.V_drewN | apply Kd.V_drew)); exact HO_1.out⟩, ⟨by (with_reducible repeat (first | apply Kd.R_alloc | apply Kd.R_drewN | apply Kd.R_drew)); exact HO510.out⟩, ⟨by repeat (first | (with_reducible first | exact HB.out | apply below_alloc | apply pw_below_drewN | apply below_drew1) | exact HB.out)⟩⟩
                    · rw [if_neg c24] at H
                      exact absurd H (by simp)
                  · rw [if_neg c23] at H
                    exact absurd H (by simp)
              · rw [if_neg c11] at H
                exact absurd H (by simp)
            · rw [if_neg c10] at H
              exact absurd H (by simp)
          · replace c9 := Bool.eq_false_iff.mpr c9
            subst c9
            have H1 : (if x7_1.length + x0_1.length < 8796093022208 then ((some (x7_1 ++ x0_1 : List (S28))).bind fun y516 => (if y516.length + x1_1.length < 8796093022208 then (some (y516 ++ x1_1)) else (none))) else (none)) = some r := by rw [if_neg (show ¬ (false = true) by decide)] at H; exact H
            clear H
            have H := H1
            clear H1
            by_cases c32 : x7_1.length + x0_1.length < 8796093022208
            · rw [if_pos c32] at H
              have LMc32 := Aside0.mk c32
              clear c32
              obtain ⟨y516, hy516⟩ : ∃ y_ : List (S28), y_ = (x7_1 ++ x0_1) := ⟨_, rfl⟩
              replace H : (if y516.length + x1_1.length < 8796093022208 then (some (y516 ++ x1_1)) else (none)) = some r := by first | (rw [hy516]; with_reducible exact H) | (have H2_ := (Option.bind_some _ _).symm.trans H; rw [hy516]; with_reducible exact H2_) | (have H2_ := (Option.bind_some _ _).symm.trans H; with_reducible exact H2_) | with_reducible exact H | (rw [hy516]; exact H) | exact H
              have Ny516 := Aside0.mk hy516
              clear hy516
              by_cases c33 : y516.length + x1_1.length < 8796093022208
              · rw [if_pos c33] at H
                have LMc33 := Aside0.mk c33
                clear c33
                obtain ⟨y519, hy519⟩ : ∃ y_ : List (S28), y_ = (y516 ++ x1_1) := ⟨_, rfl⟩
                replace H : (some y519) = some r := by first | (rw [hy519]; with_reducible exact H) | (have H2_ := (Option.bind_some _ _).symm.trans H; rw [hy519]; with_reducible exact H2_) | (have H2_ := (Option.bind_some _ _).symm.trans H; with_reducible exact H2_) | with_reducible exact H | (rw [hy519]; exact H) | exact H
                have Ny519 := Aside0.mk hy519
                clear hy519
                obtain rfl := Option.some.inj H
                obtain ⟨Ao35, co35, eo35⟩ := Kd.V_slice HO_0.out
                subst eo35
                go_wp2_with (first | ((with_reducible refine gate_builtin (b := .append) (xs := #[.tmp 40, .tmp 41]) rfl ?_); (try (refine gate_guard (by rfl) ?_; dsimp only)); at_builtin; refine Kd.R_append_rows k28 (w0 := w) w.heap.size rfl (.tmp 40) (.tmp 41) 22 28 (.agg #[(.int .i64 0), (.int .i64 0)]) 16 rfl Try.underlying22 info28 rfl (by decide) (by omega) u7 x7_1 x0_1 _ _ _ (fun k_ => (w.heap.size ≤ k_)) (fun _ => False) rfl rfl ?aO ?aR (fun _ _ h => h) (fun _ h => h.elim) ?aF ?aB ?aS ?aL ?_; (case aR => repeat (first | exact (Kd.V_reads' HO_0.out).2.2 | (with_reducible refine Kd.C_alloc ?_ _) | (with_reducible refine Kd.C_drewN ?_ _) | (with_reducible refine Kd.C_drew ?_))); (case aB => exact (by repeat (first | (with_reducible first | exact HB.out | apply below_alloc | apply pw_below_drewN | apply below_drew1) | exact HB.out))); (case aF => exact (fun k_ hk => (Nat.le_trans (below_size (by repeat (first | (with_reducible first | exact HB.out | apply below_alloc | apply pw_below_drewN | apply below_drew1) | exact HB.out))) hk))); (case aO => exact (by (with_reducible repeat (first | apply Kd.R_alloc | apply Kd.R_drewN | apply Kd.R_drew)); exact HO_7.out)); (case aS => exact (below_size (by repeat (first | (with_reducible first | exact HB.out | apply below_alloc | apply pw_below_drewN | apply below_drew1) | exact HB.out)))); (case aL => have := LMc32.out; omega); intro v517 w34 ho hb hg hat; rw [← Ny516.out] at ho; have n0_ := Aside0.mk (Kd.V_afterv (ok := (fun k_ => ((P0_ k_ ∨ P1_ k_) ∨ w.heap.size ≤ k_))) (by (with_reducible repeat (first | apply Kd.V_alloc | apply Kd.V_drewN | apply Kd.V_drew)); exact HO_0.out) hg hat); have n1_ := Aside0.mk (Kd.V_afterv (ok := (fun k_ => ((P0_ k_ ∨ P1_ k_) ∨ w.heap.size ≤ k_))) (by (with_reducible repeat (first | apply Kd.V_alloc | apply Kd.V_drewN | apply Kd.V_drew)); exact HO_1.out) hg hat); have n2_ := Aside0.mk (hb); have n3_ := Aside0.mk (ho); clear HO_0; clear HO_1; clear HB; clear HO_7; have HO_0 := n0_; have HO_1 := n1_; have HB := n2_; have HO518 := n3_; clear n0_ n1_ n2_ n3_; clear ho hb hg hat; obtain ⟨Ao37, co37, eo37⟩ := Kd.V_slice HO_1.out; subst eo37) | ((with_reducible refine gate_builtin (b := .append) (xs := #[.tmp 42, .tmp 43]) rfl ?_); (try (refine gate_guard (by rfl) ?_; dsimp only)); at_builtin; refine Kd.R_append_rows k28 (w0 := w) w.heap.size rfl (.tmp 42) (.tmp 43) 22 28 (.agg #[(.int .i64 0), (.int .i64 0)]) 16 rfl Try.underlying22 info28 rfl (by decide) (by omega) v517 y516 x1_1 _ _ _ (fun k_ => (w.heap.size ≤ k_)) (fun _ => False) rfl rfl ?aO ?aR (fun _ _ h => h) (fun _ h => h.elim) ?aF ?aB ?aS ?aL ?_; (case aR => repeat (first | exact (Kd.V_reads' HO_1.out).2.2 | (with_reducible refine Kd.C_alloc ?_ _) | (with_reducible refine Kd.C_drewN ?_ _) | (with_reducible refine Kd.C_drew ?_))); (case aB => exact (by repeat (first | (with_reducible first | exact HB.out | apply below_alloc | apply pw_below_drewN | apply below_drew1) | exact HB.out))); (case aF => exact (fun k_ hk => (Nat.le_trans (below_size (by repeat (first | (with_reducible first | exact HB.out | apply below_alloc | apply pw_below_drewN | apply below_drew1) | exact HB.out))) hk))); (case aO => exact (by (with_reducible repeat (first | apply Kd.R_alloc | apply Kd.R_drewN | apply Kd.R_drew)); exact HO518.out)); (case aS => exact (below_size (by repeat (first | (with_reducible first | exact HB.out | apply below_alloc | apply pw_below_drewN | apply below_drew1) | exact HB.out)))); (case aL => have := LMc33.out; omega); intro v520 w36 ho hb hg hat; rw [← Ny519.out] at ho; have n0_ := Aside0.mk (Kd.V_afterv (ok := (fun k_ => ((P0_ k_ ∨ P1_ k_) ∨ w.heap.size ≤ k_))) (by (with_reducible repeat (first | apply Kd.V_alloc | apply Kd.V_drewN | apply Kd.V_drew)); exact HO_0.out) hg hat); have n1_ := Aside0.mk (Kd.V_afterv (ok := (fun k_ => ((P0_ k_ ∨ P1_ k_) ∨ w.heap.size ≤ k_))) (by (with_reducible repeat (first | apply Kd.V_alloc | apply Kd.V_drewN | apply Kd.V_drew)); exact HO_1.out) hg hat); have n2_ := Aside0.mk (hb); have n3_ := Aside0.mk (ho); clear HO_0; clear HO_1; clear HB; clear HO518; have HO_0 := n0_; have HO_1 := n1_; have HB := n2_; have HO521 := n3_; clear n0_ n1_ n2_ n3_; clear ho hb hg hat))
                go_ret
                exact ⟨_, by first | rfl | (simp [errW_none, errW_some] <;> rfl) | (simp [*, errW_none, errW_some] <;> rfl), by (with_reducible repeat (first | apply Kd.R_alloc | apply Kd.R_drewN | apply Kd.R_drew)); exact HO521.out, by repeat (first | (with_reducible first | exact HB.out | apply below_alloc | apply pw_below_drewN | apply below_drew1) | exact HB.out)⟩
              · rw [if_neg c33] at H
                exact absurd H (by simp)
            · rw [if_neg c32] at H
              exact absurd H (by simp)

end Go.Proofs.Ytfmeicojiadeiaa.P
