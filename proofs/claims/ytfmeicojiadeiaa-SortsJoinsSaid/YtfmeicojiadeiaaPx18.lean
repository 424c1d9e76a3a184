-- PRINTED by print.py (a twelfth state) out of the translation. Not trusted: Lean checks it.
import Derived.Test.YtfmeicojiadeiaaPx0
import Derived.Test.YtfmeicojiadeiaaPx1
import Derived.Test.YtfmeicojiadeiaaPx3
import Derived.Test.YtfmeicojiadeiaaPx4
import Derived.Test.YtfmeicojiadeiaaPx6
import Derived.Test.YtfmeicojiadeiaaPx8
import Derived.Test.YtfmeicojiadeiaaPx17
namespace Go.Proofs.Ytfmeicojiadeiaa.P
open Go.RowKit Go.Proofs.YtfmeicojiadeiaaW.PrintWords Go.Proofs.YtfmeicojiadeiaaW.PrintLast Go.Proofs.YtfmeicojiadeiaaW.PrintMore
attribute [local go_sem] max2_int min2_int max_two min_two max_three min_three max_four min_four   -- for this text's walks alone
set_option linter.unusedVariables false
set_option linter.unusedSimpArgs false

attribute [local go_sem high] eqA28
/-! ### api_Point_29: function 29 -/
def api_Point_29.f : Nat → List (S28) → (Int → Int → Int → Int → Option (Bool)) → Option ((List (S28)))
  | 0, _, _ => none
  | k + 1, l0, a1 => if (l0.length : Int) < 2 then (if ([] : List (S28)).length + l0.length < 8796093022208 then (some (([] : List (S28)) ++ l0)) else (none)) else (if 0 ≤ (wrap64 ((l0.length : Int) / 2)) then (if (wrap64 ((l0.length : Int) / 2)) ≤ (l0.length : Int) then ((api_Point_29.f k (l0.take ((wrap64 ((l0.length : Int) / 2)) : Int).toNat) a1).bind fun t529 => ((api_Point_29.f k (l0.drop ((wrap64 ((l0.length : Int) / 2)) : Int).toNat) a1).bind fun t536 => ((api_Point_30.f k t529 t536 a1).bind fun t539 => (some t539)))) else (none)) else (none))
theorem api_Point_29.mono_l : ∀ k, (∀ y0 y1, LeO (api_Point_29.f k y0 y1) (api_Point_29.f (k + 1) y0 y1))
  | 0 => fun _ _ r h => by simp [api_Point_29.f] at h
  | k + 1 => by
    have ih0 := api_Point_29.mono_l k
    · intro y0 y1
      unfold api_Point_29.f
      repeat' first
      | (with_reducible exact ih0 _ _)
      | (with_reducible exact api_Point_30.mono _ _ _ _)
      | (with_reducible exact LeO.refl _)
      | (with_reducible exact LeO.none _)
      | (with_reducible refine LeO.ite ?_ ?_)
      | (with_reducible refine LeO.bind ?_ (fun _ => ?_))
      | exact ih0 _ _
      | exact api_Point_30.mono _ _ _ _
      | exact LeO.none _
      | refine LeO.ite ?_ ?_
      | refine LeO.bind ?_ (fun _ => ?_)
theorem api_Point_29.mono : ∀ a0 a1 k, LeO (api_Point_29.f k a0 a1) (api_Point_29.f (k + 1) a0 a1) := by
  intro a0 a1 k
  have ih0 := api_Point_29.mono_l k
  exact ih0 a0 a1
def api_Point_29.T4 : Bool × List (List Nat × List Nat) := (true, [([], []), ([], []), ([0, 1], [0, 1]), ([], []), ([2, 3], [2, 3]), ([], []), ([], []), ([5, 6], [5, 6]), ([], []), ([7, 8, 4], [7, 8]), ([], []), ([4, 9, 10, 9], [4, 9, 10]), ([11, 11, 0, 1, 2, 3, 4, 5, 6, 7, 8, 9, 10, 11], [11])])
def api_Point_29.B4 : List Nat := [0, 0, 3, 0, 15, 0, 0, 96, 0, 511, 0, 2047, 4095]
theorem api_Point_29.tab4 : rtab .any (opsOf Try.f29 4) = api_Point_29.T4 := by kernel_rfl
theorem api_Point_29.bits4 : waitsOk api_Point_29.T4.2 api_Point_29.B4 = true := by kernel_rfl
set_option maxHeartbeats 8000000 in
set_option maxRecDepth 100000 in
theorem api_Point_29.calls (k : Nat) : ∀ (A0 : Option Addr) (c0 : Nat) (l0 : List (S28)) (F1 : FuncId) (fb1 fc1 : Array Value) (a1 : (Int → Int → Int → Int → Option (Bool))) (r : List (S28)) (w : World) (hr0 : Kd.C k28 w A0 l0.length l0) (hc0 : l0.length ≤ c0) (hF1 : FnT34 w F1 fb1 fc1 a1) (h : api_Point_29.f k l0 a1 = some r),
    Calls Try.prog 29 #[.slice A0 l0.length c0, .func (.func F1) fb1 fc1] w fun e w' => ∃ v0_ : Value, e = .returned (v0_) ∧ Kd.R k28 28 w' w.heap.size (fun _ => True) v0_ r ∧ Below w.heap.size w w' := by
  induction k using Nat.strongRecOn with
  | _ k ih =>
  intro A0 c0 l0 F1 fb1 fc1 a1 r w hr0 hc0 hF1 h
  cases k with
  | zero => exact absurd h (by simp [api_Point_29.f])
  | succ k =>
  simp only [api_Point_29.f] at h
  have HR0 := Aside0.mk hr0
  have HC0 := Aside0.mk hc0
  clear hr0 hc0
  have HF1 := Aside0.mk hF1
  have HCF1 := hF1.1
  clear hF1
  have HB := Aside0.mk (Below.refl w.heap.size w)
  have H : (if (l0.length : Int) < 2 then (if ([] : List (S28)).length + l0.length < 8796093022208 then (some (([] : List (S28)) ++ l0)) else (none)) else (if 0 ≤ (wrap64 ((l0.length : Int) / 2)) then (if (wrap64 ((l0.length : Int) / 2)) ≤ (l0.length : Int) then ((api_Point_29.f k (l0.take ((wrap64 ((l0.length : Int) / 2)) : Int).toNat) a1).bind fun t529 => ((api_Point_29.f k (l0.drop ((wrap64 ((l0.length : Int) / 2)) : Int).toNat) a1).bind fun t536 => ((api_Point_30.f k t529 t536 a1).bind fun t539 => (some t539)))) else (none)) else (none))) = some r := h
  clear h
  by_cases c3 : (l0.length : Int) < 2
  · rw [if_pos c3] at H
    have c3b0 : decide ((l0.length : Int) < 2) = true := decide_eq_true c3
    have c3b1 : decide (l0.length < 2) = true := decide_eq_true (by omega)
    clear c3
    by_cases c4 : ([] : List (S28)).length + l0.length < 8796093022208
    · rw [if_pos c4] at H
      have LMc4 := Aside0.mk c4
      clear c4
      obtain ⟨y522, hy522⟩ : ∃ y_ : List (S28), y_ = (([] : List (S28)) ++ l0) := ⟨_, rfl⟩
      replace H : (some y522) = some r := by first | (rw [hy522]; with_reducible exact H) | (have H2_ := (Option.bind_some _ _).symm.trans H; rw [hy522]; with_reducible exact H2_) | (have H2_ := (Option.bind_some _ _).symm.trans H; with_reducible exact H2_) | with_reducible exact H | (rw [hy522]; exact H) | exact H
      have Ny522 := Aside0.mk hy522
      clear hy522
      obtain rfl := Option.some.inj H
      go_enter Try.func29, Try.ntmps29
      go_wp2_with (first | ((with_reducible refine gate_builtin (b := .append) (xs := #[.const (.slice none 0 0), .tmp 9]) rfl ?_); at_builtin; refine Kd.R_append_rows k28 (w0 := w) w.heap.size rfl (.const (.slice none 0 0)) (.tmp 9) 22 28 (.agg #[(.int .i64 0), (.int .i64 0)]) 16 rfl Try.underlying22 info28 rfl (by decide) (by omega) (.slice none 0 0) ([] : List (S28)) l0 _ _ _ (fun _ => True) (fun _ => False) rfl rfl ?aO ?aR (fun _ _ h => h) (fun _ h => h.elim) ?aF ?aB ?aS ?aL ?_; (case aR => repeat (first | exact HR0.out | (with_reducible refine Kd.C_alloc ?_ _) | (with_reducible refine Kd.C_drewN ?_ _) | (with_reducible refine Kd.C_drew ?_))); (case aB => exact (by repeat (first | (with_reducible first | exact HB.out | apply below_alloc | apply pw_below_drewN | apply below_drew1) | exact HB.out))); (case aF => exact (fun _ _ => trivial)); (case aO => exact ((Kd.R_nil _ _ _ _ (fun _ => True)))); (case aS => exact (below_size (by repeat (first | (with_reducible first | exact HB.out | apply below_alloc | apply pw_below_drewN | apply below_drew1) | exact HB.out)))); (case aL => have := LMc4.out; omega); intro v523 w5 ho hb hg hat; rw [← Ny522.out] at ho; have n0_ := Aside0.mk (hb); have n1_ := Aside0.mk (ho); clear HB; have HB := n0_; have HO524 := n1_; clear n0_ n1_; clear ho hb hg hat))
      go_ret
      exact ⟨_, by first | rfl | (simp [errW_none, errW_some] <;> rfl) | (simp [*, errW_none, errW_some] <;> rfl), by (with_reducible repeat (first | apply Kd.R_alloc | apply Kd.R_drewN | apply Kd.R_drew)); exact HO524.out, by repeat (first | (with_reducible first | exact HB.out | apply below_alloc | apply pw_below_drewN | apply below_drew1) | exact HB.out)⟩
    · rw [if_neg c4] at H
      exact absurd H (by simp)
  · rw [if_neg c3] at H
    have c3b0 : decide ((l0.length : Int) < 2) = false := decide_eq_false c3
    have c3b1 : decide (l0.length < 2) = false := decide_eq_false (by omega)
    clear c3
    obtain ⟨ji6, hji6⟩ : ∃ j_ : Int, (wrap64 ((l0.length : Int) / 2)) = j_ := ⟨_, rfl⟩
    replace H : (if 0 ≤ (ji6) then (if (ji6) ≤ (l0.length : Int) then ((api_Point_29.f k (l0.take ((ji6) : Int).toNat) a1).bind fun t529 => ((api_Point_29.f k (l0.drop ((ji6) : Int).toNat) a1).bind fun t536 => ((api_Point_30.f k t529 t536 a1).bind fun t539 => (some t539)))) else (none)) else (none)) = some r := by first | (rw [hji6] at H; exact H) | (simp only [hji6] at H ⊢; exact H)
    have hji6w : (IntKind.i64.wrap ((l0.length : Int) / 2)) = ji6 := (i64_w _).trans hji6
    by_cases c7 : 0 ≤ (ji6)
    · rw [if_pos c7] at H
      have c7b0 := eq_true c7
      have c7b1 : decide (0 ≤ (ji6)) = true := decide_eq_true c7
      clear c7
      by_cases c8 : (ji6) ≤ (l0.length : Int)
      · rw [if_pos c8] at H
        have c8b0 := eq_true c8
        have c8b1 : decide ((ji6) ≤ (l0.length : Int)) = true := decide_eq_true c8
        clear c8
        obtain ⟨y525, hy525⟩ : ∃ y_ : List (S28), y_ = (l0.take ((ji6) : Int).toNat) := ⟨_, rfl⟩
        replace H : ((api_Point_29.f k y525 a1).bind fun t529 => ((api_Point_29.f k (l0.drop ((ji6) : Int).toNat) a1).bind fun t536 => ((api_Point_30.f k t529 t536 a1).bind fun t539 => (some t539)))) = some r := by first | (rw [hy525]; with_reducible exact H) | (have H2_ := (Option.bind_some _ _).symm.trans H; rw [hy525]; with_reducible exact H2_) | (have H2_ := (Option.bind_some _ _).symm.trans H; with_reducible exact H2_) | with_reducible exact H | (rw [hy525]; exact H) | exact H
        have Ny525 := Aside0.mk hy525
        clear hy525
        replace H := Option.bind_eq_some_iff.mp H
        obtain ⟨t529, A90, H⟩ := H
        replace H : ((api_Point_29.f k (l0.drop ((ji6) : Int).toNat) a1).bind fun t536 => ((api_Point_30.f k t529 t536 a1).bind fun t539 => (some t539))) = some r := H
        have A9 := Aside0.mk A90
        clear A90
        have c10b0 := eq_true (of_decide_eq_true (by first | (with_reducible assumption) | assumption) : 0 ≤ (ji6))
        have c11b0 := eq_true (of_decide_eq_true (by first | (with_reducible assumption) | assumption) : (ji6) ≤ (l0.length : Int))
        obtain ⟨y532, hy532⟩ : ∃ y_ : List (S28), y_ = (l0.drop ((ji6) : Int).toNat) := ⟨_, rfl⟩
        replace H : ((api_Point_29.f k y532 a1).bind fun t536 => ((api_Point_30.f k t529 t536 a1).bind fun t539 => (some t539))) = some r := by first | (rw [hy532]; with_reducible exact H) | (have H2_ := (Option.bind_some _ _).symm.trans H; rw [hy532]; with_reducible exact H2_) | (have H2_ := (Option.bind_some _ _).symm.trans H; with_reducible exact H2_) | with_reducible exact H | (rw [hy532]; exact H) | exact H
        have Ny532 := Aside0.mk hy532
        clear hy532
        replace H := Option.bind_eq_some_iff.mp H
        obtain ⟨t536, A120, H⟩ := H
        replace H : ((api_Point_30.f k t529 t536 a1).bind fun t539 => (some t539)) = some r := H
        have A12 := Aside0.mk A120
        clear A120
        replace H := Option.bind_eq_some_iff.mp H
        obtain ⟨t539, A130, H⟩ := H
        replace H : (some t539) = some r := H
        have A13 := Aside0.mk A130
        clear A130
        obtain rfl := Option.some.inj H
        go_enter Try.func29, Try.ntmps29
        try go_wp2
        have n0_ := Aside0.mk (below_drew1 HB.out)
        clear HB
        have HB := n0_
        clear n0_
        have q15 : ((ji6) : Int) ≤ ((l0.length : Int) : Int) := of_decide_eq_true (by first | (with_reducible assumption) | assumption)
        obtain ⟨i015, hi015, _, hsz15, _⟩ := info_parts info28
        have hroom15 : l0.length ≤ c0 := HC0.out
        have hC15 : Kd.C k28 _ A0 l0.length l0 := HR0.out
        have hcut15 := cut_to (P := Try.prog) 22 28 .i64 Try.underlying22 hi015 A0 l0.length c0 (ji6) (of_decide_eq_true (by first | (with_reducible assumption) | assumption)) q15 hroom15
        have hr15 := Kd.C_take (m := ((ji6) : Int).toNat) hC15 (by omega)
        have hy15 : y525.length = ((ji6) : Int).toNat := (by rw [Ny525.out, List.length_take]; omega)
        rw [← Ny525.out] at hr15
        rw [← hy15] at hcut15
        have HR528 := Aside0.mk hr15
        have HC528 := Aside0.mk (show y525.length ≤ c0 from by omega)
        clear hr15 hC15 hroom15 hi015 hsz15
        have KY15 := Aside0.mk hy15
        clear hy15
        replace q15 := eq_true q15
        have q16 : ((ji6) : Int) ≤ ((l0.length : Int) : Int) := of_decide_eq_true (by first | (with_reducible assumption) | assumption)
        obtain ⟨i016, hi016, _, hsz16, _⟩ := info_parts info28
        have hroom16 : l0.length ≤ c0 := HC0.out
        have hC16 : Kd.C k28 _ A0 l0.length l0 := HR0.out
        have q016 : (0 : Int) ≤ ((ji6) : Int) := of_decide_eq_true (by first | (with_reducible assumption) | assumption)
        have hcut16 := cut_from (P := Try.prog) 22 28 .i64 Try.underlying22 hi016 2 hsz16 A0 l0.length c0 (ji6) q016 q16
        have hr16 := Kd.C_drop (m := ((ji6) : Int).toNat) (c := c0) hC16 (by omega) hroom16
        obtain ⟨A16, hA16⟩ : ∃ A1, A1 = (if c0 = ((ji6) : Int).toNat then A0 else (A0 : Option Addr).map (·.add (((ji6) : Int).toNat * 2))) := ⟨_, rfl⟩
        obtain ⟨c16, hc16⟩ : ∃ c1, c1 = c0 - ((ji6) : Int).toNat := ⟨_, rfl⟩
        have hy16 : y532.length = l0.length - ((ji6) : Int).toNat := (by rw [Ny532.out, List.length_drop] <;> omega)
        rw [show (l0).drop ((ji6) : Int).toNat = y532 from Ny532.out.symm] at hr16
        replace hr16 : Kd.C k28 _ A16 y532.length y532 := (by rw [hA16]; exact hr16)
        rw [← hy16, ← hA16, ← hc16] at hcut16
        have HR535 := Aside0.mk hr16
        have HC535 := Aside0.mk (show y532.length ≤ c16 from by rw [hy16, hc16]; exact Nat.sub_le_sub_right hroom16 _)
        clear hr16 hC16 hroom16 hi016 hsz16 hc16
        have KY16 := Aside0.mk hy16
        have KA16 := Aside0.mk hA16
        clear hy16 hA16
        replace q16 := eq_true q16
        refine start_ (n := 13) (S := fun w' => True) (ds := []) #[false, false, false, false, false, false, false, false, false, false, false, false, false] (by kernel_rfl) rfl rfl trivial (fun hHeld => ?_); refine with_tabW api_Point_29.tab4 api_Point_29.bits4 (fun HT_ HW_ => ?_)
        generalize w.drew = w14 at HB HR528 HR535 hHeld ⊢
        refine pure_ (i := 0) (N := some 14) (v := ?_) (a' := ?_) #[true, false, false, false, false, false, false, false, false, false, false, false, false] rfl rfl (any_of HT_.out (by kernel_rfl)) (fun _ _ _ h => h) (Or.inl ⟨by rfl, ?_⟩) ?_ ?_
        rotate_left
        · intro w'
          go_simp
          with_reducible rfl
        rotate_left
        · simp only [Act.put, List.setIfInBounds_toArray, List.set_cons_zero, List.set_cons_succ, i64_w, i32_w]
          rfl
        refine pure_ (i := 1) (N := some 15) (v := ?_) (a' := ?_) #[true, true, false, false, false, false, false, false, false, false, false, false, false] rfl rfl (any_of HT_.out (by kernel_rfl)) (fun _ _ _ h => h) (Or.inl ⟨by rfl, ?_⟩) ?_ ?_
        rotate_left
        · intro w'
          go_simp
          with_reducible rfl
        rotate_left
        · simp only [Act.put, List.setIfInBounds_toArray, List.set_cons_zero, List.set_cons_succ, i64_w, i32_w]
          rfl
        refine pure_ (i := 2) (N := some 16) (v := ?_) (a' := ?_) #[true, true, true, false, false, false, false, false, false, false, false, false, false] rfl rfl (any_of HT_.out (by kernel_rfl)) (fun _ _ _ h => h) (Or.inl ⟨by rfl, ?_⟩) ?_ ?_
        rotate_left
        · intro w'
          go_simp
          with_reducible rfl
        rotate_left
        · simp only [Act.put, List.setIfInBounds_toArray, List.set_cons_zero, List.set_cons_succ, i64_w, i32_w]
          rfl
        refine pure_ (i := 3) (N := some 17) (v := ?_) (a' := ?_) #[true, true, true, true, false, false, false, false, false, false, false, false, false] rfl rfl (any_of HT_.out (by kernel_rfl)) (fun _ _ _ h => h) (Or.inl ⟨by rfl, ?_⟩) ?_ ?_
        rotate_left
        · intro w'
          go_simp
          with_reducible rfl
        rotate_left
        · simp only [Act.put, List.setIfInBounds_toArray, List.set_cons_zero, List.set_cons_succ, i64_w, i32_w]
          rfl
        refine pure_ (i := 5) (N := some 19) (v := ?_) (a' := ?_) #[true, true, true, true, false, true, false, false, false, false, false, false, false] rfl rfl (any_of HT_.out (by kernel_rfl)) (fun _ _ _ h => h) (Or.inl ⟨by rfl, ?_⟩) ?_ ?_
        rotate_left
        · intro w'
          go_simp
          with_reducible rfl
        rotate_left
        · simp only [Act.put, List.setIfInBounds_toArray, List.set_cons_zero, List.set_cons_succ, i64_w, i32_w]
          rfl
        refine pure_ (i := 6) (N := some 20) (v := ?_) (a' := ?_) #[true, true, true, true, false, true, true, false, false, false, false, false, false] rfl rfl (any_of HT_.out (by kernel_rfl)) (fun _ _ _ h => h) (Or.inl ⟨by rfl, ?_⟩) ?_ ?_
        rotate_left
        · intro w'
          go_simp
          with_reducible rfl
        rotate_left
        · simp only [Act.put, List.setIfInBounds_toArray, List.set_cons_zero, List.set_cons_succ, i64_w, i32_w]
          rfl
        refine pure_ (i := 7) (N := some 21) (v := ?_) (a' := ?_) #[true, true, true, true, false, true, true, true, false, false, false, false, false] rfl rfl (any_of HT_.out (by kernel_rfl)) (fun _ _ _ h => h) (Or.inl ⟨by rfl, ?_⟩) ?_ ?_
        rotate_left
        · intro w'
          go_simp
          with_reducible rfl
        rotate_left
        · simp only [Act.put, List.setIfInBounds_toArray, List.set_cons_zero, List.set_cons_succ, i64_w, i32_w]
          rfl
        refine pure_ (i := 8) (N := some 22) (v := ?_) (a' := ?_) #[true, true, true, true, false, true, true, true, true, false, false, false, false] rfl rfl (any_of HT_.out (by kernel_rfl)) (fun _ _ _ h => h) (Or.inl ⟨by rfl, ?_⟩) ?_ ?_
        rotate_left
        · intro w'
          go_simp
          with_reducible rfl
        rotate_left
        · simp only [Act.put, List.setIfInBounds_toArray, List.set_cons_zero, List.set_cons_succ, i64_w, i32_w]
          rfl
        refine pure_ (i := 10) (N := some 24) (v := ?_) (a' := ?_) #[true, true, true, true, false, true, true, true, true, false, true, false, false] rfl rfl (any_of HT_.out (by kernel_rfl)) (fun _ _ _ h => h) (Or.inl ⟨by rfl, ?_⟩) ?_ ?_
        rotate_left
        · intro w'
          go_simp
          with_reducible rfl
        rotate_left
        · simp only [Act.put, List.setIfInBounds_toArray, List.set_cons_zero, List.set_cons_succ, i64_w, i32_w]
          rfl
        refine one_ (i := 4) (N := some 18) #[true, true, true, true, true, true, true, true, true, false, true, false, false] rfl rfl (one_of HT_.out (by kernel_rfl)) (by decide) (fun K hK => ?_)
        refine goes_ Try.func29 (by kernel_rfl) rfl #[.slice A0 y525.length c0, .func (.func F1) fb1 fc1] (by rfl) rfl rfl (by (try simp only [List.map_toArray, List.map_cons, List.map_nil]); first | done | rfl | (simp only [List.length_drop, List.length_take]; rfl)) ?_
        with_reducible refine (ih k (by omega) _ _ y525 F1 fb1 fc1 a1 t529 _ ?side1 ?side2 ?side3 A9.out).mono ?_
        (case side1 => repeat (first | exact (Kd.C_below HR528.out HB.out) | (with_reducible refine Kd.C_alloc ?_ _) | (with_reducible refine Kd.C_drewN ?_ _) | (with_reducible refine Kd.C_drew ?_)))
        (case side2 => exact HC528.out)
        (case side3 => exact FnT34.later HF1.out (by repeat (first | (with_reducible first | exact HB.out | apply below_alloc | apply pw_below_drewN | apply below_drew1) | exact HB.out)))
        rintro e w17 ⟨v530, rfl, ho0, hb⟩
        refine ⟨_, rfl, ?_⟩
        have n0_ := Aside0.mk (Kd.R_lower ho0 (below_size (by repeat (first | (with_reducible first | exact HB.out | apply below_alloc | apply pw_below_drewN | apply below_drew1) | exact HB.out))))
        have n1_ := Aside0.mk (below_step (by repeat (first | (with_reducible first | exact HB.out | apply below_alloc | apply pw_below_drewN | apply below_drew1) | exact HB.out)) hb)
        clear HB
        have HO531 := n0_
        have HB := n1_
        clear n0_ n1_
        (try clear hb)
        (try clear hb2)
        (try clear hk)
        (try clear hi)
        (try clear ho0)
        refine hK.out _ _ trivial (fun hHeld => ?_)
        clear hK K
        refine norm_ (a' := ?_) ?_ ?_
        rotate_left
        · show Act.put _ (some 18) _ = _
          simp only [Act.put, List.setIfInBounds_toArray, List.set_cons_zero, List.set_cons_succ, i64_w, i32_w]
          rfl
        refine one_ (i := 9) (N := some 23) #[true, true, true, true, true, true, true, true, true, true, true, false, false] rfl rfl (one_of HT_.out (by kernel_rfl)) (by decide) (fun K hK => ?_)
        refine goes_ Try.func29 (by kernel_rfl) rfl #[.slice A16 y532.length c16, .func (.func F1) fb1 fc1] (by rfl) rfl rfl (by (try simp only [List.map_toArray, List.map_cons, List.map_nil]); first | done | rfl | (simp only [List.length_drop, List.length_take]; rfl)) ?_
        with_reducible refine (ih k (by omega) _ _ y532 F1 fb1 fc1 a1 t536 _ ?side1 ?side2 ?side3 A12.out).mono ?_
        (case side1 => repeat (first | exact (Kd.C_below HR535.out HB.out) | (with_reducible refine Kd.C_alloc ?_ _) | (with_reducible refine Kd.C_drewN ?_ _) | (with_reducible refine Kd.C_drew ?_)))
        (case side2 => exact HC535.out)
        (case side3 => exact FnT34.later HF1.out (by repeat (first | (with_reducible first | exact HB.out | apply below_alloc | apply pw_below_drewN | apply below_drew1) | exact HB.out)))
        rintro e w18 ⟨v537, rfl, ho0, hb⟩
        refine ⟨_, rfl, ?_⟩
        have n0_ := Aside0.mk (Kd.R_elder' (by (with_reducible repeat (first | apply Kd.R_alloc | apply Kd.R_drewN | apply Kd.R_drew)); exact HO531.out) (Kd.R_base ho0) hb)
        have n1_ := Aside0.mk (Kd.R_lower (Kd.R_new' ho0 (Kd.R_lt (by (with_reducible repeat (first | apply Kd.R_alloc | apply Kd.R_drewN | apply Kd.R_drew)); exact HO531.out))) (below_size (by repeat (first | (with_reducible first | exact HB.out | apply below_alloc | apply pw_below_drewN | apply below_drew1) | exact HB.out))))
        have n2_ := Aside0.mk (below_step (by repeat (first | (with_reducible first | exact HB.out | apply below_alloc | apply pw_below_drewN | apply below_drew1) | exact HB.out)) hb)
        clear HO531
        clear HB
        have HO531 := n0_
        have HO538 := n1_
        have HB := n2_
        clear n0_ n1_ n2_
        (try clear hb)
        (try clear hb2)
        (try clear hk)
        (try clear hi)
        (try clear ho0)
        obtain ⟨Ao19, co19, eo19⟩ := Kd.R_slice HO531.out
        (first | subst eo19 | (injection eo19 with f1_ f2_ f3_; have f4_ := f1_.symm; have f5_ := f3_.symm; clear f1_ f2_ f3_; subst f4_; subst f5_))
        obtain ⟨Ao20, co20, eo20⟩ := Kd.R_slice HO538.out
        (first | subst eo20 | (injection eo20 with f1_ f2_ f3_; have f4_ := f1_.symm; have f5_ := f3_.symm; clear f1_ f2_ f3_; subst f4_; subst f5_))
        refine hK.out _ _ trivial (fun hHeld => ?_)
        clear hK K
        refine norm_ (a' := ?_) ?_ ?_
        rotate_left
        · show Act.put _ (some 23) _ = _
          simp only [Act.put, List.setIfInBounds_toArray, List.set_cons_zero, List.set_cons_succ, i64_w, i32_w]
          rfl
        refine one_ (i := 11) (N := some 25) #[true, true, true, true, true, true, true, true, true, true, true, true, false] rfl rfl (one_of HT_.out (by kernel_rfl)) (by decide) (fun K hK => ?_)
        refine goes_ Try.func30 (by kernel_rfl) rfl #[.slice Ao19 t529.length co19, .slice Ao20 t536.length co20, .func (.func F1) fb1 fc1] (by rfl) rfl rfl (by (try simp only [List.map_toArray, List.map_cons, List.map_nil]); first | done | rfl | (simp only [List.length_drop, List.length_take]; rfl)) ?_
        with_reducible refine (api_Point_30.calls k (fun k_ => some k_ = (.slice Ao19 t529.length co19 : Value).ownBlock) _ _ t529 (fun k_ => some k_ = (.slice Ao20 t536.length co20 : Value).ownBlock) _ _ t536 F1 fb1 fc1 a1 t539 _ ?side1 ?side2 ?side3 A13.out).mono ?_
        (case side1 => exact Kd.R_V (Kd.R_tight rfl (HO531.out)))
        (case side2 => exact Kd.R_V (Kd.R_tight rfl (HO538.out)))
        (case side3 => exact FnT34.later HF1.out (by repeat (first | (with_reducible first | exact HB.out | apply below_alloc | apply pw_below_drewN | apply below_drew1) | exact HB.out)))
        rintro e w21 ⟨v540, rfl, ho0, hb⟩
        refine ⟨_, rfl, ?_⟩
        have n0_ := Aside0.mk (Kd.R_elder' (by (with_reducible repeat (first | apply Kd.R_alloc | apply Kd.R_drewN | apply Kd.R_drew)); exact HO531.out) (Kd.R_base ho0) hb)
        have n1_ := Aside0.mk (Kd.R_elder' (by (with_reducible repeat (first | apply Kd.R_alloc | apply Kd.R_drewN | apply Kd.R_drew)); exact HO538.out) (Kd.R_base ho0) hb)
        have n2_ := Aside0.mk (Kd.R_lower (Kd.R_new' (Kd.R_new' (Kd.R_mono (ok' := fun k_ => True) ho0 (fun _ hk_ => trivial)) (Kd.R_lt (by (with_reducible repeat (first | apply Kd.R_alloc | apply Kd.R_drewN | apply Kd.R_drew)); exact HO531.out))) (Kd.R_lt (by (with_reducible repeat (first | apply Kd.R_alloc | apply Kd.R_drewN | apply Kd.R_drew)); exact HO538.out))) (below_size (by repeat (first | (with_reducible first | exact HB.out | apply below_alloc | apply pw_below_drewN | apply below_drew1) | exact HB.out))))
        have n3_ := Aside0.mk (below_step (by repeat (first | (with_reducible first | exact HB.out | apply below_alloc | apply pw_below_drewN | apply below_drew1) | exact HB.out)) hb)
        clear HO531
        clear HO538
        clear HB
        have HO531 := n0_
        have HO538 := n1_
        have HO541 := n2_
        have HB := n3_
        clear n0_ n1_ n2_ n3_
        (try clear hb)
        (try clear hb2)
        (try clear hk)
        (try clear hi)
        (try clear ho0)
        refine hK.out _ _ trivial (fun hHeld => ?_)
        clear hK K
        refine norm_ (a' := ?_) ?_ ?_
        rotate_left
        · show Act.put _ (some 25) _ = _
          simp only [Act.put, List.setIfInBounds_toArray, List.set_cons_zero, List.set_cons_succ, i64_w, i32_w]
          rfl
        refine pure_ (i := 12) (N := some 4) (v := ?_) (a' := ?_) #[true, true, true, true, true, true, true, true, true, true, true, true, true] rfl rfl (any_of HT_.out (by kernel_rfl)) (fun _ _ _ h => h) (Or.inl ⟨by rfl, ?_⟩) ?_ ?_
        rotate_left
        · intro w'
          go_simp
          with_reducible rfl
        rotate_left
        · simp only [Act.put, List.setIfInBounds_toArray, List.set_cons_zero, List.set_cons_succ, i64_w, i32_w]
          rfl
        refine done_ (done_of HT_.out (by kernel_rfl)) ?_
        try go_wp2
        go_ret
        exact ⟨_, by first | rfl | (simp [errW_none, errW_some] <;> rfl) | (simp only [← hji6]; first | rfl | (simp [errW_none, errW_some] <;> rfl)) | (simp [*, errW_none, errW_some] <;> rfl), by (with_reducible repeat (first | apply Kd.R_alloc | apply Kd.R_drewN | apply Kd.R_drew)); exact Kd.R_mono HO541.out (fun _ hk => trivial), by repeat (first | (with_reducible first | exact HB.out | apply below_alloc | apply pw_below_drewN | apply below_drew1) | exact HB.out)⟩
      · rw [if_neg c8] at H
        exact absurd H (by simp)
    · rw [if_neg c7] at H
      exact absurd H (by simp)

/-! ### parquetlaw07_SortsJoins: function 9 -/
mutual
def parquetlaw07_SortsJoins.j0 : Nat → List (S28) → List (S28) → Bool → Option (Bool)
  | 0, _, _, _ => none
  | k + 1, x0, x1, x21 => if x21 = true then ((parquetlaw07_known.f k).bind fun t542 => (some t542)) else (if ([] : List (S28)).length + x0.length < 8796093022208 then ((some (([] : List (S28)) ++ x0 : List (S28))).bind fun y543 => (if y543.length + x1.length < 8796093022208 then ((some (y543 ++ x1 : List (S28))).bind fun y546 => ((sorts_Order.f k y546).bind fun t549 => ((sorts_Ranks.f k y546).bind fun t552 => (if ([] : List (S28)).length + y546.length < 8796093022208 then ((some (([] : List (S28)) ++ y546 : List (S28))).bind fun y555 => (if y555.length + y546.length < 8796093022208 then ((sorts_Ranks.f k (y555 ++ y546)).bind fun t561 => (if (t549.length : Int) = (y546.length : Int) then (if (t552.length : Int) = (y546.length : Int) then (parquetlaw07_SortsJoins.j1 k x0 x1 y546 t549 t552 t561 ((t561.length : Int) != (wrap64 (2 * (y546.length : Int))))) else (parquetlaw07_SortsJoins.j1 k x0 x1 y546 t549 t552 t561 true)) else (parquetlaw07_SortsJoins.j1 k x0 x1 y546 t549 t552 t561 true))) else (none))) else (none))))) else (none))) else (none))
def parquetlaw07_SortsJoins.j1 : Nat → List (S28) → List (S28) → List (S28) → List Int → List Int → List Int → Bool → Option (Bool)
  | 0, _, _, _, _, _, _, _ => none
  | k + 1, x0, x1, x5, x6, x7, x9, x60 => if x60 = true then (some false) else ((api_Point_29.f k x0 sorts_Less.f).bind fun t564 => ((api_Point_29.f k x1 sorts_Less.f).bind fun t567 => ((api_Point_30.f k t564 t567 sorts_Less.f).bind fun t570 => (if (t570.length : Int) = (x5.length : Int) then (parquetlaw07_SortsJoins.l0 k x5 x6 x7 x9 t570 0) else (some false)))))
def parquetlaw07_SortsJoins.l0 : Nat → List (S28) → List Int → List Int → List Int → List (S28) → Int → Option (Bool)
  | 0, _, _, _, _, _, _ => none
  | k + 1, x5, x6, x7, x9, x12, x13 => if x13 < (x5.length : Int) then (if 0 ≤ x13 then (if x13 < (x6.length : Int) then (if (rd x6 x13) < 0 then (some false) else (if (rd x6 x13) ≥ (x5.length : Int) then (some false) else (if x13 < (x12.length : Int) then (if 0 ≤ (rd x6 x13) then (if (rd x6 x13) < (x5.length : Int) then (if (((rd_T28 x12 x13).f0) == ((rd_T28 x5 (rd x6 x13)).f0) && (((rd_T28 x12 x13).f1) == ((rd_T28 x5 (rd x6 x13)).f1))) = true then (parquetlaw07_SortsJoins.l0 k x5 x6 x7 x9 x12 (wrap64 (x13 + 1))) else (some false)) else (none)) else (none)) else (none)))) else (none)) else (none)) else (if 0 ≤ (x5.length : Int) then (if (x5.length : Int) ≤ (x9.length : Int) then ((parquetref00_SameInts.f k (x9.take ((x5.length : Int) : Int).toNat) x7).bind fun t582 => (if t582 = true then ((parquetref00_SameInts.f k (x9.drop ((x5.length : Int) : Int).toNat) x7).bind fun t587 => (if t587 = true then ((parquetref07_Ranks.f k x5).bind fun t588 => ((parquetref00_SameInts.f k x7 t588).bind fun t591 => (if t591 = true then ((parquetlaw07_known.f k).bind fun t592 => (some t592)) else (some false)))) else (some false))) else (some false))) else (none)) else (none))
end
def parquetlaw07_SortsJoins.f (k : Nat) (l0 : List (S28)) (l1 : List (S28)) : Option (Bool) := if (l0.length : Int) > 60 then (parquetlaw07_SortsJoins.j0 k l0 l1 true) else (parquetlaw07_SortsJoins.j0 k l0 l1 (decide ((l1.length : Int) > 60)))
set_option maxHeartbeats 8000000 in
set_option maxRecDepth 100000 in
theorem parquetlaw07_SortsJoins.calls (k : Nat) (A0 : Option Addr) (c0 : Nat) (l0 : List (S28)) (A1 : Option Addr) (c1 : Nat) (l1 : List (S28)) (r : Bool) (w : World) (hr0 : Kd.C k28 w A0 l0.length l0) (hc0 : l0.length ≤ c0) (hr1 : Kd.C k28 w A1 l1.length l1) (hc1 : l1.length ≤ c1) (hT : Aside0 (r = true)) (h : parquetlaw07_SortsJoins.f k l0 l1 = some r) :
    Calls Try.prog 9 #[.slice A0 l0.length c0, .slice A1 l1.length c1] w fun e w' => e = .returned (.bool r) ∧ Below w.heap.size w w' := by
  have hu28 := Try.underlying28
  have HR0 := Aside0.mk hr0
  have HC0 := Aside0.mk hc0
  clear hr0 hc0
  have HR1 := Aside0.mk hr1
  have HC1 := Aside0.mk hc1
  clear hr1 hc1
  have HB := Aside0.mk (Below.refl w.heap.size w)
  have H : (if (l0.length : Int) > 60 then (parquetlaw07_SortsJoins.j0 k l0 l1 true) else (parquetlaw07_SortsJoins.j0 k l0 l1 (decide ((l1.length : Int) > 60)))) = some r := h
  clear h
  have HU3 := Aside0.mk H
  clear H
  go_enter Try.func9, Try.ntmps9
  go_upto_region 1 with (fail)
  repeat (go_quiet (fail); go_upto_region 1 with (fail))
  have H := HU3.out
  clear HU3
  have HC4 := Aside0.mk H
  clear H
  go_upto_region 1 with (fail)
  repeat (go_quiet (fail); go_upto_region 1 with (fail))
  go_cut [21] (fun v21 wc => ∃ (kq : Nat) (x21_3 : Bool), v21 = .bool x21_3 ∧ Aside0 (parquetlaw07_SortsJoins.j0 kq l0 l1 x21_3 = some r) ∧ Aside0 (kq ≤ k) ∧ Aside0 (Below w.heap.size w wc))
  case first =>
    have H := HC4.out
    clear HC4
    by_cases c5 : (l0.length : Int) > 60
    · rw [if_pos c5] at H
      have c5b0 : decide (60 < (l0.length : Int)) = true := decide_eq_true c5
      have c5b1 : decide (60 < l0.length) = true := decide_eq_true (by omega)
      clear c5
      (first | rw [c5b0] | (simp only [i64_w, i32_w]; rw [c5b0]) | skip)
      have H' := Aside0.mk H
      clear H
      go_wp2
      repeat (go_quiet (fail); try go_wp2)
      go_meet
      case rel => exact ⟨_, (true), (by first | rfl | (simp; done) | (simp [*]; done)), H', ⟨by first | omega | exact Nat.le_refl _⟩, ⟨by repeat (first | (with_reducible first | exact HB.out | apply below_alloc | apply pw_below_drewN | apply below_drew1) | exact HB.out)⟩⟩
    · rw [if_neg c5] at H
      have c5b0 : decide (60 < (l0.length : Int)) = false := decide_eq_false c5
      have c5b1 : decide (60 < l0.length) = false := decide_eq_false (by omega)
      clear c5
      (first | rw [c5b0] | (simp only [i64_w, i32_w]; rw [c5b0]) | skip)
      have H' := Aside0.mk H
      clear H
      go_wp2
      repeat (go_quiet (fail); try go_wp2)
      go_meet
      case rel => exact ⟨_, (decide ((l1.length : Int) > 60)), (by first | rfl | (simp; done) | (simp [*]; done)), H', ⟨by first | omega | exact Nat.le_refl _⟩, ⟨by repeat (first | (with_reducible first | exact HB.out | apply below_alloc | apply pw_below_drewN | apply below_drew1) | exact HB.out)⟩⟩
  case rest =>
    clear HC4
    (try clear c1); (try clear p2); (try clear c5); (try clear c5b0); (try clear c5b1)
    obtain ⟨kq, x21_3, rfl, HA, HJ3, HB⟩ := hcut
    cases kq with
    | zero => exact absurd HA.out (by simp [parquetlaw07_SortsJoins.j0])
    | succ kj3 =>
      have H := HA.out
      clear HA
      simp only [parquetlaw07_SortsJoins.j0] at H
      by_cases c6 : x21_3 = true
      · subst c6
        have H1 : ((parquetlaw07_known.f kj3).bind fun t542 => (some t542)) = some r := by rw [if_pos rfl] at H; exact H
        clear H
        have H := H1
        clear H1
        replace H := Option.bind_eq_some_iff.mp H
        obtain ⟨t542, A70, H⟩ := H
        replace H : (some t542) = some r := H
        have A7 := Aside0.mk A70
        clear A70
        obtain rfl := Option.some.inj H
        go_wp2_with (first | (go_at_call 10; (with_reducible refine (parquetlaw07_known.calls kj3  t542 _ (by first | exact hT | exact ⟨rfl⟩) A7.out).mono ?_); rintro e w8 ⟨rfl, hb⟩; have n0_ := Aside0.mk (below_step (by repeat (first | (with_reducible first | exact HB.out | apply below_alloc | apply pw_below_drewN | apply below_drew1) | exact HB.out)) hb); clear HB; have HB := n0_; clear n0_; (try clear hb); (try clear hb2); (try clear hk); (try clear hi)))
        repeat (go_quiet (first | (go_at_call 10; (with_reducible refine (parquetlaw07_known.calls kj3  t542 _ (by first | exact hT | exact ⟨rfl⟩) A7.out).mono ?_); rintro e w8 ⟨rfl, hb⟩; have n0_ := Aside0.mk (below_step (by repeat (first | (with_reducible first | exact HB.out | apply below_alloc | apply pw_below_drewN | apply below_drew1) | exact HB.out)) hb); clear HB; have HB := n0_; clear n0_; (try clear hb); (try clear hb2); (try clear hk); (try clear hi))); try go_wp2_with (first | (go_at_call 10; (with_reducible refine (parquetlaw07_known.calls kj3  t542 _ (by first | exact hT | exact ⟨rfl⟩) A7.out).mono ?_); rintro e w8 ⟨rfl, hb⟩; have n0_ := Aside0.mk (below_step (by repeat (first | (with_reducible first | exact HB.out | apply below_alloc | apply pw_below_drewN | apply below_drew1) | exact HB.out)) hb); clear HB; have HB := n0_; clear n0_; (try clear hb); (try clear hb2); (try clear hk); (try clear hi))))
        go_ret
        exact ⟨by first | rfl | (simp [errW_none, errW_some] <;> rfl) | (simp [*, errW_none, errW_some] <;> rfl), by repeat (first | (with_reducible first | exact HB.out | apply below_alloc | apply pw_below_drewN | apply below_drew1) | exact HB.out)⟩
      · replace c6 := Bool.eq_false_iff.mpr c6
        subst c6
        have H1 : (if ([] : List (S28)).length + l0.length < 8796093022208 then ((some (([] : List (S28)) ++ l0 : List (S28))).bind fun y543 => (if y543.length + l1.length < 8796093022208 then ((some (y543 ++ l1 : List (S28))).bind fun y546 => ((sorts_Order.f kj3 y546).bind fun t549 => ((sorts_Ranks.f kj3 y546).bind fun t552 => (if ([] : List (S28)).length + y546.length < 8796093022208 then ((some (([] : List (S28)) ++ y546 : List (S28))).bind fun y555 => (if y555.length + y546.length < 8796093022208 then ((sorts_Ranks.f kj3 (y555 ++ y546)).bind fun t561 => (if (t549.length : Int) = (y546.length : Int) then (if (t552.length : Int) = (y546.length : Int) then (parquetlaw07_SortsJoins.j1 kj3 l0 l1 y546 t549 t552 t561 ((t561.length : Int) != (wrap64 (2 * (y546.length : Int))))) else (parquetlaw07_SortsJoins.j1 kj3 l0 l1 y546 t549 t552 t561 true)) else (parquetlaw07_SortsJoins.j1 kj3 l0 l1 y546 t549 t552 t561 true))) else (none))) else (none))))) else (none))) else (none)) = some r := by rw [if_neg (show ¬ (false = true) by decide)] at H; exact H
        clear H
        have H := H1
        clear H1
        by_cases c9 : ([] : List (S28)).length + l0.length < 8796093022208
        · rw [if_pos c9] at H
          have LMc9 := Aside0.mk c9
          clear c9
          obtain ⟨y543, hy543⟩ : ∃ y_ : List (S28), y_ = (([] : List (S28)) ++ l0) := ⟨_, rfl⟩
          replace H : (if y543.length + l1.length < 8796093022208 then ((some (y543 ++ l1 : List (S28))).bind fun y546 => ((sorts_Order.f kj3 y546).bind fun t549 => ((sorts_Ranks.f kj3 y546).bind fun t552 => (if ([] : List (S28)).length + y546.length < 8796093022208 then ((some (([] : List (S28)) ++ y546 : List (S28))).bind fun y555 => (if y555.length + y546.length < 8796093022208 then ((sorts_Ranks.f kj3 (y555 ++ y546)).bind fun t561 => (if (t549.length : Int) = (y546.length : Int) then (if (t552.length : Int) = (y546.length : Int) then (parquetlaw07_SortsJoins.j1 kj3 l0 l1 y546 t549 t552 t561 ((t561.length : Int) != (wrap64 (2 * (y546.length : Int))))) else (parquetlaw07_SortsJoins.j1 kj3 l0 l1 y546 t549 t552 t561 true)) else (parquetlaw07_SortsJoins.j1 kj3 l0 l1 y546 t549 t552 t561 true))) else (none))) else (none))))) else (none)) = some r := by first | (rw [hy543]; with_reducible exact H) | (have H2_ := (Option.bind_some _ _).symm.trans H; rw [hy543]; with_reducible exact H2_) | (have H2_ := (Option.bind_some _ _).symm.trans H; with_reducible exact H2_) | with_reducible exact H | (rw [hy543]; exact H) | exact H
          have Ny543 := Aside0.mk hy543
          clear hy543
          by_cases c10 : y543.length + l1.length < 8796093022208
          · rw [if_pos c10] at H
            have LMc10 := Aside0.mk c10
            clear c10
            obtain ⟨y546, hy546⟩ : ∃ y_ : List (S28), y_ = (y543 ++ l1) := ⟨_, rfl⟩
            replace H : ((sorts_Order.f kj3 y546).bind fun t549 => ((sorts_Ranks.f kj3 y546).bind fun t552 => (if ([] : List (S28)).length + y546.length < 8796093022208 then ((some (([] : List (S28)) ++ y546 : List (S28))).bind fun y555 => (if y555.length + y546.length < 8796093022208 then ((sorts_Ranks.f kj3 (y555 ++ y546)).bind fun t561 => (if (t549.length : Int) = (y546.length : Int) then (if (t552.length : Int) = (y546.length : Int) then (parquetlaw07_SortsJoins.j1 kj3 l0 l1 y546 t549 t552 t561 ((t561.length : Int) != (wrap64 (2 * (y546.length : Int))))) else (parquetlaw07_SortsJoins.j1 kj3 l0 l1 y546 t549 t552 t561 true)) else (parquetlaw07_SortsJoins.j1 kj3 l0 l1 y546 t549 t552 t561 true))) else (none))) else (none)))) = some r := by first | (rw [hy546]; with_reducible exact H) | (have H2_ := (Option.bind_some _ _).symm.trans H; rw [hy546]; with_reducible exact H2_) | (have H2_ := (Option.bind_some _ _).symm.trans H; with_reducible exact H2_) | with_reducible exact H | (rw [hy546]; exact H) | exact H
            have Ny546 := Aside0.mk hy546
            clear hy546
            replace H := Option.bind_eq_some_iff.mp H
            obtain ⟨t549, A110, H⟩ := H
            replace H : ((sorts_Ranks.f kj3 y546).bind fun t552 => (if ([] : List (S28)).length + y546.length < 8796093022208 then ((some (([] : List (S28)) ++ y546 : List (S28))).bind fun y555 => (if y555.length + y546.length < 8796093022208 then ((sorts_Ranks.f kj3 (y555 ++ y546)).bind fun t561 => (if (t549.length : Int) = (y546.length : Int) then (if (t552.length : Int) = (y546.length : Int) then (parquetlaw07_SortsJoins.j1 kj3 l0 l1 y546 t549 t552 t561 ((t561.length : Int) != (wrap64 (2 * (y546.length : Int))))) else (parquetlaw07_SortsJoins.j1 kj3 l0 l1 y546 t549 t552 t561 true)) else (parquetlaw07_SortsJoins.j1 kj3 l0 l1 y546 t549 t552 t561 true))) else (none))) else (none))) = some r := H
            have A11 := Aside0.mk A110
            clear A110
            replace H := Option.bind_eq_some_iff.mp H
            obtain ⟨t552, A120, H⟩ := H
            replace H : (if ([] : List (S28)).length + y546.length < 8796093022208 then ((some (([] : List (S28)) ++ y546 : List (S28))).bind fun y555 => (if y555.length + y546.length < 8796093022208 then ((sorts_Ranks.f kj3 (y555 ++ y546)).bind fun t561 => (if (t549.length : Int) = (y546.length : Int) then (if (t552.length : Int) = (y546.length : Int) then (parquetlaw07_SortsJoins.j1 kj3 l0 l1 y546 t549 t552 t561 ((t561.length : Int) != (wrap64 (2 * (y546.length : Int))))) else (parquetlaw07_SortsJoins.j1 kj3 l0 l1 y546 t549 t552 t561 true)) else (parquetlaw07_SortsJoins.j1 kj3 l0 l1 y546 t549 t552 t561 true))) else (none))) else (none)) = some r := H
            have A12 := Aside0.mk A120
            clear A120
            by_cases c13 : ([] : List (S28)).length + y546.length < 8796093022208
            · rw [if_pos c13] at H
              have LMc13 := Aside0.mk c13
              clear c13
              obtain ⟨y555, hy555⟩ : ∃ y_ : List (S28), y_ = (([] : List (S28)) ++ y546) := ⟨_, rfl⟩
              replace H : (if y555.length + y546.length < 8796093022208 then ((sorts_Ranks.f kj3 (y555 ++ y546)).bind fun t561 => (if (t549.length : Int) = (y546.length : Int) then (if (t552.length : Int) = (y546.length : Int) then (parquetlaw07_SortsJoins.j1 kj3 l0 l1 y546 t549 t552 t561 ((t561.length : Int) != (wrap64 (2 * (y546.length : Int))))) else (parquetlaw07_SortsJoins.j1 kj3 l0 l1 y546 t549 t552 t561 true)) else (parquetlaw07_SortsJoins.j1 kj3 l0 l1 y546 t549 t552 t561 true))) else (none)) = some r := by first | (rw [hy555]; with_reducible exact H) | (have H2_ := (Option.bind_some _ _).symm.trans H; rw [hy555]; with_reducible exact H2_) | (have H2_ := (Option.bind_some _ _).symm.trans H; with_reducible exact H2_) | with_reducible exact H | (rw [hy555]; exact H) | exact H
              have Ny555 := Aside0.mk hy555
              clear hy555
              by_cases c14 : y555.length + y546.length < 8796093022208
              · rw [if_pos c14] at H
                have LMc14 := Aside0.mk c14
                clear c14
                obtain ⟨y558, hy558⟩ : ∃ y_ : List (S28), y_ = (y555 ++ y546) := ⟨_, rfl⟩
                replace H : ((sorts_Ranks.f kj3 y558).bind fun t561 => (if (t549.length : Int) = (y546.length : Int) then (if (t552.length : Int) = (y546.length : Int) then (parquetlaw07_SortsJoins.j1 kj3 l0 l1 y546 t549 t552 t561 ((t561.length : Int) != (wrap64 (2 * (y546.length : Int))))) else (parquetlaw07_SortsJoins.j1 kj3 l0 l1 y546 t549 t552 t561 true)) else (parquetlaw07_SortsJoins.j1 kj3 l0 l1 y546 t549 t552 t561 true))) = some r := by first | (rw [hy558]; with_reducible exact H) | (have H2_ := (Option.bind_some _ _).symm.trans H; rw [hy558]; with_reducible exact H2_) | (have H2_ := (Option.bind_some _ _).symm.trans H; with_reducible exact H2_) | with_reducible exact H | (rw [hy558]; exact H) | exact H
                have Ny558 := Aside0.mk hy558
                clear hy558
                replace H := Option.bind_eq_some_iff.mp H
                obtain ⟨t561, A150, H⟩ := H
                replace H : (if (t549.length : Int) = (y546.length : Int) then (if (t552.length : Int) = (y546.length : Int) then (parquetlaw07_SortsJoins.j1 kj3 l0 l1 y546 t549 t552 t561 ((t561.length : Int) != (wrap64 (2 * (y546.length : Int))))) else (parquetlaw07_SortsJoins.j1 kj3 l0 l1 y546 t549 t552 t561 true)) else (parquetlaw07_SortsJoins.j1 kj3 l0 l1 y546 t549 t552 t561 true)) = some r := H
                have A15 := Aside0.mk A150
                clear A150
                have HU16 := Aside0.mk H
                clear H
                go_upto_region 12 with (first | ((with_reducible refine gate_builtin (b := .append) (xs := #[.tmp 23, .tmp 24]) rfl ?_); (try (refine gate_guard (by rfl) ?_; dsimp only)); at_builtin; refine Kd.R_append_rows k28 (w0 := w) w.heap.size rfl (.tmp 23) (.tmp 24) 22 28 (.agg #[(.int .i64 0), (.int .i64 0)]) 16 rfl Try.underlying22 info28 rfl (by decide) (by omega) (.slice none 0 0) ([] : List (S28)) l0 _ _ _ (fun _ => True) (fun _ => False) rfl rfl ?aO ?aR (fun _ _ h => h) (fun _ h => h.elim) ?aF ?aB ?aS ?aL ?_; (case aR => repeat (first | exact (Kd.C_below HR0.out HB.out) | (with_reducible refine Kd.C_alloc ?_ _) | (with_reducible refine Kd.C_drewN ?_ _) | (with_reducible refine Kd.C_drew ?_))); (case aB => exact (by repeat (first | (with_reducible first | exact HB.out | apply below_alloc | apply pw_below_drewN | apply below_drew1) | exact HB.out))); (case aF => exact (fun _ _ => trivial)); (case aO => exact ((Kd.R_nil _ _ _ _ (fun _ => True)))); (case aS => exact (below_size (by repeat (first | (with_reducible first | exact HB.out | apply below_alloc | apply pw_below_drewN | apply below_drew1) | exact HB.out)))); (case aL => have := LMc9.out; omega); intro v544 w17 ho hb hg hat; rw [← Ny543.out] at ho; have n0_ := Aside0.mk (hb); have n1_ := Aside0.mk (ho); clear HB; have HB := n0_; have HO545 := n1_; clear n0_ n1_; clear ho hb hg hat) | ((with_reducible refine gate_builtin (b := .append) (xs := #[.tmp 26, .tmp 27]) rfl ?_); (try (refine gate_guard (by rfl) ?_; dsimp only)); at_builtin; refine Kd.R_append_rows k28 (w0 := w) w.heap.size rfl (.tmp 26) (.tmp 27) 22 28 (.agg #[(.int .i64 0), (.int .i64 0)]) 16 rfl Try.underlying22 info28 rfl (by decide) (by omega) v544 y543 l1 _ _ _ (fun _ => True) (fun _ => False) rfl rfl ?aO ?aR (fun _ _ h => h) (fun _ h => h.elim) ?aF ?aB ?aS ?aL ?_; (case aR => repeat (first | exact (Kd.C_below HR1.out HB.out) | (with_reducible refine Kd.C_alloc ?_ _) | (with_reducible refine Kd.C_drewN ?_ _) | (with_reducible refine Kd.C_drew ?_))); (case aB => exact (by repeat (first | (with_reducible first | exact HB.out | apply below_alloc | apply pw_below_drewN | apply below_drew1) | exact HB.out))); (case aF => exact (fun _ _ => trivial)); (case aO => exact (by (with_reducible repeat (first | apply Kd.R_alloc | apply Kd.R_drewN | apply Kd.R_drew)); exact HO545.out)); (case aS => exact (below_size (by repeat (first | (with_reducible first | exact HB.out | apply below_alloc | apply pw_below_drewN | apply below_drew1) | exact HB.out)))); (case aL => have := LMc10.out; omega); intro v547 w18 ho hb hg hat; rw [← Ny546.out] at ho; have n0_ := Aside0.mk (hb); have n1_ := Aside0.mk (ho); clear HB; clear HO545; have HB := n0_; have HO548 := n1_; clear n0_ n1_; clear ho hb hg hat; obtain ⟨Ao19, co19, eo19⟩ := Kd.R_slice HO548.out; subst eo19) | (go_at_call 11; (with_reducible refine (sorts_Order.calls kj3 _ _ y546 t549 _ ?side1 ?side2 A11.out).mono ?_); (case side1 => repeat (first | exact (Kd.R_reads' HO548.out).2.2 | (with_reducible refine Kd.C_alloc ?_ _) | (with_reducible refine Kd.C_drewN ?_ _) | (with_reducible refine Kd.C_drew ?_))); (case side2 => exact (Kd.R_reads' HO548.out).2.1); rintro e w20 ⟨v550, rfl, ho0, hb⟩; have n0_ := Aside0.mk (Kd.R_below (by (with_reducible repeat (first | apply Kd.R_alloc | apply Kd.R_drewN | apply Kd.R_drew)); exact HO548.out) hb); have n1_ := Aside0.mk (Kd.R_lower ho0 (below_size (by repeat (first | (with_reducible first | exact HB.out | apply below_alloc | apply pw_below_drewN | apply below_drew1) | exact HB.out)))); have n2_ := Aside0.mk (below_step (by repeat (first | (with_reducible first | exact HB.out | apply below_alloc | apply pw_below_drewN | apply below_drew1) | exact HB.out)) hb); clear HO548; clear HB; have HO548 := n0_; have HO551 := n1_; have HB := n2_; clear n0_ n1_ n2_; (try clear hb); (try clear hb2); (try clear hk); (try clear hi); (try clear ho0)) | (go_at_call 12; (with_reducible refine (sorts_Ranks.calls kj3 _ _ y546 t552 _ ?side1 ?side2 A12.out).mono ?_); (case side1 => repeat (first | exact (Kd.R_reads' HO548.out).2.2 | (with_reducible refine Kd.C_alloc ?_ _) | (with_reducible refine Kd.C_drewN ?_ _) | (with_reducible refine Kd.C_drew ?_))); (case side2 => exact (Kd.R_reads' HO548.out).2.1); rintro e w21 ⟨v553, rfl, ho0, hb⟩; have n0_ := Aside0.mk (Kd.R_below (by (with_reducible repeat (first | apply Kd.R_alloc | apply Kd.R_drewN | apply Kd.R_drew)); exact HO548.out) hb); have n1_ := Aside0.mk (Kd.R_elder' (by (with_reducible repeat (first | apply Kd.R_alloc | apply Kd.R_drewN | apply Kd.R_drew)); exact HO551.out) (Kd.R_base ho0) hb); have n2_ := Aside0.mk (Kd.R_lower (Kd.R_new' ho0 (Kd.R_lt (by (with_reducible repeat (first | apply Kd.R_alloc | apply Kd.R_drewN | apply Kd.R_drew)); exact HO551.out))) (below_size (by repeat (first | (with_reducible first | exact HB.out | apply below_alloc | apply pw_below_drewN | apply below_drew1) | exact HB.out)))); have n3_ := Aside0.mk (below_step (by repeat (first | (with_reducible first | exact HB.out | apply below_alloc | apply pw_below_drewN | apply below_drew1) | exact HB.out)) hb); clear HO548; clear HO551; clear HB; have HO548 := n0_; have HO551 := n1_; have HO554 := n2_; have HB := n3_; clear n0_ n1_ n2_ n3_; (try clear hb); (try clear hb2); (try clear hk); (try clear hi); (try clear ho0)) | ((with_reducible refine gate_builtin (b := .append) (xs := #[.tmp 33, .tmp 34]) rfl ?_); (try (refine gate_guard (by rfl) ?_; dsimp only)); at_builtin; refine Kd.R_append_rows k28 (w0 := w) w.heap.size rfl (.tmp 33) (.tmp 34) 22 28 (.agg #[(.int .i64 0), (.int .i64 0)]) 16 rfl Try.underlying22 info28 rfl (by decide) (by omega) (.slice none 0 0) ([] : List (S28)) y546 _ _ _ (fun k_ => some k_ ≠ (.slice Ao19 y546.length co19 : Value).ownBlock) (fun _ => False) rfl rfl ?aO ?aR (fun _ _ h => h) (fun _ h => h.elim) ?aF ?aB ?aS ?aL ?_; (case aR => repeat (first | exact (Kd.R_reads' HO548.out).2.2 | (with_reducible refine Kd.C_alloc ?_ _) | (with_reducible refine Kd.C_drewN ?_ _) | (with_reducible refine Kd.C_drew ?_))); (case aB => exact (by repeat (first | (with_reducible first | exact HB.out | apply below_alloc | apply pw_below_drewN | apply below_drew1) | exact HB.out))); (case aF => exact (fun k_ hk => Kd.fresh' (Kd.R_lt (by (with_reducible repeat (first | apply Kd.R_alloc | apply Kd.R_drewN | apply Kd.R_drew)); exact HO548.out)) k_ hk)); (case aO => exact ((Kd.R_nil _ _ _ _ (fun k_ => some k_ ≠ (.slice Ao19 y546.length co19 : Value).ownBlock)))); (case aS => exact (below_size (by repeat (first | (with_reducible first | exact HB.out | apply below_alloc | apply pw_below_drewN | apply below_drew1) | exact HB.out)))); (case aL => have := LMc13.out; omega); intro v556 w22 ho hb hg hat; rw [← Ny555.out] at ho; have n0_ := Aside0.mk (Kd.R_after (Kd.R_apart_nil (by (with_reducible repeat (first | apply Kd.R_alloc | apply Kd.R_drewN | apply Kd.R_drew)); exact HO548.out)) hg hat); have n1_ := Aside0.mk (Kd.R_grown (by (with_reducible repeat (first | apply Kd.R_alloc | apply Kd.R_drewN | apply Kd.R_drew)); exact HO551.out) hg (fun _ _ => by simp [Value.ownBlock])); have n2_ := Aside0.mk (Kd.R_grown (by (with_reducible repeat (first | apply Kd.R_alloc | apply Kd.R_drewN | apply Kd.R_drew)); exact HO554.out) hg (fun _ _ => by simp [Value.ownBlock])); have n3_ := Aside0.mk (hb); have n4_ := Aside0.mk (ho); clear HO548; clear HO551; clear HO554; clear HB; have HO548 := n0_; have HO551 := n1_; have HO554 := n2_; have HB := n3_; have HO557 := n4_; clear n0_ n1_ n2_ n3_ n4_; clear ho hb hg hat) | ((with_reducible refine gate_builtin (b := .append) (xs := #[.tmp 36, .tmp 37]) rfl ?_); (try (refine gate_guard (by rfl) ?_; dsimp only)); at_builtin; refine Kd.R_append_rows k28 (w0 := w) w.heap.size rfl (.tmp 36) (.tmp 37) 22 28 (.agg #[(.int .i64 0), (.int .i64 0)]) 16 rfl Try.underlying22 info28 rfl (by decide) (by omega) v556 y555 y546 _ _ _ (fun k_ => some k_ ≠ (.slice Ao19 y546.length co19 : Value).ownBlock) (fun _ => False) rfl rfl ?aO ?aR (fun _ _ h => h) (fun _ h => h.elim) ?aF ?aB ?aS ?aL ?_; (case aR => repeat (first | exact (Kd.R_reads' HO548.out).2.2 | (with_reducible refine Kd.C_alloc ?_ _) | (with_reducible refine Kd.C_drewN ?_ _) | (with_reducible refine Kd.C_drew ?_))); (case aB => exact (by repeat (first | (with_reducible first | exact HB.out | apply below_alloc | apply pw_below_drewN | apply below_drew1) | exact HB.out))); (case aF => exact (fun k_ hk => Kd.fresh' (Kd.R_lt (by (with_reducible repeat (first | apply Kd.R_alloc | apply Kd.R_drewN | apply Kd.R_drew)); exact HO548.out)) k_ hk)); (case aO => exact (by (with_reducible repeat (first | apply Kd.R_alloc | apply Kd.R_drewN | apply Kd.R_drew)); exact HO557.out)); (case aS => exact (below_size (by repeat (first | (with_reducible first | exact HB.out | apply below_alloc | apply pw_below_drewN | apply below_drew1) | exact HB.out)))); (case aL => have := LMc14.out; omega); intro v559 w23 ho hb hg hat; rw [← Ny558.out] at ho; have n0_ := Aside0.mk (Kd.R_after (ok := (fun _ => True)) (by (with_reducible repeat (first | apply Kd.R_alloc | apply Kd.R_drewN | apply Kd.R_drew)); exact HO548.out) hg hat); have n1_ := Aside0.mk (Kd.R_over' (by (with_reducible repeat (first | apply Kd.R_alloc | apply Kd.R_drewN | apply Kd.R_drew)); exact HO551.out) (Kd.R_typed (by (with_reducible repeat (first | apply Kd.R_alloc | apply Kd.R_drewN | apply Kd.R_drew)); exact HO557.out)) (by decide) hg); have n2_ := Aside0.mk (Kd.R_over' (by (with_reducible repeat (first | apply Kd.R_alloc | apply Kd.R_drewN | apply Kd.R_drew)); exact HO554.out) (Kd.R_typed (by (with_reducible repeat (first | apply Kd.R_alloc | apply Kd.R_drewN | apply Kd.R_drew)); exact HO557.out)) (by decide) hg); have n3_ := Aside0.mk (hb); have n4_ := Aside0.mk (ho); clear HO548; clear HO551; clear HO554; clear HB; clear HO557; have HO548 := n0_; have HO551 := n1_; have HO554 := n2_; have HB := n3_; have HO560 := n4_; clear n0_ n1_ n2_ n3_ n4_; clear ho hb hg hat; obtain ⟨Ao24, co24, eo24⟩ := Kd.R_slice HO560.out; subst eo24) | (go_at_call 12; (with_reducible refine (sorts_Ranks.calls kj3 _ _ y558 t561 _ ?side1 ?side2 A15.out).mono ?_); (case side1 => repeat (first | exact (Kd.R_reads' HO560.out).2.2 | (with_reducible refine Kd.C_alloc ?_ _) | (with_reducible refine Kd.C_drewN ?_ _) | (with_reducible refine Kd.C_drew ?_))); (case side2 => exact (Kd.R_reads' HO560.out).2.1); rintro e w25 ⟨v562, rfl, ho0, hb⟩; have n0_ := Aside0.mk (Kd.R_below (by (with_reducible repeat (first | apply Kd.R_alloc | apply Kd.R_drewN | apply Kd.R_drew)); exact HO548.out) hb); have n1_ := Aside0.mk (Kd.R_elder' (by (with_reducible repeat (first | apply Kd.R_alloc | apply Kd.R_drewN | apply Kd.R_drew)); exact HO551.out) (Kd.R_base ho0) hb); have n2_ := Aside0.mk (Kd.R_elder' (by (with_reducible repeat (first | apply Kd.R_alloc | apply Kd.R_drewN | apply Kd.R_drew)); exact HO554.out) (Kd.R_base ho0) hb); have n3_ := Aside0.mk (Kd.R_below (by (with_reducible repeat (first | apply Kd.R_alloc | apply Kd.R_drewN | apply Kd.R_drew)); exact HO560.out) hb); have n4_ := Aside0.mk (Kd.R_lower (Kd.R_new' (Kd.R_new' ho0 (Kd.R_lt (by (with_reducible repeat (first | apply Kd.R_alloc | apply Kd.R_drewN | apply Kd.R_drew)); exact HO551.out))) (Kd.R_lt (by (with_reducible repeat (first | apply Kd.R_alloc | apply Kd.R_drewN | apply Kd.R_drew)); exact HO554.out))) (below_size (by repeat (first | (with_reducible first | exact HB.out | apply below_alloc | apply pw_below_drewN | apply below_drew1) | exact HB.out)))); have n5_ := Aside0.mk (below_step (by repeat (first | (with_reducible first | exact HB.out | apply below_alloc | apply pw_below_drewN | apply below_drew1) | exact HB.out)) hb); clear HO548; clear HO551; clear HO554; clear HO560; clear HB; have HO548 := n0_; have HO551 := n1_; have HO554 := n2_; have HO560 := n3_; have HO563 := n4_; have HB := n5_; clear n0_ n1_ n2_ n3_ n4_ n5_; (try clear hb); (try clear hb2); (try clear hk); (try clear hi); (try clear ho0)))
                repeat (go_quiet (first | ((with_reducible refine gate_builtin (b := .append) (xs := #[.tmp 23, .tmp 24]) rfl ?_); (try (refine gate_guard (by rfl) ?_; dsimp only)); at_builtin; refine Kd.R_append_rows k28 (w0 := w) w.heap.size rfl (.tmp 23) (.tmp 24) 22 28 (.agg #[(.int .i64 0), (.int .i64 0)]) 16 rfl Try.underlying22 info28 rfl (by decide) (by omega) (.slice none 0 0) ([] : List (S28)) l0 _ _ _ (fun _ => True) (fun _ => False) rfl rfl ?aO ?aR (fun _ _ h => h) (fun _ h => h.elim) ?aF ?aB ?aS ?aL ?_; (case aR => repeat (first | exact (Kd.C_below HR0.out HB.out) | (with_reducible refine Kd.C_alloc ?_ _) | (with_reducible refine Kd.C_drewN ?_ _) | (with_reducible refine Kd.C_drew ?_))); (case aB => exact (by repeat (first | (with_reducible first | exact HB.out | apply below_alloc | apply pw_below_drewN | apply below_drew1) | exact HB.out))); (case aF => exact (fun _ _ => trivial)); (case aO => exact ((Kd.R_nil _ _ _ _ (fun _ => True)))); (case aS => exact (below_size (by repeat (first | (with_reducible first | exact HB.out | apply below_alloc | apply pw_below_drewN | apply below_drew1) | exact HB.out)))); (case aL => have := LMc9.out; omega); intro v544 w17 ho hb hg hat; rw [← Ny543.out] at ho; have n0_ := Aside0.mk (hb); have n1_ := Aside0.mk (ho); clear HB; have HB := n0_; have HO545 := n1_; clear n0_ n1_; clear ho hb hg hat) | ((with_reducible refine gate_builtin (b := .append) (xs := #[.tmp 26, .tmp 27]) rfl ?_); (try (refine gate_guard (by rfl) ?_; dsimp only)); at_builtin; refine Kd.R_append_rows k28 (w0 := w) w.heap.size rfl (.tmp 26) (.tmp 27) 22 28 (.agg #[(.int .i64 0), (.int .i64 0)]) 16 rfl Try.underlying22 info28 rfl (by decide) (by omega) v544 y543 l1 _ _ _ (fun _ => True) (fun _ => False) rfl rfl ?aO ?aR (fun _ _ h => h) (fun _ h => h.elim) ?aF ?aB ?aS ?aL ?_; (case aR => repeat (first | exact (Kd.C_below HR1.out HB.out) | (with_reducible refine Kd.C_alloc ?_ _) | (with_reducible refine Kd.C_drewN ?_ _) | (with_reducible refine Kd.C_drew ?_))); (case aB => exact (by repeat (first | (with_reducible first | exact HB.out | apply below_alloc | apply pw_below_drewN | apply below_drew1) | exact HB.out))); (case aF => exact (fun _ _ => trivial)); (case aO => exact (by (with_reducible repeat (first | apply Kd.R_alloc | apply Kd.R_drewN | apply Kd.R_drew)); exact HO545.out)); (case aS => exact (below_size (by repeat (first | (with_reducible first | exact HB.out | apply below_alloc | apply pw_below_drewN | apply below_drew1) | exact HB.out)))); (case aL => have := LMc10.out; omega); intro v547 w18 ho hb hg hat; rw [← Ny546.out] at ho; have n0_ := Aside0.mk (hb); have n1_ := Aside0.mk (ho); clear HB; clear HO545; have HB := n0_; have HO548 := n1_; clear n0_ n1_; clear ho hb hg hat; obtain ⟨Ao19, co19, eo19⟩ := Kd.R_slice HO548.out; subst eo19) | (go_at_call 11; (with_reducible refine (sorts_Order.calls kj3 _ _ y546 t549 _ ?side1 ?side2 A11.out).mono ?_); (case side1 => repeat (first | exact (Kd.R_reads' HO548.out).2.2 | (with_reducible refine Kd.C_alloc ?_ _) | (with_reducible refine Kd.C_drewN ?_ _) | (with_reducible refine Kd.C_drew ?_))); (case side2 => exact (Kd.R_reads' HO548.out).2.1); rintro e w20 ⟨v550, rfl, ho0, hb⟩; have n0_ := Aside0.mk (Kd.R_below (by (with_reducible repeat (first | apply Kd.R_alloc | apply Kd.R_drewN | apply Kd.R_drew)); exact HO548.out) hb); have n1_ := Aside0.mk (Kd.R_lower ho0 (below_size (by repeat (first | (with_reducible first | exact HB.out | apply below_alloc | apply pw_below_drewN | apply below_drew1) | exact HB.out)))); have n2_ := Aside0.mk (below_step (by repeat (first | (with_reducible first | exact HB.out | apply below_alloc | apply pw_below_drewN | apply below_drew1) | exact HB.out)) hb); clear HO548; clear HB; have HO548 := n0_; have HO551 := n1_; have HB := n2_; clear n0_ n1_ n2_; (try clear hb); (try clear hb2); (try clear hk); (try clear hi); (try clear ho0)) | (go_at_call 12; (with_reducible refine (sorts_Ranks.calls kj3 _ _ y546 t552 _ ?side1 ?side2 A12.out).mono ?_); (case side1 => repeat (first | exact (Kd.R_reads' HO548.out).2.2 | (with_reducible refine Kd.C_alloc ?_ _) | (with_reducible refine Kd.C_drewN ?_ _) | (with_reducible refine Kd.C_drew ?_))); (case side2 => exact (Kd.R_reads' HO548.out).2.1); rintro e w21 ⟨v553, rfl, ho0, hb⟩; have n0_ := Aside0.mk (Kd.R_below (by (with_reducible repeat (first | apply Kd.R_alloc | apply Kd.R_drewN | apply Kd.R_drew)); exact HO548.out) hb); have n1_ := Aside0.mk (Kd.R_elder' (by (with_reducible repeat (first | apply Kd.R_alloc | apply Kd.R_drewN | apply Kd.R_drew)); exact HO551.out) (Kd.R_base ho0) hb); have n2_ := Aside0.mk (Kd.R_lower (Kd.R_new' ho0 (Kd.R_lt (by (with_reducible repeat (first | apply Kd.R_alloc | apply Kd.R_drewN | apply Kd.R_drew)); exact HO551.out))) (below_size (by repeat (first | (with_reducible first | exact HB.out | apply below_alloc | apply pw_below_drewN | apply below_drew1) | exact HB.out)))); have n3_ := Aside0.mk (below_step (by repeat (first | (with_reducible first | exact HB.out | apply below_alloc | apply pw_below_drewN | apply below_drew1) | exact HB.out)) hb); clear HO548; clear HO551; clear HB; have HO548 := n0_; have HO551 := n1_; have HO554 := n2_; have HB := n3_; clear n0_ n1_ n2_ n3_; (try clear hb); (try clear hb2); (try clear hk); (try clear hi); (try clear ho0)) | ((with_reducible refine gate_builtin (b := .append) (xs := #[.tmp 33, .tmp 34]) rfl ?_); (try (refine gate_guard (by rfl) ?_; dsimp only)); at_builtin; refine Kd.R_append_rows k28 (w0 := w) w.heap.size rfl (.tmp 33) (.tmp 34) 22 28 (.agg #[(.int .i64 0), (.int .i64 0)]) 16 rfl Try.underlying22 info28 rfl (by decide) (by omega) (.slice none 0 0) ([] : List (S28)) y546 _ _ _ (fun k_ => some k_ ≠ (.slice Ao19 y546.length co19 : Value).ownBlock) (fun _ => False) rfl rfl ?aO ?aR (fun _ _ h => h) (fun _ h => h.elim) ?aF ?aB ?aS ?aL ?_; (case aR => repeat (first | exact (Kd.R_reads' HO548.out).2.2 | (with_reducible refine Kd.C_alloc ?_ _) | (with_reducible refine Kd.C_drewN ?_ _) | (with_reducible refine Kd.C_drew ?_))); (case aB => exact (by repeat (first | (with_reducible first | exact HB.out | apply below_alloc | apply pw_below_drewN | apply below_drew1) | exact HB.out))); (case aF => exact (fun k_ hk => Kd.fresh' (Kd.R_lt (by (with_reducible repeat (first | apply Kd.R_alloc | apply Kd.R_drewN | apply Kd.R_drew)); exact HO548.out)) k_ hk)); (case aO => exact ((Kd.R_nil _ _ _ _ (fun k_ => some k_ ≠ (.slice Ao19 y546.length co19 : Value).ownBlock)))); (case aS => exact (below_size (by repeat (first | (with_reducible first | exact HB.out | apply below_alloc | apply pw_below_drewN | apply below_drew1) | exact HB.out)))); (case aL => have := LMc13.out; omega); intro v556 w22 ho hb hg hat; rw [← Ny555.out] at ho; have n0_ := Aside0.mk (Kd.R_after (Kd.R_apart_nil (by (with_reducible repeat (first | apply Kd.R_alloc | apply Kd.R_drewN | apply Kd.R_drew)); exact HO548.out)) hg hat); have n1_ := Aside0.mk (Kd.R_grown (by (with_reducible repeat (first | apply Kd.R_alloc | apply Kd.R_drewN | apply Kd.R_drew)); exact HO551.out) hg (fun _ _ => by simp [Value.ownBlock])); have n2_ := Aside0.mk (Kd.R_grown (by (with_reducible repeat (first | apply Kd.R_alloc | apply Kd.R_drewN | apply Kd.R_drew)); exact HO554.out) hg (fun _ _ => by simp [Value.ownBlock])); have n3_ := Aside0.mk (hb); have n4_ := Aside0.mk (ho); clear HO548; clear HO551; clear HO554; clear HB; have HO548 := n0_; have HO551 := n1_; have HO554 := n2_; have HB := n3_; have HO557 := n4_; clear n0_ n1_ n2_ n3_ n4_; clear ho hb hg hat) | ((with_reducible refine gate_builtin (b := .append) (xs := #[.tmp 36, .tmp 37]) rfl ?_); (try (refine gate_guard (by rfl) ?_; dsimp only)); at_builtin; refine Kd.R_append_rows k28 (w0 := w) w.heap.size rfl (.tmp 36) (.tmp 37) 22 28 (.agg #[(.int .i64 0), (.int .i64 0)]) 16 rfl Try.underlying22 info28 rfl (by decide) (by omega) v556 y555 y546 _ _ _ (fun k_ => some k_ ≠ (.slice Ao19 y546.length co19 : Value).ownBlock) (fun _ => False) rfl rfl ?aO ?aR (fun _ _ h => h) (fun _ h => h.elim) ?aF ?aB ?aS ?aL ?_; (case aR => repeat (first | exact (Kd.R_reads' HO548.out).2.2 | (with_reducible refine Kd.C_alloc ?_ _) | (with_reducible refine Kd.C_drewN ?_ _) | (with_reducible refine Kd.C_drew ?_))); (case aB => exact (by repeat (first | (with_reducible first | exact HB.out | apply below_alloc | apply pw_below_drewN | apply below_drew1) | exact HB.out))); (case aF => exact (fun k_ hk => Kd.fresh' (Kd.R_lt (by (with_reducible repeat (first | apply Kd.R_alloc | apply Kd.R_drewN | apply Kd.R_drew)); exact HO548.out)) k_ hk)); (case aO => exact (by (with_reducible repeat (first | apply Kd.R_alloc | apply Kd.R_drewN | apply Kd.R_drew)); exact HO557.out)); (case aS => exact (below_size (by repeat (first | (with_reducible first | exact HB.out | apply below_alloc | apply pw_below_drewN | apply below_drew1) | exact HB.out)))); (case aL => have := LMc14.out; omega); intro v559 w23 ho hb hg hat; rw [← Ny558.out] at ho; have n0_ := Aside0.mk (Kd.R_after (ok := (fun _ => True)) (by (with_reducible repeat (first | apply Kd.R_alloc | apply Kd.R_drewN | apply Kd.R_drew)); exact HO548.out) hg hat); have n1_ := Aside0.mk (Kd.R_over' (by (with_reducible repeat (first | apply Kd.R_alloc | apply Kd.R_drewN | apply Kd.R_drew)); exact HO551.out) (Kd.R_typed (by (with_reducible repeat (first | apply Kd.R_alloc | apply Kd.R_drewN | apply Kd.R_drew)); exact HO557.out)) (by decide) hg); have n2_ := Aside0.mk (Kd.R_over' (by (with_reducible repeat (first | apply Kd.R_alloc | apply Kd.R_drewN | apply Kd.R_drew)); exact HO554.out) (Kd.R_typed (by (with_reducible repeat (first | apply Kd.R_alloc | apply Kd.R_drewN | apply Kd.R_drew)); exact HO557.out)) (by decide) hg); have n3_ := Aside0.mk (hb); have n4_ := Aside0.mk (ho); clear HO548; clear HO551; clear HO554; clear HB; clear HO557; have HO548 := n0_; have HO551 := n1_; have HO554 := n2_; have HB := n3_; have HO560 := n4_; clear n0_ n1_ n2_ n3_ n4_; clear ho hb hg hat; obtain ⟨Ao24, co24, eo24⟩ := Kd.R_slice HO560.out; subst eo24) | (go_at_call 12; (with_reducible refine (sorts_Ranks.calls kj3 _ _ y558 t561 _ ?side1 ?side2 A15.out).mono ?_); (case side1 => repeat (first | exact (Kd.R_reads' HO560.out).2.2 | (with_reducible refine Kd.C_alloc ?_ _) | (with_reducible refine Kd.C_drewN ?_ _) | (with_reducible refine Kd.C_drew ?_))); (case side2 => exact (Kd.R_reads' HO560.out).2.1); rintro e w25 ⟨v562, rfl, ho0, hb⟩; have n0_ := Aside0.mk (Kd.R_below (by (with_reducible repeat (first | apply Kd.R_alloc | apply Kd.R_drewN | apply Kd.R_drew)); exact HO548.out) hb); have n1_ := Aside0.mk (Kd.R_elder' (by (with_reducible repeat (first | apply Kd.R_alloc | apply Kd.R_drewN | apply Kd.R_drew)); exact HO551.out) (Kd.R_base ho0) hb); have n2_ := Aside0.mk (Kd.R_elder' (by (with_reducible repeat (first | apply Kd.R_alloc | apply Kd.R_drewN | apply Kd.R_drew)); exact HO554.out) (Kd.R_base ho0) hb); have n3_ := Aside0.mk (Kd.R_below (by (with_reducible repeat (first | apply Kd.R_alloc | apply Kd.R_drewN | apply Kd.R_drew)); exact HO560.out) hb); have n4_ := Aside0.mk (Kd.R_lower (Kd.R_new' (Kd.R_new' ho0 (Kd.R_lt (by (with_reducible repeat (first | apply Kd.R_alloc | apply Kd.R_drewN | apply Kd.R_drew)); exact HO551.out))) (Kd.R_lt (by (with_reducible repeat (first | apply Kd.R_alloc | apply Kd.R_drewN | apply Kd.R_drew)); exact HO554.out))) (below_size (by repeat (first | (with_reducible first | exact HB.out | apply below_alloc | apply pw_below_drewN | apply below_drew1) | exact HB.out)))); have n5_ := Aside0.mk (below_step (by repeat (first | (with_reducible first | exact HB.out | apply below_alloc | apply pw_below_drewN | apply below_drew1) | exact HB.out)) hb); clear HO548; clear HO551; clear HO554; clear HO560; clear HB; have HO548 := n0_; have HO551 := n1_; have HO554 := n2_; have HO560 := n3_; have HO563 := n4_; have HB := n5_; clear n0_ n1_ n2_ n3_ n4_ n5_; (try clear hb); (try clear hb2); (try clear hk); (try clear hi); (try clear ho0))); go_upto_region 12 with (first | ((with_reducible refine gate_builtin (b := .append) (xs := #[.tmp 23, .tmp 24]) rfl ?_); (try (refine gate_guard (by rfl) ?_; dsimp only)); at_builtin; refine Kd.R_append_rows k28 (w0 := w) w.heap.size rfl (.tmp 23) (.tmp 24) 22 28 (.agg #[(.int .i64 0), (.int .i64 0)]) 16 rfl Try.underlying22 info28 rfl (by decide) (by omega) (.slice none 0 0) ([] : List (S28)) l0 _ _ _ (fun _ => True) (fun _ => False) rfl rfl ?aO ?aR (fun _ _ h => h) (fun _ h => h.elim) ?aF ?aB ?aS ?aL ?_; (case aR => repeat (first | exact (Kd.C_below HR0.out HB.out) | (with_reducible refine Kd.C_alloc ?_ _) | (with_reducible refine Kd.C_drewN ?_ _) | (with_reducible refine Kd.C_drew ?_))); (case aB => exact (by repeat (first | (with_reducible first | exact HB.out | apply below_alloc | apply pw_below_drewN | apply below_drew1) | exact HB.out))); (case aF => exact (fun _ _ => trivial)); (case aO => exact ((Kd.R_nil _ _ _ _ (fun _ => True)))); (case aS => exact (below_size (by repeat (first | (with_reducible first | exact HB.out | apply below_alloc | apply pw_below_drewN | apply below_drew1) | exact HB.out)))); (case aL => have := LMc9.out; omega); intro v544 w17 ho hb hg hat; rw [← Ny543.out] at ho; have n0_ := Aside0.mk (hb); have n1_ := Aside0.mk (ho); clear HB; have HB := n0_; have HO545 := n1_; clear n0_ n1_; clear ho hb hg hat) | ((with_reducible refine gate_builtin (b := .append) (xs := #[.tmp 26, .tmp 27]) rfl ?_); (try (refine gate_guard (by rfl) ?_; dsimp only)); at_builtin; refine Kd.R_append_rows k28 (w0 := w) w.heap.size rfl (.tmp 26) (.tmp 27) 22 28 (.agg #[(.int .i64 0), (.int .i64 0)]) 16 rfl Try.underlying22 info28 rfl (by decide) (by omega) v544 y543 l1 _ _ _ (fun _ => True) (fun _ => False) rfl rfl ?aO ?aR (fun _ _ h => h) (fun _ h => h.elim) ?aF ?aB ?aS ?aL ?_; (case aR => repeat (first | exact (Kd.C_below HR1.out HB.out) | (with_reducible refine Kd.C_alloc ?_ _) | (with_reducible refine Kd.C_drewN ?_ _) | (with_reducible refine Kd.C_drew ?_))); (case aB => exact (by repeat (first | (with_reducible first | exact HB.out | apply below_alloc | apply pw_below_drewN | apply below_drew1) | exact HB.out))); (case aF => exact (fun _ _ => trivial)); (case aO => exact (by (with_reducible repeat (first | apply Kd.R_alloc | apply Kd.R_drewN | apply Kd.R_drew)); exact HO545.out)); (case aS => exact (below_size (by repeat (first | (with_reducible first | exact HB.out | apply below_alloc | apply pw_below_drewN | apply below_drew1) | exact HB.out)))); (case aL => have := LMc10.out; omega); intro v547 w18 ho hb hg hat; rw [← Ny546.out] at ho; have n0_ := Aside0.mk (hb); have n1_ := Aside0.mk (ho); clear HB; clear HO545; have HB := n0_; have HO548 := n1_; clear n0_ n1_; clear ho hb hg hat; obtain ⟨Ao19, co19, eo19⟩ := Kd.R_slice HO548.out; subst eo19) | (go_at_call 11; (with_reducible refine (sorts_Order.calls kj3 _ _ y546 t549 _ ?side1 ?side2 A11.out).mono ?_); (case side1 => repeat (first | exact (Kd.R_reads' HO548.out).2.2 | (with_reducible refine Kd.C_alloc ?_ _) | (with_reducible refine Kd.C_drewN ?_ _) | (with_reducible refine Kd.C_drew ?_))); (case side2 => exact (Kd.R_reads' HO548.out).2.1); rintro e w20 ⟨v550, rfl, ho0, hb⟩; have n0_ := Aside0.mk (Kd.R_below (by (with_reducible repeat (first | apply Kd.R_alloc | apply Kd.R_drewN | apply Kd.R_drew)); exact HO548.out) hb); have n1_ := Aside0.mk (Kd.R_lower ho0 (below_size (by repeat (first | (with_reducible first | exact HB.out | apply below_alloc | apply pw_below_drewN | apply below_drew1) | exact HB.out)))); have n2_ := Aside0.mk (below_step (by repeat (first | (with_reducible first | exact HB.out | apply below_alloc | apply pw_below_drewN | apply below_drew1) | exact HB.out)) hb); clear HO548; clear HB; have HO548 := n0_; have HO551 := n1_; have HB := n2_; clear n0_ n1_ n2_; (try clear hb); (try clear hb2); (try clear hk); (try clear hi); (try clear ho0)) | (go_at_call 12; (with_reducible refine (sorts_Ranks.calls kj3 _ _ y546 t552 _ ?side1 ?side2 A12.out).mono ?_); (case side1 => repeat (first | exact (Kd.R_reads' HO548.out).2.2 | (with_reducible refine Kd.C_alloc ?_ _) | (with_reducible refine Kd.C_drewN ?_ _) | (with_reducible refine Kd.C_drew ?_))); (case side2 => exact (Kd.R_reads' HO548.out).2.1); rintro e w21 ⟨v553, rfl, ho0, hb⟩; have n0_ := Aside0.mk (Kd.R_below (by (with_reducible repeat (first | apply Kd.R_alloc | apply Kd.R_drewN | apply Kd.R_drew)); exact HO548.out) hb); have n1_ := Aside0.mk (Kd.R_elder' (by (with_reducible repeat (first | apply Kd.R_alloc | apply Kd.R_drewN | apply Kd.R_drew)); exact HO551.out) (Kd.R_base ho0) hb); have n2_ := Aside0.mk (Kd.R_lower (Kd.R_new' ho0 (Kd.R_lt (by (with_reducible repeat (first | apply Kd.R_alloc | apply Kd.R_drewN | apply Kd.R_drew)); exact HO551.out))) (below_size (by repeat (first | (with_reducible first | exact HB.out | apply below_alloc | apply pw_below_drewN | apply below_drew1) | exact HB.out)))); have n3_ := Aside0.mk (below_step (by repeat (first | (with_reducible first | exact HB.out | apply below_alloc | apply pw_below_drewN | apply below_drew1) | exact HB.out)) hb); clear HO548; clear HO551; clear HB; have HO548 := n0_; have HO551 := n1_; have HO554 := n2_; have HB := n3_; clear n0_ n1_ n2_ n3_; (try clear hb); (try clear hb2); (try clear hk); (try clear hi); (try clear ho0)) | ((with_reducible refine gate_builtin (b := .append) (xs := #[.tmp 33, .tmp 34]) rfl ?_); (try (refine gate_guard (by rfl) ?_; dsimp only)); at_builtin; refine Kd.R_append_rows k28 (w0 := w) w.heap.size rfl (.tmp 33) (.tmp 34) 22 28 (.agg #[(.int .i64 0), (.int .i64 0)]) 16 rfl Try.underlying22 info28 rfl (by decide) (by omega) (.slice none 0 0) ([] : List (S28)) y546 _ _ _ (fun k_ => some k_ ≠ (.slice Ao19 y546.length co19 : Value).ownBlock) (fun _ => False) rfl rfl ?aO ?aR (fun _ _ h => h) (fun _ h => h.elim) ?aF ?aB ?aS ?aL ?_; (case aR => repeat (first | exact (Kd.R_reads' HO548.out).2.2 | (with_reducible refine Kd.C_alloc ?_ _) | (with_reducible refine Kd.C_drewN ?_ _) | (with_reducible refine Kd.C_drew ?_))); (case aB => exact (by repeat (first | (with_reducible first | exact HB.out | apply below_alloc | apply pw_below_drewN | apply below_drew1) | exact HB.out))); (case aF => exact (fun k_ hk => Kd.fresh' (Kd.R_lt (by (with_reducible repeat (first | apply Kd.R_alloc | apply Kd.R_drewN | apply Kd.R_drew)); exact HO548.out)) k_ hk)); (case aO => exact ((Kd.R_nil _ _ _ _ (fun k_ => some k_ ≠ (.slice Ao19 y546.length co19 : Value).ownBlock)))); (case aS => exact (below_size (by repeat (first | (with_reducible first | exact HB.out | apply below_alloc | apply pw_below_drewN | apply below_drew1) | exact HB.out)))); (case aL => have := LMc13.out; omega); intro v556 w22 ho hb hg hat; rw [← Ny555.out] at ho; have n0_ := Aside0.mk (Kd.R_after (Kd.R_apart_nil (by (with_reducible repeat (first | apply Kd.R_alloc | apply Kd.R_drewN | apply Kd.R_drew)); exact HO548.out)) hg hat); have n1_ := Aside0.mk (Kd.R_grown (by (with_reducible repeat (first | apply Kd.R_alloc | apply Kd.R_drewN | apply Kd.R_drew)); exact HO551.out) hg (fun _ _ => by simp [Value.ownBlock])); have n2_ := Aside0.mk (Kd.R_grown (by (with_reducible repeat (first | apply Kd.R_alloc | apply Kd.R_drewN | apply Kd.R_drew)); exact HO554.out) hg (fun _ _ => by simp [Value.ownBlock])); have n3_ := Aside0.mk (hb); have n4_ := Aside0.mk (ho); clear HO548; clear HO551; clear HO554; clear HB; have HO548 := n0_; have HO551 := n1_; have HO554 := n2_; have HB := n3_; have HO557 := n4_; clear n0_ n1_ n2_ n3_ n4_; clear ho hb hg hat) | ((with_reducible refine gate_builtin (b := .append) (xs := #[.tmp 36, .tmp 37]) rfl ?_); (try (refine gate_guard (by rfl) ?_; dsimp only)); at_builtin; refine Kd.R_append_rows k28 (w0 := w) w.heap.size rfl (.tmp 36) (.tmp 37) 22 28 (.agg #[(.int .i64 0), (.int .i64 0)]) 16 rfl Try.underlying22 info28 rfl (by decide) (by omega) v556 y555 y546 _ _ _ (fun k_ => some k_ ≠ (.slice Ao19 y546.length co19 : Value).ownBlock) (fun _ => False) rfl rfl ?aO ?aR (fun _ _ h => h) (fun _ h => h.elim) ?aF ?aB ?aS ?aL ?_; (case aR => repeat (first | exact (Kd.R_reads' HO548.out).2.2 | (with_reducible refine Kd.C_alloc ?_ _) | (with_reducible refine Kd.C_drewN ?_ _) | (with_reducible refine Kd.C_drew ?_))); (case aB => exact (by repeat (first | (with_reducible first | exact HB.out | apply below_alloc | apply pw_below_drewN | apply below_drew1) | exact HB.out))); (case aF => exact (fun k_ hk => Kd.fresh' (Kd.R_lt (by (with_reducible repeat (first | apply Kd.R_alloc | apply Kd.R_drewN | apply Kd.R_drew)); exact HO548.out)) k_ hk)); (case aO => exact (by (with_reducible repeat (first | apply Kd.R_alloc | apply Kd.R_drewN | apply Kd.R_drew)); exact HO557.out)); (case aS => exact (below_size (by repeat (first | (with_reducible first | exact HB.out | apply below_alloc | apply pw_below_drewN | apply below_drew1) | exact HB.out)))); (case aL => have := LMc14.out; omega); intro v559 w23 ho hb hg hat; rw [← Ny558.out] at ho; have n0_ := Aside0.mk (Kd.R_after (ok := (fun _ => True)) (by (with_reducible repeat (first | apply Kd.R_alloc | apply Kd.R_drewN | apply Kd.R_drew)); exact HO548.out) hg hat); have n1_ := Aside0.mk (Kd.R_over' (by (with_reducible repeat (first | apply Kd.R_alloc | apply Kd.R_drewN | apply Kd.R_drew)); exact HO551.out) (Kd.R_typed (by (with_reducible repeat (first | apply Kd.R_alloc | apply Kd.R_drewN | apply Kd.R_drew)); exact HO557.out)) (by decide) hg); have n2_ := Aside0.mk (Kd.R_over' (by (with_reducible repeat (first | apply Kd.R_alloc | apply Kd.R_drewN | apply Kd.R_drew)); exact HO554.out) (Kd.R_typed (by (with_reducible repeat (first | apply Kd.R_alloc | apply Kd.R_drewN | apply Kd.R_drew)); exact HO557.out)) (by decide) hg); have n3_ := Aside0.mk (hb); have n4_ := Aside0.mk (ho); clear HO548; clear HO551; clear HO554; clear HB; clear HO557; have HO548 := n0_; have HO551 := n1_; have HO554 := n2_; have HB := n3_; have HO560 := n4_; clear n0_ n1_ n2_ n3_ n4_; clear ho hb hg hat; obtain ⟨Ao24, co24, eo24⟩ := Kd.R_slice HO560.out; subst eo24) | (go_at_call 12; (with_reducible refine (sorts_Ranks.calls kj3 _ _ y558 t561 _ ?side1 ?side2 A15.out).mono ?_); (case side1 => repeat (first | exact (Kd.R_reads' HO560.out).2.2 | (with_reducible refine Kd.C_alloc ?_ _) | (with_reducible refine Kd.C_drewN ?_ _) | (with_reducible refine Kd.C_drew ?_))); (case side2 => exact (Kd.R_reads' HO560.out).2.1); rintro e w25 ⟨v562, rfl, ho0, hb⟩; have n0_ := Aside0.mk (Kd.R_below (by (with_reducible repeat (first | apply Kd.R_alloc | apply Kd.R_drewN | apply Kd.R_drew)); exact HO548.out) hb); have n1_ := Aside0.mk (Kd.R_elder' (by (with_reducible repeat (first | apply Kd.R_alloc | apply Kd.R_drewN | apply Kd.R_drew)); exact HO551.out) (Kd.R_base ho0) hb); have n2_ := Aside0.mk (Kd.R_elder' (by (with_reducible repeat (first | apply Kd.R_alloc | apply Kd.R_drewN | apply Kd.R_drew)); exact HO554.out) (Kd.R_base ho0) hb); have n3_ := Aside0.mk (Kd.R_below (by (with_reducible repeat (first | apply Kd.R_alloc | apply Kd.R_drewN | apply Kd.R_drew)); exact HO560.out) hb); have n4_ := Aside0.mk (Kd.R_lower (Kd.R_new' (Kd.R_new' ho0 (Kd.R_lt (by (with_reducible repeat (first | apply Kd.R_alloc | apply Kd.R_drewN | apply Kd.R_drew)); exact HO551.out))) (Kd.R_lt (by (with_reducible repeat (first | apply Kd.R_alloc | apply Kd.R_drewN | apply Kd.R_drew)); exact HO554.out))) (below_size (by repeat (first | (with_reducible first | exact HB.out | apply below_alloc | apply pw_below_drewN | apply below_drew1) | exact HB.out)))); have n5_ := Aside0.mk (below_step (by repeat (first | (with_reducible first | exact HB.out | apply below_alloc | apply pw_below_drewN | apply below_drew1) | exact HB.out)) hb); clear HO548; clear HO551; clear HO554; clear HO560; clear HB; have HO548 := n0_; have HO551 := n1_; have HO554 := n2_; have HO560 := n3_; have HO563 := n4_; have HB := n5_; clear n0_ n1_ n2_ n3_ n4_ n5_; (try clear hb); (try clear hb2); (try clear hk); (try clear hi); (try clear ho0))))
                have H := HU16.out
                clear HU16
                have HC26 := Aside0.mk H
                clear H
                go_upto_region 12 with (fail)
                repeat (go_quiet (fail); go_upto_region 12 with (fail))
                go_cut [60] (fun v60 wc => ∃ (kq : Nat) (x60_25 : Bool), v60 = .bool x60_25 ∧ Aside0 (parquetlaw07_SortsJoins.j1 kq l0 l1 y546 t549 t552 t561 x60_25 = some r) ∧ Aside0 (kq ≤ kj3) ∧ Aside0 (Kd.R k28 28 wc w.heap.size (fun _ => True) (.slice Ao19 y546.length co19) y546) ∧ Aside0 (Kd.R (Kd.int .i64) 3 wc w.heap.size (fun k_ => some k_ ≠ (v553 : Value).ownBlock ∧ some k_ ≠ (v562 : Value).ownBlock) v550 t549) ∧ Aside0 (Kd.R (Kd.int .i64) 3 wc w.heap.size (fun k_ => some k_ ≠ (v550 : Value).ownBlock ∧ some k_ ≠ (v562 : Value).ownBlock) v553 t552) ∧ Aside0 (Kd.R (Kd.int .i64) 3 wc w.heap.size (fun k_ => some k_ ≠ (v550 : Value).ownBlock ∧ some k_ ≠ (v553 : Value).ownBlock) v562 t561) ∧ Aside0 (Below w.heap.size w wc))
                case first =>
                  have H := HC26.out
                  clear HC26
                  by_cases c27 : (t549.length : Int) = (y546.length : Int)
                  · rw [if_pos c27] at H
                    have c27b0 : ((t549.length : Int) == (y546.length : Int)) = true := beq_iff_eq.mpr c27
                    have c27b1 : ((t549.length : Int) != (y546.length : Int)) = false := bne_eq_false_iff_eq.mpr c27
                    have c27b2 : (t549.length == y546.length) = true := by first | simpa using c27 | (simp at c27 ⊢; omega)
                    clear c27
                    (first | rw [c27b0] | (simp only [i64_w, i32_w]; rw [c27b0]) | skip)
                    by_cases c28 : (t552.length : Int) = (y546.length : Int)
                    · rw [if_pos c28] at H
                      have c28b0 : ((t552.length : Int) == (y546.length : Int)) = true := beq_iff_eq.mpr c28
                      have c28b1 : ((t552.length : Int) != (y546.length : Int)) = false := bne_eq_false_iff_eq.mpr c28
                      have c28b2 : (t552.length == y546.length) = true := by first | simpa using c28 | (simp at c28 ⊢; omega)
                      clear c28
                      have H' := Aside0.mk H
                      clear H
                      obtain ⟨Ao29, co29, eo29⟩ := Kd.R_slice HO551.out
                      subst eo29
                      obtain ⟨Ao30, co30, eo30⟩ := Kd.R_slice HO554.out
                      subst eo30
                      obtain ⟨Ao31, co31, eo31⟩ := Kd.R_slice HO563.out
                      subst eo31
                      go_wp2
                      repeat (go_quiet (fail); try go_wp2)
                      go_meet
                      case rel => exact ⟨_, (((t561.length : Int) != (wrap64 (2 * (y546.length : Int))))), (by first | rfl | (simp; done) | (simp [*]; done)), H', ⟨by have := HJ3.out; first | omega | exact Nat.le_refl _⟩, ⟨by (with_reducible repeat (first | apply Kd.R_alloc | apply Kd.R_drewN | apply Kd.R_drew)); exact Kd.R_mono HO548.out (fun _ hk => trivial)⟩, ⟨by (with_reducible repeat (first | apply Kd.R_alloc | apply Kd.R_drewN | apply Kd.R_drew)); exact Kd.R_mono HO551.out (fun _ hk => ⟨hk.1.2, hk.2⟩)⟩, ⟨by (with_reducible repeat (first | apply Kd.R_alloc | apply Kd.R_drewN | apply Kd.R_drew)); exact Kd.R_mono HO554.out (fun _ hk => ⟨hk.1.2, hk.2⟩)⟩, ⟨by (with_reducible repeat (first | apply Kd.R_alloc | apply Kd.R_drewN | apply Kd.R_drew)); exact Kd.R_mono HO563.out (fun _ hk => ⟨hk.1.2, hk.2⟩)⟩, ⟨by repeat (first | (with_reducible first | exact HB.out | apply below_alloc | apply pw_below_drewN | apply below_drew1) | exact HB.out)⟩⟩
                    · rw [if_neg c28] at H
                      have c28b0 : ((t552.length : Int) == (y546.length : Int)) = false := beq_eq_false_iff_ne.mpr c28
                      have c28b1 : ((t552.length : Int) != (y546.length : Int)) = true := bne_iff_ne.mpr c28
                      have c28b2 : (t552.length == y546.length) = false := by first | simpa using c28 | (simp at c28 ⊢; omega)
                      have H' := Aside0.mk H
                      clear H
                      obtain ⟨Ao32, co32, eo32⟩ := Kd.R_slice HO551.out
                      subst eo32
                      obtain ⟨Ao33, co33, eo33⟩ := Kd.R_slice HO554.out
                      subst eo33
                      go_wp2
                      repeat (go_quiet (fail); try go_wp2)
                      go_meet
                      case rel => exact ⟨_, (true), (by first | rfl | (simp; done) | (simp [*]; done)), H', ⟨by have := HJ3.out; first | omega | exact Nat.le_refl _⟩, ⟨by (with_reducible repeat (first | apply Kd.R_alloc | apply Kd.R_drewN | apply Kd.R_drew)); exact Kd.R_mono HO548.out (fun _ hk => trivial)⟩, ⟨by (with_reducible repeat (first | apply Kd.R_alloc | apply Kd.R_drewN | apply Kd.R_drew)); exact Kd.R_mono HO551.out (fun _ hk => ⟨hk.1.2, hk.2⟩)⟩, ⟨by (with_reducible repeat (first | apply Kd.R_alloc | apply Kd.R_drewN | apply Kd.R_drew)); exact Kd.R_mono HO554.out (fun _ hk => ⟨hk.1.2, hk.2⟩)⟩, ⟨by (with_reducible repeat (first | apply Kd.R_alloc | apply Kd.R_drewN | apply Kd.R_drew)); exact Kd.R_mono HO563.out (fun _ hk => ⟨hk.1.2, hk.2⟩)⟩, ⟨by repeat (first | (with_reducible first | exact HB.out | apply below_alloc | apply pw_below_drewN | apply below_drew1) | exact HB.out)⟩⟩
                  · rw [if_neg c27] at H
                    have c27b0 : ((t549.length : Int) == (y546.length : Int)) = false := beq_eq_false_iff_ne.mpr c27
                    have c27b1 : ((t549.length : Int) != (y546.length : Int)) = true := bne_iff_ne.mpr c27
                    have c27b2 : (t549.length == y546.length) = false := by first | simpa using c27 | (simp at c27 ⊢; omega)
                    (first | rw [c27b0] | (simp only [i64_w, i32_w]; rw [c27b0]) | skip)
                    have H' := Aside0.mk H
                    clear H
                    obtain ⟨Ao34, co34, eo34⟩ := Kd.R_slice HO551.out
                    subst eo34
                    go_wp2
                    repeat (go_quiet (fail); try go_wp2)
                    go_meet
                    case rel => exact ⟨_, (true), (by first | rfl | (simp; done) | (simp [*]; done)), H', ⟨by have := HJ3.out; first | omega | exact Nat.le_refl _⟩, ⟨by (with_reducible repeat (first | apply Kd.R_alloc | apply Kd.R_drewN | apply Kd.R_drew)); exact Kd.R_mono HO548.out (fun _ hk => trivial)⟩, ⟨by (with_reducible repeat (first | apply Kd.R_alloc | apply Kd.R_drewN | apply Kd.R_drew)); exact Kd.R_mono HO551.out (fun _ hk => ⟨hk.1.2, hk.2⟩)⟩, ⟨by (with_reducible repeat (first | apply Kd.R_alloc | apply Kd.R_drewN | apply Kd.R_drew)); exact Kd.R_mono HO554.out (fun _ hk => ⟨hk.1.2, hk.2⟩)⟩, ⟨by (with_reducible repeat (first | apply Kd.R_alloc | apply Kd.R_drewN | apply Kd.R_drew)); exact Kd.R_mono HO563.out (fun _ hk => ⟨hk.1.2, hk.2⟩)⟩, ⟨by repeat (first | (with_reducible first | exact HB.out | apply below_alloc | apply pw_below_drewN | apply below_drew1) | exact HB.out)⟩⟩
                case rest =>
                  clear HC26
                  (try clear c1); (try clear c2); (try clear p2); (try clear c5); (try clear c5b0); (try clear c5b1); (try clear c6); (try clear p6); (try clear c9); (try clear c10); (try clear c13); (try clear c14); (try clear c27); (try clear c27b0); (try clear c27b1); (try clear c27b2); (try clear c28); (try clear c28b0); (try clear c28b1); (try clear c28b2); (try clear p2)
                  obtain ⟨kq, x60_25, rfl, HA, HJ25, HO_5, HO_6, HO_7, HO_9, HB⟩ := hcut
                  cases kq with
                  | zero => exact absurd HA.out (by simp [parquetlaw07_SortsJoins.j1])
                  | succ kj25 =>
                    have H := HA.out
                    clear HA
                    simp only [parquetlaw07_SortsJoins.j1] at H
                    by_cases c35 : x60_25 = true
                    · subst c35
                      have H1 : (some false) = some r := by rw [if_pos rfl] at H; exact H
                      clear H
                      have H := H1
                      clear H1
                      obtain rfl := Option.some.inj H
                      exact absurd hT.out (by simp)
                    · replace c35 := Bool.eq_false_iff.mpr c35
                      subst c35
                      have H1 : ((api_Point_29.f kj25 l0 sorts_Less.f).bind fun t564 => ((api_Point_29.f kj25 l1 sorts_Less.f).bind fun t567 => ((api_Point_30.f kj25 t564 t567 sorts_Less.f).bind fun t570 => (if (t570.length : Int) = (y546.length : Int) then (parquetlaw07_SortsJoins.l0 kj25 y546 t549 t552 t561 t570 0) else (some false))))) = some r := by rw [if_neg (show ¬ (false = true) by decide)] at H; exact H
                      clear H
                      have H := H1
                      clear H1
                      replace H := Option.bind_eq_some_iff.mp H
                      obtain ⟨t564, A360, H⟩ := H
                      replace H : ((api_Point_29.f kj25 l1 sorts_Less.f).bind fun t567 => ((api_Point_30.f kj25 t564 t567 sorts_Less.f).bind fun t570 => (if (t570.length : Int) = (y546.length : Int) then (parquetlaw07_SortsJoins.l0 kj25 y546 t549 t552 t561 t570 0) else (some false)))) = some r := H
                      have A36 := Aside0.mk A360
                      clear A360
                      replace H := Option.bind_eq_some_iff.mp H
                      obtain ⟨t567, A370, H⟩ := H
                      replace H : ((api_Point_30.f kj25 t564 t567 sorts_Less.f).bind fun t570 => (if (t570.length : Int) = (y546.length : Int) then (parquetlaw07_SortsJoins.l0 kj25 y546 t549 t552 t561 t570 0) else (some false))) = some r := H
                      have A37 := Aside0.mk A370
                      clear A370
                      replace H := Option.bind_eq_some_iff.mp H
                      obtain ⟨t570, A380, H⟩ := H
                      replace H : (if (t570.length : Int) = (y546.length : Int) then (parquetlaw07_SortsJoins.l0 kj25 y546 t549 t552 t561 t570 0) else (some false)) = some r := H
                      have A38 := Aside0.mk A380
                      clear A380
                      by_cases c39 : (t570.length : Int) = (y546.length : Int)
                      · rw [if_pos c39] at H
                        have c39b0 : ((t570.length : Int) == (y546.length : Int)) = true := beq_iff_eq.mpr c39
                        have c39b1 : ((t570.length : Int) != (y546.length : Int)) = false := bne_eq_false_iff_eq.mpr c39
                        have c39b2 : (t570.length == y546.length) = true := by first | simpa using c39 | (simp at c39 ⊢; omega)
                        clear c39
                        have H' := Aside0.mk H
                        clear H
                        go_wp2_with (first | (go_at_call 29; (with_reducible refine (api_Point_29.calls kj25 _ _ l0 20 #[] #[] sorts_Less.f t564 _ ?side1 ?side2 ?side3 A36.out).mono ?_); (case side1 => repeat (first | exact (Kd.C_below HR0.out HB.out) | (with_reducible refine Kd.C_alloc ?_ _) | (with_reducible refine Kd.C_drewN ?_ _) | (with_reducible refine Kd.C_drew ?_))); (case side2 => exact HC0.out); (case side3 => exact ⟨fun as_ W => enters_ Try.func20 (by kernel_rfl) rfl as_ W, fun W _ => by intro y0_ y1_ y2_ y3_ y4_ ha_; exact (calls_of_args (by simp) (sorts_Less.calls y0_ y1_ y2_ y3_ y4_ W ha_))⟩); rintro e w40 ⟨v565, rfl, ho0, hb⟩; have n0_ := Aside0.mk (Kd.R_elder' (by (with_reducible repeat (first | apply Kd.R_alloc | apply Kd.R_drewN | apply Kd.R_drew)); exact HO_5.out) (Kd.R_base ho0) hb); have n1_ := Aside0.mk (Kd.R_below (by (with_reducible repeat (first | apply Kd.R_alloc | apply Kd.R_drewN | apply Kd.R_drew)); exact HO_6.out) hb); have n2_ := Aside0.mk (Kd.R_below (by (with_reducible repeat (first | apply Kd.R_alloc | apply Kd.R_drewN | apply Kd.R_drew)); exact HO_7.out) hb); have n3_ := Aside0.mk (Kd.R_below (by (with_reducible repeat (first | apply Kd.R_alloc | apply Kd.R_drewN | apply Kd.R_drew)); exact HO_9.out) hb); have n4_ := Aside0.mk (Kd.R_lower (Kd.R_new' ho0 (Kd.R_lt (by (with_reducible repeat (first | apply Kd.R_alloc | apply Kd.R_drewN | apply Kd.R_drew)); exact HO_5.out))) (below_size (by repeat (first | (with_reducible first | exact HB.out | apply below_alloc | apply pw_below_drewN | apply below_drew1) | exact HB.out)))); have n5_ := Aside0.mk (below_step (by repeat (first | (with_reducible first | exact HB.out | apply below_alloc | apply pw_below_drewN | apply below_drew1) | exact HB.out)) hb); clear HO_5; clear HO_6; clear HO_7; clear HO_9; clear HB; have HO_5 := n0_; have HO_6 := n1_; have HO_7 := n2_; have HO_9 := n3_; have HO566 := n4_; have HB := n5_; clear n0_ n1_ n2_ n3_ n4_ n5_; (try clear hb); (try clear hb2); (try clear hk); (try clear hi); (try clear ho0)) | (go_at_call 29; (with_reducible refine (api_Point_29.calls kj25 _ _ l1 20 #[] #[] sorts_Less.f t567 _ ?side1 ?side2 ?side3 A37.out).mono ?_); (case side1 => repeat (first | exact (Kd.C_below HR1.out HB.out) | (with_reducible refine Kd.C_alloc ?_ _) | (with_reducible refine Kd.C_drewN ?_ _) | (with_reducible refine Kd.C_drew ?_))); (case side2 => exact HC1.out); (case side3 => exact ⟨fun as_ W => enters_ Try.func20 (by kernel_rfl) rfl as_ W, fun W _ => by intro y0_ y1_ y2_ y3_ y4_ ha_; exact (calls_of_args (by simp) (sorts_Less.calls y0_ y1_ y2_ y3_ y4_ W ha_))⟩); rintro e w41 ⟨v568, rfl, ho0, hb⟩; have n0_ := Aside0.mk (Kd.R_elder' (by (with_reducible repeat (first | apply Kd.R_alloc | apply Kd.R_drewN | apply Kd.R_drew)); exact HO_5.out) (Kd.R_base ho0) hb); have n1_ := Aside0.mk (Kd.R_below (by (with_reducible repeat (first | apply Kd.R_alloc | apply Kd.R_drewN | apply Kd.R_drew)); exact HO_6.out) hb); have n2_ := Aside0.mk (Kd.R_below (by (with_reducible repeat (first | apply Kd.R_alloc | apply Kd.R_drewN | apply Kd.R_drew)); exact HO_7.out) hb); have n3_ := Aside0.mk (Kd.R_below (by (with_reducible repeat (first | apply Kd.R_alloc | apply Kd.R_drewN | apply Kd.R_drew)); exact HO_9.out) hb); have n4_ := Aside0.mk (Kd.R_elder' (by (with_reducible repeat (first | apply Kd.R_alloc | apply Kd.R_drewN | apply Kd.R_drew)); exact HO566.out) (Kd.R_base ho0) hb); have n5_ := Aside0.mk (Kd.R_lower (Kd.R_new' (Kd.R_new' ho0 (Kd.R_lt (by (with_reducible repeat (first | apply Kd.R_alloc | apply Kd.R_drewN | apply Kd.R_drew)); exact HO_5.out))) (Kd.R_lt (by (with_reducible repeat (first | apply Kd.R_alloc | apply Kd.R_drewN | apply Kd.R_drew)); exact HO566.out))) (below_size (by repeat (first | (with_reducible first | exact HB.out | apply below_alloc | apply pw_below_drewN | apply below_drew1) | exact HB.out)))); have n6_ := Aside0.mk (below_step (by repeat (first | (with_reducible first | exact HB.out | apply below_alloc | apply pw_below_drewN | apply below_drew1) | exact HB.out)) hb); clear HO_5; clear HO_6; clear HO_7; clear HO_9; clear HO566; clear HB; have HO_5 := n0_; have HO_6 := n1_; have HO_7 := n2_; have HO_9 := n3_; have HO566 := n4_; have HO569 := n5_; have HB := n6_; clear n0_ n1_ n2_ n3_ n4_ n5_ n6_; (try clear hb); (try clear hb2); (try clear hk); (try clear hi); (try clear ho0); obtain ⟨Ao42, co42, eo42⟩ := Kd.R_slice HO566.out; subst eo42; obtain ⟨Ao43, co43, eo43⟩ := Kd.R_slice HO569.out; subst eo43) | (go_at_call 30; (with_reducible refine (api_Point_30.calls kj25 (fun k_ => some k_ = (.slice Ao42 t564.length co42 : Value).ownBlock) _ _ t564 (fun k_ => some k_ = (.slice Ao43 t567.length co43 : Value).ownBlock) _ _ t567 20 #[] #[] sorts_Less.f t570 _ ?side1 ?side2 ?side3 A38.out).mono ?_); (case side1 => exact Kd.R_V (Kd.R_tight rfl (Kd.R_apart' (Kd.R_apart' (Kd.R_apart' (HO566.out) (Kd.R_typed HO_6.out) (by decide)) (Kd.R_typed HO_7.out) (by decide)) (Kd.R_typed HO_9.out) (by decide)))); (case side2 => exact Kd.R_V (Kd.R_tight rfl (Kd.R_apart' (Kd.R_apart' (Kd.R_apart' (HO569.out) (Kd.R_typed HO_6.out) (by decide)) (Kd.R_typed HO_7.out) (by decide)) (Kd.R_typed HO_9.out) (by decide)))); (case side3 => exact ⟨fun as_ W => enters_ Try.func20 (by kernel_rfl) rfl as_ W, fun W _ => by intro y0_ y1_ y2_ y3_ y4_ ha_; exact (calls_of_args (by simp) (sorts_Less.calls y0_ y1_ y2_ y3_ y4_ W ha_))⟩); rintro e w44 ⟨v571, rfl, ho0, hb⟩; have n0_ := Aside0.mk (Kd.R_elder' (by (with_reducible repeat (first | apply Kd.R_alloc | apply Kd.R_drewN | apply Kd.R_drew)); exact HO_5.out) (Kd.R_base ho0) hb); have n1_ := Aside0.mk (Kd.R_below (by (with_reducible repeat (first | apply Kd.R_alloc | apply Kd.R_drewN | apply Kd.R_drew)); exact HO_6.out) hb); have n2_ := Aside0.mk (Kd.R_below (by (with_reducible repeat (first | apply Kd.R_alloc | apply Kd.R_drewN | apply Kd.R_drew)); exact HO_7.out) hb); have n3_ := Aside0.mk (Kd.R_below (by (with_reducible repeat (first | apply Kd.R_alloc | apply Kd.R_drewN | apply Kd.R_drew)); exact HO_9.out) hb); have n4_ := Aside0.mk (Kd.R_elder' (by (with_reducible repeat (first | apply Kd.R_alloc | apply Kd.R_drewN | apply Kd.R_drew)); exact HO566.out) (Kd.R_base ho0) hb); have n5_ := Aside0.mk (Kd.R_elder' (by (with_reducible repeat (first | apply Kd.R_alloc | apply Kd.R_drewN | apply Kd.R_drew)); exact HO569.out) (Kd.R_base ho0) hb); have n6_ := Aside0.mk (Kd.R_lower (Kd.R_new' (Kd.R_new' (Kd.R_new' (Kd.R_mono (ok' := fun k_ => True) ho0 (fun _ hk_ => trivial)) (Kd.R_lt (by (with_reducible repeat (first | apply Kd.R_alloc | apply Kd.R_drewN | apply Kd.R_drew)); exact HO_5.out))) (Kd.R_lt (by (with_reducible repeat (first | apply Kd.R_alloc | apply Kd.R_drewN | apply Kd.R_drew)); exact HO566.out))) (Kd.R_lt (by (with_reducible repeat (first | apply Kd.R_alloc | apply Kd.R_drewN | apply Kd.R_drew)); exact HO569.out))) (below_size (by repeat (first | (with_reducible first | exact HB.out | apply below_alloc | apply pw_below_drewN | apply below_drew1) | exact HB.out)))); have n7_ := Aside0.mk (below_step (by repeat (first | (with_reducible first | exact HB.out | apply below_alloc | apply pw_below_drewN | apply below_drew1) | exact HB.out)) hb); clear HO_5; clear HO_6; clear HO_7; clear HO_9; clear HO566; clear HO569; clear HB; have HO_5 := n0_; have HO_6 := n1_; have HO_7 := n2_; have HO_9 := n3_; have HO566 := n4_; have HO569 := n5_; have HO572 := n6_; have HB := n7_; clear n0_ n1_ n2_ n3_ n4_ n5_ n6_ n7_; (try clear hb); (try clear hb2); (try clear hk); (try clear hi); (try clear ho0); obtain ⟨Ao45, co45, eo45⟩ := Kd.R_slice HO572.out; subst eo45))
                        repeat (go_quiet (first | (go_at_call 29; (with_reducible refine (api_Point_29.calls kj25 _ _ l0 20 #[] #[] sorts_Less.f t564 _ ?side1 ?side2 ?side3 A36.out).mono ?_); (case side1 => repeat (first | exact (Kd.C_below HR0.out HB.out) | (with_reducible refine Kd.C_alloc ?_ _) | (with_reducible refine Kd.C_drewN ?_ _) | (with_reducible refine Kd.C_drew ?_))); (case side2 => exact HC0.out); (case side3 => exact ⟨fun as_ W => enters_ Try.func20 (by kernel_rfl) rfl as_ W, fun W _ => by intro y0_ y1_ y2_ y3_ y4_ ha_; exact (calls_of_args (by simp) (sorts_Less.calls y0_ y1_ y2_ y3_ y4_ W ha_))⟩); rintro e w40 ⟨v565, rfl, ho0, hb⟩; have n0_ := Aside0.mk (Kd.R_elder' (by (with_reducible repeat (first | apply Kd.R_alloc | apply Kd.R_drewN | apply Kd.R_drew)); exact HO_5.out) (Kd.R_base ho0) hb); have n1_ := Aside0.mk (Kd.R_below (by (with_reducible repeat (first | apply Kd.R_alloc | apply Kd.R_drewN | apply Kd.R_drew)); exact HO_6.out) hb); have n2_ := Aside0.mk (Kd.R_below (by (with_reducible repeat (first | apply Kd.R_alloc | apply Kd.R_drewN | apply Kd.R_drew)); exact HO_7.out) hb); have n3_ := Aside0.mk (Kd.R_below (by (with_reducible repeat (first | apply Kd.R_alloc | apply Kd.R_drewN | apply Kd.R_drew)); exact HO_9.out) hb); have n4_ := Aside0.mk (Kd.R_lower (Kd.R_new' ho0 (Kd.R_lt (by (with_reducible repeat (first | apply Kd.R_alloc | apply Kd.R_drewN | apply Kd.R_drew)); exact HO_5.out))) (below_size (by repeat (first | (with_reducible first | exact HB.out | apply below_alloc | apply pw_below_drewN | apply below_drew1) | exact HB.out)))); have n5_ := Aside0.mk (below_step (by repeat (first | (with_reducible first | exact HB.out | apply below_alloc | apply pw_below_drewN | apply below_drew1) | exact HB.out)) hb); clear HO_5; clear HO_6; clear HO_7; clear HO_9; clear HB; have HO_5 := n0_; have HO_6 := n1_; have HO_7 := n2_; have HO_9 := n3_; have HO566 := n4_; have HB := n5_; clear n0_ n1_ n2_ n3_ n4_ n5_; (try clear hb); (try clear hb2); (try clear hk); (try clear hi); (try clear ho0)) | (go_at_call 29; (with_reducible refine (api_Point_29.calls kj25 _ _ l1 20 #[] #[] sorts_Less.f t567 _ ?side1 ?side2 ?side3 A37.out).mono ?_); (case side1 => repeat (first | exact (Kd.C_below HR1.out HB.out) | (with_reducible refine Kd.C_alloc ?_ _) | (with_reducible refine Kd.C_drewN ?_ _) | (with_reducible refine Kd.C_drew ?_))); (case side2 => exact HC1.out); (case side3 => exact ⟨fun as_ W => enters_ Try.func20 (by kernel_rfl) rfl as_ W, fun W _ => by intro y0_ y1_ y2_ y3_ y4_ ha_; exact (calls_of_args (by simp) (sorts_Less.calls y0_ y1_ y2_ y3_ y4_ W ha_))⟩); rintro e w41 ⟨v568, rfl, ho0, hb⟩; have n0_ := Aside0.mk (Kd.R_elder' (by (with_reducible repeat (first | apply Kd.R_alloc | apply Kd.R_drewN | apply Kd.R_drew)); exact HO_5.out) (Kd.R_base ho0) hb); have n1_ := Aside0.mk (Kd.R_below (by (with_reducible repeat (first | apply Kd.R_alloc | apply Kd.R_drewN | apply Kd.R_drew)); exact HO_6.out) hb); have n2_ := Aside0.mk (Kd.R_below (by (with_reducible repeat (first | apply Kd.R_alloc | apply Kd.R_drewN | apply Kd.R_drew)); exact HO_7.out) hb); have n3_ := Aside0.mk (Kd.R_below (by (with_reducible repeat (first | apply Kd.R_alloc | apply Kd.R_drewN | apply Kd.R_drew)); exact HO_9.out) hb); have n4_ := Aside0.mk (Kd.R_elder' (by (with_reducible repeat (first | apply Kd.R_alloc | apply Kd.R_drewN | apply Kd.R_drew)); exact HO566.out) (Kd.R_base ho0) hb); have n5_ := Aside0.mk (Kd.R_lower (Kd.R_new' (Kd.R_new' ho0 (Kd.R_lt (by (with_reducible repeat (first | apply Kd.R_alloc | apply Kd.R_drewN | apply Kd.R_drew)); exact HO_5.out))) (Kd.R_lt (by (with_reducible repeat (first | apply Kd.R_alloc | apply Kd.R_drewN | apply Kd.R_drew)); exact HO566.out))) (below_size (by repeat (first | (with_reducible first | exact HB.out | apply below_alloc | apply pw_below_drewN | apply below_drew1) | exact HB.out)))); have n6_ := Aside0.mk (below_step (by repeat (first | (with_reducible first | exact HB.out | apply below_alloc | apply pw_below_drewN | apply below_drew1) | exact HB.out)) hb); clear HO_5; clear HO_6; clear HO_7; clear HO_9; clear HO566; clear HB; have HO_5 := n0_; have HO_6 := n1_; have HO_7 := n2_; have HO_9 := n3_; have HO566 := n4_; have HO569 := n5_; have HB := n6_; clear n0_ n1_ n2_ n3_ n4_ n5_ n6_; (try clear hb); (try clear hb2); (try clear hk); (try clear hi); (try clear ho0); obtain ⟨Ao42, co42, eo42⟩ := Kd.R_slice HO566.out; subst eo42; obtain ⟨Ao43, co43, eo43⟩ := Kd.R_slice HO569.out; subst eo43) | (go_at_call 30; (with_reducible refine (api_Point_30.calls kj25 (fun k_ => some k_ = (.slice Ao42 t564.length co42 : Value).ownBlock) _ _ t564 (fun k_ => some k_ = (.slice Ao43 t567.length co43 : Value).ownBlock) _ _ t567 20 #[] #[] sorts_Less.f t570 _ ?side1 ?side2 ?side3 A38.out).mono ?_); (case side1 => exact Kd.R_V (Kd.R_tight rfl (Kd.R_apart' (Kd.R_apart' (Kd.R_apart' (HO566.out) (Kd.R_typed HO_6.out) (by decide)) (Kd.R_typed HO_7.out) (by decide)) (Kd.R_typed HO_9.out) (by decide)))); (case side2 => exact Kd.R_V (Kd.R_tight rfl (Kd.R_apart' (Kd.R_apart' (Kd.R_apart' (HO569.out) (Kd.R_typed HO_6.out) (by decide)) (Kd.R_typed HO_7.out) (by decide)) (Kd.R_typed HO_9.out) (by decide)))); (case side3 => exact ⟨fun as_ W => enters_ Try.func20 (by kernel_rfl) rfl as_ W, fun W _ => by intro y0_ y1_ y2_ y3_ y4_ ha_; exact (calls_of_args (by simp) (sorts_Less.calls y0_ y1_ y2_ y3_ y4_ W ha_))⟩); rintro e w44 ⟨v571, rfl, ho0, hb⟩; have n0_ := Aside0.mk (Kd.R_elder' (by (with_reducible repeat (first | apply Kd.R_alloc | apply Kd.R_drewN | apply Kd.R_drew)); exact HO_5.out) (Kd.R_base ho0) hb); have n1_ := Aside0.mk (Kd.R_below (by (with_reducible repeat (first | apply Kd.R_alloc | apply Kd.R_drewN | apply Kd.R_drew)); exact HO_6.out) hb); have n2_ := Aside0.mk (Kd.R_below (by (with_reducible repeat (first | apply Kd.R_alloc | apply Kd.R_drewN | apply Kd.R_drew)); exact HO_7.out) hb); have n3_ := Aside0.mk (Kd.R_below (by (with_reducible repeat (first | apply Kd.R_alloc | apply Kd.R_drewN | apply Kd.R_drew)); exact HO_9.out) hb); have n4_ := Aside0.mk (Kd.R_elder' (by (with_reducible repeat (first | apply Kd.R_alloc | apply Kd.R_drewN | apply Kd.R_drew)); exact HO566.out) (Kd.R_base ho0) hb); have n5_ := Aside0.mk (Kd.R_elder' (by (with_reducible repeat (first | apply Kd.R_alloc | apply Kd.R_drewN | apply Kd.R_drew)); exact HO569.out) (Kd.R_base ho0) hb); have n6_ := Aside0.mk (Kd.R_lower (Kd.R_new' (Kd.R_new' (Kd.R_new' (Kd.R_mono (ok' := fun k_ => True) ho0 (fun _ hk_ => trivial)) (Kd.R_lt (by (with_reducible repeat (first | apply Kd.R_alloc | apply Kd.R_drewN | apply Kd.R_drew)); exact HO_5.out))) (Kd.R_lt (by (with_reducible repeat (first | apply Kd.R_alloc | apply Kd.R_drewN | apply Kd.R_drew)); exact HO566.out))) (Kd.R_lt (by (with_reducible repeat (first | apply Kd.R_alloc | apply Kd.R_drewN | apply Kd.R_drew)); exact HO569.out))) (below_size (by repeat (first | (with_reducible first | exact HB.out | apply below_alloc | apply pw_below_drewN | apply below_drew1) | exact HB.out)))); have n7_ := Aside0.mk (below_step (by repeat (first | (with_reducible first | exact HB.out | apply below_alloc | apply pw_below_drewN | apply below_drew1) | exact HB.out)) hb); clear HO_5; clear HO_6; clear HO_7; clear HO_9; clear HO566; clear HO569; clear HB; have HO_5 := n0_; have HO_6 := n1_; have HO_7 := n2_; have HO_9 := n3_; have HO566 := n4_; have HO569 := n5_; have HO572 := n6_; have HB := n7_; clear n0_ n1_ n2_ n3_ n4_ n5_ n6_ n7_; (try clear hb); (try clear hb2); (try clear hk); (try clear hi); (try clear ho0); obtain ⟨Ao45, co45, eo45⟩ := Kd.R_slice HO572.out; subst eo45)); try go_wp2_with (first | (go_at_call 29; (with_reducible refine (api_Point_29.calls kj25 _ _ l0 20 #[] #[] sorts_Less.f t564 _ ?side1 ?side2 ?side3 A36.out).mono ?_); (case side1 => repeat (first | exact (Kd.C_below HR0.out HB.out) | (with_reducible refine Kd.C_alloc ?_ _) | (with_reducible refine Kd.C_drewN ?_ _) | (with_reducible refine Kd.C_drew ?_))); (case side2 => exact HC0.out); (case side3 => exact ⟨fun as_ W => enters_ Try.func20 (by kernel_rfl) rfl as_ W, fun W _ => by intro y0_ y1_ y2_ y3_ y4_ ha_; exact (calls_of_args (by simp) (sorts_Less.calls y0_ y1_ y2_ y3_ y4_ W ha_))⟩); rintro e w40 ⟨v565, rfl, ho0, hb⟩; have n0_ := Aside0.mk (Kd.R_elder' (by (with_reducible repeat (first | apply Kd.R_alloc | apply Kd.R_drewN | apply Kd.R_drew)); exact HO_5.out) (Kd.R_base ho0) hb); have n1_ := Aside0.mk (Kd.R_below (by (with_reducible repeat (first | apply Kd.R_alloc | apply Kd.R_drewN | apply Kd.R_drew)); exact HO_6.out) hb); have n2_ := Aside0.mk (Kd.R_below (by (with_reducible repeat (first | apply Kd.R_alloc | apply Kd.R_drewN | apply Kd.R_drew)); exact HO_7.out) hb); have n3_ := Aside0.mk (Kd.R_below (by (with_reducible repeat (first | apply Kd.R_alloc | apply Kd.R_drewN | apply Kd.R_drew)); exact HO_9.out) hb); have n4_ := Aside0.mk (Kd.R_lower (Kd.R_new' ho0 (Kd.R_lt (by (with_reducible repeat (first | apply Kd.R_alloc | apply Kd.R_drewN | apply Kd.R_drew)); exact HO_5.out))) (below_size (by repeat (first | (with_reducible first | exact HB.out | apply below_alloc | apply pw_below_drewN | apply below_drew1) | exact HB.out)))); have n5_ := Aside0.mk (below_step (by repeat (first | (with_reducible first | exact HB.out | apply below_alloc | apply pw_below_drewN | apply below_drew1) | exact HB.out)) hb); clear HO_5; clear HO_6; clear HO_7; clear HO_9; clear HB; have HO_5 := n0_; have HO_6 := n1_; have HO_7 := n2_; have HO_9 := n3_; have HO566 := n4_; have HB := n5_; clear n0_ n1_ n2_ n3_ n4_ n5_; (try clear hb); (try clear hb2); (try clear hk); (try clear hi); (try clear ho0)) | (go_at_call 29; (with_reducible refine (api_Point_29.calls kj25 _ _ l1 20 #[] #[] sorts_Less.f t567 _ ?side1 ?side2 ?side3 A37.out).mono ?_); (case side1 => repeat (first | exact (Kd.C_below HR1.out HB.out) | (with_reducible refine Kd.C_alloc ?_ _) | (with_reducible refine Kd.C_drewN ?_ _) | (with_reducible refine Kd.C_drew ?_))); (case side2 => exact HC1.out); (case side3 => exact ⟨fun as_ W => enters_ Try.func20 (by kernel_rfl) rfl as_ W, fun W _ => by intro y0_ y1_ y2_ y3_ y4_ ha_; exact (calls_of_args (by simp) (sorts_Less.calls y0_ y1_ y2_ y3_ y4_ W ha_))⟩); rintro e w41 ⟨v568, rfl, ho0, hb⟩; have n0_ := Aside0.mk (Kd.R_elder' (by (with_reducible repeat (first | apply Kd.R_alloc | apply Kd.R_drewN | apply Kd.R_drew)); exact HO_5.out) (Kd.R_base ho0) hb); have n1_ := Aside0.mk (Kd.R_below (by (with_reducible repeat (first | apply Kd.R_alloc | apply Kd.R_drewN | apply Kd.R_drew)); exact HO_6.out) hb); have n2_ := Aside0.mk (Kd.R_below (by (with_reducible repeat (first | apply Kd.R_alloc | apply Kd.R_drewN | apply Kd.R_drew)); exact HO_7.out) hb); have n3_ := Aside0.mk (Kd.R_below (by (with_reducible repeat (first | apply Kd.R_alloc | apply Kd.R_drewN | apply Kd.R_drew)); exact HO_9.out) hb); have n4_ := Aside0.mk (Kd.R_elder' (by (with_reducible repeat (first | apply Kd.R_alloc | apply Kd.R_drewN | apply Kd.R_drew)); exact HO566.out) (Kd.R_base ho0) hb); have n5_ := Aside0.mk (Kd.R_lower (Kd.R_new' (Kd.R_new' ho0 (Kd.R_lt (by (with_reducible repeat (first | apply Kd.R_alloc | apply Kd.R_drewN | apply Kd.R_drew)); exact HO_5.out))) (Kd.R_lt (by (with_reducible repeat (first | apply Kd.R_alloc | apply Kd.R_drewN | apply Kd.R_drew)); exact HO566.out))) (below_size (by repeat (first | (with_reducible first | exact HB.out | apply below_alloc | apply pw_below_drewN | apply below_drew1) | exact HB.out)))); have n6_ := Aside0.mk (below_step (by repeat (first | (with_reducible first | exact HB.out | apply below_alloc | apply pw_below_drewN | apply below_drew1) | exact HB.out)) hb); clear HO_5; clear HO_6; clear HO_7; clear HO_9; clear HO566; clear HB; have HO_5 := n0_; have HO_6 := n1_; have HO_7 := n2_; have HO_9 := n3_; have HO566 := n4_; have HO569 := n5_; have HB := n6_; clear n0_ n1_ n2_ n3_ n4_ n5_ n6_; (try clear hb); (try clear hb2); (try clear hk); (try clear hi); (try clear ho0); obtain ⟨Ao42, co42, eo42⟩ := Kd.R_slice HO566.out; subst eo42; obtain ⟨Ao43, co43, eo43⟩ := Kd.R_slice HO569.out; subst eo43) | (go_at_call 30; (with_reducible refine (api_Point_30.calls kj25 (fun k_ => some k_ = (.slice Ao42 t564.length co42 : Value).ownBlock) _ _ t564 (fun k_ => some k_ = (.slice Ao43 t567.length co43 : Value).ownBlock) _ _ t567 20 #[] #[] sorts_Less.f t570 _ ?side1 ?side2 ?side3 A38.out).mono ?_); (case side1 => exact Kd.R_V (Kd.R_tight rfl (Kd.R_apart' (Kd.R_apart' (Kd.R_apart' (HO566.out) (Kd.R_typed HO_6.out) (by decide)) (Kd.R_typed HO_7.out) (by decide)) (Kd.R_typed HO_9.out) (by decide)))); (case side2 => exact Kd.R_V (Kd.R_tight rfl (Kd.R_apart' (Kd.R_apart' (Kd.R_apart' (HO569.out) (Kd.R_typed HO_6.out) (by decide)) (Kd.R_typed HO_7.out) (by decide)) (Kd.R_typed HO_9.out) (by decide)))); (case side3 => exact ⟨fun as_ W => enters_ Try.func20 (by kernel_rfl) rfl as_ W, fun W _ => by intro y0_ y1_ y2_ y3_ y4_ ha_; exact (calls_of_args (by simp) (sorts_Less.calls y0_ y1_ y2_ y3_ y4_ W ha_))⟩); rintro e w44 ⟨v571, rfl, ho0, hb⟩; have n0_ := Aside0.mk (Kd.R_elder' (by (with_reducible repeat (first | apply Kd.R_alloc | apply Kd.R_drewN | apply Kd.R_drew)); exact HO_5.out) (Kd.R_base ho0) hb); have n1_ := Aside0.mk (Kd.R_below (by (with_reducible repeat (first | apply Kd.R_alloc | apply Kd.R_drewN | apply Kd.R_drew)); exact HO_6.out) hb); have n2_ := Aside0.mk (Kd.R_below (by (with_reducible repeat (first | apply Kd.R_alloc | apply Kd.R_drewN | apply Kd.R_drew)); exact HO_7.out) hb); have n3_ := Aside0.mk (Kd.R_below (by (with_reducible repeat (first | apply Kd.R_alloc | apply Kd.R_drewN | apply Kd.R_drew)); exact HO_9.out) hb); have n4_ := Aside0.mk (Kd.R_elder' (by (with_reducible repeat (first | apply Kd.R_alloc | apply Kd.R_drewN | apply Kd.R_drew)); exact HO566.out) (Kd.R_base ho0) hb); have n5_ := Aside0.mk (Kd.R_elder' (by (with_reducible repeat (first | apply Kd.R_alloc | apply Kd.R_drewN | apply Kd.R_drew)); exact HO569.out) (Kd.R_base ho0) hb); have n6_ := Aside0.mk (Kd.R_lower (Kd.R_new' (Kd.R_new' (Kd.R_new' (Kd.R_mono (ok' := fun k_ => True) ho0 (fun _ hk_ => trivial)) (Kd.R_lt (by (with_reducible repeat (first | apply Kd.R_alloc | apply Kd.R_drewN | apply Kd.R_drew)); exact HO_5.out))) (Kd.R_lt (by (with_reducible repeat (first | apply Kd.R_alloc | apply Kd.R_drewN | apply Kd.R_drew)); exact HO566.out))) (Kd.R_lt (by (with_reducible repeat (first | apply Kd.R_alloc | apply Kd.R_drewN | apply Kd.R_drew)); exact HO569.out))) (below_size (by repeat (first | (with_reducible first | exact HB.out | apply below_alloc | apply pw_below_drewN | apply below_drew1) | exact HB.out)))); have n7_ := Aside0.mk (below_step (by repeat (first | (with_reducible first | exact HB.out | apply below_alloc | apply pw_below_drewN | apply below_drew1) | exact HB.out)) hb); clear HO_5; clear HO_6; clear HO_7; clear HO_9; clear HO566; clear HO569; clear HB; have HO_5 := n0_; have HO_6 := n1_; have HO_7 := n2_; have HO_9 := n3_; have HO566 := n4_; have HO569 := n5_; have HO572 := n6_; have HB := n7_; clear n0_ n1_ n2_ n3_ n4_ n5_ n6_ n7_; (try clear hb); (try clear hb2); (try clear hk); (try clear hi); (try clear ho0); obtain ⟨Ao45, co45, eo45⟩ := Kd.R_slice HO572.out; subst eo45)))
                        go_loopg [13] kj25 (fun kq v13 w' => ∃ (x13_3 : Int), v13 = .int .i64 x13_3 ∧ Aside0 (parquetlaw07_SortsJoins.l0 kq y546 t549 t552 t561 t570 x13_3 = some r) ∧ Aside0 (kq ≤ kj25) ∧ Aside0 (Kd.R k28 28 w' w.heap.size (fun k_ => some k_ ≠ ((.slice Ao45 t570.length co45) : Value).ownBlock) (.slice Ao19 y546.length co19) y546) ∧ Aside0 (Kd.R (Kd.int .i64) 3 w' w.heap.size (fun k_ => some k_ ≠ (v553 : Value).ownBlock ∧ some k_ ≠ (v562 : Value).ownBlock) v550 t549) ∧ Aside0 (Kd.R (Kd.int .i64) 3 w' w.heap.size (fun k_ => some k_ ≠ (v550 : Value).ownBlock ∧ some k_ ≠ (v562 : Value).ownBlock) v553 t552) ∧ Aside0 (Kd.R (Kd.int .i64) 3 w' w.heap.size (fun k_ => some k_ ≠ (v550 : Value).ownBlock ∧ some k_ ≠ (v553 : Value).ownBlock) v562 t561) ∧ Aside0 (Kd.R k28 28 w' w.heap.size (fun k_ => some k_ ≠ ((.slice Ao19 y546.length co19) : Value).ownBlock) (.slice Ao45 t570.length co45) t570) ∧ Aside0 (Below w.heap.size w w'))
                        case atStart => exact ⟨(0), (by first | rfl | (simp; done) | (simp [*]; done)), H', ⟨Nat.le_refl _⟩, ⟨by (with_reducible repeat (first | apply Kd.R_alloc | apply Kd.R_drewN | apply Kd.R_drew)); exact Kd.R_mono HO_5.out (fun _ hk => hk.2)⟩, ⟨by (with_reducible repeat (first | apply Kd.R_alloc | apply Kd.R_drewN | apply Kd.R_drew)); exact HO_6.out⟩, ⟨by (with_reducible repeat (first | apply Kd.R_alloc | apply Kd.R_drewN | apply Kd.R_drew)); exact HO_7.out⟩, ⟨by (with_reducible repeat (first | apply Kd.R_alloc | apply Kd.R_drewN | apply Kd.R_drew)); exact HO_9.out⟩, ⟨by (with_reducible repeat (first | apply Kd.R_alloc | apply Kd.R_drewN | apply Kd.R_drew)); exact Kd.R_mono HO572.out (fun _ hk => hk.1.1.2)⟩, ⟨by repeat (first | (with_reducible first | exact HB.out | apply below_alloc | apply pw_below_drewN | apply below_drew1) | exact HB.out)⟩⟩
                        case round =>
                          clear H'
                          (try clear c1); (try clear c2); (try clear p2); (try clear c3); (try clear c5); (try clear c5b0); (try clear c5b1); (try clear c6); (try clear p6); (try clear c9); (try clear c10); (try clear c13); (try clear c14); (try clear c20); (try clear c27); (try clear c27b0); (try clear c27b1); (try clear c27b2); (try clear c28); (try clear c28b0); (try clear c28b1); (try clear c28b2); (try clear c35); (try clear c39); (try clear c39b0); (try clear c39b1); (try clear c39b2); (try clear p2); (try clear p6)
                          obtain ⟨x13_3, rfl, HA, HK3, HO_5, HO_6, HO_7, HO_9, HO_12, HB⟩ := hrel
                          cases gk with
                          | zero => exact absurd HA.out (by simp [parquetlaw07_SortsJoins.l0])
                          | succ k3 =>
                            have H := HA.out
                            clear HA
                            simp only [parquetlaw07_SortsJoins.l0] at H
                            by_cases c46 : x13_3 < (y546.length : Int)
                            · rw [if_pos c46] at H
                              have c46b0 : decide (x13_3 < (y546.length : Int)) = true := decide_eq_true c46
                              clear c46
                              have HU47 := Aside0.mk H
                              clear H
                              go_upto_region 22 with (fail)
                              repeat (go_quiet (fail); go_upto_region 22 with (fail))
                              have H := HU47.out
                              clear HU47
                              by_cases c48 : 0 ≤ x13_3
                              · rw [if_pos c48] at H
                                have c48b0 : decide (0 ≤ x13_3) = true := decide_eq_true c48
                                clear c48
                                (first | rw [c48b0] | (simp only [i64_w, i32_w]; rw [c48b0]) | skip)
                                by_cases c49 : x13_3 < (t549.length : Int)
                                · rw [if_pos c49] at H
                                  have c49b0 : decide (x13_3 < (t549.length : Int)) = true := decide_eq_true c49
                                  clear c49
                                  by_cases c50 : (rd t549 x13_3) < 0
                                  · rw [if_pos c50] at H
                                    have c50b0 : decide ((rd t549 x13_3) < 0) = true := decide_eq_true c50
                                    clear c50
                                    obtain rfl := Option.some.inj H
                                    exact absurd hT.out (by simp)
                                  · rw [if_neg c50] at H
                                    have c50b0 : decide ((rd t549 x13_3) < 0) = false := decide_eq_false c50
                                    clear c50
                                    by_cases c51 : (rd t549 x13_3) ≥ (y546.length : Int)
                                    · rw [if_pos c51] at H
                                      have c51b0 : decide ((y546.length : Int) ≤ (rd t549 x13_3)) = true := decide_eq_true c51
                                      clear c51
                                      obtain rfl := Option.some.inj H
                                      exact absurd hT.out (by simp)
                                    · rw [if_neg c51] at H
                                      have c51b0 : decide ((y546.length : Int) ≤ (rd t549 x13_3)) = false := decide_eq_false c51
                                      clear c51
                                      by_cases c52 : x13_3 < (t570.length : Int)
                                      · rw [if_pos c52] at H
                                        have c52b0 : decide (x13_3 < (t570.length : Int)) = true := decide_eq_true c52
                                        clear c52
                                        by_cases c53 : 0 ≤ (rd t549 x13_3)
                                        · rw [if_pos c53] at H
                                          have c53b0 : decide (0 ≤ (rd t549 x13_3)) = true := decide_eq_true c53
                                          clear c53
                                          by_cases c54 : (rd t549 x13_3) < (y546.length : Int)
                                          · rw [if_pos c54] at H
                                            have c54b0 : decide ((rd t549 x13_3) < (y546.length : Int)) = true := decide_eq_true c54
                                            clear c54
                                            by_cases c55 : (((rd_T28 t570 x13_3).f0) == ((rd_T28 y546 (rd t549 x13_3)).f0) && (((rd_T28 t570 x13_3).f1) == ((rd_T28 y546 (rd t549 x13_3)).f1))) = true
                                            · rw [if_pos c55] at H
                                              have c55b0 : (((rd_T28 t570 x13_3).f0) == ((rd_T28 y546 (rd t549 x13_3)).f0) && (((rd_T28 t570 x13_3).f1) == ((rd_T28 y546 (rd t549 x13_3)).f1))) = true := c55
                                              (try (have c55b1 : decide (((rd_T28 t570 x13_3).f0) = ((rd_T28 y546 (rd t549 x13_3)).f0) && (((rd_T28 t570 x13_3).f1) == ((rd_T28 y546 (rd t549 x13_3)).f1))) = true := by simpa using c55))
                                              (try (have c55b2 : (((rd_T28 t570 x13_3).f0) == ((rd_T28 y546 (rd t549 x13_3)).f0) && (((rd_T28 t570 x13_3).f1) == ((rd_T28 y546 (rd t549 x13_3)).f1))) = true := by simpa using c55))
                                              (try (have c55b3 : (!(((rd_T28 t570 x13_3).f0) == ((rd_T28 y546 (rd t549 x13_3)).f0)) || (!(((rd_T28 t570 x13_3).f1) == ((rd_T28 y546 (rd t549 x13_3)).f1)))) = false := by rw [show (!(((rd_T28 t570 x13_3).f0) == ((rd_T28 y546 (rd t549 x13_3)).f0)) || (!(((rd_T28 t570 x13_3).f1) == ((rd_T28 y546 (rd t549 x13_3)).f1)))) = !(((rd_T28 t570 x13_3).f0) == ((rd_T28 y546 (rd t549 x13_3)).f0) && (((rd_T28 t570 x13_3).f1) == ((rd_T28 y546 (rd t549 x13_3)).f1))) from by simp [Bool.not_and]]; rw [c55b0]; rfl))
                                              clear c55
                                              have H' := Aside0.mk H
                                              clear H
                                              obtain ⟨Ao56, co56, eo56⟩ := Kd.R_slice HO_6.out
                                              subst eo56
                                              have p573 : 0 ≤ (x13_3 : Int) := of_decide_eq_true (by first | (with_reducible assumption) | assumption)
                                              have q573 : x13_3 < (t549.length : Int) := of_decide_eq_true (by first | (with_reducible assumption) | assumption)
                                              obtain ⟨ad573, e573, hx573_0⟩ := Kd.at_int (Kd.R_reads' HO_6.out).2.2 x13_3 p573 q573
                                              cases e573
                                              replace p573 := eq_true p573
                                              replace q573 := eq_true q573
                                              have p574 : 0 ≤ (x13_3 : Int) := of_decide_eq_true (by first | (with_reducible assumption) | assumption)
                                              have q574 : x13_3 < (t549.length : Int) := of_decide_eq_true (by first | (with_reducible assumption) | assumption)
                                              obtain ⟨ad574, e574, hx574_0⟩ := Kd.at_int (Kd.R_reads' HO_6.out).2.2 x13_3 p574 q574
                                              obtain rfl : ad573 = ad574 := (by injection e574)
                                              replace p574 := eq_true p574
                                              replace q574 := eq_true q574
                                              have p575 : 0 ≤ (x13_3 : Int) := of_decide_eq_true (by first | (with_reducible assumption) | assumption)
                                              have q575 : x13_3 < (t570.length : Int) := of_decide_eq_true (by first | (with_reducible assumption) | assumption)
                                              obtain ⟨ad575, e575, hx575_0, hx575_1⟩ := at_T28 (Kd.R_reads' HO_12.out).2.2 x13_3 p575 q575
                                              cases e575
                                              replace p575 := eq_true p575
                                              replace q575 := eq_true q575
                                              have p576 : 0 ≤ (x13_3 : Int) := of_decide_eq_true (by first | (with_reducible assumption) | assumption)
                                              have q576 : x13_3 < (t549.length : Int) := of_decide_eq_true (by first | (with_reducible assumption) | assumption)
                                              obtain ⟨ad576, e576, hx576_0⟩ := Kd.at_int (Kd.R_reads' HO_6.out).2.2 x13_3 p576 q576
                                              obtain rfl : ad573 = ad576 := (by injection e576)
                                              replace p576 := eq_true p576
                                              replace q576 := eq_true q576
                                              have p577 : 0 ≤ ((rd t549 x13_3) : Int) := of_decide_eq_true (by first | (with_reducible assumption) | assumption)
                                              have q577 : (rd t549 x13_3) < (y546.length : Int) := of_decide_eq_true (by first | (with_reducible assumption) | assumption)
                                              obtain ⟨ad577, e577, hx577_0, hx577_1⟩ := at_T28 (Kd.R_reads' HO_5.out).2.2 (rd t549 x13_3) p577 q577
                                              cases e577
                                              replace p577 := eq_true p577
                                              replace q577 := eq_true q577
                                              go_wp2
                                              repeat (go_quiet (fail); try go_wp2)
                                              go_roundg k3
                                              case measure => have := HJ3.out; have := HJ25.out; have := HK3.out; omega
                                              case rel => exact ⟨(wrap64 (x13_3 + 1)), (by first | rfl | (simp; done) | (simp [*]; done)), H', ⟨by have := HJ3.out; have := HJ25.out; have := HK3.out; omega⟩, ⟨by (with_reducible repeat (first | apply Kd.R_alloc | apply Kd.R_drewN | apply Kd.R_drew)); exact HO_5.out⟩, ⟨by (with_reducible repeat (first | apply Kd.R_alloc | apply Kd.R_drewN | apply Kd.R_drew)); exact HO_6.out⟩, ⟨by (with_reducible repeat (first | apply Kd.R_alloc | apply Kd.R_drewN | apply Kd.R_drew)); exact HO_7.out⟩, ⟨by (with_reducible repeat (first | apply Kd.R_alloc | apply Kd.R_drewN | apply Kd.R_drew)); exact HO_9.out⟩, ⟨by (with_reducible repeat (first | apply Kd.R_alloc | apply Kd.R_drewN | apply Kd.R_drew)); exact HO_12.out⟩, ⟨by repeat (first | (with_reducible first | exact HB.out | apply below_alloc | apply pw_below_drewN | apply below_drew1) | exact HB.out)⟩⟩
                                            · rw [if_neg c55] at H
                                              have c55b0 : (((rd_T28 t570 x13_3).f0) == ((rd_T28 y546 (rd t549 x13_3)).f0) && (((rd_T28 t570 x13_3).f1) == ((rd_T28 y546 (rd t549 x13_3)).f1))) = false := by simpa using c55
                                              (try (have c55b1 : decide (((rd_T28 t570 x13_3).f0) = ((rd_T28 y546 (rd t549 x13_3)).f0) && (((rd_T28 t570 x13_3).f1) == ((rd_T28 y546 (rd t549 x13_3)).f1))) = false := by simpa using c55))
                                              (try (have c55b2 : (((rd_T28 t570 x13_3).f0) == ((rd_T28 y546 (rd t549 x13_3)).f0) && (((rd_T28 t570 x13_3).f1) == ((rd_T28 y546 (rd t549 x13_3)).f1))) = false := by simpa using c55))
                                              (try (have c55b3 : ¬ (((rd_T28 t570 x13_3).f0) = ((rd_T28 y546 (rd t549 x13_3)).f0) && (((rd_T28 t570 x13_3).f1) == ((rd_T28 y546 (rd t549 x13_3)).f1))) := by simpa using c55))
                                              (try (have c55b4 : (!(((rd_T28 t570 x13_3).f0) == ((rd_T28 y546 (rd t549 x13_3)).f0)) || (!(((rd_T28 t570 x13_3).f1) == ((rd_T28 y546 (rd t549 x13_3)).f1)))) = true := by rw [show (!(((rd_T28 t570 x13_3).f0) == ((rd_T28 y546 (rd t549 x13_3)).f0)) || (!(((rd_T28 t570 x13_3).f1) == ((rd_T28 y546 (rd t549 x13_3)).f1)))) = !(((rd_T28 t570 x13_3).f0) == ((rd_T28 y546 (rd t549 x13_3)).f0) && (((rd_T28 t570 x13_3).f1) == ((rd_T28 y546 (rd t549 x13_3)).f1))) from by simp [Bool.not_and]]; rw [c55b0]; rfl))
                                              clear c55
                                              obtain rfl := Option.some.inj H
                                              exact absurd hT.out (by simp)
                                          · rw [if_neg c54] at H
                                            exact absurd H (by simp)
                                        · rw [if_neg c53] at H
                                          exact absurd H (by simp)
                                      · rw [if_neg c52] at H
                                        exact absurd H (by simp)
                                · rw [if_neg c49] at H
                                  exact absurd H (by simp)
                              · rw [if_neg c48] at H
                                exact absurd H (by simp)
                            · rw [if_neg c46] at H
                              have c46b0 : decide (x13_3 < (y546.length : Int)) = false := decide_eq_false c46
                              clear c46
                              have HU57 := Aside0.mk H
                              clear H
                              go_upto_region 24 with (fail)
                              repeat (go_quiet (fail); go_upto_region 24 with (fail))
                              have H := HU57.out
                              clear HU57
                              by_cases c58 : 0 ≤ (y546.length : Int)
                              · rw [if_pos c58] at H
                                have c58b0 := eq_true c58
                                have c58b1 : decide (0 ≤ (y546.length : Int)) = true := decide_eq_true c58
                                clear c58
                                by_cases c59 : (y546.length : Int) ≤ (t561.length : Int)
                                · rw [if_pos c59] at H
                                  have c59b0 := eq_true c59
                                  have c59b1 : decide ((y546.length : Int) ≤ (t561.length : Int)) = true := decide_eq_true c59
                                  clear c59
                                  obtain ⟨y578, hy578⟩ : ∃ y_ : List Int, y_ = (t561.take ((y546.length : Int) : Int).toNat) := ⟨_, rfl⟩
                                  replace H : ((parquetref00_SameInts.f k3 y578 t552).bind fun t582 => (if t582 = true then ((parquetref00_SameInts.f k3 (t561.drop ((y546.length : Int) : Int).toNat) t552).bind fun t587 => (if t587 = true then ((parquetref07_Ranks.f k3 y546).bind fun t588 => ((parquetref00_SameInts.f k3 t552 t588).bind fun t591 => (if t591 = true then ((parquetlaw07_known.f k3).bind fun t592 => (some t592)) else (some false)))) else (some false))) else (some false))) = some r := by first | (rw [hy578]; with_reducible exact H) | (have H2_ := (Option.bind_some _ _).symm.trans H; rw [hy578]; with_reducible exact H2_) | (have H2_ := (Option.bind_some _ _).symm.trans H; with_reducible exact H2_) | with_reducible exact H | (rw [hy578]; exact H) | exact H
                                  have Ny578 := Aside0.mk hy578
                                  clear hy578
                                  replace H := Option.bind_eq_some_iff.mp H
                                  obtain ⟨t582, A600, H⟩ := H
                                  replace H : (if t582 = true then ((parquetref00_SameInts.f k3 (t561.drop ((y546.length : Int) : Int).toNat) t552).bind fun t587 => (if t587 = true then ((parquetref07_Ranks.f k3 y546).bind fun t588 => ((parquetref00_SameInts.f k3 t552 t588).bind fun t591 => (if t591 = true then ((parquetlaw07_known.f k3).bind fun t592 => (some t592)) else (some false)))) else (some false))) else (some false)) = some r := H
                                  have A60 := Aside0.mk A600
                                  clear A600
                                  by_cases c61 : t582 = true
                                  · subst c61
                                    have H1 : ((parquetref00_SameInts.f k3 (t561.drop ((y546.length : Int) : Int).toNat) t552).bind fun t587 => (if t587 = true then ((parquetref07_Ranks.f k3 y546).bind fun t588 => ((parquetref00_SameInts.f k3 t552 t588).bind fun t591 => (if t591 = true then ((parquetlaw07_known.f k3).bind fun t592 => (some t592)) else (some false)))) else (some false))) = some r := by rw [if_pos rfl] at H; exact H
                                    clear H
                                    have H := H1
                                    clear H1
                                    have c62b0 := eq_true (of_decide_eq_true (by first | (with_reducible assumption) | assumption) : 0 ≤ (y546.length : Int))
                                    have c63b0 := eq_true (of_decide_eq_true (by first | (with_reducible assumption) | assumption) : (y546.length : Int) ≤ (t561.length : Int))
                                    obtain ⟨y583, hy583⟩ : ∃ y_ : List Int, y_ = (t561.drop ((y546.length : Int) : Int).toNat) := ⟨_, rfl⟩
                                    replace H : ((parquetref00_SameInts.f k3 y583 t552).bind fun t587 => (if t587 = true then ((parquetref07_Ranks.f k3 y546).bind fun t588 => ((parquetref00_SameInts.f k3 t552 t588).bind fun t591 => (if t591 = true then ((parquetlaw07_known.f k3).bind fun t592 => (some t592)) else (some false)))) else (some false))) = some r := by first | (rw [hy583]; with_reducible exact H) | (have H2_ := (Option.bind_some _ _).symm.trans H; rw [hy583]; with_reducible exact H2_) | (have H2_ := (Option.bind_some _ _).symm.trans H; with_reducible exact H2_) | with_reducible exact H | (rw [hy583]; exact H) | exact H
                                    have Ny583 := Aside0.mk hy583
                                    clear hy583
                                    replace H := Option.bind_eq_some_iff.mp H
                                    obtain ⟨t587, A640, H⟩ := H
                                    replace H : (if t587 = true then ((parquetref07_Ranks.f k3 y546).bind fun t588 => ((parquetref00_SameInts.f k3 t552 t588).bind fun t591 => (if t591 = true then ((parquetlaw07_known.f k3).bind fun t592 => (some t592)) else (some false)))) else (some false)) = some r := H
                                    have A64 := Aside0.mk A640
                                    clear A640
                                    by_cases c65 : t587 = true
                                    · subst c65
                                      have H1 : ((parquetref07_Ranks.f k3 y546).bind fun t588 => ((parquetref00_SameInts.f k3 t552 t588).bind fun t591 => (if t591 = true then ((parquetlaw07_known.f k3).bind fun t592 => (some t592)) else (some false)))) = some r := by rw [if_pos rfl] at H; exact H
                                      clear H
                                      have H := H1
                                      clear H1
                                      replace H := Option.bind_eq_some_iff.mp H
                                      obtain ⟨t588, A660, H⟩ := H
                                      replace H : ((parquetref00_SameInts.f k3 t552 t588).bind fun t591 => (if t591 = true then ((parquetlaw07_known.f k3).bind fun t592 => (some t592)) else (some false))) = some r := H
                                      have A66 := Aside0.mk A660
                                      clear A660
                                      replace H := Option.bind_eq_some_iff.mp H
                                      obtain ⟨t591, A670, H⟩ := H
                                      replace H : (if t591 = true then ((parquetlaw07_known.f k3).bind fun t592 => (some t592)) else (some false)) = some r := H
                                      have A67 := Aside0.mk A670
                                      clear A670
                                      by_cases c68 : t591 = true
                                      · subst c68
                                        have H1 : ((parquetlaw07_known.f k3).bind fun t592 => (some t592)) = some r := by rw [if_pos rfl] at H; exact H
                                        clear H
                                        have H := H1
                                        clear H1
                                        replace H := Option.bind_eq_some_iff.mp H
                                        obtain ⟨t592, A690, H⟩ := H
                                        replace H : (some t592) = some r := H
                                        have A69 := Aside0.mk A690
                                        clear A690
                                        obtain rfl := Option.some.inj H
                                        obtain ⟨Ao71, co71, eo71⟩ := Kd.R_slice HO_9.out
                                        subst eo71
                                        have q70 : ((y546.length : Int) : Int) ≤ ((t561.length : Int) : Int) := of_decide_eq_true (by first | (with_reducible assumption) | assumption)
                                        obtain ⟨i070, hi070, _, hsz70, _⟩ := info_parts info3
                                        have hroom70 : t561.length ≤ co71 := (Kd.R_reads' HO_9.out).2.1
                                        have hC70 : Kd.C (Kd.int .i64) _ Ao71 t561.length t561 := (Kd.R_reads' HO_9.out).2.2
                                        have hcut70 := cut_to (P := Try.prog) 24 3 .i64 Try.underlying24 hi070 Ao71 t561.length co71 (y546.length : Int) (of_decide_eq_true (by first | (with_reducible assumption) | assumption)) q70 hroom70
                                        have hr70 := Kd.C_take (m := ((y546.length : Int) : Int).toNat) hC70 (by omega)
                                        have hy70 : y578.length = ((y546.length : Int) : Int).toNat := (by rw [Ny578.out, List.length_take]; omega)
                                        rw [← Ny578.out] at hr70
                                        rw [← hy70] at hcut70
                                        have HR581 := Aside0.mk hr70
                                        have HC581 := Aside0.mk (show y578.length ≤ co71 from by omega)
                                        clear hr70 hC70 hroom70 hi070 hsz70
                                        have KY70 := Aside0.mk hy70
                                        clear hy70
                                        have KL70 := Aside0.mk (show ((y546.length : Int) : Int).toNat ≤ t561.length from by omega)
                                        replace q70 := eq_true q70
                                        obtain ⟨Ao72, co72, eo72⟩ := Kd.R_slice HO_7.out
                                        subst eo72
                                        go_wp2_with (first | (go_at_call 13; (with_reducible refine (parquetref00_SameInts.calls k3 _ _ y578 _ _ t552 true _ ?side1 ?side2 ?side3 ?side4 A60.out).mono ?_); (case side1 => repeat (first | exact (by repeat (first | (with_reducible exact HR581.out) | (with_reducible refine Kd.C_alloc ?_ _) | (with_reducible refine Kd.C_drewN ?_ _) | (with_reducible refine Kd.C_drew ?_) | exact HR581.out)) | (with_reducible refine Kd.C_alloc ?_ _) | (with_reducible refine Kd.C_drewN ?_ _) | (with_reducible refine Kd.C_drew ?_))); (case side2 => exact HC581.out); (case side3 => repeat (first | exact (Kd.R_reads' HO_7.out).2.2 | (with_reducible refine Kd.C_alloc ?_ _) | (with_reducible refine Kd.C_drewN ?_ _) | (with_reducible refine Kd.C_drew ?_))); (case side4 => exact (Kd.R_reads' HO_7.out).2.1); rintro e w' ⟨rfl, ⟨nd, rfl⟩⟩; (try first | exact ⟨rfl, _, World.drewN_drewN _ _ _⟩ | exact ⟨rfl, _, Eq.trans (World.drewN_drewN _ _ _) (congrArg (World.drewN _) (Nat.add_assoc _ _ _))⟩); have q73 : ((y546.length : Int) : Int) ≤ ((t561.length : Int) : Int) := of_decide_eq_true (by first | (with_reducible assumption) | assumption); obtain ⟨i073, hi073, _, hsz73, _⟩ := info_parts info3; have hroom73 : t561.length ≤ co71 := (Kd.R_reads' HO_9.out).2.1; have hC73 : Kd.C (Kd.int .i64) _ Ao71 t561.length t561 := (Kd.R_reads' HO_9.out).2.2; have q073 : (0 : Int) ≤ ((y546.length : Int) : Int) := of_decide_eq_true (by first | (with_reducible assumption) | assumption); have hcut73 := cut_from (P := Try.prog) 24 3 .i64 Try.underlying24 hi073 1 hsz73 Ao71 t561.length co71 (y546.length : Int) q073 q73; have hr73 := Kd.C_drop (m := ((y546.length : Int) : Int).toNat) (c := co71) hC73 (by omega) hroom73; obtain ⟨A73, hA73⟩ : ∃ A1, A1 = (if co71 = ((y546.length : Int) : Int).toNat then Ao71 else (Ao71 : Option Addr).map (·.add (((y546.length : Int) : Int).toNat * 1))) := ⟨_, rfl⟩; obtain ⟨c73, hc73⟩ : ∃ c1, c1 = co71 - ((y546.length : Int) : Int).toNat := ⟨_, rfl⟩; have hy73 : y583.length = t561.length - ((y546.length : Int) : Int).toNat := (by rw [Ny583.out, List.length_drop] <;> omega); rw [show (t561).drop ((y546.length : Int) : Int).toNat = y583 from Ny583.out.symm] at hr73; replace hr73 : Kd.C (Kd.int .i64) _ A73 y583.length y583 := (by rw [hA73]; exact hr73); rw [← hy73, ← hA73, ← hc73] at hcut73; have HR586 := Aside0.mk hr73; have HC586 := Aside0.mk (show y583.length ≤ c73 from by rw [hy73, hc73]; exact Nat.sub_le_sub_right hroom73 _); clear hr73 hC73 hroom73 hi073 hsz73 hc73; have KY73 := Aside0.mk hy73; have KA73 := Aside0.mk hA73; clear hy73 hA73; have KL73 := Aside0.mk (show ((y546.length : Int) : Int).toNat ≤ t561.length from by omega); replace q73 := eq_true q73) | (go_at_call 13; (with_reducible refine (parquetref00_SameInts.calls k3 _ _ y583 _ _ t552 true _ ?side1 ?side2 ?side3 ?side4 A64.out).mono ?_); (case side1 => repeat (first | exact (by repeat (first | (with_reducible exact HR586.out) | (with_reducible refine Kd.C_alloc ?_ _) | (with_reducible refine Kd.C_drewN ?_ _) | (with_reducible refine Kd.C_drew ?_) | exact HR586.out)) | (with_reducible refine Kd.C_alloc ?_ _) | (with_reducible refine Kd.C_drewN ?_ _) | (with_reducible refine Kd.C_drew ?_))); (case side2 => exact HC586.out); (case side3 => repeat (first | exact (Kd.R_reads' HO_7.out).2.2 | (with_reducible refine Kd.C_alloc ?_ _) | (with_reducible refine Kd.C_drewN ?_ _) | (with_reducible refine Kd.C_drew ?_))); (case side4 => exact (Kd.R_reads' HO_7.out).2.1); rintro e w' ⟨rfl, ⟨nd, rfl⟩⟩; (try first | exact ⟨rfl, _, World.drewN_drewN _ _ _⟩ | exact ⟨rfl, _, Eq.trans (World.drewN_drewN _ _ _) (congrArg (World.drewN _) (Nat.add_assoc _ _ _))⟩)) | (go_at_call 15; (with_reducible refine (parquetref07_Ranks.calls k3 _ _ y546 t588 _ ?side1 ?side2 A66.out).mono ?_); (case side1 => repeat (first | exact (Kd.R_reads' HO_5.out).2.2 | (with_reducible refine Kd.C_alloc ?_ _) | (with_reducible refine Kd.C_drewN ?_ _) | (with_reducible refine Kd.C_drew ?_))); (case side2 => exact (Kd.R_reads' HO_5.out).2.1); rintro e w74 ⟨v589, rfl, ho0, hb⟩; have n0_ := Aside0.mk (Kd.R_below (by (with_reducible repeat (first | apply Kd.R_alloc | apply Kd.R_drewN | apply Kd.R_drew)); exact HO_5.out) hb); have n1_ := Aside0.mk (Kd.R_elder' (by (with_reducible repeat (first | apply Kd.R_alloc | apply Kd.R_drewN | apply Kd.R_drew)); exact HO_6.out) (Kd.R_base ho0) hb); have n2_ := Aside0.mk (Kd.R_elder' (by (with_reducible repeat (first | apply Kd.R_alloc | apply Kd.R_drewN | apply Kd.R_drew)); exact HO_7.out) (Kd.R_base ho0) hb); have n3_ := Aside0.mk (Kd.R_elder' (by (with_reducible repeat (first | apply Kd.R_alloc | apply Kd.R_drewN | apply Kd.R_drew)); exact HO_9.out) (Kd.R_base ho0) hb); have n4_ := Aside0.mk (Kd.R_below (by (with_reducible repeat (first | apply Kd.R_alloc | apply Kd.R_drewN | apply Kd.R_drew)); exact HO_12.out) hb); have n5_ := Aside0.mk (Kd.R_lower (Kd.R_new' (Kd.R_new' (Kd.R_new' ho0 (Kd.R_lt (by (with_reducible repeat (first | apply Kd.R_alloc | apply Kd.R_drewN | apply Kd.R_drew)); exact HO_6.out))) (Kd.R_lt (by (with_reducible repeat (first | apply Kd.R_alloc | apply Kd.R_drewN | apply Kd.R_drew)); exact HO_7.out))) (Kd.R_lt (by (with_reducible repeat (first | apply Kd.R_alloc | apply Kd.R_drewN | apply Kd.R_drew)); exact HO_9.out))) (below_size (by repeat (first | (with_reducible first | exact HB.out | apply below_alloc | apply pw_below_drewN | apply below_drew1) | exact HB.out)))); have n6_ := Aside0.mk (Kd.C_below (d := (Kd.int .i64)) (A := Ao71) (n := y578.length) (xs := y578) (by repeat (first | (with_reducible exact HR581.out) | (with_reducible refine Kd.C_alloc ?_ _) | (with_reducible refine Kd.C_drewN ?_ _) | (with_reducible refine Kd.C_drew ?_) | exact HR581.out)) hb); have n7_ := Aside0.mk (Kd.C_below (d := (Kd.int .i64)) (A := A73) (n := y583.length) (xs := y583) (by repeat (first | (with_reducible exact HR586.out) | (with_reducible refine Kd.C_alloc ?_ _) | (with_reducible refine Kd.C_drewN ?_ _) | (with_reducible refine Kd.C_drew ?_) | exact HR586.out)) hb); have n8_ := Aside0.mk (below_step (by repeat (first | (with_reducible first | exact HB.out | apply below_alloc | apply pw_below_drewN | apply below_drew1) | exact HB.out)) hb); clear HO_5; clear HO_6; clear HO_7; clear HO_9; clear HO_12; clear HR581; clear HR586; clear HB; have HO_5 := n0_; have HO_6 := n1_; have HO_7 := n2_; have HO_9 := n3_; have HO_12 := n4_; have HO590 := n5_; have HR581 := n6_; have HR586 := n7_; have HB := n8_; clear n0_ n1_ n2_ n3_ n4_ n5_ n6_ n7_ n8_; (try clear hb); (try clear hb2); (try clear hk); (try clear hi); (try clear ho0); obtain ⟨Ao75, co75, eo75⟩ := Kd.R_slice HO590.out; subst eo75) | (go_at_call 13; (with_reducible refine (parquetref00_SameInts.calls k3 _ _ t552 _ _ t588 true _ ?side1 ?side2 ?side3 ?side4 A67.out).mono ?_); (case side1 => repeat (first | exact (Kd.R_reads' HO_7.out).2.2 | (with_reducible refine Kd.C_alloc ?_ _) | (with_reducible refine Kd.C_drewN ?_ _) | (with_reducible refine Kd.C_drew ?_))); (case side2 => exact (Kd.R_reads' HO_7.out).2.1); (case side3 => repeat (first | exact (Kd.R_reads' HO590.out).2.2 | (with_reducible refine Kd.C_alloc ?_ _) | (with_reducible refine Kd.C_drewN ?_ _) | (with_reducible refine Kd.C_drew ?_))); (case side4 => exact (Kd.R_reads' HO590.out).2.1); rintro e w' ⟨rfl, ⟨nd, rfl⟩⟩; (try first | exact ⟨rfl, _, World.drewN_drewN _ _ _⟩ | exact ⟨rfl, _, Eq.trans (World.drewN_drewN _ _ _) (congrArg (World.drewN _) (Nat.add_assoc _ _ _))⟩)) | (go_at_call 10; (with_reducible refine (parquetlaw07_known.calls k3  t592 _ (by first | exact hT | exact ⟨rfl⟩) A69.out).mono ?_); rintro e w76 ⟨rfl, hb⟩; have n0_ := Aside0.mk (Kd.R_below (by (with_reducible repeat (first | apply Kd.R_alloc | apply Kd.R_drewN | apply Kd.R_drew)); exact HO_5.out) hb); have n1_ := Aside0.mk (Kd.R_below (by (with_reducible repeat (first | apply Kd.R_alloc | apply Kd.R_drewN | apply Kd.R_drew)); exact HO_6.out) hb); have n2_ := Aside0.mk (Kd.R_below (by (with_reducible repeat (first | apply Kd.R_alloc | apply Kd.R_drewN | apply Kd.R_drew)); exact HO_7.out) hb); have n3_ := Aside0.mk (Kd.R_below (by (with_reducible repeat (first | apply Kd.R_alloc | apply Kd.R_drewN | apply Kd.R_drew)); exact HO_9.out) hb); have n4_ := Aside0.mk (Kd.R_below (by (with_reducible repeat (first | apply Kd.R_alloc | apply Kd.R_drewN | apply Kd.R_drew)); exact HO_12.out) hb); have n5_ := Aside0.mk (Kd.R_below (by (with_reducible repeat (first | apply Kd.R_alloc | apply Kd.R_drewN | apply Kd.R_drew)); exact HO590.out) hb); have n6_ := Aside0.mk (Kd.C_below (d := (Kd.int .i64)) (A := Ao71) (n := y578.length) (xs := y578) (by repeat (first | (with_reducible exact HR581.out) | (with_reducible refine Kd.C_alloc ?_ _) | (with_reducible refine Kd.C_drewN ?_ _) | (with_reducible refine Kd.C_drew ?_) | exact HR581.out)) hb); have n7_ := Aside0.mk (Kd.C_below (d := (Kd.int .i64)) (A := A73) (n := y583.length) (xs := y583) (by repeat (first | (with_reducible exact HR586.out) | (with_reducible refine Kd.C_alloc ?_ _) | (with_reducible refine Kd.C_drewN ?_ _) | (with_reducible refine Kd.C_drew ?_) | exact HR586.out)) hb); have n8_ := Aside0.mk (below_step (by repeat (first | (with_reducible first | exact HB.out | apply below_alloc | apply pw_below_drewN | apply below_drew1) | exact HB.out)) hb); clear HO_5; clear HO_6; clear HO_7; clear HO_9; clear HO_12; clear HO590; clear HR581; clear HR586; clear HB; have HO_5 := n0_; have HO_6 := n1_; have HO_7 := n2_; have HO_9 := n3_; have HO_12 := n4_; have HO590 := n5_; have HR581 := n6_; have HR586 := n7_; have HB := n8_; clear n0_ n1_ n2_ n3_ n4_ n5_ n6_ n7_ n8_; (try clear hb); (try clear hb2); (try clear hk); (try clear hi)))
                                        repeat (go_quiet (first | (go_at_call 13; (with_reducible refine (parquetref00_SameInts.calls k3 _ _ y578 _ _ t552 true _ ?side1 ?side2 ?side3 ?side4 A60.out).mono ?_); (case side1 => repeat (first | exact (by repeat (first | (with_reducible exact HR581.out) | (with_reducible refine Kd.C_alloc ?_ _) | (with_reducible refine Kd.C_drewN ?_ _) | (with_reducible refine Kd.C_drew ?_) | exact HR581.out)) | (with_reducible refine Kd.C_alloc ?_ _) | (with_reducible refine Kd.C_drewN ?_ _) | (with_reducible refine Kd.C_drew ?_))); (case side2 => exact HC581.out); (case side3 => repeat (first | exact (Kd.R_reads' HO_7.out).2.2 | (with_reducible refine Kd.C_alloc ?_ _) | (with_reducible refine Kd.C_drewN ?_ _) | (with_reducible refine Kd.C_drew ?_))); (case side4 => exact (Kd.R_reads' HO_7.out).2.1); rintro e w' ⟨rfl, ⟨nd, rfl⟩⟩; (try first | exact ⟨rfl, _, World.drewN_drewN _ _ _⟩ | exact ⟨rfl, _, Eq.trans (World.drewN_drewN _ _ _) (congrArg (World.drewN _) (Nat.add_assoc _ _ _))⟩); have q73 : ((y546.length : Int) : Int) ≤ ((t561.length : Int) : Int) := of_decide_eq_true (by first | (with_reducible assumption) | assumption); obtain ⟨i073, hi073, _, hsz73, _⟩ := info_parts info3; have hroom73 : t561.length ≤ co71 := (Kd.R_reads' HO_9.out).2.1; have hC73 : Kd.C (Kd.int .i64) _ Ao71 t561.length t561 := (Kd.R_reads' HO_9.out).2.2; have q073 : (0 : Int) ≤ ((y546.length : Int) : Int) := of_decide_eq_true (by first | (with_reducible assumption) | assumption); have hcut73 := cut_from (P := Try.prog) 24 3 .i64 Try.underlying24 hi073 1 hsz73 Ao71 t561.length co71 (y546.length : Int) q073 q73; have hr73 := Kd.C_drop (m := ((y546.length : Int) : Int).toNat) (c := co71) hC73 (by omega) hroom73; obtain ⟨A73, hA73⟩ : ∃ A1, A1 = (if co71 = ((y546.length : Int) : Int).toNat then Ao71 else (Ao71 : Option Addr).map (·.add (((y546.length : Int) : Int).toNat * 1))) := ⟨_, rfl⟩; obtain ⟨c73, hc73⟩ : ∃ c1, c1 = co71 - ((y546.length : Int) : Int).toNat := ⟨_, rfl⟩; have hy73 : y583.length = t561.length - ((y546.length : Int) : Int).toNat := (by rw [Ny583.out, List.length_drop] <;> omega); rw [show (t561).drop ((y546.length : Int) : Int).toNat = y583 from Ny583.out.symm] at hr73; replace hr73 : Kd.C (Kd.int .i64) _ A73 y583.length y583 := (by rw [hA73]; exact hr73); rw [← hy73, ← hA73, ← hc73] at hcut73; have HR586 := Aside0.mk hr73; have HC586 := Aside0.mk (show y583.length ≤ c73 from by rw [hy73, hc73]; exact Nat.sub_le_sub_right hroom73 _); clear hr73 hC73 hroom73 hi073 hsz73 hc73; have KY73 := Aside0.mk hy73; have KA73 := Aside0.mk hA73; clear hy73 hA73; have KL73 := Aside0.mk (show ((y546.length : Int) : Int).toNat ≤ t561.length from by omega); replace q73 := eq_true q73) | (go_at_call 13; (with_reducible refine (parquetref00_SameInts.calls k3 _ _ y583 _ _ t552 true _ ?side1 ?side2 ?side3 ?side4 A64.out).mono ?_); (case side1 => repeat (first | exact (by repeat (first | (with_reducible exact HR586.out) | (with_reducible refine Kd.C_alloc ?_ _) | (with_reducible refine Kd.C_drewN ?_ _) | (with_reducible refine Kd.C_drew ?_) | exact HR586.out)) | (with_reducible refine Kd.C_alloc ?_ _) | (with_reducible refine Kd.C_drewN ?_ _) | (with_reducible refine Kd.C_drew ?_))); (case side2 => exact HC586.out); (case side3 => repeat (first | exact (Kd.R_reads' HO_7.out).2.2 | (with_reducible refine Kd.C_alloc ?_ _) | (with_reducible refine Kd.C_drewN ?_ _) | (with_reducible refine Kd.C_drew ?_))); (case side4 => exact (Kd.R_reads' HO_7.out).2.1); rintro e w' ⟨rfl, ⟨nd, rfl⟩⟩; (try first | exact ⟨rfl, _, World.drewN_drewN _ _ _⟩ | exact ⟨rfl, _, Eq.trans (World.drewN_drewN _ _ _) (congrArg (World.drewN _) (Nat.add_assoc _ _ _))⟩)) | (go_at_call 15; (with_reducible refine (parquetref07_Ranks.calls k3 _ _ y546 t588 _ ?side1 ?side2 A66.out).mono ?_); (case side1 => repeat (first | exact (Kd.R_reads' HO_5.out).2.2 | (with_reducible refine Kd.C_alloc ?_ _) | (with_reducible refine Kd.C_drewN ?_ _) | (with_reducible refine Kd.C_drew ?_))); (case side2 => exact (Kd.R_reads' HO_5.out).2.1); rintro e w74 ⟨v589, rfl, ho0, hb⟩; have n0_ := Aside0.mk (Kd.R_below (by (with_reducible repeat (first | apply Kd.R_alloc | apply Kd.R_drewN | apply Kd.R_drew)); exact HO_5.out) hb); have n1_ := Aside0.mk (Kd.R_elder' (by (with_reducible repeat (first | apply Kd.R_alloc | apply Kd.R_drewN | apply Kd.R_drew)); exact HO_6.out) (Kd.R_base ho0) hb); have n2_ := Aside0.mk (Kd.R_elder' (by (with_reducible repeat (first | apply Kd.R_alloc | apply Kd.R_drewN | apply Kd.R_drew)); exact HO_7.out) (Kd.R_base ho0) hb); have n3_ := Aside0.mk (Kd.R_elder' (by (with_reducible repeat (first | apply Kd.R_alloc | apply Kd.R_drewN | apply Kd.R_drew)); exact HO_9.out) (Kd.R_base ho0) hb); have n4_ := Aside0.mk (Kd.R_below (by (with_reducible repeat (first | apply Kd.R_alloc | apply Kd.R_drewN | apply Kd.R_drew)); exact HO_12.out) hb); have n5_ := Aside0.mk (Kd.R_lower (Kd.R_new' (Kd.R_new' (Kd.R_new' ho0 (Kd.R_lt (by (with_reducible repeat (first | apply Kd.R_alloc | apply Kd.R_drewN | apply Kd.R_drew)); exact HO_6.out))) (Kd.R_lt (by (with_reducible repeat (first | apply Kd.R_alloc | apply Kd.R_drewN | apply Kd.R_drew)); exact HO_7.out))) (Kd.R_lt (by (with_reducible repeat (first | apply Kd.R_alloc | apply Kd.R_drewN | apply Kd.R_drew)); exact HO_9.out))) (below_size (by repeat (first | (with_reducible first | exact HB.out | apply below_alloc | apply pw_below_drewN | apply below_drew1) | exact HB.out)))); have n6_ := Aside0.mk (Kd.C_below (d := (Kd.int .i64)) (A := Ao71) (n := y578.length) (xs := y578) (by repeat (first | (with_reducible exact HR581.out) | (with_reducible refine Kd.C_alloc ?_ _) | (with_reducible refine Kd.C_drewN ?_ _) | (with_reducible refine Kd.C_drew ?_) | exact HR581.out)) hb); have n7_ := Aside0.mk (Kd.C_below (d := (Kd.int .i64)) (A := A73) (n := y583.length) (xs := y583) (by repeat (first | (with_reducible exact HR586.out) | (with_reducible refine Kd.C_alloc ?_ _) | (with_reducible refine Kd.C_drewN ?_ _) | (with_reducible refine Kd.C_drew ?_) | exact HR586.out)) hb); have n8_ := Aside0.mk (below_step (by repeat (first | (with_reducible first | exact HB.out | apply below_alloc | apply pw_below_drewN | apply below_drew1) | exact HB.out)) hb); clear HO_5; clear HO_6; clear HO_7; clear HO_9; clear HO_12; clear HR581; clear HR586; clear HB; have HO_5 := n0_; have HO_6 := n1_; have HO_7 := n2_; have HO_9 := n3_; have HO_12 := n4_; have HO590 := n5_; have HR581 := n6_; have HR586 := n7_; have HB := n8_; clear n0_ n1_ n2_ n3_ n4_ n5_ n6_ n7_ n8_; (try clear hb); (try clear hb2); (try clear hk); (try clear hi); (try clear ho0); obtain ⟨Ao75, co75, eo75⟩ := Kd.R_slice HO590.out; subst eo75) | (go_at_call 13; (with_reducible refine (parquetref00_SameInts.calls k3 _ _ t552 _ _ t588 true _ ?side1 ?side2 ?side3 ?side4 A67.out).mono ?_); (case side1 => repeat (first | exact (Kd.R_reads' HO_7.out).2.2 | (with_reducible refine Kd.C_alloc ?_ _) | (with_reducible refine Kd.C_drewN ?_ _) | (with_reducible refine Kd.C_drew ?_))); (case side2 => exact (Kd.R_reads' HO_7.out).2.1); (case side3 => repeat (first | exact (Kd.R_reads' HO590.out).2.2 | (with_reducible refine Kd.C_alloc ?_ _) | (with_reducible refine Kd.C_drewN ?_ _) | (with_reducible refine Kd.C_drew ?_))); (case side4 => exact (Kd.R_reads' HO590.out).2.1); rintro e w' ⟨rfl, ⟨nd, rfl⟩⟩; (try first | exact ⟨rfl, _, World.drewN_drewN _ _ _⟩ | exact ⟨rfl, _, Eq.trans (World.drewN_drewN _ _ _) (congrArg (World.drewN _) (Nat.add_assoc _ _ _))⟩)) | (go_at_call 10; (with_reducible refine (parquetlaw07_known.calls k3  t592 _ (by first | exact hT | exact ⟨rfl⟩) A69.out).mono ?_); rintro e w76 ⟨rfl, hb⟩; have n0_ := Aside0.mk (Kd.R_below (by (with_reducible repeat (first | apply Kd.R_alloc | apply Kd.R_drewN | apply Kd.R_drew)); exact HO_5.out) hb); have n1_ := Aside0.mk (Kd.R_below (by (with_reducible repeat (first | apply Kd.R_alloc | apply Kd.R_drewN | apply Kd.R_drew)); exact HO_6.out) hb); have n2_ := Aside0.mk (Kd.R_below (by (with_reducible repeat (first | apply Kd.R_alloc | apply Kd.R_drewN | apply Kd.R_drew)); exact HO_7.out) hb); have n3_ := Aside0.mk (Kd.R_below (by (with_reducible repeat (first | apply Kd.R_alloc | apply Kd.R_drewN | apply Kd.R_drew)); exact HO_9.out) hb); have n4_ := Aside0.mk (Kd.R_below (by (with_reducible repeat (first | apply Kd.R_alloc | apply Kd.R_drewN | apply Kd.R_drew)); exact HO_12.out) hb); have n5_ := Aside0.mk (Kd.R_below (by (with_reducible repeat (first | apply Kd.R_alloc | apply Kd.R_drewN | apply Kd.R_drew)); exact HO590.out) hb); have n6_ := Aside0.mk (Kd.C_below (d := (Kd.int .i64)) (A := Ao71) (n := y578.length) (xs := y578) (by repeat (first | (with_reducible exact HR581.out) | (with_reducible refine Kd.C_alloc ?_ _) | (with_reducible refine Kd.C_drewN ?_ _) | (with_reducible refine Kd.C_drew ?_) | exact HR581.out)) hb); have n7_ := Aside0.mk (Kd.C_below (d := (Kd.int .i64)) (A := A73) (n := y583.length) (xs := y583) (by repeat (first | (with_reducible exact HR586.out) | (with_reducible refine Kd.C_alloc ?_ _) | (with_reducible refine Kd.C_drewN ?_ _) | (with_reducible refine Kd.C_drew ?_) | exact HR586.out)) hb); have n8_ := Aside0.mk (below_step (by repeat (first | (with_reducible first | exact HB.out | apply below_alloc | apply pw_below_drewN | apply below_drew1) | exact HB.out)) hb); clear HO_5; clear HO_6; clear HO_7; clear HO_9; clear HO_12; clear HO590; clear HR581; clear HR586; clear HB; have HO_5 := n0_; have HO_6 := n1_; have HO_7 := n2_; have HO_9 := n3_; have HO_12 := n4_; have HO590 := n5_; have HR581 := n6_; have HR586 := n7_; have HB := n8_; clear n0_ n1_ n2_ n3_ n4_ n5_ n6_ n7_ n8_; (try clear hb); (try clear hb2); (try clear hk); (try clear hi))); try go_wp2_with (first | (go_at_call 13; (with_reducible refine (parquetref00_SameInts.calls k3 _ _ y578 _ _ t552 true _ ?side1 ?side2 ?side3 ?side4 A60.out).mono ?_); (case side1 => repeat (first | exact (by repeat (first | (with_reducible exact HR581.out) | (with_reducible refine Kd.C_alloc ?_ _) | (with_reducible refine Kd.C_drewN ?_ _) | (with_reducible refine Kd.C_drew ?_) | exact HR581.out)) | (with_reducible refine Kd.C_alloc ?_ _) | (with_reducible refine Kd.C_drewN ?_ _) | (with_reducible refine Kd.C_drew ?_))); (case side2 => exact HC581.out); (case side3 => repeat (first | exact (Kd.R_reads' HO_7.out).2.2 | (with_reducible refine Kd.C_alloc ?_ _) | (with_reducible refine Kd.C_drewN ?_ _) | (with_reducible refine Kd.C_drew ?_))); (case side4 => exact (Kd.R_reads' HO_7.out).2.1); rintro e w' ⟨rfl, ⟨nd, rfl⟩⟩; (try first | exact ⟨rfl, _, World.drewN_drewN _ _ _⟩ | exact ⟨rfl, _, Eq.trans (World.drewN_drewN _ _ _) (congrArg (World.drewN _) (Nat.add_assoc _ _ _))⟩); have q73 : ((y546.length : Int) : Int) ≤ ((t561.length : Int) : Int) := of_decide_eq_true (by first | (with_reducible assumption) | assumption); obtain ⟨i073, hi073, _, hsz73, _⟩ := info_parts info3; have hroom73 : t561.length ≤ co71 := (Kd.R_reads' HO_9.out).2.1; have hC73 : Kd.C (Kd.int .i64) _ Ao71 t561.length t561 := (Kd.R_reads' HO_9.out).2.2; have q073 : (0 : Int) ≤ ((y546.length : Int) : Int) := of_decide_eq_true (by first | (with_reducible assumption) | assumption); have hcut73 := cut_from (P := Try.prog) 24 3 .i64 Try.underlying24 hi073 1 hsz73 Ao71 t561.length co71 (y546.length : Int) q073 q73; have hr73 := Kd.C_drop (m := ((y546.length : Int) : Int).toNat) (c := co71) hC73 (by omega) hroom73; obtain ⟨A73, hA73⟩ : ∃ A1, A1 = (if co71 = ((y546.length : Int) : Int).toNat then Ao71 else (Ao71 : Option Addr).map (·.add (((y546.length : Int) : Int).toNat * 1))) := ⟨_, rfl⟩; obtain ⟨c73, hc73⟩ : ∃ c1, c1 = co71 - ((y546.length : Int) : Int).toNat := ⟨_, rfl⟩; have hy73 : y583.length = t561.length - ((y546.length : Int) : Int).toNat := (by rw [Ny583.out, List.length_drop] <;> omega); rw [show (t561).drop ((y546.length : Int) : Int).toNat = y583 from Ny583.out.symm] at hr73; replace hr73 : Kd.C (Kd.int .i64) _ A73 y583.length y583 := (by rw [hA73]; exact hr73); rw [← hy73, ← hA73, ← hc73] at hcut73; have HR586 := Aside0.mk hr73; have HC586 := Aside0.mk (show y583.length ≤ c73 from by rw [hy73, hc73]; exact Nat.sub_le_sub_right hroom73 _); clear hr73 hC73 hroom73 hi073 hsz73 hc73; have KY73 := Aside0.mk hy73; have KA73 := Aside0.mk hA73; clear hy73 hA73; have KL73 := Aside0.mk (show ((y546.length : Int) : Int).toNat ≤ t561.length from by omega); replace q73 := eq_true q73) | (go_at_call 13; (with_reducible refine (parquetref00_SameInts.calls k3 _ _ y583 _ _ t552 true _ ?side1 ?side2 ?side3 ?side4 A64.out).mono ?_); (case side1 => repeat (first | exact (by repeat (first | (with_reducible exact HR586.out) | (with_reducible refine Kd.C_alloc ?_ _) | (with_reducible refine Kd.C_drewN ?_ _) | (with_reducible refine Kd.C_drew ?_) | exact HR586.out)) | (with_reducible refine Kd.C_alloc ?_ _) | (with_reducible refine Kd.C_drewN ?_ _) | (with_reducible refine Kd.C_drew ?_))); (case side2 => exact HC586.out); (case side3 => repeat (first | exact (Kd.R_reads' HO_7.out).2.2 | (with_reducible refine Kd.C_alloc ?_ _) | (with_reducible refine Kd.C_drewN ?_ _) | (with_reducible refine Kd.C_drew ?_))); (case side4 => exact (Kd.R_reads' HO_7.out).2.1); rintro e w' ⟨rfl, ⟨nd, rfl⟩⟩; (try first | exact ⟨rfl, _, World.drewN_drewN _ _ _⟩ | exact ⟨rfl, _, Eq.trans (World.drewN_drewN _ _ _) (congrArg (World.drewN _) (Nat.add_assoc _ _ _))⟩)) | (go_at_call 15; (with_reducible refine (parquetref07_Ranks.calls k3 _ _ y546 t588 _ ?side1 ?side2 A66.out).mono ?_); (case side1 => repeat (first | exact (Kd.R_reads' HO_5.out).2.2 | (with_reducible refine Kd.C_alloc ?_ _) | (with_reducible refine Kd.C_drewN ?_ _) | (with_reducible refine Kd.C_drew ?_))); (case side2 => exact (Kd.R_reads' HO_5.out).2.1); rintro e w74 ⟨v589, rfl, ho0, hb⟩; have n0_ := Aside0.mk (Kd.R_below (by (with_reducible repeat (first | apply Kd.R_alloc | apply Kd.R_drewN | apply Kd.R_drew)); exact HO_5.out) hb); have n1_ := Aside0.mk (Kd.R_elder' (by (with_reducible repeat (first | apply Kd.R_alloc | apply Kd.R_drewN | apply Kd.R_drew)); exact HO_6.out) (Kd.R_base ho0) hb); have n2_ := Aside0.mk (Kd.R_elder' (by (with_reducible repeat (first | apply Kd.R_alloc | apply Kd.R_drewN | apply Kd.R_drew)); exact HO_7.out) (Kd.R_base ho0) hb); have n3_ := Aside0.mk (Kd.R_elder' (by (with_reducible repeat (first | apply Kd.R_alloc | apply Kd.R_drewN | apply Kd.R_drew)); exact HO_9.out) (Kd.R_base ho0) hb); have n4_ := Aside0.mk (Kd.R_below (by (with_reducible repeat (first | apply Kd.R_alloc | apply Kd.R_drewN | apply Kd.R_drew)); exact HO_12.out) hb); have n5_ := Aside0.mk (Kd.R_lower (Kd.R_new' (Kd.R_new' (Kd.R_new' ho0 (Kd.R_lt (by (with_reducible repeat (first | apply Kd.R_alloc | apply Kd.R_drewN | apply Kd.R_drew)); exact HO_6.out))) (Kd.R_lt (by (with_reducible repeat (first | apply Kd.R_alloc | apply Kd.R_drewN | apply Kd.R_drew)); exact HO_7.out))) (Kd.R_lt (by (with_reducible repeat (first | apply Kd.R_alloc | apply Kd.R_drewN | apply Kd.R_drew)); exact HO_9.out))) (below_size (by repeat (first | (with_reducible first | exact HB.out | apply below_alloc | apply pw_below_drewN | apply below_drew1) | exact HB.out)))); have n6_ := Aside0.mk (Kd.C_below (d := (Kd.int .i64)) (A := Ao71) (n := y578.length) (xs := y578) (by repeat (first | (with_reducible exact HR581.out) | (with_reducible refine Kd.C_alloc ?_ _) | (with_reducible refine Kd.C_drewN ?_ _) | (with_reducible refine Kd.C_drew ?_) | exact HR581.out)) hb); have n7_ := Aside0.mk (Kd.C_below (d := (Kd.int .i64)) (A := A73) (n := y583.length) (xs := y583) (by repeat (first | (with_reducible exact HR586.out) | (with_reducible refine Kd.C_alloc ?_ _) | (with_reducible refine Kd.C_drewN ?_ _) | (with_reducible refine Kd.C_drew ?_) | exact HR586.out)) hb); have n8_ := Aside0.mk (below_step (by repeat (first | (with_reducible first | exact HB.out | apply below_alloc | apply pw_below_drewN | apply below_drew1) | exact HB.out)) hb); clear HO_5; clear HO_6; clear HO_7; clear HO_9; clear HO_12; clear HR581; clear HR586; clear HB; have HO_5 := n0_; have HO_6 := n1_; have HO_7 := n2_; have HO_9 := n3_; have HO_12 := n4_; have HO590 := n5_; have HR581 := n6_; have HR586 := n7_; have HB := n8_; clear n0_ n1_ n2_ n3_ n4_ n5_ n6_ n7_ n8_; (try clear hb); (try clear hb2); (try clear hk); (try clear hi); (try clear ho0); obtain ⟨Ao75, co75, eo75⟩ := Kd.R_slice HO590.out; subst eo75) | (go_at_call 13; (with_reducible refine (parquetref00_SameInts.calls k3 _ _ t552 _ _ t588 true _ ?side1 ?side2 ?side3 ?side4 A67.out).mono ?_); (case side1 => repeat (first | exact (Kd.R_reads' HO_7.out).2.2 | (with_reducible refine Kd.C_alloc ?_ _) | (with_reducible refine Kd.C_drewN ?_ _) | (with_reducible refine Kd.C_drew ?_))); (case side2 => exact (Kd.R_reads' HO_7.out).2.1); (case side3 => repeat (first | exact (Kd.R_reads' HO590.out).2.2 | (with_reducible refine Kd.C_alloc ?_ _) | (with_reducible refine Kd.C_drewN ?_ _) | (with_reducible refine Kd.C_drew ?_))); (case side4 => exact (Kd.R_reads' HO590.out).2.1); rintro e w' ⟨rfl, ⟨nd, rfl⟩⟩; (try first | exact ⟨rfl, _, World.drewN_drewN _ _ _⟩ | exact ⟨rfl, _, Eq.trans (World.drewN_drewN _ _ _) (congrArg (World.drewN _) (Nat.add_assoc _ _ _))⟩)) | (go_at_call 10; (with_reducible refine (parquetlaw07_known.calls k3  t592 _ (by first | exact hT | exact ⟨rfl⟩) A69.out).mono ?_); rintro e w76 ⟨rfl, hb⟩; have n0_ := Aside0.mk (Kd.R_below (by (with_reducible repeat (first | apply Kd.R_alloc | apply Kd.R_drewN | apply Kd.R_drew)); exact HO_5.out) hb); have n1_ := Aside0.mk (Kd.R_below (by (with_reducible repeat (first | apply Kd.R_alloc | apply Kd.R_drewN | apply Kd.R_drew)); exact HO_6.out) hb); have n2_ := Aside0.mk (Kd.R_below (by (with_reducible repeat (first | apply Kd.R_alloc | apply Kd.R_drewN | apply Kd.R_drew)); exact HO_7.out) hb); have n3_ := Aside0.mk (Kd.R_below (by (with_reducible repeat (first | apply Kd.R_alloc | apply Kd.R_drewN | apply Kd.R_drew)); exact HO_9.out) hb); have n4_ := Aside0.mk (Kd.R_below (by (with_reducible repeat (first | apply Kd.R_alloc | apply Kd.R_drewN | apply Kd.R_drew)); exact HO_12.out) hb); have n5_ := Aside0.mk (Kd.R_below (by (with_reducible repeat (first | apply Kd.R_alloc | apply Kd.R_drewN | apply Kd.R_drew)); exact HO590.out) hb); have n6_ := Aside0.mk (Kd.C_below (d := (Kd.int .i64)) (A := Ao71) (n := y578.length) (xs := y578) (by repeat (first | (with_reducible exact HR581.out) | (with_reducible refine Kd.C_alloc ?_ _) | (with_reducible refine Kd.C_drewN ?_ _) | (with_reducible refine Kd.C_drew ?_) | exact HR581.out)) hb); have n7_ := Aside0.mk (Kd.C_below (d := (Kd.int .i64)) (A := A73) (n := y583.length) (xs := y583) (by repeat (first | (with_reducible exact HR586.out) | (with_reducible refine Kd.C_alloc ?_ _) | (with_reducible refine Kd.C_drewN ?_ _) | (with_reducible refine Kd.C_drew ?_) | exact HR586.out)) hb); have n8_ := Aside0.mk (below_step (by repeat (first | (with_reducible first | exact HB.out | apply below_alloc | apply pw_below_drewN | apply below_drew1) | exact HB.out)) hb); clear HO_5; clear HO_6; clear HO_7; clear HO_9; clear HO_12; clear HO590; clear HR581; clear HR586; clear HB; have HO_5 := n0_; have HO_6 := n1_; have HO_7 := n2_; have HO_9 := n3_; have HO_12 := n4_; have HO590 := n5_; have HR581 := n6_; have HR586 := n7_; have HB := n8_; clear n0_ n1_ n2_ n3_ n4_ n5_ n6_ n7_ n8_; (try clear hb); (try clear hb2); (try clear hk); (try clear hi))))
                                        go_ret
                                        exact ⟨by first | rfl | (simp [errW_none, errW_some] <;> rfl) | (simp [*, errW_none, errW_some] <;> rfl), by repeat (first | (with_reducible first | exact HB.out | apply below_alloc | apply pw_below_drewN | apply below_drew1) | exact HB.out)⟩
                                      · replace c68 := Bool.eq_false_iff.mpr c68
                                        subst c68
                                        have H1 : (some false) = some r := by rw [if_neg (show ¬ (false = true) by decide)] at H; exact H
                                        clear H
                                        have H := H1
                                        clear H1
                                        obtain rfl := Option.some.inj H
                                        exact absurd hT.out (by simp)
                                    · replace c65 := Bool.eq_false_iff.mpr c65
                                      subst c65
                                      have H1 : (some false) = some r := by rw [if_neg (show ¬ (false = true) by decide)] at H; exact H
                                      clear H
                                      have H := H1
                                      clear H1
                                      obtain rfl := Option.some.inj H
                                      exact absurd hT.out (by simp)
                                  · replace c61 := Bool.eq_false_iff.mpr c61
                                    subst c61
                                    have H1 : (some false) = some r := by rw [if_neg (show ¬ (false = true) by decide)] at H; exact H
                                    clear H
                                    have H := H1
                                    clear H1
                                    obtain rfl := Option.some.inj H
                                    exact absurd hT.out (by simp)
                                · rw [if_neg c59] at H
                                  exact absurd H (by simp)
                              · rw [if_neg c58] at H
                                exact absurd H (by simp)
                      · rw [if_neg c39] at H
                        have c39b0 : ((t570.length : Int) == (y546.length : Int)) = false := beq_eq_false_iff_ne.mpr c39
                        have c39b1 : ((t570.length : Int) != (y546.length : Int)) = true := bne_iff_ne.mpr c39
                        have c39b2 : (t570.length == y546.length) = false := by first | simpa using c39 | (simp at c39 ⊢; omega)
                        obtain rfl := Option.some.inj H
                        exact absurd hT.out (by simp)
              · rw [if_neg c14] at H
                exact absurd H (by simp)
            · rw [if_neg c13] at H
              exact absurd H (by simp)
          · rw [if_neg c10] at H
            exact absurd H (by simp)
        · rw [if_neg c9] at H
          exact absurd H (by simp)

def parquetlaw07_SortsJoins.Pure : Prop := ∀ (l0 : List (S28)) (l1 : List (S28)), (l0.length ≤ 9223372036854775807 ∧ ∀ e593 ∈ l0, ((Lit.int .i64 e593.f0).wf = true) ∧ ((Lit.int .i64 e593.f1).wf = true)) → (l1.length ≤ 9223372036854775807 ∧ ∀ e594 ∈ l1, ((Lit.int .i64 e594.f0).wf = true) ∧ ((Lit.int .i64 e594.f1).wf = true)) → ∃ k, parquetlaw07_SortsJoins.f k l0 l1 = some true

end Go.Proofs.Ytfmeicojiadeiaa.P
