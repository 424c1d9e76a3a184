/- slices.SortFunc of edges and of triangles; slices.Grow of edges. -/
import Derived.Test.YtpkkcjmblocjdaaGreatGa0
import Derived.Test.YtpkkcjmblocjdaaGreatAs
import Derived.Shelf.Lay
import Derived.Ground.SlsfProg
import Derived.Shelf.Spec.SlicesGrow
import Derived.Ground.Names8Prog
set_option linter.unusedVariables false
set_option maxRecDepth 100000
namespace Go.Proofs
open Go.Shelf
shelf_lay_g SlLaysF0.n6 Slsf 6 at Tryz 48 as Tryz.sortSeg
shelf_lay_g SlLaysF0.n6 Slsf 6 at Tryz 56 as Tryz.sortTri
shelf_lay_g Lays8.n4 Nm8 4 at Tryz 118 as Tryz.growSeg
end Go.Proofs
namespace Go.Proofs.YtpkkcjmblocjdaaGreat.AM
open Go.RowKit Go.Proofs Go.Sort Go.Shelf
abbrev T3 : Type := Int × Int × Int
def cf_49 (a b : Int × Int) : Int := if a.1 < b.1 then -1 else if b.1 < a.1 then 1 else if a.2 < b.2 then -1 else if b.2 < a.2 then 1 else 0
def cf_57 (a b : T3) : Int := if a.1 < b.1 then -1 else if b.1 < a.1 then 1 else if a.2.1 < b.2.1 then -1 else if b.2.1 < a.2.1 then 1 else if a.2.2 < b.2.2 then -1 else if b.2.2 < a.2.2 then 1 else 0
def cmpI (a b : Int) : Int := if a < b then -1 else if b < a then 1 else 0
theorem compare_int (k : Nat) (a b : Int) : g_cmp_Compare_int k a b = some (cmpI a b) := by
  unfold g_cmp_Compare_int b_cmp_Compare_int g_cmp_isNaN_int cmpI
  simp only [bnd, Option.bind_some, decide_true, Bool.not_true, cond]
  by_cases h1 : a < b
  · simp [h1]
  · by_cases h2 : b < a <;> simp [h1, h2]
theorem or_one (k : Nat) (l : List Int) (n : Int) (i : Nat) (F : (Int × List Int × Int × Int) → ((Int × List Int × Int × Int) → Option Int) → Option Int)
    (hF : ∀ x1 x2 x3 x4 next, F (x1, x2, x3, x4) next = bif decide (x4 < x3) then gd (inb x4 x2.length) (bif !(decide ((rdD 0 x2 x4) = x1)) then some (rdD 0 x2 x4) else next (x1, x2, x3, w64 (x4 + 1))) else some x1) (h : i < l.length) (hl : l.length < 100) :
    loopN F (k + 1) (0, l, (l.length : Int), (i : Int)) = if rdD 0 l (i : Int) ≠ 0 then some (rdD 0 l (i : Int)) else loopN F k (0, l, (l.length : Int), ((i + 1 : Nat) : Int)) := by
  have e1 : w64 ((i : Int) + 1) = ((i + 1 : Nat) : Int) := by
    have : w64 ((i : Int) + 1) = ((i : Int) + 1 + 9223372036854775808) % 18446744073709551616 - 9223372036854775808 := by
      simp only [w64, IntKind.wrap, IntKind.signed, IntKind.bits]
      simp
      omega
    omega
  show F _ _ = _
  rw [hF, e1]
  have c1 : decide ((i : Int) < (l.length : Int)) = true := decide_eq_true (by omega)
  have c2 : inb (i : Int) l.length = true := by unfold inb; simp; omega
  rw [c1, c2]
  by_cases h0 : rdD 0 l (i : Int) = 0
  · rw [decide_eq_true h0, if_neg (fun h => h h0)]; rfl
  · rw [decide_eq_false h0, if_pos h0]; rfl
theorem or_two (k : Nat) (a b : Int) : g_cmp_Or_int (k + 5) [a, b] = some (if a ≠ 0 then a else b) := by
  unfold g_cmp_Or_int
  refine (or_one _ [a, b] 2 0 _ (fun _ _ _ _ _ => rfl) (by simp) (by simp)).trans ?_
  show (if a ≠ 0 then some a else _) = _
  by_cases h1 : a = 0
  · subst h1
    simp only [ne_eq, not_true, if_false]
    refine (or_one _ [0, b] 2 1 _ (fun _ _ _ _ _ => rfl) (by simp) (by simp)).trans ?_
    show (if b ≠ 0 then some b else _) = _
    by_cases h2 : b = 0
    · subst h2; rfl
    · rw [if_pos h2]
  · rw [if_pos h1, if_pos h1]
theorem or_three (k : Nat) (a b c : Int) : g_cmp_Or_int (k + 5) [a, b, c] = some (if a ≠ 0 then a else if b ≠ 0 then b else c) := by
  unfold g_cmp_Or_int
  refine (or_one _ [a, b, c] 3 0 _ (fun _ _ _ _ _ => rfl) (by simp) (by simp)).trans ?_
  show (if a ≠ 0 then some a else _) = _
  by_cases h1 : a = 0
  · subst h1
    simp only [ne_eq, not_true, if_false]
    refine (or_one _ [0, b, c] 3 1 _ (fun _ _ _ _ _ => rfl) (by simp) (by simp)).trans ?_
    show (if b ≠ 0 then some b else _) = _
    by_cases h2 : b = 0
    · subst h2
      simp only [ne_eq, not_true, if_false]
      refine (or_one _ [0, 0, c] 3 2 _ (fun _ _ _ _ _ => rfl) (by simp) (by simp)).trans ?_
      show (if c ≠ 0 then some c else _) = _
      by_cases h3 : c = 0
      · subst h3; rfl
      · rw [if_pos h3]
    · rw [if_pos h2, if_pos h2]
  · rw [if_pos h1, if_pos h1]
theorem bySeg_f (k : Nat) (a b : Int × Int) : g_fill_bySeg (k + 5) a b = some (cf_49 a b) := by
  unfold g_fill_bySeg b_fill_bySeg
  simp only [compare_int, or_two, bnd, Option.bind_some]
  unfold cmpI cf_49
  congr 1
  by_cases h1 : a.1 < b.1
  · simp [h1]
  · by_cases h2 : b.1 < a.1 <;> simp [h1, h2]
theorem byTri_f (k : Nat) (a b : T3) : g_fill_byTri (k + 5) a b = some (cf_57 a b) := by
  unfold g_fill_byTri b_fill_byTri
  simp only [compare_int, or_three, bnd, Option.bind_some]
  unfold cmpI cf_57
  congr 1
  by_cases h1 : a.1 < b.1
  · simp [h1]
  · by_cases h2 : b.1 < a.1
    · simp [h1, h2]
    · by_cases h3 : a.2.1 < b.2.1
      · simp [h1, h2, h3]
      · by_cases h4 : b.2.1 < a.2.1 <;> simp [h1, h2, h3, h4]
theorem lt_49 (x y : Int × Int) : ltOf cf_49 x y = decide (x.1 < y.1 ∨ (x.1 = y.1 ∧ x.2 < y.2)) := by
  unfold ltOf
  rw [decide_eq_decide]
  unfold cf_49
  (repeat' split) <;> omega
theorem lt_57 (x y : T3) : ltOf cf_57 x y = decide (x.1 < y.1 ∨ (x.1 = y.1 ∧ (x.2.1 < y.2.1 ∨ (x.2.1 = y.2.1 ∧ x.2.2 < y.2.2)))) := by
  unfold ltOf
  rw [decide_eq_decide]
  unfold cf_57
  (repeat' split) <;> omega
theorem swo_49 : SWO (ltOf cf_49) where
  irrefl x := by rw [lt_49]; simp
  trans x y z h1 h2 := by rw [lt_49] at *; simp at *; omega
  ntrans x y z h1 h2 := by rw [lt_49] at *; simp at *; omega
theorem swo_57 : SWO (ltOf cf_57) where
  irrefl x := by rw [lt_57]; simp
  trans x y z h1 h2 := by rw [lt_57] at *; simp at *; omega
  ntrans x y z h1 h2 := by rw [lt_57] at *; simp at *; omega
theorem tot_49 (x y : Int × Int) (h1 : ltOf cf_49 x y = false) (h2 : ltOf cf_49 y x = false) : x = y := by
  rw [lt_49] at h1 h2
  simp only [decide_eq_false_iff_not] at h1 h2
  exact Prod.ext (by omega) (by omega)
theorem tot_57 (x y : T3) (h1 : ltOf cf_57 x y = false) (h2 : ltOf cf_57 y x = false) : x = y := by
  rw [lt_57] at h1 h2
  simp only [decide_eq_false_iff_not] at h1 h2
  exact Prod.ext (by omega) (Prod.ext (by omega) (by omega))
theorem srt_48 : SrtOk Tryz.prog 48 49 (.pair kI kI) cf_49 :=
  srt_ok (ka := kI) (kb := kI) (cf := cf_49) (h := 49) (f := Tryz.f49) Tryz.sortSeg rfl Tryz.isAgg60 Tryz.sizeOf60 Tryz.func49 (by kernel_rfl) (by kernel_rfl) swo_49 tot_49 (tells_fill_bySeg 5) (fun x y => bySeg_f 0 x y)
theorem srt_56 : SrtOk Tryz.prog 56 57 (.pair kI (.pair kI kI)) cf_57 :=
  srt_ok (ka := kI) (kb := .pair kI kI) (cf := cf_57) (h := 57) (f := Tryz.f57) Tryz.sortTri rfl Tryz.isAgg56 Tryz.sizeOf56 Tryz.func57 (by kernel_rfl) (by kernel_rfl) swo_57 tot_57 (tells_fill_byTri 5) (fun x y => byTri_f 0 x y)
theorem grw_118 : GrwOk Tryz.prog 118 (.pair kI kI) 60 := by
  intro n w h0 h1
  obtain ⟨k, rfl⟩ := Int.eq_ofNat_of_zero_le h0
  have hent : (callFunc 118 #[.slice none 0 0, .int .i64 (k : Int)]).run Tryz.prog w = .ok (.enter 118 #[.slice none 0 0, .int .i64 (k : Int)]) w := enters_of Tryz.func118 (by kernel_rfl) rfl _ w
  refine .inl ⟨hent, ?_⟩
  by_cases hk : k = 0
  · subst hk
    refine Calls.mono (Any8.slices_Grow_room Tryz.growSeg none 0 0 0 w (by omega) (by omega) (by omega) (by omega)) fun e w' hh => ?_
    obtain ⟨rfl, rfl⟩ := hh
    exact ⟨_, rfl, ⟨Below.refl _ _, Nat.le_refl _⟩, World.ownsRow_nil _ _ _ _⟩
  · obtain ⟨i0, z, hi0, hz0, hs, hb, _, hzs, _⟩ := (tiB_ok (P := Tryz.prog) (t := 60) (i := tb.at 60) (by kernel_rfl)).info
    have hs2 : i0.size = 2 := hs
    have hb2 : i0.bytes = 16 := hb
    refine Calls.mono (Any8.slices_Grow_grow Tryz.growSeg i0 z hi0 hz0 (by omega) none 0 0 k [] w (by omega) (by omega) (by rw [hb2]; omega) (by omega) (by simp) (fun _ => rfl) (fun a h => by cases h)) fun e w' hh => ?_
    obtain ⟨rfl, rfl⟩ := hh
    have hcap : 0 + k ≤ grownCap w (0 + k) 0 60 := grownCap_ge _ _ _ _
    have hmx : grownCap w (0 + k) 0 60 ≤ maxLen := grownCap_le_maxLen _ _ _ _ (by unfold maxLen; omega)
    have hheap : ∀ o : Obj, (w.drew.alloc o).heap = w.heap.push o := fun _ => rfl
    refine ⟨_, rfl, ⟨⟨rfl, rfl, rfl, ?_, fun j hj => ?_⟩, Nat.le_succ _⟩, ⟨by simp, .inr ⟨w.heap.size, grownCap w (0 + k) 0 60, ([] : List Value).toArray ++ Builtin.zeroCells z.cells (0 + k - 0) ++ Builtin.zeroCells z.cells (grownCap w (0 + k) 0 60 - (0 + k)), rfl, Nat.le_refl _, ?_, Nat.zero_le _, hmx, ?_, by simp⟩⟩⟩
    · rw [hheap]; simp
    · rw [hheap, Array.getElem?_push_lt hj]
      rw [Array.getElem?_eq_getElem hj]
    · rw [hheap, Array.getElem?_push_size]
      rfl
    · have hz2 : z.cells.size = 2 := hzs
      rw [Array.size_append, Array.size_append, size_zeroCells, size_zeroCells, hz2]
      show 0 + (0 + k - 0) * 2 + (grownCap w (0 + k) 0 60 - (0 + k)) * 2 = grownCap w (0 + k) 0 60 * 2
      omega
#print axioms grw_118
end Go.Proofs.YtpkkcjmblocjdaaGreat.AM
