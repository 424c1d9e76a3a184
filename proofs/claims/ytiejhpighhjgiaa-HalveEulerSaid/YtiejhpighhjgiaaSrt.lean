/- slices.SortFunc of edges, by A, then by B. -/
import Derived.Test.YtiejhpighhjgiaaGa0
import Derived.Test.YtiejhpighhjgiaaAs
import Derived.Shelf.Lay
import Derived.Ground.SlsfProg
set_option linter.unusedVariables false
set_option maxRecDepth 100000
namespace Go.Proofs
open Go.Shelf
shelf_lay_g SlLaysF0.n6 Slsf 6 at Try 54 as Try.sortSeg
end Go.Proofs
namespace Go.Proofs.Ytiejhpighhjgiaa.AM
open Go.RowKit Go.Proofs Go.Sort Go.Shelf
def cf_55 (a b : Int × Int) : Int := if a.1 < b.1 then -1 else if b.1 < a.1 then 1 else if a.2 < b.2 then -1 else if b.2 < a.2 then 1 else 0
def cmpI (a b : Int) : Int := if a < b then -1 else if b < a then 1 else 0
theorem compare_int (k : Nat) (a b : Int) : g_cmp_Compare_int k a b = some (cmpI a b) := by
  unfold g_cmp_Compare_int b_cmp_Compare_int g_cmp_isNaN_int cmpI
  simp only [bnd, Option.bind_some, decide_true, Bool.not_true, cond]
  by_cases h1 : a < b
  · simp [h1]
  · by_cases h2 : b < a <;> simp [h1, h2]
theorem or_two (k : Nat) (a b : Int) : g_cmp_Or_int (k + 3) [a, b] = some (if a ≠ 0 then a else b) := by
  unfold g_cmp_Or_int
  simp only [loopN, List.length_cons, List.length_nil]
  by_cases h1 : a = 0
  · subst h1
    by_cases h2 : b = 0
    · subst h2
      rfl
    · have e : decide (b = 0) = false := decide_eq_false h2
      have : (decide ((rdD 0 [0, b] (w64 (0 + 1))) = 0)) = false := e
      simp only [this]
      rfl
  · have e : decide (a = 0) = false := decide_eq_false h1
    have : (decide ((rdD 0 [a, b] 0) = 0)) = false := e
    simp only [this, ne_eq, h1, not_false_iff, if_true]
    rfl
theorem edges_1 (k : Nat) (a b : Int × Int) : g_faces_mesh_edges_1 (k + 3) a b = some (cf_55 a b) := by
  unfold g_faces_mesh_edges_1 b_faces_mesh_edges_1
  simp only [compare_int, or_two, bnd, Option.bind_some]
  unfold cmpI cf_55
  congr 1
  by_cases h1 : a.1 < b.1
  · simp [h1]
  · by_cases h2 : b.1 < a.1 <;> simp [h1, h2]
theorem lt_55 (x y : Int × Int) : ltOf cf_55 x y = decide (x.1 < y.1 ∨ (x.1 = y.1 ∧ x.2 < y.2)) := by
  unfold ltOf cf_55
  by_cases h1 : x.1 < y.1
  · simp [h1]
  · by_cases h2 : y.1 < x.1
    · have : ¬x.1 = y.1 := by omega
      simp [h1, h2, this]
    · have : x.1 = y.1 := by omega
      by_cases h3 : x.2 < y.2
      · simp [this, h3]
      · by_cases h4 : y.2 < x.2 <;> simp [this, h3, h4]
theorem swo_55 : SWO (ltOf cf_55) where
  irrefl x := by rw [lt_55]; simp
  trans x y z h1 h2 := by rw [lt_55] at *; simp at *; omega
  ntrans x y z h1 h2 := by rw [lt_55] at *; simp at *; omega
theorem tot_55 (x y : Int × Int) (h1 : ltOf cf_55 x y = false) (h2 : ltOf cf_55 y x = false) : x = y := by
  rw [lt_55] at h1 h2
  simp only [decide_eq_false_iff_not] at h1 h2
  exact Prod.ext (by omega) (by omega)
theorem srt_54 : SrtOk Try.prog 54 55 (.pair kI kI) cf_55 :=
  srt_ok (ka := kI) (kb := kI) (cf := cf_55) (h := 55) (f := Try.f55) Try.sortSeg rfl Try.isAgg63 Try.sizeOf63 Try.func55 (by kernel_rfl) (by kernel_rfl) swo_55 tot_55 (tells_faces_mesh_edges_1 3) (fun x y => edges_1 0 x y)
#print axioms srt_54
end Go.Proofs.Ytiejhpighhjgiaa.AM
