/- slices.SortFunc of edges, by A, then by B. -/
import Derived.Test.YtiejhpighhjgiaaGa0
import Derived.Test.YtiejhpighhjgiaaAs
import Derived.Shelf.SlGeneric
import Derived.Ground.SlsfProg
set_option linter.unusedVariables false
set_option maxRecDepth 100000
namespace Go.Proofs
open Go.Shelf
def Try.sortSeg_ren : Go.Shelf.Ren := ⟨fun | 6 => 54 | 15 => 62 | 14 => 61 | 28 => 73 | 29 => 74 | 20 => 65 | 21 => 66 | 22 => 67 | 23 => 68 | 24 => 69 | 25 => 70 | 26 => 71 | 27 => 72 | 46 => 75 | 47 => 76 | 48 => 77 | 49 => 78 | 50 => 79 | 57 => 80 | n => n, fun | 22 => 60 | 24 => 63 | 25 => 94 | 3 => 3 | 39 => 99 | 0 => 0 | 53 => 110 | 55 => 112 | 4 => 4 | 46 => 104 | 45 => 103 | 50 => 96 | 5 => 5 | 9 => 9 | 66 => 113 | 70 => 117 | 76 => 119 | 77 => 120 | n => n, fun | n => n⟩
theorem Try.sortSeg : Go.Proofs.SlLaysF0.n6 Try.prog Try.sortSeg_ren := {
  mixed := by kernel_rfl
  f6 := ⟨Try.f54.name, by decide, Try.func54.trans (congrArg some (by kernel_rfl))⟩
  f14 := ⟨Try.f61.name, by decide, Try.func61.trans (congrArg some (by kernel_rfl))⟩
  f15 := Try.func62.trans (congrArg some (by kernel_rfl))
  f20 := ⟨Try.f65.name, by decide, Try.func65.trans (congrArg some (by kernel_rfl))⟩
  f21 := ⟨Try.f66.name, by decide, Try.func66.trans (congrArg some (by kernel_rfl))⟩
  f22 := ⟨Try.f67.name, by decide, Try.func67.trans (congrArg some (by kernel_rfl))⟩
  f23 := ⟨Try.f68.name, by decide, Try.func68.trans (congrArg some (by kernel_rfl))⟩
  f24 := ⟨Try.f69.name, by decide, Try.func69.trans (congrArg some (by kernel_rfl))⟩
  f25 := ⟨Try.f70.name, by decide, Try.func70.trans (congrArg some (by kernel_rfl))⟩
  f26 := ⟨Try.f71.name, by decide, Try.func71.trans (congrArg some (by kernel_rfl))⟩
  f27 := ⟨Try.f72.name, by decide, Try.func72.trans (congrArg some (by kernel_rfl))⟩
  f28 := Try.func73.trans (congrArg some (by kernel_rfl))
  f29 := Try.func74.trans (congrArg some (by kernel_rfl))
  f46 := ⟨Try.f75.name, by decide, Try.func75.trans (congrArg some (by kernel_rfl))⟩
  f47 := Try.func76.trans (congrArg some (by kernel_rfl))
  f48 := Try.func77.trans (congrArg some (by kernel_rfl))
  f49 := ⟨Try.f78.name, by decide, Try.func78.trans (congrArg some (by kernel_rfl))⟩
  f50 := ⟨Try.f79.name, by decide, Try.func79.trans (congrArg some (by kernel_rfl))⟩
  f57 := ⟨Try.f80.name, by decide, Try.func80.trans (congrArg some (by kernel_rfl))⟩
  t0 := Try.underlying0
  a0 := Try.isAgg0
  z0 := Try.sizeOf0
  v0 := Try.zeroValue0
  t3 := Try.underlying3
  a3 := Try.isAgg3
  z3 := Try.sizeOf3
  v3 := Try.zeroValue3
  t4 := Try.underlying4
  a4 := Try.isAgg4
  z4 := Try.sizeOf4
  v4 := Try.zeroValue4
  t5 := Try.underlying5
  a5 := Try.isAgg5
  z5 := Try.sizeOf5
  v5 := Try.zeroValue5
  t9 := Try.underlying9
  a9 := Try.isAgg9
  z9 := Try.sizeOf9
  v9 := Try.zeroValue9
  t22 := Try.underlying60
  a22 := Try.isAgg60
  z22 := Try.sizeOf60
  v22 := Try.zeroValue60
  t25 := Try.underlying94
  a25 := Try.isAgg94
  z25 := Try.sizeOf94
  v25 := Try.zeroValue94
  t39 := Try.underlying99
  a39 := Try.isAgg99
  z39 := Try.sizeOf99
  v39 := Try.zeroValue99
  t45 := Try.underlying103
  a45 := Try.isAgg103
  z45 := Try.sizeOf103
  v45 := Try.zeroValue103
  t46 := Try.underlying104
  a46 := Try.isAgg104
  z46 := Try.sizeOf104
  v46 := Try.zeroValue104
  t50 := Try.underlying96
  a50 := Try.isAgg96
  z50 := Try.sizeOf96
  v50 := Try.zeroValue96
  t53 := Try.underlying110
  a53 := Try.isAgg110
  z53 := Try.sizeOf110
  v53 := Try.zeroValue110
  t55 := Try.underlying112
  a55 := Try.isAgg112
  z55 := Try.sizeOf112
  v55 := Try.zeroValue112
  t66 := Try.underlying113
  a66 := Try.isAgg113
  z66 := Try.sizeOf113
  v66 := Try.zeroValue113
  t70 := Try.underlying117
  a70 := Try.isAgg117
  z70 := Try.sizeOf117
  v70 := Try.zeroValue117
  t76 := Try.underlying119
  a76 := Try.isAgg119
  z76 := Try.sizeOf119
  v76 := Try.zeroValue119
  t77 := Try.underlying120
  a77 := Try.isAgg120
  z77 := Try.sizeOf120
  v77 := Try.zeroValue120 }
end Go.Proofs
namespace Go.Proofs.Ytiejhpighhjgiaa.AM
open Go.RowKit Go.Proofs Go.Sort Go.Shelf
def cf_55 (a b : Int × Int) : Int := if a.1 < b.1 then -1 else if b.1 < a.1 then 1 else if a.2 < b.2 then -1 else if b.2 < a.2 then 1 else 0
def cmpI (a b : Int) : Int := if a < b then -1 else if b < a then 1 else 0
theorem compare_int (k : Nat) (a b : Int) : g_cmp_Compare_int k a b = some (cmpI a b) := by
  unfold g_cmp_Compare_int b_cmp_Compare_int g_cmp_isNaN_int cmpI
  simp only [bnd, Option.bind_some, decide_true, Bool.not_true, cond]
  by_cases h1 : a < b
  · simp [h1]
  · by_cases h2 : b < a <;> simp [h1, h2]
theorem or_two (k : Nat) (a b : Int) : g_cmp_Or_int (k + 3) [a, b] = some (if a ≠ 0 then a else b) := by
  unfold g_cmp_Or_int
  simp only [loopN, List.length_cons, List.length_nil]
  by_cases h1 : a = 0
  · subst h1
    by_cases h2 : b = 0
    · subst h2
      rfl
    · have e : decide (b = 0) = false := decide_eq_false h2
      have : (decide ((rdD 0 [0, b] (w64 (0 + 1))) = 0)) = false := e
      simp only [this]
      rfl
  · have e : decide (a = 0) = false := decide_eq_false h1
    have : (decide ((rdD 0 [a, b] 0) = 0)) = false := e
    simp only [this, ne_eq, h1, not_false_iff, if_true]
    rfl
theorem edges_1 (k : Nat) (a b : Int × Int) : g_faces_mesh_edges_1 (k + 3) a b = some (cf_55 a b) := by
  unfold g_faces_mesh_edges_1 b_faces_mesh_edges_1
  simp only [compare_int, or_two, bnd, Option.bind_some]
  unfold cmpI cf_55
  congr 1
  by_cases h1 : a.1 < b.1
  · simp [h1]
  · by_cases h2 : b.1 < a.1 <;> simp [h1, h2]
theorem lt_55 (x y : Int × Int) : ltOf cf_55 x y = decide (x.1 < y.1 ∨ (x.1 = y.1 ∧ x.2 < y.2)) := by
  unfold ltOf cf_55
  by_cases h1 : x.1 < y.1
  · simp [h1]
  · by_cases h2 : y.1 < x.1
    · have : ¬x.1 = y.1 := by omega
      simp [h1, h2, this]
    · have : x.1 = y.1 := by omega
      by_cases h3 : x.2 < y.2
      · simp [this, h3]
      · by_cases h4 : y.2 < x.2 <;> simp [this, h3, h4]
theorem swo_55 : SWO (ltOf cf_55) where
  irrefl x := by rw [lt_55]; simp
  trans x y z h1 h2 := by rw [lt_55] at *; simp at *; omega
  ntrans x y z h1 h2 := by rw [lt_55] at *; simp at *; omega
theorem tot_55 (x y : Int × Int) (h1 : ltOf cf_55 x y = false) (h2 : ltOf cf_55 y x = false) : x = y := by
  rw [lt_55] at h1 h2
  simp only [decide_eq_false_iff_not] at h1 h2
  exact Prod.ext (by omega) (by omega)
theorem srt_54 : SrtOk Try.prog 54 55 (.pair kI kI) cf_55 :=
  srt_ok (ka := kI) (kb := kI) (cf := cf_55) (h := 55) (f := Try.f55) Try.sortSeg rfl Try.isAgg63 Try.sizeOf63 Try.func55 (by kernel_rfl) (by kernel_rfl) swo_55 tot_55 (tells_faces_mesh_edges_1 3) (fun x y => edges_1 0 x y)
#print axioms srt_54
end Go.Proofs.Ytiejhpighhjgiaa.AM
