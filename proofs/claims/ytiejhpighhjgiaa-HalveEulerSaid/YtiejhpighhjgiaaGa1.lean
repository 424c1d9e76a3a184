/- The functions, by their texts: written by a program. -/
import Derived.Test.YtiejhpighhjgiaaGa0
import Derived.Test.YtiejhpighhjgiaaSrt
set_option linter.unusedVariables false
set_option maxRecDepth 100000
namespace Go.Proofs.Ytiejhpighhjgiaa.AM
open Go.RowKit Go.Proofs
noncomputable section
def an_parquetlaw20_many : Ann := .node none none .leaf (.node none none .leaf (.node none none (.node none none .leaf (.node none none (.node none (some [(0, .d (.sl (.pair kI kI))), (1, .d (.sl (.sl kI))), (5, .d kI), (6, .d kI)]) (.node none none (.node none none (.node (some [(0, .d (.sl (.pair kI kI))), (1, .d (.sl (.sl kI))), (5, .d kI), (6, .d kI), (16, .d .bool)]) none .leaf .leaf) .leaf) .leaf) .leaf) .leaf)) (.node none none (.node (some [(4, .d .bool)]) none .leaf .leaf) .leaf)))
def g_parquetlaw20_many (k : Nat) (a0 : (List (Int × Int))) (a1 : (List (List Int))) : Option Bool :=
  loopN (α := ((List (Int × Int)) × ((List (List Int)) × (Int × Int)))) (fun (x1, x2, x3, x4) next0 =>
    meet (α := ((List (Int × Int)) × ((List (List Int)) × (Int × (Int × Bool))))) (fun (y5, y6, y7, y8, y9) =>
     bif y9 then
      gd (inb y8 y6.length) <|
      next0 (y5, y6, w64 (y7 + (mnI ((rdD [] y6 y8).length : Int) 200)), w64 (y8 + 1))
     else
      meet (α := Bool) (fun y10 =>
       some y10) fun j11 =>
      bif decide (y7 > 200) then
       j11 true
      else
       j11 (decide ((y5.length : Int) > 100))) fun j12 =>
    bif decide (x4 < (x2.length : Int)) then
     j12 (x1, x2, x3, x4, decide (x3 ≤ 200))
    else
     j12 (x1, x2, x3, x4, false)) k (a0, a1, (a1.length : Int), 0)
theorem eq_parquetlaw20_many (k : Nat) (a0 : (List (Int × Int))) (a1 : (List (List Int))) : textF [] tb k Try.f9 an_parquetlaw20_many [.d (.sl (.pair kI kI)), .d (.sl (.sl kI))] [.bool] (a0, a1) = g_parquetlaw20_many k a0 a1 := by kernel_rfl
theorem tells_parquetlaw20_many (k : Nat) : TellsF Try.prog 9 [.d (.sl (.pair kI kI)), .d (.sl (.sl kI))] [.bool] (fun x => g_parquetlaw20_many k (x.1) (x.2)) := fun x y h => fun_tells tb_ok mix (es := []) (EsOk.nil _) Try.func9 (N := k) (an := an_parquetlaw20_many) (by kernel_rfl) x y ((eq_parquetlaw20_many k (x.1) (x.2)).trans h)

def an_slices_Index_int_int : Ann := .node none none .leaf (.node none none (.node none none .leaf (.node none none (.node none (some [(0, .d (.sl kI)), (1, .d kI), (7, .d kI), (8, .d kI)]) .leaf .leaf) .leaf)) .leaf)
def g_slices_Index_int_int (k : Nat) (a0 : (List Int)) (a1 : Int) : Option Int :=
  loopN (α := ((List Int) × (Int × (Int × Int)))) (fun (x1, x2, x3, x4) next0 =>
    bif decide (x4 < x3) then
     gd (inb x4 x1.length) <|
     bif decide (x2 = (rdD 0 x1 x4)) then
      some x4
     else
      next0 (x1, x2, x3, w64 (x4 + 1))
    else
     some (-1)) k (a0, a1, (a0.length : Int), 0)
theorem eq_slices_Index_int_int (k : Nat) (a0 : (List Int)) (a1 : Int) : textF [] tb k Try.f60 an_slices_Index_int_int [.d (.sl kI), .d kI] [kI] (a0, a1) = g_slices_Index_int_int k a0 a1 := by kernel_rfl
theorem tells_slices_Index_int_int (k : Nat) : TellsF Try.prog 60 [.d (.sl kI), .d kI] [kI] (fun x => g_slices_Index_int_int k (x.1) (x.2)) := fun x y h => fun_tells tb_ok mix (es := []) (EsOk.nil _) Try.func60 (N := k) (an := an_slices_Index_int_int) (by kernel_rfl) x y ((eq_slices_Index_int_int k (x.1) (x.2)).trans h)

def an_slices_Contains_int_int : Ann := .leaf
def b_slices_Contains_int_int (k : Nat) (c_slices_Index_int_int : (List Int) → Int → Option Int) (a0 : (List Int)) (a1 : Int) : Option Bool :=
  bnd (c_slices_Index_int_int a0 a1) fun r0 =>
   some (decide (r0 ≥ 0))
theorem eq_slices_Contains_int_int (k : Nat) (c_slices_Index_int_int : (List Int) → Int → Option Int) (a0 : (List Int)) (a1 : Int) : textF [⟨60, [.d (.sl kI), .d kI], [kI], fun x => c_slices_Index_int_int (x.1) (x.2), none⟩] tb k Try.f51 an_slices_Contains_int_int [.d (.sl kI), .d kI] [.bool] (a0, a1) = b_slices_Contains_int_int k c_slices_Index_int_int a0 a1 := by kernel_rfl
def g_slices_Contains_int_int (k : Nat) (a0 : (List Int)) (a1 : Int) : Option Bool := b_slices_Contains_int_int k (g_slices_Index_int_int k) a0 a1
theorem tells_slices_Contains_int_int (k : Nat) : TellsF Try.prog 51 [.d (.sl kI), .d kI] [.bool] (fun x => g_slices_Contains_int_int k (x.1) (x.2)) := fun x y h => fun_tells tb_ok mix (es := [⟨60, [.d (.sl kI), .d kI], [kI], fun x => g_slices_Index_int_int k (x.1) (x.2), none⟩]) (EsOk.cons (EntryOk.of rfl (tells_slices_Index_int_int k)) (EsOk.nil _)) Try.func51 (N := k) (an := an_slices_Contains_int_int) (by kernel_rfl) x y ((eq_slices_Contains_int_int k (g_slices_Index_int_int k) (x.1) (x.2)).trans h)

def an_faces_edge : Ann := .leaf
def g_faces_edge (k : Nat) (a0 : (List Int)) (a1 : Int) : Option (Int × Int) :=
  gd (inb a1 a0.length) <|
   gd (!(decide ((a0.length : Int) = 0))) <|
   gd (inb ((w64 (a1 + 1)).tmod (a0.length : Int)) a0.length) <|
   some (rdD 0 a0 a1, rdD 0 a0 ((w64 (a1 + 1)).tmod (a0.length : Int)))
theorem eq_faces_edge (k : Nat) (a0 : (List Int)) (a1 : Int) : textF [] tb k Try.f52 an_faces_edge [.d (.sl kI), .d kI] [.pair kI kI] (a0, a1) = g_faces_edge k a0 a1 := by kernel_rfl
theorem tells_faces_edge (k : Nat) : TellsF Try.prog 52 [.d (.sl kI), .d kI] [.pair kI kI] (fun x => g_faces_edge k (x.1) (x.2)) := fun x y h => fun_tells tb_ok mix (es := []) (EsOk.nil _) Try.func52 (N := k) (an := an_faces_edge) (by kernel_rfl) x y ((eq_faces_edge k (x.1) (x.2)).trans h)

def an_faces_known : Ann := .node none none .leaf (.node none none (.node none none (.node (some [(0, .d kI), (1, .d (.sl (.sl kI))), (4, .box [.d (.mp (.pair kI kI) kI), .row (.sl kI) 24]), (20, .d .bool)]) none .leaf .leaf) .leaf) (.node none none (.node none none .leaf (.node none none (.node none (some [(0, .d kI), (1, .d (.sl (.sl kI))), (4, .box [.d (.mp (.pair kI kI) kI), .row (.sl kI) 24]), (22, .d (.sl (.sl kI))), (23, .d kI), (24, .d kI)]) (.node none none .leaf (.node none none .leaf (.node none none (.node none none (.node none none .leaf (.node none none (.node none none .leaf (.node none none (.node none (some [(0, .d kI), (1, .d (.sl (.sl kI))), (4, .box [.d (.mp (.pair kI kI) kI), .row (.sl kI) 24]), (7, .d (.sl kI)), (22, .d (.sl (.sl kI))), (23, .d kI), (24, .d kI), (28, .d (.sl kI)), (29, .d kI), (30, .d kI)]) (.node none none .leaf (.node none none .leaf (.node none none (.node none none (.node none none .leaf (.node none none (.node (some [(0, .d kI), (1, .d (.sl (.sl kI))), (4, .box [.d (.mp (.pair kI kI) kI), .row (.sl kI) 24]), (7, .d (.sl kI)), (22, .d (.sl (.sl kI))), (23, .d kI), (24, .d kI), (28, .d (.sl kI)), (29, .d kI), (30, .d kI), (48, .d .bool)]) none .leaf .leaf) .leaf)) .leaf) .leaf))) .leaf) .leaf)) .leaf)) .leaf) .leaf))) .leaf) .leaf)) (.node none none .leaf (.node none none (.node none none .leaf (.node none none (.node none (some [(4, .box [.d (.mp (.pair kI kI) kI), .row (.sl kI) 24]), (10, .box [.mp (.pair kI kI) kI, .d (.sl (.sl kI))]), (60, .d (.sl (.sl kI))), (61, .d kI), (62, .d kI)]) (.node none none .leaf (.node none none .leaf (.node none none (.node none none (.node none none .leaf (.node none none .leaf (.node none none (.node none (some [(4, .box [.d (.mp (.pair kI kI) kI), .row (.sl kI) 24]), (10, .box [.mp (.pair kI kI) kI, .d (.sl (.sl kI))]), (11, .d kI), (12, .d (.sl kI)), (60, .d (.sl (.sl kI))), (61, .d kI), (62, .d kI), (68, .d kI), (69, .d kI)]) (.node none none .leaf (.node none none .leaf (.node none none (.node none none (.node none none .leaf (.node none none .leaf (.node none none (.node none none (.node (some [(4, .box [.d (.mp (.pair kI kI) kI), .row (.sl kI) 24]), (10, .box [.mp (.pair kI kI) kI, .d (.sl (.sl kI))]), (11, .d kI), (12, .d (.sl kI)), (14, .box [.d (.pair kI kI)]), (60, .d (.sl (.sl kI))), (61, .d kI), (62, .d kI), (68, .d kI), (69, .d kI), (82, .d .bool)]) none .leaf .leaf) .leaf) .leaf))) .leaf) .leaf))) .leaf) .leaf))) .leaf) .leaf))) .leaf) .leaf)) .leaf))))
def b_faces_known (k : Nat) (c_slices_Contains_int_int : (List Int) → Int → Option Bool) (c_faces_edge : (List Int) → Int → Option (Int × Int)) (a0 : Int) (a1 : (List (List Int))) : Option (((List ((Int × Int) × Int)) × (List (List Int))) × Int) :=
  meet (α := (Int × ((List (List Int)) × (((List ((Int × Int) × Int)) × (List (List Int))) × Bool)))) (fun (y0, y1, y2, y3) =>
    bif y3 then
     some (([], []), 2)
    else
     loopN (α := (Int × ((List (List Int)) × (((List ((Int × Int) × Int)) × (List (List Int))) × ((List (List Int)) × (Int × Int)))))) (fun (x5, x6, x7, x8, x9, x10) next4 =>
      bif decide (x10 < x9) then
       gd (inb x10 x8.length) <|
       loopN (α := (Int × ((List (List Int)) × (((List ((Int × Int) × Int)) × (List (List Int))) × ((List Int) × ((List (List Int)) × (Int × (Int × ((List Int) × (Int × Int)))))))))) (fun (x12, x13, x14, x15, x16, x17, x18, x19, x20, x21) next11 =>
        bif decide (x21 < x20) then
         gd (inb x21 x19.length) <|
         meet (α := (Int × ((List (List Int)) × (((List ((Int × Int) × Int)) × (List (List Int))) × ((List Int) × ((List (List Int)) × (Int × (Int × ((List Int) × (Int × (Int × Bool))))))))))) (fun (y22, y23, y24, y25, y26, y27, y28, y29, y30, y31, y32) =>
          bif y32 then
           some (([], []), 2)
          else
           next11 (y22, y23, (y24.1, y24.2), y25, y26, y27, y28, y29, y30, w64 (y31 + 1))) fun j33 =>
         bif decide ((rdD 0 x19 x21) < 0) then
          j33 (x12, x13, (x14.1, x14.2), x15, x16, x17, x18, x19, x20, x21, true)
         else
          bif decide ((rdD 0 x19 x21) ≥ x12) then
           j33 (x12, x13, (x14.1, x14.2), x15, x16, x17, x18, x19, x20, x21, true)
          else
           gd (decide (0 ≤ x21)) <|
           gd (decide (x21 ≤ (x15.length : Int))) <|
           bnd (c_slices_Contains_int_int (tkL x15 x21) (rdD 0 x19 x21)) fun r34 =>
           j33 (x12, x13, (x14.1, x14.2), x15, x16, x17, x18, x19, x20, x21, r34)
        else
         bif decide ((x15.length : Int) < 3) then
          some (([], []), 2)
         else
          next4 (x12, x13, (x14.1, x14.2), x16, x17, w64 (x18 + 1))) k (x5, x6, (x7.1, x7.2), rdD [] x8 x10, x8, x9, x10, rdD [] x8 x10, ((rdD [] x8 x10).length : Int), 0)
      else
       loopN (α := (((List ((Int × Int) × Int)) × (List (List Int))) × (((List ((Int × Int) × Int)) × (List (List Int))) × ((List (List Int)) × (Int × Int))))) (fun (x36, x37, x38, x39, x40) next35 =>
        bif decide (x40 < x39) then
         gd (inb x40 x38.length) <|
         loopN (α := (((List ((Int × Int) × Int)) × (List (List Int))) × (((List ((Int × Int) × Int)) × (List (List Int))) × (Int × ((List Int) × ((List (List Int)) × (Int × (Int × (Int × Int))))))))) (fun (x42, x43, x44, x45, x46, x47, x48, x49, x50) next41 =>
          bif decide (x50 < x49) then
           bnd (c_faces_edge x45 x50) fun r51 =>
           meet (α := (((List ((Int × Int) × Int)) × (List (List Int))) × (((List ((Int × Int) × Int)) × (List (List Int))) × (Int × ((List Int) × ((Int × Int) × ((List (List Int)) × (Int × (Int × (Int × (Int × Bool))))))))))) (fun (y52, y53, y54, y55, y56, y57, y58, y59, y60, y61, y62) =>
            bif y62 then
             some (([], []), 80)
            else
             gd (!(hsM (.pair (.int .i64) (.int .i64)) (.int .i64) y53.1 (y56.1, y56.2))) <|
             next41 ((y52.1, y52.2), (adM (.pair (.int .i64) (.int .i64)) (.int .i64) y53.1 (y56.1, y56.2) y54, y53.2), y54, y55, y57, y58, y59, y60, w64 (y61 + 1))) fun j63 =>
           bif hsM (.pair (.int .i64) (.int .i64)) (.int .i64) x43.1 (r51.1, r51.2) then
            j63 ((x42.1, x42.2), (x43.1, x43.2), x44, x45, (r51.1, r51.2), x46, x47, x48, x49, x50, decide ((toT Int (lkM (.pair (.int .i64) (.int .i64)) (.int .i64) x43.1 (r51.1, r51.2))) ≥ 0))
           else
            j63 ((x42.1, x42.2), (x43.1, x43.2), x44, x45, (r51.1, r51.2), x46, x47, x48, x49, x50, false)
          else
           next35 ((x42.1, x42.2), (x43.1, x43.2), x46, x47, w64 (x48 + 1))) k ((x36.1, x36.2), (x37.1, x37.2), x40, rdD [] x38 x40, x38, x39, x40, ((rdD [] x38 x40).length : Int), 0)
        else
         some ((x37.1, x37.2), 0)) k ((x7.1, x7.2), ([], x6), x6, (x6.length : Int), 0)) k (y0, y1, (y2.1, y2.2), y1, (y1.length : Int), 0)) fun j64 =>
   bif decide (a0 < 0) then
    j64 (a0, a1, ([], []), true)
   else
    j64 (a0, a1, ([], []), decide (a0 > 1048576))
theorem eq_faces_known (k : Nat) (c_slices_Contains_int_int : (List Int) → Int → Option Bool) (c_faces_edge : (List Int) → Int → Option (Int × Int)) (a0 : Int) (a1 : (List (List Int))) : textF [⟨53, [], [], fun _ => none, some (.code tb Try.f53)⟩, ⟨51, [.d (.sl kI), .d kI], [.bool], fun x => c_slices_Contains_int_int (x.1) (x.2), none⟩, ⟨52, [.d (.sl kI), .d kI], [.pair kI kI], fun x => c_faces_edge (x.1) (x.2), none⟩] tb k Try.f44 an_faces_known [.d kI, .d (.sl (.sl kI))] [.pair (.mp (.pair kI kI) kI) (.sl (.sl kI)), kI] (a0, a1) = b_faces_known k c_slices_Contains_int_int c_faces_edge a0 a1 := by kernel_rfl
def g_faces_known (k : Nat) (a0 : Int) (a1 : (List (List Int))) : Option (((List ((Int × Int) × Int)) × (List (List Int))) × Int) := b_faces_known k (g_slices_Contains_int_int k) (g_faces_edge k) a0 a1
theorem tells_faces_known (k : Nat) : TellsF Try.prog 44 [.d kI, .d (.sl (.sl kI))] [.pair (.mp (.pair kI kI) kI) (.sl (.sl kI)), kI] (fun x => g_faces_known k (x.1) (x.2)) := fun x y h => fun_tells tb_ok mix (es := [⟨53, [], [], fun _ => none, some (.code tb Try.f53)⟩, ⟨51, [.d (.sl kI), .d kI], [.bool], fun x => g_slices_Contains_int_int k (x.1) (x.2), none⟩, ⟨52, [.d (.sl kI), .d kI], [.pair kI kI], fun x => g_faces_edge k (x.1) (x.2), none⟩]) (EsOk.cons (EntryOk.go tb_ok mix Try.func53 (by kernel_rfl)) (EsOk.cons (EntryOk.of rfl (tells_slices_Contains_int_int k)) (EsOk.cons (EntryOk.of rfl (tells_faces_edge k)) (EsOk.nil _)))) Try.func44 (N := k) (an := an_faces_known) (by kernel_rfl) x y ((eq_faces_known k (g_slices_Contains_int_int k) (g_faces_edge k) (x.1) (x.2)).trans h)

def an_faces_Check : Ann := .leaf
def b_faces_Check (k : Nat) (c_faces_known : Int → (List (List Int)) → Option (((List ((Int × Int) × Int)) × (List (List Int))) × Int)) (a0 : Int) (a1 : (List (List Int))) : Option Int :=
  bnd (c_faces_known a0 a1) fun r0 =>
   some r0.2
theorem eq_faces_Check (k : Nat) (c_faces_known : Int → (List (List Int)) → Option (((List ((Int × Int) × Int)) × (List (List Int))) × Int)) (a0 : Int) (a1 : (List (List Int))) : textF [⟨44, [.d kI, .d (.sl (.sl kI))], [.pair (.mp (.pair kI kI) kI) (.sl (.sl kI)), kI], fun x => c_faces_known (x.1) (x.2), none⟩] tb k Try.f26 an_faces_Check [.d kI, .d (.sl (.sl kI))] [kI] (a0, a1) = b_faces_Check k c_faces_known a0 a1 := by kernel_rfl
def g_faces_Check (k : Nat) (a0 : Int) (a1 : (List (List Int))) : Option Int := b_faces_Check k (g_faces_known k) a0 a1
theorem tells_faces_Check (k : Nat) : TellsF Try.prog 26 [.d kI, .d (.sl (.sl kI))] [kI] (fun x => g_faces_Check k (x.1) (x.2)) := fun x y h => fun_tells tb_ok mix (es := [⟨44, [.d kI, .d (.sl (.sl kI))], [.pair (.mp (.pair kI kI) kI) (.sl (.sl kI)), kI], fun x => g_faces_known k (x.1) (x.2), none⟩]) (EsOk.cons (EntryOk.of rfl (tells_faces_known k)) (EsOk.nil _)) Try.func26 (N := k) (an := an_faces_Check) (by kernel_rfl) x y ((eq_faces_Check k (g_faces_known k) (x.1) (x.2)).trans h)

def an_pred_Fits : Ann := .node none none .leaf (.node none none (.node none none .leaf (.node none none (.node none (some [(5, .d (.sl (.pair kI kI))), (6, .d kI), (7, .d kI)]) (.node none none .leaf (.node none none .leaf (.node none none (.node none none (.node none none .leaf (.node none none (.node (some [(5, .d (.sl (.pair kI kI))), (6, .d kI), (7, .d kI), (28, .d .bool)]) none .leaf .leaf) .leaf)) .leaf) .leaf))) .leaf) .leaf)) .leaf)
def g_pred_Fits (k : Nat) (a0 : (List (Int × Int))) : Option Bool :=
  loopN (α := ((List (Int × Int)) × (Int × Int))) (fun (x1, x2, x3) next0 =>
    bif decide (x3 < x2) then
     gd (inb x3 x1.length) <|
     meet (α := ((List (Int × Int)) × (Int × (Int × Bool)))) (fun (y4, y5, y6, y7) =>
      bif y7 then
       some false
      else
       next0 (y4, y5, w64 (y6 + 1))) fun j8 =>
     bif decide ((rdD (0, 0) x1 x3).1 < (-4294967296)) then
      j8 (x1, x2, x3, true)
     else
      bif decide ((rdD (0, 0) x1 x3).1 > 4294967296) then
       j8 (x1, x2, x3, true)
      else
       bif decide ((rdD (0, 0) x1 x3).2 < (-4294967296)) then
        j8 (x1, x2, x3, true)
       else
        j8 (x1, x2, x3, decide ((rdD (0, 0) x1 x3).2 > 4294967296))
    else
     some true) k (a0, (a0.length : Int), 0)
theorem eq_pred_Fits (k : Nat) (a0 : (List (Int × Int))) : textF [] tb k Try.f27 an_pred_Fits [.d (.sl (.pair kI kI))] [.bool] a0 = g_pred_Fits k a0 := by kernel_rfl
theorem tells_pred_Fits (k : Nat) : TellsF Try.prog 27 [.d (.sl (.pair kI kI))] [.bool] (fun x => g_pred_Fits k x) := fun x y h => fun_tells tb_ok mix (es := []) (EsOk.nil _) Try.func27 (N := k) (an := an_pred_Fits) (by kernel_rfl) x y ((eq_pred_Fits k x).trans h)

def an_halve_times : Ann := .leaf
def g_halve_times (k : Nat) (a0 : (Int × Int)) (a1 : Int) : Option (Int × Int) :=
  some (w64 (a1 * a0.1), w64 (a1 * a0.2))
theorem eq_halve_times (k : Nat) (a0 : (Int × Int)) (a1 : Int) : textF [] tb k Try.f28 an_halve_times [.d (.pair kI kI), .d kI] [.pair kI kI] (a0, a1) = g_halve_times k a0 a1 := by kernel_rfl
theorem tells_halve_times (k : Nat) : TellsF Try.prog 28 [.d (.pair kI kI), .d kI] [.pair kI kI] (fun x => g_halve_times k (x.1) (x.2)) := fun x y h => fun_tells tb_ok mix (es := []) (EsOk.nil _) Try.func28 (N := k) (an := an_halve_times) (by kernel_rfl) x y ((eq_halve_times k (x.1) (x.2)).trans h)

def an_halve_Middle : Ann := .node none none .leaf (.node none none (.node none none (.node (some [(0, .d (.sl (.pair kI kI))), (1, .d (.sl kI)), (4, .box [.d (.pair kI kI)]), (17, .d .bool)]) none .leaf .leaf) .leaf) (.node none none .leaf (.node none none (.node none none .leaf (.node none none (.node none (some [(0, .d (.sl (.pair kI kI))), (1, .d (.sl kI)), (4, .box [.d (.pair kI kI)]), (6, .box [.d (.pair kI kI)]), (19, .d (.sl kI)), (20, .d kI), (21, .d kI)]) (.node none none .leaf (.node none none .leaf (.node none none (.node none none (.node none none .leaf (.node none none (.node none none (.node (some [(0, .d (.sl (.pair kI kI))), (1, .d (.sl kI)), (4, .box [.d (.pair kI kI)]), (6, .box [.d (.pair kI kI)]), (8, .d kI), (19, .d (.sl kI)), (20, .d kI), (21, .d kI), (51, .d .bool)]) none .leaf .leaf) .leaf) .leaf)) .leaf) .leaf))) .leaf) .leaf)) .leaf)))
def b_halve_Middle (k : Nat) (c_pred_Fits : (List (Int × Int)) → Option Bool) (c_halve_times : (Int × Int) → Int → Option (Int × Int)) (a0 : (List (Int × Int))) (a1 : (List Int)) : Option ((Int × Int) × Int) :=
  meet (α := ((List (Int × Int)) × ((List Int) × ((Int × Int) × Bool)))) (fun (y0, y1, y2, y3) =>
    bif y3 then
     some ((0, 0), 2)
    else
     loopN (α := ((List (Int × Int)) × ((List Int) × ((Int × Int) × ((Int × Int) × ((List Int) × (Int × Int))))))) (fun (x5, x6, x7, x8, x9, x10, x11) next4 =>
      bif decide (x11 < x10) then
       gd (inb x11 x9.length) <|
       meet (α := ((List (Int × Int)) × ((List Int) × ((Int × Int) × ((Int × Int) × (Int × ((List Int) × (Int × (Int × Bool))))))))) (fun (y12, y13, y14, y15, y16, y17, y18, y19, y20) =>
        bif y20 then
         some ((0, 0), 2)
        else
         gd (inb y16 y12.length) <|
         gd (!(decide ((y13.length : Int) = 0))) <|
         bnd (c_halve_times ((rdD (0, 0) y12 y16).1, (rdD (0, 0) y12 y16).2) (w64 ((12 : Int).tdiv (y13.length : Int)))) fun r21 =>
         next4 (y12, y13, (y14.1, y14.2), (w64 (y15.1 + r21.1), w64 (y15.2 + r21.2)), y17, y18, w64 (y19 + 1))) fun j22 =>
       bif decide ((rdD 0 x9 x11) < 0) then
        j22 (x5, x6, (x7.1, x7.2), (x8.1, x8.2), rdD 0 x9 x11, x9, x10, x11, true)
       else
        bif decide ((rdD 0 x9 x11) ≥ (x5.length : Int)) then
         j22 (x5, x6, (x7.1, x7.2), (x8.1, x8.2), rdD 0 x9 x11, x9, x10, x11, true)
        else
         gd (inb (rdD 0 x9 x11) x5.length) <|
         bnd (c_pred_Fits [((rdD (0, 0) x5 (rdD 0 x9 x11)).1, (rdD (0, 0) x5 (rdD 0 x9 x11)).2)]) fun r23 =>
         bif !r23 then
          j22 (x5, x6, (x7.1, x7.2), (x8.1, x8.2), rdD 0 x9 x11, x9, x10, x11, true)
         else
          gd (inb (rdD 0 x9 x11) x5.length) <|
          bnd (c_halve_times ((rdD (0, 0) x5 (rdD 0 x9 x11)).1, (rdD (0, 0) x5 (rdD 0 x9 x11)).2) 12) fun r24 =>
          bnd (c_pred_Fits [(r24.1, r24.2)]) fun r25 =>
          j22 (x5, x6, (x7.1, x7.2), (x8.1, x8.2), rdD 0 x9 x11, x9, x10, x11, !r25)
      else
       some ((x8.1, x8.2), 0)) k (y0, y1, (y2.1, y2.2), (0, 0), y1, (y1.length : Int), 0)) fun j26 =>
   bif decide ((a1.length : Int) < 3) then
    j26 (a0, a1, (0, 0), true)
   else
    j26 (a0, a1, (0, 0), decide ((a1.length : Int) > 4))
theorem eq_halve_Middle (k : Nat) (c_pred_Fits : (List (Int × Int)) → Option Bool) (c_halve_times : (Int × Int) → Int → Option (Int × Int)) (a0 : (List (Int × Int))) (a1 : (List Int)) : textF [⟨27, [.d (.sl (.pair kI kI))], [.bool], fun x => c_pred_Fits x, none⟩, ⟨28, [.d (.pair kI kI), .d kI], [.pair kI kI], fun x => c_halve_times (x.1) (x.2), none⟩] tb k Try.f13 an_halve_Middle [.d (.sl (.pair kI kI)), .d (.sl kI)] [.pair kI kI, kI] (a0, a1) = b_halve_Middle k c_pred_Fits c_halve_times a0 a1 := by kernel_rfl
def g_halve_Middle (k : Nat) (a0 : (List (Int × Int))) (a1 : (List Int)) : Option ((Int × Int) × Int) := b_halve_Middle k (g_pred_Fits k) (g_halve_times k) a0 a1
theorem tells_halve_Middle (k : Nat) : TellsF Try.prog 13 [.d (.sl (.pair kI kI)), .d (.sl kI)] [.pair kI kI, kI] (fun x => g_halve_Middle k (x.1) (x.2)) := fun x y h => fun_tells tb_ok mix (es := [⟨27, [.d (.sl (.pair kI kI))], [.bool], fun x => g_pred_Fits k x, none⟩, ⟨28, [.d (.pair kI kI), .d kI], [.pair kI kI], fun x => g_halve_times k (x.1) (x.2), none⟩]) (EsOk.cons (EntryOk.of rfl (tells_pred_Fits k)) (EsOk.cons (EntryOk.of rfl (tells_halve_times k)) (EsOk.nil _))) Try.func13 (N := k) (an := an_halve_Middle) (by kernel_rfl) x y ((eq_halve_Middle k (g_pred_Fits k) (g_halve_times k) (x.1) (x.2)).trans h)

def an_faces_mesh_edges : Ann := .node none none .leaf (.node none none .leaf (.node none none (.node none none .leaf (.node none none (.node none (some [(1, .box [.d (.pair (.mp (.pair kI kI) kI) (.sl (.sl kI)))]), (3, .row (.pair kI kI) 63), (8, .it (.pair kI kI) kI)]) (.node none none .leaf (.node none none .leaf (.node none none (.node none none .leaf (.node none none (.node (some [(1, .box [.d (.pair (.mp (.pair kI kI) kI) (.sl (.sl kI)))]), (3, .row (.pair kI kI) 63), (4, .box [.d (.pair kI kI)]), (8, .it (.pair kI kI) kI), (27, .d .bool)]) none .leaf .leaf) (.node (some [(1, .box [.d (.pair (.mp (.pair kI kI) kI) (.sl (.sl kI)))]), (3, .row (.pair kI kI) 63), (8, .it (.pair kI kI) kI)]) none .leaf .leaf))) .leaf))) .leaf) .leaf)) .leaf))
def g_faces_mesh_edges (k : Nat) (a0 : ((List ((Int × Int) × Int)) × (List (List Int)))) : Option (List (Int × Int)) :=
  loopN (α := (((List ((Int × Int) × Int)) × (List (List Int))) × ((List (Int × Int)) × (List ((Int × Int) × Int))))) (fun (x1, x2, x3) next0 =>
    nxt x3 (
     gd (few x2.length) <|
     some (srtL cf_55 x2)) (fun (e5, e6) r4 =>
     meet (α := (((List ((Int × Int) × Int)) × (List (List Int))) × ((List (Int × Int)) × ((Int × Int) × ((List ((Int × Int) × Int)) × Bool))))) (fun (y7, y8, y9, y10, y11) =>
      meet (α := (((List ((Int × Int) × Int)) × (List (List Int))) × ((List (Int × Int)) × (List ((Int × Int) × Int))))) (fun (y12, y13, y14) =>
       next0 ((y12.1, y12.2), y13, y14)) fun j15 =>
      bif y11 then
       gd (few (y8.length + 1)) <|
       j15 ((y7.1, y7.2), y8 ++ [(mnI y9.1 y9.2, mxI y9.1 y9.2)], y10)
      else
       j15 ((y7.1, y7.2), y8, y10)) fun j16 =>
     bif decide (e5.1 < e5.2) then
      j16 ((x1.1, x1.2), x2, (e5.1, e5.2), r4, true)
     else
      bif hsM (.pair (.int .i64) (.int .i64)) (.int .i64) x1.1 (e5.2, e5.1) then
       j16 ((x1.1, x1.2), x2, (e5.1, e5.2), r4, decide ((toT Int (lkM (.pair (.int .i64) (.int .i64)) (.int .i64) x1.1 (e5.2, e5.1))) < 0))
      else
       j16 ((x1.1, x1.2), x2, (e5.1, e5.2), r4, true))) k ((a0.1, a0.2), [], a0.1)
theorem eq_faces_mesh_edges (k : Nat) (a0 : ((List ((Int × Int) × Int)) × (List (List Int)))) : textF [⟨53, [], [], fun _ => none, some (.code tb Try.f53)⟩, ⟨54, [], [], fun _ => none, some (.srt (.pair kI kI) 55 cf_55)⟩] tb k Try.f45 an_faces_mesh_edges [.d (.pair (.mp (.pair kI kI) kI) (.sl (.sl kI)))] [.sl (.pair kI kI)] a0 = g_faces_mesh_edges k a0 := by kernel_rfl
theorem tells_faces_mesh_edges (k : Nat) : TellsF Try.prog 45 [.d (.pair (.mp (.pair kI kI) kI) (.sl (.sl kI)))] [.sl (.pair kI kI)] (fun x => g_faces_mesh_edges k x) := fun x y h => fun_tells tb_ok mix (es := [⟨53, [], [], fun _ => none, some (.code tb Try.f53)⟩, ⟨54, [], [], fun _ => none, some (.srt (.pair kI kI) 55 cf_55)⟩]) (EsOk.cons (EntryOk.go tb_ok mix Try.func53 (by kernel_rfl)) (EsOk.cons (EntryOk.sort srt_54) (EsOk.nil _))) Try.func45 (N := k) (an := an_faces_mesh_edges) (by kernel_rfl) x y ((eq_faces_mesh_edges k x).trans h)

def an_faces_Edges : Ann := .leaf
def b_faces_Edges (k : Nat) (c_faces_known : Int → (List (List Int)) → Option (((List ((Int × Int) × Int)) × (List (List Int))) × Int)) (c_faces_mesh_edges : ((List ((Int × Int) × Int)) × (List (List Int))) → Option (List (Int × Int))) (a0 : (List (List Int))) : Option (List (Int × Int)) :=
  bnd (c_faces_known 1048576 a0) fun r0 =>
   bnd (c_faces_mesh_edges (r0.1.1, r0.1.2)) fun r1 =>
   some r1
theorem eq_faces_Edges (k : Nat) (c_faces_known : Int → (List (List Int)) → Option (((List ((Int × Int) × Int)) × (List (List Int))) × Int)) (c_faces_mesh_edges : ((List ((Int × Int) × Int)) × (List (List Int))) → Option (List (Int × Int))) (a0 : (List (List Int))) : textF [⟨44, [.d kI, .d (.sl (.sl kI))], [.pair (.mp (.pair kI kI) kI) (.sl (.sl kI)), kI], fun x => c_faces_known (x.1) (x.2), none⟩, ⟨45, [.d (.pair (.mp (.pair kI kI) kI) (.sl (.sl kI)))], [.sl (.pair kI kI)], fun x => c_faces_mesh_edges x, none⟩] tb k Try.f29 an_faces_Edges [.d (.sl (.sl kI))] [.sl (.pair kI kI)] a0 = b_faces_Edges k c_faces_known c_faces_mesh_edges a0 := by kernel_rfl
def g_faces_Edges (k : Nat) (a0 : (List (List Int))) : Option (List (Int × Int)) := b_faces_Edges k (g_faces_known k) (g_faces_mesh_edges k) a0
theorem tells_faces_Edges (k : Nat) : TellsF Try.prog 29 [.d (.sl (.sl kI))] [.sl (.pair kI kI)] (fun x => g_faces_Edges k x) := fun x y h => fun_tells tb_ok mix (es := [⟨44, [.d kI, .d (.sl (.sl kI))], [.pair (.mp (.pair kI kI) kI) (.sl (.sl kI)), kI], fun x => g_faces_known k (x.1) (x.2), none⟩, ⟨45, [.d (.pair (.mp (.pair kI kI) kI) (.sl (.sl kI)))], [.sl (.pair kI kI)], fun x => g_faces_mesh_edges k x, none⟩]) (EsOk.cons (EntryOk.of rfl (tells_faces_known k)) (EsOk.cons (EntryOk.of rfl (tells_faces_mesh_edges k)) (EsOk.nil _))) Try.func29 (N := k) (an := an_faces_Edges) (by kernel_rfl) x y ((eq_faces_Edges k (g_faces_known k) (g_faces_mesh_edges k) x).trans h)

def an_halve_up : Ann := .leaf
def g_halve_up (k : Nat) (a0 : Int) (a1 : Int) : Option (Int × Int) :=
  some (mnI a0 a1, mxI a0 a1)
theorem eq_halve_up (k : Nat) (a0 : Int) (a1 : Int) : textF [] tb k Try.f30 an_halve_up [.d kI, .d kI] [.pair kI kI] (a0, a1) = g_halve_up k a0 a1 := by kernel_rfl
theorem tells_halve_up (k : Nat) : TellsF Try.prog 30 [.d kI, .d kI] [.pair kI kI] (fun x => g_halve_up k (x.1) (x.2)) := fun x y h => fun_tells tb_ok mix (es := []) (EsOk.nil _) Try.func30 (N := k) (an := an_halve_up) (by kernel_rfl) x y ((eq_halve_up k (x.1) (x.2)).trans h)

def an_halve_Run : Ann := .node none none .leaf (.node none none .leaf (.node none none .leaf (.node none none (.node none none .leaf (.node none none (.node none (some [(0, .d (.sl (.pair kI kI))), (1, .d (.sl (.sl kI))), (7, .row (.pair kI kI) 33), (8, .row (.pair kI kI) 33), (30, .d (.sl (.pair kI kI))), (31, .d kI), (32, .d kI)]) (.node none none .leaf (.node none none .leaf (.node none none (.node none none (.node none none .leaf (.node none none (.node none none (.node (some [(0, .d (.sl (.pair kI kI))), (1, .d (.sl (.sl kI))), (7, .row (.pair kI kI) 33), (8, .row (.pair kI kI) 33), (10, .box [.d (.pair kI kI)]), (30, .d (.sl (.pair kI kI))), (31, .d kI), (32, .d kI), (46, .d .bool)]) none .leaf .leaf) .leaf) .leaf)) .leaf) .leaf))) .leaf) .leaf)) (.node none none (.node none none .leaf (.node none none (.node none (some [(0, .d (.sl (.pair kI kI))), (1, .d (.sl (.sl kI))), (7, .row (.pair kI kI) 33), (8, .row (.pair kI kI) 33), (53, .d (.sl (.sl kI))), (54, .d kI), (55, .d kI)]) .leaf .leaf) .leaf)) (.node none none .leaf (.node none none (.node none none .leaf (.node none none (.node none (some [(0, .d (.sl (.pair kI kI))), (1, .d (.sl (.sl kI))), (7, .row (.pair kI kI) 33), (8, .row (.pair kI kI) 33), (15, .mp (.pair kI kI) kI), (75, .d (.sl (.pair kI kI))), (76, .d kI), (77, .d kI)]) .leaf .leaf) .leaf)) (.node none none .leaf (.node none none (.node none none .leaf (.node none none (.node none (some [(7, .row (.pair kI kI) 33), (8, .row (.pair kI kI) 33), (15, .mp (.pair kI kI) kI), (18, .row (.sl kI) 24), (117, .d (.sl (.sl kI))), (118, .d kI), (119, .d kI)]) (.node none none .leaf (.node none none .leaf (.node none none (.node none none (.node none none .leaf (.node none none .leaf (.node none none .leaf (.node none none (.node none (some [(7, .row (.pair kI kI) 33), (8, .row (.pair kI kI) 33), (15, .mp (.pair kI kI) kI), (18, .row (.sl kI) 24), (19, .d kI), (20, .d (.sl kI)), (21, .d kI), (117, .d (.sl (.sl kI))), (118, .d kI), (119, .d kI), (126, .d (.sl kI)), (127, .d kI), (128, .d kI)]) .leaf .leaf) .leaf)))) .leaf) .leaf))) .leaf) .leaf)) .leaf))))))))
def b_halve_Run (k : Nat) (c_faces_Check : Int → (List (List Int)) → Option Int) (c_pred_Fits : (List (Int × Int)) → Option Bool) (c_halve_times : (Int × Int) → Int → Option (Int × Int)) (c_halve_Middle : (List (Int × Int)) → (List Int) → Option ((Int × Int) × Int)) (c_faces_Edges : (List (List Int)) → Option (List (Int × Int))) (c_halve_up : Int → Int → Option (Int × Int)) (a0 : (List (Int × Int))) (a1 : (List (List Int))) : Option ((List (Int × Int)) × (List (List Int)) × Int) :=
  bnd (c_faces_Check (a0.length : Int) a1) fun r0 =>
   bif !(decide (r0 = 0)) then
    some ([], [], 2)
   else
    loopN (α := ((List (Int × Int)) × ((List (List Int)) × ((List (Int × Int)) × ((List (Int × Int)) × ((List (Int × Int)) × (Int × Int))))))) (fun (x2, x3, x4, x5, x6, x7, x8) next1 =>
     bif decide (x8 < x7) then
      gd (inb x8 x6.length) <|
      meet (α := ((List (Int × Int)) × ((List (List Int)) × ((List (Int × Int)) × ((List (Int × Int)) × ((Int × Int) × ((List (Int × Int)) × (Int × (Int × Bool))))))))) (fun (y9, y10, y11, y12, y13, y14, y15, y16, y17) =>
       bif y17 then
        some ([], [], 2)
       else
        bnd (c_halve_times (y13.1, y13.2) 12) fun r18 =>
        gd (few (y11.length + 1)) <|
        next1 (y9, y10, y11 ++ [(r18.1, r18.2)], y12, y14, y15, w64 (y16 + 1))) fun j19 =>
      bnd (c_pred_Fits [((rdD (0, 0) x6 x8).1, (rdD (0, 0) x6 x8).2)]) fun r20 =>
      bif !r20 then
       j19 (x2, x3, x4, x5, ((rdD (0, 0) x6 x8).1, (rdD (0, 0) x6 x8).2), x6, x7, x8, true)
      else
       bnd (c_halve_times ((rdD (0, 0) x6 x8).1, (rdD (0, 0) x6 x8).2) 12) fun r21 =>
       bnd (c_pred_Fits [(r21.1, r21.2)]) fun r22 =>
       j19 (x2, x3, x4, x5, ((rdD (0, 0) x6 x8).1, (rdD (0, 0) x6 x8).2), x6, x7, x8, !r22)
     else
      loopN (α := ((List (Int × Int)) × ((List (List Int)) × ((List (Int × Int)) × ((List (Int × Int)) × ((List (List Int)) × (Int × Int))))))) (fun (x24, x25, x26, x27, x28, x29, x30) next23 =>
       bif decide (x30 < x29) then
        gd (inb x30 x28.length) <|
        bnd (c_halve_Middle x24 (rdD [] x28 x30)) fun r31 =>
        bif !(decide (r31.2 = 0)) then
         some ([], [], r31.2)
        else
         gd (few (x27.length + 1)) <|
         next23 (x24, x25, x26, x27 ++ [(r31.1.1, r31.1.2)], x28, x29, w64 (x30 + 1))
       else
        bnd (c_faces_Edges x25) fun r32 =>
        loopN (α := ((List (Int × Int)) × ((List (List Int)) × ((List (Int × Int)) × ((List (Int × Int)) × ((List ((Int × Int) × Int)) × ((List (Int × Int)) × (Int × Int)))))))) (fun (x34, x35, x36, x37, x38, x39, x40, x41) next33 =>
         bif decide (x41 < x40) then
          gd (inb x41 x39.length) <|
          gd (!(hsM (.pair (.int .i64) (.int .i64)) (.int .i64) x38 ((rdD (0, 0) x39 x41).1, (rdD (0, 0) x39 x41).2))) <|
          gd (inb (rdD (0, 0) x39 x41).1 x34.length) <|
          gd (inb (rdD (0, 0) x39 x41).2 x34.length) <|
          gd (inb (rdD (0, 0) x39 x41).1 x34.length) <|
          gd (inb (rdD (0, 0) x39 x41).2 x34.length) <|
          bnd (c_halve_times (w64 ((rdD (0, 0) x34 (rdD (0, 0) x39 x41).1).1 + (rdD (0, 0) x34 (rdD (0, 0) x39 x41).2).1), w64 ((rdD (0, 0) x34 (rdD (0, 0) x39 x41).1).2 + (rdD (0, 0) x34 (rdD (0, 0) x39 x41).2).2)) 6) fun r42 =>
          gd (few (x36.length + 1)) <|
          next33 (x34, x35, x36 ++ [(r42.1, r42.2)], x37, adM (.pair (.int .i64) (.int .i64)) (.int .i64) x38 ((rdD (0, 0) x39 x41).1, (rdD (0, 0) x39 x41).2) (x36.length : Int), x39, x40, w64 (x41 + 1))
         else
          loopN (α := ((List (Int × Int)) × ((List (Int × Int)) × ((List ((Int × Int) × Int)) × ((List (List Int)) × ((List (List Int)) × (Int × Int))))))) (fun (x44, x45, x46, x47, x48, x49, x50) next43 =>
           bif decide (x50 < x49) then
            gd (inb x50 x48.length) <|
            loopN (α := ((List (Int × Int)) × ((List (Int × Int)) × ((List ((Int × Int) × Int)) × ((List (List Int)) × (Int × ((List Int) × (Int × ((List (List Int)) × (Int × (Int × ((List Int) × (Int × Int))))))))))))) (fun (x52, x53, x54, x55, x56, x57, x58, x59, x60, x61, x62, x63, x64) next51 =>
             bif decide (x64 < x63) then
              gd (inb x64 x62.length) <|
              gd (!(decide (x58 = 0))) <|
              gd (inb ((w64 (x64 + 1)).tmod x58) x57.length) <|
              bnd (c_halve_up (rdD 0 x62 x64) (rdD 0 x57 ((w64 (x64 + 1)).tmod x58))) fun r65 =>
              gd (!(decide (x58 = 0))) <|
              gd (inb ((w64 ((w64 (x64 + x58)) - 1)).tmod x58) x57.length) <|
              bnd (c_halve_up (rdD 0 x62 x64) (rdD 0 x57 ((w64 ((w64 (x64 + x58)) - 1)).tmod x58))) fun r66 =>
              gd (few (x55.length + 1)) <|
              next51 (x52, x53, x54, x55 ++ [[rdD 0 x62 x64, toT Int (lkM (.pair (.int .i64) (.int .i64)) (.int .i64) x54 (r65.1, r65.2)), w64 ((x52.length : Int) + x56), toT Int (lkM (.pair (.int .i64) (.int .i64)) (.int .i64) x54 (r66.1, r66.2))]], x56, x57, x58, x59, x60, x61, x62, x63, w64 (x64 + 1))
             else
              next43 (x52, x53, x54, x55, x59, x60, w64 (x61 + 1))) k (x44, x45, x46, x47, x50, rdD [] x48 x50, ((rdD [] x48 x50).length : Int), x48, x49, x50, rdD [] x48 x50, ((rdD [] x48 x50).length : Int), 0)
           else
            gd (few (x44.length + x45.length)) <|
            some (x44 ++ x45, x47, 0)) k (x36, x37, x38, [], x35, (x35.length : Int), 0)) k (x24, x25, x26, x27, [], r32, (r32.length : Int), 0)) k (x2, x3, x4, x5, x3, (x3.length : Int), 0)) k (a0, a1, [], [], a0, (a0.length : Int), 0)
theorem eq_halve_Run (k : Nat) (c_faces_Check : Int → (List (List Int)) → Option Int) (c_pred_Fits : (List (Int × Int)) → Option Bool) (c_halve_times : (Int × Int) → Int → Option (Int × Int)) (c_halve_Middle : (List (Int × Int)) → (List Int) → Option ((Int × Int) × Int)) (c_faces_Edges : (List (List Int)) → Option (List (Int × Int))) (c_halve_up : Int → Int → Option (Int × Int)) (a0 : (List (Int × Int))) (a1 : (List (List Int))) : textF [⟨26, [.d kI, .d (.sl (.sl kI))], [kI], fun x => c_faces_Check (x.1) (x.2), none⟩, ⟨27, [.d (.sl (.pair kI kI))], [.bool], fun x => c_pred_Fits x, none⟩, ⟨28, [.d (.pair kI kI), .d kI], [.pair kI kI], fun x => c_halve_times (x.1) (x.2), none⟩, ⟨13, [.d (.sl (.pair kI kI)), .d (.sl kI)], [.pair kI kI, kI], fun x => c_halve_Middle (x.1) (x.2), none⟩, ⟨29, [.d (.sl (.sl kI))], [.sl (.pair kI kI)], fun x => c_faces_Edges x, none⟩, ⟨30, [.d kI, .d kI], [.pair kI kI], fun x => c_halve_up (x.1) (x.2), none⟩] tb k Try.f11 an_halve_Run [.d (.sl (.pair kI kI)), .d (.sl (.sl kI))] [.sl (.pair kI kI), .sl (.sl kI), kI] (a0, a1) = b_halve_Run k c_faces_Check c_pred_Fits c_halve_times c_halve_Middle c_faces_Edges c_halve_up a0 a1 := by kernel_rfl
def g_halve_Run (k : Nat) (a0 : (List (Int × Int))) (a1 : (List (List Int))) : Option ((List (Int × Int)) × (List (List Int)) × Int) := b_halve_Run k (g_faces_Check k) (g_pred_Fits k) (g_halve_times k) (g_halve_Middle k) (g_faces_Edges k) (g_halve_up k) a0 a1
theorem tells_halve_Run (k : Nat) : TellsF Try.prog 11 [.d (.sl (.pair kI kI)), .d (.sl (.sl kI))] [.sl (.pair kI kI), .sl (.sl kI), kI] (fun x => g_halve_Run k (x.1) (x.2)) := fun x y h => fun_tells tb_ok mix (es := [⟨26, [.d kI, .d (.sl (.sl kI))], [kI], fun x => g_faces_Check k (x.1) (x.2), none⟩, ⟨27, [.d (.sl (.pair kI kI))], [.bool], fun x => g_pred_Fits k x, none⟩, ⟨28, [.d (.pair kI kI), .d kI], [.pair kI kI], fun x => g_halve_times k (x.1) (x.2), none⟩, ⟨13, [.d (.sl (.pair kI kI)), .d (.sl kI)], [.pair kI kI, kI], fun x => g_halve_Middle k (x.1) (x.2), none⟩, ⟨29, [.d (.sl (.sl kI))], [.sl (.pair kI kI)], fun x => g_faces_Edges k x, none⟩, ⟨30, [.d kI, .d kI], [.pair kI kI], fun x => g_halve_up k (x.1) (x.2), none⟩]) (EsOk.cons (EntryOk.of rfl (tells_faces_Check k)) (EsOk.cons (EntryOk.of rfl (tells_pred_Fits k)) (EsOk.cons (EntryOk.of rfl (tells_halve_times k)) (EsOk.cons (EntryOk.of rfl (tells_halve_Middle k)) (EsOk.cons (EntryOk.of rfl (tells_faces_Edges k)) (EsOk.cons (EntryOk.of rfl (tells_halve_up k)) (EsOk.nil _))))))) Try.func11 (N := k) (an := an_halve_Run) (by kernel_rfl) x y ((eq_halve_Run k (g_faces_Check k) (g_pred_Fits k) (g_halve_times k) (g_halve_Middle k) (g_faces_Edges k) (g_halve_up k) (x.1) (x.2)).trans h)

def an_parquetref05_SamePoints : Ann := .node none none .leaf (.node none none .leaf (.node none none (.node none none .leaf (.node none none (.node none (some [(0, .d (.sl (.pair kI kI))), (1, .d (.sl (.pair kI kI))), (5, .d kI)]) .leaf .leaf) .leaf)) .leaf))
def g_parquetref05_SamePoints (k : Nat) (a0 : (List (Int × Int))) (a1 : (List (Int × Int))) : Option Bool :=
  bif !(decide ((a0.length : Int) = (a1.length : Int))) then
    some false
   else
    loopN (α := ((List (Int × Int)) × ((List (Int × Int)) × Int))) (fun (x1, x2, x3) next0 =>
     bif decide (x3 < (x1.length : Int)) then
      gd (inb x3 x1.length) <|
      gd (inb x3 x2.length) <|
      bif !((decide ((rdD (0, 0) x1 x3).1 = (rdD (0, 0) x2 x3).1)) && (decide ((rdD (0, 0) x1 x3).2 = (rdD (0, 0) x2 x3).2))) then
       some false
      else
       next0 (x1, x2, w64 (x3 + 1))
     else
      some true) k (a0, a1, 0)
theorem eq_parquetref05_SamePoints (k : Nat) (a0 : (List (Int × Int))) (a1 : (List (Int × Int))) : textF [] tb k Try.f15 an_parquetref05_SamePoints [.d (.sl (.pair kI kI)), .d (.sl (.pair kI kI))] [.bool] (a0, a1) = g_parquetref05_SamePoints k a0 a1 := by kernel_rfl
theorem tells_parquetref05_SamePoints (k : Nat) : TellsF Try.prog 15 [.d (.sl (.pair kI kI)), .d (.sl (.pair kI kI))] [.bool] (fun x => g_parquetref05_SamePoints k (x.1) (x.2)) := fun x y h => fun_tells tb_ok mix (es := []) (EsOk.nil _) Try.func15 (N := k) (an := an_parquetref05_SamePoints) (by kernel_rfl) x y ((eq_parquetref05_SamePoints k (x.1) (x.2)).trans h)

def an_parquetref00_SameInts : Ann := .node none none .leaf (.node none none .leaf (.node none none (.node none none .leaf (.node none none (.node none (some [(0, .d (.sl kI)), (1, .d (.sl kI)), (5, .d kI)]) .leaf .leaf) .leaf)) .leaf))
def g_parquetref00_SameInts (k : Nat) (a0 : (List Int)) (a1 : (List Int)) : Option Bool :=
  bif !(decide ((a0.length : Int) = (a1.length : Int))) then
    some false
   else
    loopN (α := ((List Int) × ((List Int) × Int))) (fun (x1, x2, x3) next0 =>
     bif decide (x3 < (x1.length : Int)) then
      gd (inb x3 x1.length) <|
      gd (inb x3 x2.length) <|
      bif !(decide ((rdD 0 x1 x3) = (rdD 0 x2 x3))) then
       some false
      else
       next0 (x1, x2, w64 (x3 + 1))
     else
      some true) k (a0, a1, 0)
theorem eq_parquetref00_SameInts (k : Nat) (a0 : (List Int)) (a1 : (List Int)) : textF [] tb k Try.f34 an_parquetref00_SameInts [.d (.sl kI), .d (.sl kI)] [.bool] (a0, a1) = g_parquetref00_SameInts k a0 a1 := by kernel_rfl
theorem tells_parquetref00_SameInts (k : Nat) : TellsF Try.prog 34 [.d (.sl kI), .d (.sl kI)] [.bool] (fun x => g_parquetref00_SameInts k (x.1) (x.2)) := fun x y h => fun_tells tb_ok mix (es := []) (EsOk.nil _) Try.func34 (N := k) (an := an_parquetref00_SameInts) (by kernel_rfl) x y ((eq_parquetref00_SameInts k (x.1) (x.2)).trans h)

def an_parquetlaw20_same : Ann := .node none none .leaf (.node none none .leaf (.node none none (.node none none .leaf (.node none none (.node none (some [(0, .d (.sl (.sl kI))), (1, .d (.sl (.sl kI))), (5, .d kI)]) .leaf .leaf) .leaf)) .leaf))
def b_parquetlaw20_same (k : Nat) (c_parquetref00_SameInts : (List Int) → (List Int) → Option Bool) (a0 : (List (List Int))) (a1 : (List (List Int))) : Option Bool :=
  bif !(decide ((a0.length : Int) = (a1.length : Int))) then
    some false
   else
    loopN (α := ((List (List Int)) × ((List (List Int)) × Int))) (fun (x1, x2, x3) next0 =>
     bif decide (x3 < (x1.length : Int)) then
      gd (inb x3 x1.length) <|
      gd (inb x3 x2.length) <|
      bnd (c_parquetref00_SameInts (rdD [] x1 x3) (rdD [] x2 x3)) fun r4 =>
      bif !r4 then
       some false
      else
       next0 (x1, x2, w64 (x3 + 1))
     else
      some true) k (a0, a1, 0)
theorem eq_parquetlaw20_same (k : Nat) (c_parquetref00_SameInts : (List Int) → (List Int) → Option Bool) (a0 : (List (List Int))) (a1 : (List (List Int))) : textF [⟨34, [.d (.sl kI), .d (.sl kI)], [.bool], fun x => c_parquetref00_SameInts (x.1) (x.2), none⟩] tb k Try.f16 an_parquetlaw20_same [.d (.sl (.sl kI)), .d (.sl (.sl kI))] [.bool] (a0, a1) = b_parquetlaw20_same k c_parquetref00_SameInts a0 a1 := by kernel_rfl
def g_parquetlaw20_same (k : Nat) (a0 : (List (List Int))) (a1 : (List (List Int))) : Option Bool := b_parquetlaw20_same k (g_parquetref00_SameInts k) a0 a1
theorem tells_parquetlaw20_same (k : Nat) : TellsF Try.prog 16 [.d (.sl (.sl kI)), .d (.sl (.sl kI))] [.bool] (fun x => g_parquetlaw20_same k (x.1) (x.2)) := fun x y h => fun_tells tb_ok mix (es := [⟨34, [.d (.sl kI), .d (.sl kI)], [.bool], fun x => g_parquetref00_SameInts k (x.1) (x.2), none⟩]) (EsOk.cons (EntryOk.of rfl (tells_parquetref00_SameInts k)) (EsOk.nil _)) Try.func16 (N := k) (an := an_parquetlaw20_same) (by kernel_rfl) x y ((eq_parquetlaw20_same k (g_parquetref00_SameInts k) (x.1) (x.2)).trans h)

def an_parquetlaw20_known : Ann := .node none none .leaf (.node none none .leaf (.node none none .leaf (.node none none .leaf (.node none none .leaf (.node none none (.node (some [(0, .d .bool)]) none .leaf .leaf) .leaf)))))
def b_parquetlaw20_known (k : Nat) (c_halve_Run : (List (Int × Int)) → (List (List Int)) → Option ((List (Int × Int)) × (List (List Int)) × Int)) (c_halve_Middle : (List (Int × Int)) → (List Int) → Option ((Int × Int) × Int)) (c_parquetref05_SamePoints : (List (Int × Int)) → (List (Int × Int)) → Option Bool) (c_parquetlaw20_same : (List (List Int)) → (List (List Int)) → Option Bool) : Option Bool :=
  bnd (c_halve_Run [(0, 0), (1, 0), (0, 1)] [[0, 1, 2]]) fun r0 =>
   bnd (c_halve_Middle [(0, 0), (1, 0), (0, 1)] [0, 1, 2]) fun r1 =>
   bnd (c_halve_Run [(0, 0), (1, 0), (0, 1)] [[0, 1, 3]]) fun r2 =>
   meet (α := Bool) (fun y3 =>
    some y3) fun j4 =>
   bnd (c_parquetref05_SamePoints r0.1 [(0, 0), (12, 0), (0, 12), (6, 0), (0, 6), (6, 6), (4, 4)]) fun r5 =>
   bif r5 then
    bnd (c_parquetlaw20_same r0.2.1 [[0, 3, 6, 4], [1, 5, 6, 3], [2, 4, 6, 5]]) fun r6 =>
    bif r6 then
     bif decide (r0.2.2 = 0) then
      bif (decide (r1.1.1 = 4)) && (decide (r1.1.2 = 4)) then
       bif decide (r1.2 = 0) then
        j4 (decide (r2.2.2 = 2))
       else
        j4 false
      else
       j4 false
     else
      j4 false
    else
     j4 false
   else
    j4 false
theorem eq_parquetlaw20_known (k : Nat) (c_halve_Run : (List (Int × Int)) → (List (List Int)) → Option ((List (Int × Int)) × (List (List Int)) × Int)) (c_halve_Middle : (List (Int × Int)) → (List Int) → Option ((Int × Int) × Int)) (c_parquetref05_SamePoints : (List (Int × Int)) → (List (Int × Int)) → Option Bool) (c_parquetlaw20_same : (List (List Int)) → (List (List Int)) → Option Bool) : textF [⟨11, [.d (.sl (.pair kI kI)), .d (.sl (.sl kI))], [.sl (.pair kI kI), .sl (.sl kI), kI], fun x => c_halve_Run (x.1) (x.2), none⟩, ⟨13, [.d (.sl (.pair kI kI)), .d (.sl kI)], [.pair kI kI, kI], fun x => c_halve_Middle (x.1) (x.2), none⟩, ⟨15, [.d (.sl (.pair kI kI)), .d (.sl (.pair kI kI))], [.bool], fun x => c_parquetref05_SamePoints (x.1) (x.2), none⟩, ⟨16, [.d (.sl (.sl kI)), .d (.sl (.sl kI))], [.bool], fun x => c_parquetlaw20_same (x.1) (x.2), none⟩] tb k Try.f10 an_parquetlaw20_known [] [.bool] () = b_parquetlaw20_known k c_halve_Run c_halve_Middle c_parquetref05_SamePoints c_parquetlaw20_same := by kernel_rfl
def g_parquetlaw20_known (k : Nat) : Option Bool := b_parquetlaw20_known k (g_halve_Run k) (g_halve_Middle k) (g_parquetref05_SamePoints k) (g_parquetlaw20_same k)
theorem tells_parquetlaw20_known (k : Nat) : TellsF Try.prog 10 [] [.bool] (fun x => g_parquetlaw20_known k) := fun x y h => fun_tells tb_ok mix (es := [⟨11, [.d (.sl (.pair kI kI)), .d (.sl (.sl kI))], [.sl (.pair kI kI), .sl (.sl kI), kI], fun x => g_halve_Run k (x.1) (x.2), none⟩, ⟨13, [.d (.sl (.pair kI kI)), .d (.sl kI)], [.pair kI kI, kI], fun x => g_halve_Middle k (x.1) (x.2), none⟩, ⟨15, [.d (.sl (.pair kI kI)), .d (.sl (.pair kI kI))], [.bool], fun x => g_parquetref05_SamePoints k (x.1) (x.2), none⟩, ⟨16, [.d (.sl (.sl kI)), .d (.sl (.sl kI))], [.bool], fun x => g_parquetlaw20_same k (x.1) (x.2), none⟩]) (EsOk.cons (EntryOk.of rfl (tells_halve_Run k)) (EsOk.cons (EntryOk.of rfl (tells_halve_Middle k)) (EsOk.cons (EntryOk.of rfl (tells_parquetref05_SamePoints k)) (EsOk.cons (EntryOk.of rfl (tells_parquetlaw20_same k)) (EsOk.nil _))))) Try.func10 (N := k) (an := an_parquetlaw20_known) (by kernel_rfl) x y ((eq_parquetlaw20_known k (g_halve_Run k) (g_halve_Middle k) (g_parquetref05_SamePoints k) (g_parquetlaw20_same k)).trans h)

def an_parquetref11_all : Ann := .node none none .leaf (.node none none .leaf (.node none none (.node none none .leaf (.node none none (.node none (some [(0, .d (.sl (.sl kI))), (3, .row (.pair kI kI) 63), (4, .d kI)]) (.node none none .leaf (.node none none (.node none none (.node none none .leaf (.node none none (.node none (some [(0, .d (.sl (.sl kI))), (3, .row (.pair kI kI) 63), (4, .d kI), (5, .d kI)]) (.node none none .leaf (.node none none (.node none none (.node none none .leaf (.node none none (.node none none .leaf (.node (some [(0, .d (.sl (.sl kI))), (3, .row (.pair kI kI) 63), (4, .d kI), (5, .d kI), (6, .d kI)]) none .leaf .leaf)) .leaf)) .leaf) .leaf)) .leaf) .leaf)) .leaf) .leaf)) .leaf) .leaf)) .leaf))
def g_parquetref11_all (k : Nat) (a0 : (List (List Int))) : Option (List (Int × Int)) :=
  loopN (α := ((List (List Int)) × ((List (Int × Int)) × Int))) (fun (x1, x2, x3) next0 =>
    bif decide (x3 < (x1.length : Int)) then
     loopN (α := ((List (List Int)) × ((List (Int × Int)) × (Int × Int)))) (fun (x5, x6, x7, x8) next4 =>
      gd (inb x7 x5.length) <|
      bif decide (x8 < ((rdD [] x5 x7).length : Int)) then
       gd (inb x7 x5.length) <|
       gd (inb 0 (rdD [] x5 x7).length) <|
       gd (inb x7 x5.length) <|
       meet (α := ((List (List Int)) × ((List (Int × Int)) × (Int × (Int × Int))))) (fun (y9, y10, y11, y12, y13) =>
        gd (inb y11 y9.length) <|
        gd (inb y12 (rdD [] y9 y11).length) <|
        gd (few (y10.length + 1)) <|
        next4 (y9, y10 ++ [(rdD 0 (rdD [] y9 y11) y12, y13)], y11, w64 (y12 + 1))) fun j14 =>
       bif decide ((w64 (x8 + 1)) < ((rdD [] x5 x7).length : Int)) then
        gd (inb x7 x5.length) <|
        gd (inb (w64 (x8 + 1)) (rdD [] x5 x7).length) <|
        j14 (x5, x6, x7, x8, rdD 0 (rdD [] x5 x7) (w64 (x8 + 1)))
       else
        j14 (x5, x6, x7, x8, rdD 0 (rdD [] x5 x7) 0)
      else
       next0 (x5, x6, w64 (x7 + 1))) k (x1, x2, x3, 0)
    else
     some x2) k (a0, [], 0)
theorem eq_parquetref11_all (k : Nat) (a0 : (List (List Int))) : textF [] tb k Try.f35 an_parquetref11_all [.d (.sl (.sl kI))] [.sl (.pair kI kI)] a0 = g_parquetref11_all k a0 := by kernel_rfl
theorem tells_parquetref11_all (k : Nat) : TellsF Try.prog 35 [.d (.sl (.sl kI))] [.sl (.pair kI kI)] (fun x => g_parquetref11_all k x) := fun x y h => fun_tells tb_ok mix (es := []) (EsOk.nil _) Try.func35 (N := k) (an := an_parquetref11_all) (by kernel_rfl) x y ((eq_parquetref11_all k x).trans h)

def an_parquetref11_Check : Ann := .node none none .leaf (.node none none (.node none none (.node (some [(0, .d kI), (1, .d (.sl (.sl kI))), (16, .d .bool)]) none .leaf .leaf) .leaf) (.node none none (.node none none .leaf (.node none none (.node none (some [(0, .d kI), (1, .d (.sl (.sl kI))), (5, .d kI)]) (.node none none .leaf (.node none none (.node none none (.node none none .leaf (.node none none .leaf (.node none none (.node none (some [(0, .d kI), (1, .d (.sl (.sl kI))), (5, .d kI), (6, .d kI)]) (.node none none .leaf (.node none none (.node none none (.node none none (.node none none (.node (some [(0, .d kI), (1, .d (.sl (.sl kI))), (5, .d kI), (6, .d kI), (56, .d .bool)]) none .leaf .leaf) .leaf) (.node none none .leaf (.node none none (.node none (some [(0, .d kI), (1, .d (.sl (.sl kI))), (5, .d kI), (6, .d kI), (7, .d kI)]) .leaf .leaf) .leaf))) .leaf) .leaf)) .leaf) .leaf))) .leaf) .leaf)) .leaf) .leaf)) (.node none none .leaf (.node none none (.node none none .leaf (.node none none (.node none (some [(8, .d (.sl (.pair kI kI))), (9, .d kI)]) (.node none none .leaf (.node none none (.node none none (.node none none .leaf (.node none none (.node none (some [(8, .d (.sl (.pair kI kI))), (9, .d kI), (10, .d kI)]) .leaf .leaf) .leaf)) .leaf) .leaf)) .leaf) .leaf)) .leaf))))
def b_parquetref11_Check (k : Nat) (c_parquetref11_all : (List (List Int)) → Option (List (Int × Int))) (a0 : Int) (a1 : (List (List Int))) : Option Int :=
  meet (α := (Int × ((List (List Int)) × Bool))) (fun (y0, y1, y2) =>
    bif y2 then
     some 2
    else
     loopN (α := (Int × ((List (List Int)) × Int))) (fun (x4, x5, x6) next3 =>
      bif decide (x6 < (x5.length : Int)) then
       gd (inb x6 x5.length) <|
       bif decide (((rdD [] x5 x6).length : Int) < 3) then
        some 2
       else
        loopN (α := (Int × ((List (List Int)) × (Int × Int)))) (fun (x8, x9, x10, x11) next7 =>
         gd (inb x10 x9.length) <|
         bif decide (x11 < ((rdD [] x9 x10).length : Int)) then
          meet (α := (Int × ((List (List Int)) × (Int × (Int × Bool))))) (fun (y12, y13, y14, y15, y16) =>
           bif y16 then
            some 2
           else
            loopN (α := (Int × ((List (List Int)) × (Int × (Int × Int))))) (fun (x18, x19, x20, x21, x22) next17 =>
             bif decide (x22 < x21) then
              gd (inb x20 x19.length) <|
              gd (inb x22 (rdD [] x19 x20).length) <|
              gd (inb x20 x19.length) <|
              gd (inb x21 (rdD [] x19 x20).length) <|
              bif decide ((rdD 0 (rdD [] x19 x20) x22) = (rdD 0 (rdD [] x19 x20) x21)) then
               some 2
              else
               next17 (x18, x19, x20, x21, w64 (x22 + 1))
             else
              next7 (x18, x19, x20, w64 (x21 + 1))) k (y12, y13, y14, y15, 0)) fun j23 =>
          gd (inb x10 x9.length) <|
          gd (inb x11 (rdD [] x9 x10).length) <|
          bif decide ((rdD 0 (rdD [] x9 x10) x11) < 0) then
           j23 (x8, x9, x10, x11, true)
          else
           gd (inb x10 x9.length) <|
           gd (inb x11 (rdD [] x9 x10).length) <|
           j23 (x8, x9, x10, x11, decide ((rdD 0 (rdD [] x9 x10) x11) ≥ x8))
         else
          next3 (x8, x9, w64 (x10 + 1))) k (x4, x5, x6, 0)
      else
       bnd (c_parquetref11_all x5) fun r24 =>
       loopN (α := ((List (Int × Int)) × Int)) (fun (x26, x27) next25 =>
        bif decide (x27 < (x26.length : Int)) then
         loopN (α := ((List (Int × Int)) × (Int × Int))) (fun (x29, x30, x31) next28 =>
          bif decide (x31 < x30) then
           gd (inb x30 x29.length) <|
           gd (inb x31 x29.length) <|
           bif (decide ((rdD (0, 0) x29 x30).1 = (rdD (0, 0) x29 x31).1)) && (decide ((rdD (0, 0) x29 x30).2 = (rdD (0, 0) x29 x31).2)) then
            some 80
           else
            next28 (x29, x30, w64 (x31 + 1))
          else
           next25 (x29, w64 (x30 + 1))) k (x26, x27, 0)
        else
         some 0) k (r24, 0)) k (y0, y1, 0)) fun j32 =>
   bif decide (a0 < 0) then
    j32 (a0, a1, true)
   else
    j32 (a0, a1, decide (a0 > 1048576))
theorem eq_parquetref11_Check (k : Nat) (c_parquetref11_all : (List (List Int)) → Option (List (Int × Int))) (a0 : Int) (a1 : (List (List Int))) : textF [⟨35, [.d (.sl (.sl kI))], [.sl (.pair kI kI)], fun x => c_parquetref11_all x, none⟩] tb k Try.f17 an_parquetref11_Check [.d kI, .d (.sl (.sl kI))] [kI] (a0, a1) = b_parquetref11_Check k c_parquetref11_all a0 a1 := by kernel_rfl
def g_parquetref11_Check (k : Nat) (a0 : Int) (a1 : (List (List Int))) : Option Int := b_parquetref11_Check k (g_parquetref11_all k) a0 a1
theorem tells_parquetref11_Check (k : Nat) : TellsF Try.prog 17 [.d kI, .d (.sl (.sl kI))] [kI] (fun x => g_parquetref11_Check k (x.1) (x.2)) := fun x y h => fun_tells tb_ok mix (es := [⟨35, [.d (.sl (.sl kI))], [.sl (.pair kI kI)], fun x => g_parquetref11_all k x, none⟩]) (EsOk.cons (EntryOk.of rfl (tells_parquetref11_all k)) (EsOk.nil _)) Try.func17 (N := k) (an := an_parquetref11_Check) (by kernel_rfl) x y ((eq_parquetref11_Check k (g_parquetref11_all k) (x.1) (x.2)).trans h)

def an_parquetref03_Fits : Ann := .node none none .leaf (.node none none (.node (some [(2, .d .bool)]) none .leaf .leaf) .leaf)
def g_parquetref03_Fits (k : Nat) (a0 : (Int × Int)) : Option Bool :=
  meet (α := Bool) (fun y0 =>
    some y0) fun j1 =>
   bif decide (a0.1 ≥ (-4294967296)) then
    bif decide (a0.1 ≤ 4294967296) then
     bif decide (a0.2 ≥ (-4294967296)) then
      j1 (decide (a0.2 ≤ 4294967296))
     else
      j1 false
    else
     j1 false
   else
    j1 false
theorem eq_parquetref03_Fits (k : Nat) (a0 : (Int × Int)) : textF [] tb k Try.f46 an_parquetref03_Fits [.d (.pair kI kI)] [.bool] a0 = g_parquetref03_Fits k a0 := by kernel_rfl
theorem tells_parquetref03_Fits (k : Nat) : TellsF Try.prog 46 [.d (.pair kI kI)] [.bool] (fun x => g_parquetref03_Fits k x) := fun x y h => fun_tells tb_ok mix (es := []) (EsOk.nil _) Try.func46 (N := k) (an := an_parquetref03_Fits) (by kernel_rfl) x y ((eq_parquetref03_Fits k x).trans h)

def an_parquetref20_fits : Ann := .node none none .leaf (.node none none (.node (some [(2, .d .bool)]) none .leaf .leaf) .leaf)
def b_parquetref20_fits (k : Nat) (c_parquetref03_Fits : (Int × Int) → Option Bool) (a0 : (Int × Int)) : Option Bool :=
  meet (α := Bool) (fun y0 =>
    some y0) fun j1 =>
   bnd (c_parquetref03_Fits (a0.1, a0.2)) fun r2 =>
   bif r2 then
    bnd (c_parquetref03_Fits (w64 (12 * a0.1), w64 (12 * a0.2))) fun r3 =>
    j1 r3
   else
    j1 false
theorem eq_parquetref20_fits (k : Nat) (c_parquetref03_Fits : (Int × Int) → Option Bool) (a0 : (Int × Int)) : textF [⟨46, [.d (.pair kI kI)], [.bool], fun x => c_parquetref03_Fits x, none⟩] tb k Try.f31 an_parquetref20_fits [.d (.pair kI kI)] [.bool] a0 = b_parquetref20_fits k c_parquetref03_Fits a0 := by kernel_rfl
def g_parquetref20_fits (k : Nat) (a0 : (Int × Int)) : Option Bool := b_parquetref20_fits k (g_parquetref03_Fits k) a0
theorem tells_parquetref20_fits (k : Nat) : TellsF Try.prog 31 [.d (.pair kI kI)] [.bool] (fun x => g_parquetref20_fits k x) := fun x y h => fun_tells tb_ok mix (es := [⟨46, [.d (.pair kI kI)], [.bool], fun x => g_parquetref03_Fits k x, none⟩]) (EsOk.cons (EntryOk.of rfl (tells_parquetref03_Fits k)) (EsOk.nil _)) Try.func31 (N := k) (an := an_parquetref20_fits) (by kernel_rfl) x y ((eq_parquetref20_fits k (g_parquetref03_Fits k) x).trans h)

def an_parquetref11_less : Ann := .node none none .leaf (.node none none (.node (some [(4, .d .bool)]) none .leaf .leaf) .leaf)
def g_parquetref11_less (k : Nat) (a0 : (Int × Int)) (a1 : (Int × Int)) : Option Bool :=
  meet (α := Bool) (fun y0 =>
    some y0) fun j1 =>
   bif decide (a0.1 < a1.1) then
    j1 true
   else
    bif decide (a0.1 = a1.1) then
     j1 (decide (a0.2 < a1.2))
    else
     j1 false
theorem eq_parquetref11_less (k : Nat) (a0 : (Int × Int)) (a1 : (Int × Int)) : textF [] tb k Try.f47 an_parquetref11_less [.d (.pair kI kI), .d (.pair kI kI)] [.bool] (a0, a1) = g_parquetref11_less k a0 a1 := by kernel_rfl
theorem tells_parquetref11_less (k : Nat) : TellsF Try.prog 47 [.d (.pair kI kI), .d (.pair kI kI)] [.bool] (fun x => g_parquetref11_less k (x.1) (x.2)) := fun x y h => fun_tells tb_ok mix (es := []) (EsOk.nil _) Try.func47 (N := k) (an := an_parquetref11_less) (by kernel_rfl) x y ((eq_parquetref11_less k (x.1) (x.2)).trans h)

def an_parquetref11_Edges : Ann := .node none none .leaf (.node none none .leaf (.node none none .leaf (.node none none .leaf (.node none none (.node none none .leaf (.node none none (.node none (some [(3, .row (.pair kI kI) 63), (4, .d kI), (5, .d (.sl (.pair kI kI))), (6, .d kI)]) (.node none none (.node none none (.node (some [(3, .row (.pair kI kI) 63), (4, .d kI), (5, .d (.sl (.pair kI kI))), (6, .d kI), (21, .d .bool)]) none .leaf .leaf) .leaf) (.node none none (.node (some [(3, .row (.pair kI kI) 63), (4, .d kI), (5, .d (.sl (.pair kI kI))), (6, .d kI)]) none (.node none none .leaf (.node none none (.node none none .leaf (.node (some [(3, .row (.pair kI kI) 63), (4, .d kI), (5, .d (.sl (.pair kI kI))), (6, .d kI), (7, .box [.d (.pair kI kI)])]) none .leaf .leaf)) (.node none none .leaf (.node none none .leaf (.node none none (.node none none (.node none (some [(3, .row (.pair kI kI) 63), (4, .d kI), (5, .d (.sl (.pair kI kI))), (6, .d kI), (7, .box [.d (.pair kI kI)]), (8, .row (.pair kI kI) 63), (9, .d kI)]) (.node none none (.node none none (.node (some [(3, .row (.pair kI kI) 63), (4, .d kI), (5, .d (.sl (.pair kI kI))), (6, .d kI), (7, .box [.d (.pair kI kI)]), (8, .row (.pair kI kI) 63), (9, .d kI), (49, .d .bool)]) none .leaf .leaf) .leaf) .leaf) .leaf) .leaf) (.node none none (.node none none (.node (some [(3, .row (.pair kI kI) 63), (4, .d kI), (5, .d (.sl (.pair kI kI))), (6, .d kI), (7, .box [.d (.pair kI kI)]), (8, .row (.pair kI kI) 63), (9, .d kI), (70, .d .bool)]) none .leaf .leaf) .leaf) .leaf)))))) .leaf) .leaf)) .leaf) .leaf)) .leaf))))
def b_parquetref11_Edges (k : Nat) (c_parquetref11_Check : Int → (List (List Int)) → Option Int) (c_parquetref11_all : (List (List Int)) → Option (List (Int × Int))) (c_parquetref11_less : (Int × Int) → (Int × Int) → Option Bool) (a0 : (List (List Int))) : Option (List (Int × Int)) :=
  bnd (c_parquetref11_Check 1048576 a0) fun r0 =>
   bnd (c_parquetref11_all a0) fun r1 =>
   loopN (α := ((List (Int × Int)) × (Int × ((List (Int × Int)) × Int)))) (fun (x3, x4, x5, x6) next2 =>
    meet (α := ((List (Int × Int)) × (Int × ((List (Int × Int)) × (Int × Bool))))) (fun (y7, y8, y9, y10, y11) =>
     bif y11 then
      meet (α := ((List (Int × Int)) × (Int × ((List (Int × Int)) × Int)))) (fun (y12, y13, y14, y15) =>
       next2 (y12, y13, y14, w64 (y15 + 1))) fun j16 =>
      gd (inb y10 y9.length) <|
      meet (α := ((List (Int × Int)) × (Int × ((List (Int × Int)) × (Int × (Int × Int)))))) (fun (y17, y18, y19, y20, y21, y22) =>
       loopN (α := ((List (Int × Int)) × (Int × ((List (Int × Int)) × (Int × ((Int × Int) × ((List (Int × Int)) × Int))))))) (fun (x24, x25, x26, x27, x28, x29, x30) next23 =>
        meet (α := ((List (Int × Int)) × (Int × ((List (Int × Int)) × (Int × ((Int × Int) × ((List (Int × Int)) × (Int × Bool)))))))) (fun (y31, y32, y33, y34, y35, y36, y37, y38) =>
         bif y38 then
          gd (inb y37 y31.length) <|
          gd (few (y36.length + 1)) <|
          next23 (y31, y32, y33, y34, (y35.1, y35.2), y36 ++ [((rdD (0, 0) y31 y37).1, (rdD (0, 0) y31 y37).2)], w64 (y37 + 1))
         else
          meet (α := ((List (Int × Int)) × (Int × ((List (Int × Int)) × (Int × ((Int × Int) × ((List (Int × Int)) × (Int × Bool)))))))) (fun (y39, y40, y41, y42, y43, y44, y45, y46) =>
           bif y46 then
            j16 (y39, y40, y41, y42)
           else
            gd (few (y44.length + 1)) <|
            gd (decide (0 ≤ y45)) <|
            gd (decide (y45 ≤ (y39.length : Int))) <|
            gd (few ((y44 ++ [(y43.1, y43.2)]).length + (dpL y39 y45).length)) <|
            j16 ((y44 ++ [(y43.1, y43.2)]) ++ (dpL y39 y45), y40, y41, y42)) fun j47 =>
          bif decide (y37 < (y31.length : Int)) then
           gd (inb y37 y31.length) <|
           j47 (y31, y32, y33, y34, (y35.1, y35.2), y36, y37, (decide ((rdD (0, 0) y31 y37).1 = y35.1)) && (decide ((rdD (0, 0) y31 y37).2 = y35.2)))
          else
           j47 (y31, y32, y33, y34, (y35.1, y35.2), y36, y37, false)) fun j48 =>
        bif decide (x30 < (x24.length : Int)) then
         gd (inb x30 x24.length) <|
         bnd (c_parquetref11_less ((rdD (0, 0) x24 x30).1, (rdD (0, 0) x24 x30).2) (x28.1, x28.2)) fun r49 =>
         j48 (x24, x25, x26, x27, (x28.1, x28.2), x29, x30, r49)
        else
         j48 (x24, x25, x26, x27, (x28.1, x28.2), x29, x30, false)) k (y17, y18, y19, y20, (y21, y22), [], 0)) fun j50 =>
      bif decide ((rdD (0, 0) y9 y10).1 > (rdD (0, 0) y9 y10).2) then
       j50 (y7, y8, y9, y10, (rdD (0, 0) y9 y10).2, (rdD (0, 0) y9 y10).1)
      else
       j50 (y7, y8, y9, y10, (rdD (0, 0) y9 y10).1, (rdD (0, 0) y9 y10).2)
     else
      some y7) fun j51 =>
    bif decide (x6 < (x5.length : Int)) then
     j51 (x3, x4, x5, x6, decide (x4 = 0))
    else
     j51 (x3, x4, x5, x6, false)) k ([], r0, r1, 0)
theorem eq_parquetref11_Edges (k : Nat) (c_parquetref11_Check : Int → (List (List Int)) → Option Int) (c_parquetref11_all : (List (List Int)) → Option (List (Int × Int))) (c_parquetref11_less : (Int × Int) → (Int × Int) → Option Bool) (a0 : (List (List Int))) : textF [⟨17, [.d kI, .d (.sl (.sl kI))], [kI], fun x => c_parquetref11_Check (x.1) (x.2), none⟩, ⟨35, [.d (.sl (.sl kI))], [.sl (.pair kI kI)], fun x => c_parquetref11_all x, none⟩, ⟨47, [.d (.pair kI kI), .d (.pair kI kI)], [.bool], fun x => c_parquetref11_less (x.1) (x.2), none⟩] tb k Try.f32 an_parquetref11_Edges [.d (.sl (.sl kI))] [.sl (.pair kI kI)] a0 = b_parquetref11_Edges k c_parquetref11_Check c_parquetref11_all c_parquetref11_less a0 := by kernel_rfl
def g_parquetref11_Edges (k : Nat) (a0 : (List (List Int))) : Option (List (Int × Int)) := b_parquetref11_Edges k (g_parquetref11_Check k) (g_parquetref11_all k) (g_parquetref11_less k) a0
theorem tells_parquetref11_Edges (k : Nat) : TellsF Try.prog 32 [.d (.sl (.sl kI))] [.sl (.pair kI kI)] (fun x => g_parquetref11_Edges k x) := fun x y h => fun_tells tb_ok mix (es := [⟨17, [.d kI, .d (.sl (.sl kI))], [kI], fun x => g_parquetref11_Check k (x.1) (x.2), none⟩, ⟨35, [.d (.sl (.sl kI))], [.sl (.pair kI kI)], fun x => g_parquetref11_all k x, none⟩, ⟨47, [.d (.pair kI kI), .d (.pair kI kI)], [.bool], fun x => g_parquetref11_less k (x.1) (x.2), none⟩]) (EsOk.cons (EntryOk.of rfl (tells_parquetref11_Check k)) (EsOk.cons (EntryOk.of rfl (tells_parquetref11_all k)) (EsOk.cons (EntryOk.of rfl (tells_parquetref11_less k)) (EsOk.nil _)))) Try.func32 (N := k) (an := an_parquetref11_Edges) (by kernel_rfl) x y ((eq_parquetref11_Edges k (g_parquetref11_Check k) (g_parquetref11_all k) (g_parquetref11_less k) x).trans h)

end
end Go.Proofs.Ytiejhpighhjgiaa.AM
