/- The functions, by their texts: written by a program. -/
import Derived.Test.YtjbimhfhapnjeaaGa2
set_option linter.unusedVariables false
set_option maxRecDepth 100000
namespace Go.Proofs.Ytjbimhfhapnjeaa.AM
open Go.RowKit Go.Proofs
def an_parquetref03_Fits : Ann := .node none none .leaf (.node none none (.node (some [(2, .d .bool)]) none .leaf .leaf) .leaf)
def g_parquetref03_Fits (k : Nat) (a0 : (Int × Int)) : Option Bool :=
  meet (α := Bool) (fun y0 =>
    some y0) fun j1 =>
   bif decide (a0.1 ≥ (-4294967296)) then
    bif decide (a0.1 ≤ 4294967296) then
     bif decide (a0.2 ≥ (-4294967296)) then
      j1 (decide (a0.2 ≤ 4294967296))
     else
      j1 false
    else
     j1 false
   else
    j1 false
theorem eq_parquetref03_Fits (k : Nat) (a0 : (Int × Int)) : textF [] tb k Try.f69 an_parquetref03_Fits [.d (.pair kI kI)] [.bool] a0 = g_parquetref03_Fits k a0 := by kernel_rfl
theorem tells_parquetref03_Fits (k : Nat) : TellsF Try.prog 69 [.d (.pair kI kI)] [.bool] (fun x => g_parquetref03_Fits k x) := fun x y h => fun_tells tb_ok mix (es := []) (EsOk.nil _) Try.func69 (N := k) (an := an_parquetref03_Fits) (by kernel_rfl) x y ((eq_parquetref03_Fits k x).trans h)

def an_parquetref01_trim : Ann := .node none none .leaf (.node none none .leaf (.node none none (.node none none (.node none (some [(0, .d .bool), (1, .d (.sl kI)), (4, .box [.d .bool, .row kI 3]), (5, .d kI)]) (.node none none (.node none none (.node (some [(0, .d .bool), (1, .d (.sl kI)), (4, .box [.d .bool, .row kI 3]), (5, .d kI), (17, .d .bool)]) none .leaf .leaf) .leaf) .leaf) .leaf) .leaf) (.node none none (.node (some [(4, .box [.d (.pair .bool (.sl kI))])]) none .leaf .leaf) .leaf)))
def g_parquetref01_trim (k : Nat) (a0 : Bool) (a1 : (List Int)) : Option (Bool × (List Int)) :=
  loopN (α := (Bool × ((List Int) × ((Bool × (List Int)) × Int)))) (fun (x1, x2, x3, x4) next0 =>
    meet (α := (Bool × ((List Int) × ((Bool × (List Int)) × (Int × Bool))))) (fun (y5, y6, y7, y8, y9) =>
     bif y9 then
      next0 (y5, y6, (y7.1, y7.2), w64 (y8 - 1))
     else
      meet (α := (Bool × (List Int))) (fun (y10, y11) =>
       some (y10, y11)) fun j12 =>
      bif y5 then
       gd (decide (0 ≤ y8)) <|
       gd (decide (y8 ≤ (y6.length : Int))) <|
       j12 (decide (y8 > 0), tkL y6 y8)
      else
       gd (decide (0 ≤ y8)) <|
       gd (decide (y8 ≤ (y6.length : Int))) <|
       j12 (false, tkL y6 y8)) fun j13 =>
    bif decide (x4 > 0) then
     gd (inb (w64 (x4 - 1)) x2.length) <|
     j13 (x1, x2, (x3.1, x3.2), x4, decide ((rdD 0 x2 (w64 (x4 - 1))) = 0))
    else
     j13 (x1, x2, (x3.1, x3.2), x4, false)) k (a0, a1, (false, []), (a1.length : Int))
theorem eq_parquetref01_trim (k : Nat) (a0 : Bool) (a1 : (List Int)) : textF [] tb k Try.f94 an_parquetref01_trim [.d .bool, .d (.sl kI)] [.pair .bool (.sl kI)] (a0, a1) = g_parquetref01_trim k a0 a1 := by kernel_rfl
theorem tells_parquetref01_trim (k : Nat) : TellsF Try.prog 94 [.d .bool, .d (.sl kI)] [.pair .bool (.sl kI)] (fun x => g_parquetref01_trim k (x.1) (x.2)) := fun x y h => fun_tells tb_ok mix (es := []) (EsOk.nil _) Try.func94 (N := k) (an := an_parquetref01_trim) (by kernel_rfl) x y ((eq_parquetref01_trim k (x.1) (x.2)).trans h)

def an_parquetref01_Small : Ann := .node none none .leaf (.node none none .leaf (.node none none .leaf (.node none none (.node none none (.node none (some [(0, .d kI), (2, .box [.d .bool, .row kI 3]), (3, .row kI 3), (4, .d kI)]) (.node none none .leaf (.node none none (.node none none .leaf (.node none none (.node none none .leaf (.node (some [(0, .d kI), (2, .box [.d .bool, .row kI 3]), (3, .row kI 3), (4, .d kI), (5, .d kI)]) none .leaf .leaf)) .leaf)) .leaf)) .leaf) .leaf) .leaf)))
def b_parquetref01_Small (k : Nat) (c_parquetref01_trim : Bool → (List Int) → Option (Bool × (List Int))) (a0 : Int) : Option (Bool × (List Int)) :=
  loopN (α := (Int × ((Bool × (List Int)) × ((List Int) × Int)))) (fun (x1, x2, x3, x4) next0 =>
    bif !(decide (x4 = 0)) then
     meet (α := (Int × ((Bool × (List Int)) × ((List Int) × (Int × Int))))) (fun (y5, y6, y7, y8, y9) =>
      gd (few (y7.length + 1)) <|
      next0 (y5, (y6.1, y6.2), y7 ++ [y9], w64 (y8.tdiv 65536))) fun j10 =>
     bif decide ((x4.tmod 65536) < 0) then
      j10 (x1, (x2.1, x2.2), x3, x4, w64 (0 - (x4.tmod 65536)))
     else
      j10 (x1, (x2.1, x2.2), x3, x4, x4.tmod 65536)
    else
     bnd (c_parquetref01_trim (decide (x1 < 0)) x3) fun r11 =>
     some (r11.1, r11.2)) k (a0, (false, []), [], a0)
theorem eq_parquetref01_Small (k : Nat) (c_parquetref01_trim : Bool → (List Int) → Option (Bool × (List Int))) (a0 : Int) : textF [⟨94, [.d .bool, .d (.sl kI)], [.pair .bool (.sl kI)], fun x => c_parquetref01_trim (x.1) (x.2), none⟩] tb k Try.f82 an_parquetref01_Small [.d kI] [.pair .bool (.sl kI)] a0 = b_parquetref01_Small k c_parquetref01_trim a0 := by kernel_rfl
def g_parquetref01_Small (k : Nat) (a0 : Int) : Option (Bool × (List Int)) := b_parquetref01_Small k (g_parquetref01_trim k) a0
theorem tells_parquetref01_Small (k : Nat) : TellsF Try.prog 82 [.d kI] [.pair .bool (.sl kI)] (fun x => g_parquetref01_Small k x) := fun x y h => fun_tells tb_ok mix (es := [⟨94, [.d .bool, .d (.sl kI)], [.pair .bool (.sl kI)], fun x => g_parquetref01_trim k (x.1) (x.2), none⟩]) (EsOk.cons (EntryOk.of rfl (tells_parquetref01_trim k)) (EsOk.nil _)) Try.func82 (N := k) (an := an_parquetref01_Small) (by kernel_rfl) x y ((eq_parquetref01_Small k (g_parquetref01_trim k) x).trans h)

def an_parquetref03_num : Ann := .leaf
def b_parquetref03_num (k : Nat) (c_parquetref01_Small : Int → Option (Bool × (List Int))) (a0 : Int) : Option (Bool × (List Int)) :=
  bnd (c_parquetref01_Small a0) fun r0 =>
   some (r0.1, r0.2)
theorem eq_parquetref03_num (k : Nat) (c_parquetref01_Small : Int → Option (Bool × (List Int))) (a0 : Int) : textF [⟨82, [.d kI], [.pair .bool (.sl kI)], fun x => c_parquetref01_Small x, none⟩] tb k Try.f98 an_parquetref03_num [.d kI] [.pair .bool (.sl kI)] a0 = b_parquetref03_num k c_parquetref01_Small a0 := by kernel_rfl
def g_parquetref03_num (k : Nat) (a0 : Int) : Option (Bool × (List Int)) := b_parquetref03_num k (g_parquetref01_Small k) a0
theorem tells_parquetref03_num (k : Nat) : TellsF Try.prog 98 [.d kI] [.pair .bool (.sl kI)] (fun x => g_parquetref03_num k x) := fun x y h => fun_tells tb_ok mix (es := [⟨82, [.d kI], [.pair .bool (.sl kI)], fun x => g_parquetref01_Small k x, none⟩]) (EsOk.cons (EntryOk.of rfl (tells_parquetref01_Small k)) (EsOk.nil _)) Try.func98 (N := k) (an := an_parquetref03_num) (by kernel_rfl) x y ((eq_parquetref03_num k (g_parquetref01_Small k) x).trans h)

def an_parquetref01_digit : Ann := .leaf
def g_parquetref01_digit (k : Nat) (a0 : (List Int)) (a1 : Int) : Option Int :=
  bif decide (a1 < (a0.length : Int)) then
    gd (inb a1 a0.length) <|
    some (rdD 0 a0 a1)
   else
    some 0
theorem eq_parquetref01_digit (k : Nat) (a0 : (List Int)) (a1 : Int) : textF [] tb k Try.f95 an_parquetref01_digit [.d (.sl kI), .d kI] [kI] (a0, a1) = g_parquetref01_digit k a0 a1 := by kernel_rfl
theorem tells_parquetref01_digit (k : Nat) : TellsF Try.prog 95 [.d (.sl kI), .d kI] [kI] (fun x => g_parquetref01_digit k (x.1) (x.2)) := fun x y h => fun_tells tb_ok mix (es := []) (EsOk.nil _) Try.func95 (N := k) (an := an_parquetref01_digit) (by kernel_rfl) x y ((eq_parquetref01_digit k (x.1) (x.2)).trans h)

def an_parquetref01_Num_Times : Ann := .node none none .leaf (.node none none .leaf (.node none none (.node none none .leaf (.node none none (.node none (some [(2, .box [.d (.pair .bool (.sl kI))]), (3, .box [.d (.pair .bool (.sl kI))]), (4, .box [.d .bool, .row kI 3]), (5, .row kI 3), (6, .d kI)]) (.node none none .leaf (.node none none (.node none none (.node none none .leaf (.node none none .leaf (.node none none (.node none (some [(2, .box [.d (.pair .bool (.sl kI))]), (3, .box [.d (.pair .bool (.sl kI))]), (4, .box [.d .bool, .row kI 3]), (5, .row kI 3), (6, .d kI), (7, .d kI), (8, .d kI)]) (.node none none (.node none none (.node (some [(2, .box [.d (.pair .bool (.sl kI))]), (3, .box [.d (.pair .bool (.sl kI))]), (4, .box [.d .bool, .row kI 3]), (5, .row kI 3), (6, .d kI), (7, .d kI), (8, .d kI), (34, .d .bool)]) none .leaf .leaf) .leaf) .leaf) .leaf) .leaf))) .leaf) .leaf)) .leaf) .leaf)) .leaf))
def b_parquetref01_Num_Times (k : Nat) (c_parquetref01_digit : (List Int) → Int → Option Int) (c_parquetref01_trim : Bool → (List Int) → Option (Bool × (List Int))) (a0 : (Bool × (List Int))) (a1 : (Bool × (List Int))) : Option (Bool × (List Int)) :=
  gd (decide (0 ≤ (w64 ((w64 ((a0.2.length : Int) + (a1.2.length : Int))) + 1)))) <|
   gd (fewI (w64 ((w64 ((a0.2.length : Int) + (a1.2.length : Int))) + 1))) <|
   loopN (α := ((Bool × (List Int)) × ((Bool × (List Int)) × ((Bool × (List Int)) × ((List Int) × Int))))) (fun (x1, x2, x3, x4, x5) next0 =>
    bif decide (x5 < (x1.2.length : Int)) then
     loopN (α := ((Bool × (List Int)) × ((Bool × (List Int)) × ((Bool × (List Int)) × ((List Int) × (Int × (Int × Int))))))) (fun (x7, x8, x9, x10, x11, x12, x13) next6 =>
      meet (α := ((Bool × (List Int)) × ((Bool × (List Int)) × ((Bool × (List Int)) × ((List Int) × (Int × (Int × (Int × Bool)))))))) (fun (y14, y15, y16, y17, y18, y19, y20, y21) =>
       bif y21 then
        gd (inb (w64 (y18 + y20)) y17.length) <|
        gd (inb y18 y14.2.length) <|
        bnd (c_parquetref01_digit y15.2 y20) fun r22 =>
        gd (inb (w64 (y18 + y20)) y17.length) <|
        next6 ((y14.1, y14.2), (y15.1, y15.2), (y16.1, y16.2), stL y17 (w64 (y18 + y20)) ((w64 ((w64 ((rdD 0 y17 (w64 (y18 + y20))) + (w64 ((rdD 0 y14.2 y18) * r22)))) + y19)).tmod 65536), y18, w64 ((w64 ((w64 ((rdD 0 y17 (w64 (y18 + y20))) + (w64 ((rdD 0 y14.2 y18) * r22)))) + y19)).tdiv 65536), w64 (y20 + 1))
       else
        next0 ((y14.1, y14.2), (y15.1, y15.2), (y16.1, y16.2), y17, w64 (y18 + 1))) fun j23 =>
      bif decide (x13 < (x8.2.length : Int)) then
       j23 ((x7.1, x7.2), (x8.1, x8.2), (x9.1, x9.2), x10, x11, x12, x13, true)
      else
       j23 ((x7.1, x7.2), (x8.1, x8.2), (x9.1, x9.2), x10, x11, x12, x13, decide (x12 > 0))) k ((x1.1, x1.2), (x2.1, x2.2), (x3.1, x3.2), x4, x5, 0, 0)
    else
     bnd (c_parquetref01_trim (!(x1.1 == x2.1)) x4) fun r24 =>
     some (r24.1, r24.2)) k ((a0.1, a0.2), (a1.1, a1.2), (false, []), rpL (w64 ((w64 ((a0.2.length : Int) + (a1.2.length : Int))) + 1)) 0, 0)
theorem eq_parquetref01_Num_Times (k : Nat) (c_parquetref01_digit : (List Int) → Int → Option Int) (c_parquetref01_trim : Bool → (List Int) → Option (Bool × (List Int))) (a0 : (Bool × (List Int))) (a1 : (Bool × (List Int))) : textF [⟨95, [.d (.sl kI), .d kI], [kI], fun x => c_parquetref01_digit (x.1) (x.2), none⟩, ⟨94, [.d .bool, .d (.sl kI)], [.pair .bool (.sl kI)], fun x => c_parquetref01_trim (x.1) (x.2), none⟩] tb k Try.f83 an_parquetref01_Num_Times [.d (.pair .bool (.sl kI)), .d (.pair .bool (.sl kI))] [.pair .bool (.sl kI)] (a0, a1) = b_parquetref01_Num_Times k c_parquetref01_digit c_parquetref01_trim a0 a1 := by kernel_rfl
def g_parquetref01_Num_Times (k : Nat) (a0 : (Bool × (List Int))) (a1 : (Bool × (List Int))) : Option (Bool × (List Int)) := b_parquetref01_Num_Times k (g_parquetref01_digit k) (g_parquetref01_trim k) a0 a1
theorem tells_parquetref01_Num_Times (k : Nat) : TellsF Try.prog 83 [.d (.pair .bool (.sl kI)), .d (.pair .bool (.sl kI))] [.pair .bool (.sl kI)] (fun x => g_parquetref01_Num_Times k (x.1) (x.2)) := fun x y h => fun_tells tb_ok mix (es := [⟨95, [.d (.sl kI), .d kI], [kI], fun x => g_parquetref01_digit k (x.1) (x.2), none⟩, ⟨94, [.d .bool, .d (.sl kI)], [.pair .bool (.sl kI)], fun x => g_parquetref01_trim k (x.1) (x.2), none⟩]) (EsOk.cons (EntryOk.of rfl (tells_parquetref01_digit k)) (EsOk.cons (EntryOk.of rfl (tells_parquetref01_trim k)) (EsOk.nil _))) Try.func83 (N := k) (an := an_parquetref01_Num_Times) (by kernel_rfl) x y ((eq_parquetref01_Num_Times k (g_parquetref01_digit k) (g_parquetref01_trim k) (x.1) (x.2)).trans h)

def an_parquetref01_Num_Neg : Ann := .node none none .leaf (.node none none (.node (some [(2, .box [.d (.pair .bool (.sl kI))])]) none .leaf .leaf) .leaf)
def g_parquetref01_Num_Neg (k : Nat) (a0 : (Bool × (List Int))) : Option (Bool × (List Int)) :=
  meet (α := (Bool × (List Int))) (fun (y0, y1) =>
    some (y0, y1)) fun j2 =>
   bif !a0.1 then
    j2 (decide ((a0.2.length : Int) > 0), a0.2)
   else
    j2 (false, a0.2)
theorem eq_parquetref01_Num_Neg (k : Nat) (a0 : (Bool × (List Int))) : textF [] tb k Try.f91 an_parquetref01_Num_Neg [.d (.pair .bool (.sl kI))] [.pair .bool (.sl kI)] a0 = g_parquetref01_Num_Neg k a0 := by kernel_rfl
theorem tells_parquetref01_Num_Neg (k : Nat) : TellsF Try.prog 91 [.d (.pair .bool (.sl kI))] [.pair .bool (.sl kI)] (fun x => g_parquetref01_Num_Neg k x) := fun x y h => fun_tells tb_ok mix (es := []) (EsOk.nil _) Try.func91 (N := k) (an := an_parquetref01_Num_Neg) (by kernel_rfl) x y ((eq_parquetref01_Num_Neg k x).trans h)

def an_parquetref01_size : Ann := .node none none .leaf (.node none none .leaf (.node none none (.node none none .leaf (.node none none (.node none (some [(0, .d (.sl kI)), (1, .d (.sl kI)), (5, .d kI)]) .leaf .leaf) .leaf)) .leaf))
def g_parquetref01_size (k : Nat) (a0 : (List Int)) (a1 : (List Int)) : Option Int :=
  bif !(decide ((a0.length : Int) = (a1.length : Int))) then
    some (w64 ((a0.length : Int) - (a1.length : Int)))
   else
    loopN (α := ((List Int) × ((List Int) × Int))) (fun (x1, x2, x3) next0 =>
     bif decide (x3 ≥ 0) then
      gd (inb x3 x1.length) <|
      gd (inb x3 x2.length) <|
      bif !(decide ((rdD 0 x1 x3) = (rdD 0 x2 x3))) then
       gd (inb x3 x1.length) <|
       gd (inb x3 x2.length) <|
       some (w64 ((rdD 0 x1 x3) - (rdD 0 x2 x3)))
      else
       next0 (x1, x2, w64 (x3 - 1))
     else
      some 0) k (a0, a1, w64 ((a0.length : Int) - 1))
theorem eq_parquetref01_size (k : Nat) (a0 : (List Int)) (a1 : (List Int)) : textF [] tb k Try.f96 an_parquetref01_size [.d (.sl kI), .d (.sl kI)] [kI] (a0, a1) = g_parquetref01_size k a0 a1 := by kernel_rfl
theorem tells_parquetref01_size (k : Nat) : TellsF Try.prog 96 [.d (.sl kI), .d (.sl kI)] [kI] (fun x => g_parquetref01_size k (x.1) (x.2)) := fun x y h => fun_tells tb_ok mix (es := []) (EsOk.nil _) Try.func96 (N := k) (an := an_parquetref01_size) (by kernel_rfl) x y ((eq_parquetref01_size k (x.1) (x.2)).trans h)

def an_parquetref01_Num_Plus : Ann := .node none none .leaf (.node none none .leaf (.node none none .leaf (.node none none (.node none none .leaf (.node none none (.node none none (.node none none .leaf (.node none none (.node none (some [(2, .box [.d (.pair .bool (.sl kI))]), (3, .box [.d (.pair .bool (.sl kI))]), (4, .box [.d .bool, .row kI 3]), (5, .row kI 3), (6, .d kI), (7, .d kI)]) (.node none none (.node none none (.node (some [(2, .box [.d (.pair .bool (.sl kI))]), (3, .box [.d (.pair .bool (.sl kI))]), (4, .box [.d .bool, .row kI 3]), (5, .row kI 3), (6, .d kI), (7, .d kI), (33, .d .bool)]) none .leaf .leaf) .leaf) .leaf) .leaf) .leaf)) .leaf) .leaf)) (.node none none .leaf (.node none none .leaf (.node none none (.node none none .leaf (.node (some [(4, .box [.d .bool, .row kI 3]), (5, .row kI 3), (6, .d kI), (9, .box [.d (.pair .bool (.sl kI))]), (10, .box [.d (.pair .bool (.sl kI))])]) none .leaf .leaf)) (.node none none (.node none none .leaf (.node none none (.node none (some [(4, .box [.d .bool, .row kI 3]), (5, .row kI 3), (6, .d kI), (9, .box [.d (.pair .bool (.sl kI))]), (10, .box [.d (.pair .bool (.sl kI))]), (11, .d kI)]) (.node none none .leaf (.node none none (.node none none (.node none none .leaf (.node none none .leaf (.node none none (.node none none .leaf (.node (some [(4, .box [.d .bool, .row kI 3]), (5, .row kI 3), (6, .d kI), (9, .box [.d (.pair .bool (.sl kI))]), (10, .box [.d (.pair .bool (.sl kI))]), (11, .d kI), (12, .d kI)]) none .leaf .leaf)) .leaf))) .leaf) .leaf)) .leaf) .leaf)) .leaf)))))))
def b_parquetref01_Num_Plus (k : Nat) (c_parquetref01_digit : (List Int) → Int → Option Int) (c_parquetref01_trim : Bool → (List Int) → Option (Bool × (List Int))) (c_parquetref01_size : (List Int) → (List Int) → Option Int) (a0 : (Bool × (List Int))) (a1 : (Bool × (List Int))) : Option (Bool × (List Int)) :=
  bif a0.1 == a1.1 then
    loopN (α := ((Bool × (List Int)) × ((Bool × (List Int)) × ((Bool × (List Int)) × ((List Int) × (Int × Int)))))) (fun (x1, x2, x3, x4, x5, x6) next0 =>
     meet (α := ((Bool × (List Int)) × ((Bool × (List Int)) × ((Bool × (List Int)) × ((List Int) × (Int × (Int × Bool))))))) (fun (y7, y8, y9, y10, y11, y12, y13) =>
      bif y13 then
       bnd (c_parquetref01_digit y7.2 y12) fun r14 =>
       bnd (c_parquetref01_digit y8.2 y12) fun r15 =>
       gd (few (y10.length + 1)) <|
       next0 ((y7.1, y7.2), (y8.1, y8.2), (y9.1, y9.2), y10 ++ [(w64 ((w64 (r14 + r15)) + y11)).tmod 65536], w64 ((w64 ((w64 (r14 + r15)) + y11)).tdiv 65536), w64 (y12 + 1))
      else
       bnd (c_parquetref01_trim y7.1 y10) fun r16 =>
       some (r16.1, r16.2)) fun j17 =>
     bif decide (x6 < (x1.2.length : Int)) then
      j17 ((x1.1, x1.2), (x2.1, x2.2), (x3.1, x3.2), x4, x5, x6, true)
     else
      bif decide (x6 < (x2.2.length : Int)) then
       j17 ((x1.1, x1.2), (x2.1, x2.2), (x3.1, x3.2), x4, x5, x6, true)
      else
       j17 ((x1.1, x1.2), (x2.1, x2.2), (x3.1, x3.2), x4, x5, x6, decide (x5 > 0))) k ((a0.1, a0.2), (a1.1, a1.2), (false, []), [], 0, 0)
   else
    bnd (c_parquetref01_size a0.2 a1.2) fun r18 =>
    meet (α := ((Bool × (List Int)) × ((List Int) × (Int × ((Bool × (List Int)) × (Bool × (List Int))))))) (fun (y19, y20, y21, y22, y23, y24) =>
     loopN (α := ((Bool × (List Int)) × ((List Int) × (Int × ((Bool × (List Int)) × ((Bool × (List Int)) × Int)))))) (fun (x26, x27, x28, x29, x30, x31) next25 =>
      bif decide (x31 < (x29.2.length : Int)) then
       gd (inb x31 x29.2.length) <|
       bnd (c_parquetref01_digit x30.2 x31) fun r32 =>
       meet (α := ((Bool × (List Int)) × ((List Int) × (Int × ((Bool × (List Int)) × ((Bool × (List Int)) × (Int × Int))))))) (fun (y33, y34, y35, y36, y37, y38, y39) =>
        gd (few (y34.length + 1)) <|
        next25 ((y33.1, y33.2), y34 ++ [y39], y35, (y36.1, y36.2), (y37.1, y37.2), w64 (y38 + 1))) fun j40 =>
       bif decide ((w64 ((w64 ((rdD 0 x29.2 x31) - r32)) - x28)) < 0) then
        j40 ((x26.1, x26.2), x27, 1, (x29.1, x29.2), (x30.1, x30.2), x31, w64 ((w64 ((w64 ((rdD 0 x29.2 x31) - r32)) - x28)) + 65536))
       else
        j40 ((x26.1, x26.2), x27, 0, (x29.1, x29.2), (x30.1, x30.2), x31, w64 ((w64 ((rdD 0 x29.2 x31) - r32)) - x28))
      else
       bnd (c_parquetref01_trim x29.1 x27) fun r41 =>
       some (r41.1, r41.2)) k ((y19.1, y19.2), y20, y21, (y22.1, y22.2), (y23, y24), 0)) fun j42 =>
    bif decide (r18 < 0) then
     j42 ((false, []), [], 0, (a1.1, a1.2), a0.1, a0.2)
    else
     j42 ((false, []), [], 0, (a0.1, a0.2), a1.1, a1.2)
theorem eq_parquetref01_Num_Plus (k : Nat) (c_parquetref01_digit : (List Int) → Int → Option Int) (c_parquetref01_trim : Bool → (List Int) → Option (Bool × (List Int))) (c_parquetref01_size : (List Int) → (List Int) → Option Int) (a0 : (Bool × (List Int))) (a1 : (Bool × (List Int))) : textF [⟨95, [.d (.sl kI), .d kI], [kI], fun x => c_parquetref01_digit (x.1) (x.2), none⟩, ⟨94, [.d .bool, .d (.sl kI)], [.pair .bool (.sl kI)], fun x => c_parquetref01_trim (x.1) (x.2), none⟩, ⟨96, [.d (.sl kI), .d (.sl kI)], [kI], fun x => c_parquetref01_size (x.1) (x.2), none⟩] tb k Try.f84 an_parquetref01_Num_Plus [.d (.pair .bool (.sl kI)), .d (.pair .bool (.sl kI))] [.pair .bool (.sl kI)] (a0, a1) = b_parquetref01_Num_Plus k c_parquetref01_digit c_parquetref01_trim c_parquetref01_size a0 a1 := by kernel_rfl
def g_parquetref01_Num_Plus (k : Nat) (a0 : (Bool × (List Int))) (a1 : (Bool × (List Int))) : Option (Bool × (List Int)) := b_parquetref01_Num_Plus k (g_parquetref01_digit k) (g_parquetref01_trim k) (g_parquetref01_size k) a0 a1
theorem tells_parquetref01_Num_Plus (k : Nat) : TellsF Try.prog 84 [.d (.pair .bool (.sl kI)), .d (.pair .bool (.sl kI))] [.pair .bool (.sl kI)] (fun x => g_parquetref01_Num_Plus k (x.1) (x.2)) := fun x y h => fun_tells tb_ok mix (es := [⟨95, [.d (.sl kI), .d kI], [kI], fun x => g_parquetref01_digit k (x.1) (x.2), none⟩, ⟨94, [.d .bool, .d (.sl kI)], [.pair .bool (.sl kI)], fun x => g_parquetref01_trim k (x.1) (x.2), none⟩, ⟨96, [.d (.sl kI), .d (.sl kI)], [kI], fun x => g_parquetref01_size k (x.1) (x.2), none⟩]) (EsOk.cons (EntryOk.of rfl (tells_parquetref01_digit k)) (EsOk.cons (EntryOk.of rfl (tells_parquetref01_trim k)) (EsOk.cons (EntryOk.of rfl (tells_parquetref01_size k)) (EsOk.nil _)))) Try.func84 (N := k) (an := an_parquetref01_Num_Plus) (by kernel_rfl) x y ((eq_parquetref01_Num_Plus k (g_parquetref01_digit k) (g_parquetref01_trim k) (g_parquetref01_size k) (x.1) (x.2)).trans h)

def an_parquetref03_minus : Ann := .leaf
def b_parquetref03_minus (k : Nat) (c_parquetref01_Num_Neg : (Bool × (List Int)) → Option (Bool × (List Int))) (c_parquetref01_Num_Plus : (Bool × (List Int)) → (Bool × (List Int)) → Option (Bool × (List Int))) (a0 : (Bool × (List Int))) (a1 : (Bool × (List Int))) : Option (Bool × (List Int)) :=
  bnd (c_parquetref01_Num_Neg (a1.1, a1.2)) fun r0 =>
   bnd (c_parquetref01_Num_Plus (a0.1, a0.2) (r0.1, r0.2)) fun r1 =>
   some (r1.1, r1.2)
theorem eq_parquetref03_minus (k : Nat) (c_parquetref01_Num_Neg : (Bool × (List Int)) → Option (Bool × (List Int))) (c_parquetref01_Num_Plus : (Bool × (List Int)) → (Bool × (List Int)) → Option (Bool × (List Int))) (a0 : (Bool × (List Int))) (a1 : (Bool × (List Int))) : textF [⟨91, [.d (.pair .bool (.sl kI))], [.pair .bool (.sl kI)], fun x => c_parquetref01_Num_Neg x, none⟩, ⟨84, [.d (.pair .bool (.sl kI)), .d (.pair .bool (.sl kI))], [.pair .bool (.sl kI)], fun x => c_parquetref01_Num_Plus (x.1) (x.2), none⟩] tb k Try.f103 an_parquetref03_minus [.d (.pair .bool (.sl kI)), .d (.pair .bool (.sl kI))] [.pair .bool (.sl kI)] (a0, a1) = b_parquetref03_minus k c_parquetref01_Num_Neg c_parquetref01_Num_Plus a0 a1 := by kernel_rfl
def g_parquetref03_minus (k : Nat) (a0 : (Bool × (List Int))) (a1 : (Bool × (List Int))) : Option (Bool × (List Int)) := b_parquetref03_minus k (g_parquetref01_Num_Neg k) (g_parquetref01_Num_Plus k) a0 a1
theorem tells_parquetref03_minus (k : Nat) : TellsF Try.prog 103 [.d (.pair .bool (.sl kI)), .d (.pair .bool (.sl kI))] [.pair .bool (.sl kI)] (fun x => g_parquetref03_minus k (x.1) (x.2)) := fun x y h => fun_tells tb_ok mix (es := [⟨91, [.d (.pair .bool (.sl kI))], [.pair .bool (.sl kI)], fun x => g_parquetref01_Num_Neg k x, none⟩, ⟨84, [.d (.pair .bool (.sl kI)), .d (.pair .bool (.sl kI))], [.pair .bool (.sl kI)], fun x => g_parquetref01_Num_Plus k (x.1) (x.2), none⟩]) (EsOk.cons (EntryOk.of rfl (tells_parquetref01_Num_Neg k)) (EsOk.cons (EntryOk.of rfl (tells_parquetref01_Num_Plus k)) (EsOk.nil _))) Try.func103 (N := k) (an := an_parquetref03_minus) (by kernel_rfl) x y ((eq_parquetref03_minus k (g_parquetref01_Num_Neg k) (g_parquetref01_Num_Plus k) (x.1) (x.2)).trans h)

def an_parquetref03_Det : Ann := .leaf
def b_parquetref03_Det (k : Nat) (c_parquetref01_Num_Times : (Bool × (List Int)) → (Bool × (List Int)) → Option (Bool × (List Int))) (c_parquetref03_minus : (Bool × (List Int)) → (Bool × (List Int)) → Option (Bool × (List Int))) (a0 : (Bool × (List Int))) (a1 : (Bool × (List Int))) (a2 : (Bool × (List Int))) (a3 : (Bool × (List Int))) : Option (Bool × (List Int)) :=
  bnd (c_parquetref01_Num_Times (a0.1, a0.2) (a3.1, a3.2)) fun r0 =>
   bnd (c_parquetref01_Num_Times (a1.1, a1.2) (a2.1, a2.2)) fun r1 =>
   bnd (c_parquetref03_minus (r0.1, r0.2) (r1.1, r1.2)) fun r2 =>
   some (r2.1, r2.2)
theorem eq_parquetref03_Det (k : Nat) (c_parquetref01_Num_Times : (Bool × (List Int)) → (Bool × (List Int)) → Option (Bool × (List Int))) (c_parquetref03_minus : (Bool × (List Int)) → (Bool × (List Int)) → Option (Bool × (List Int))) (a0 : (Bool × (List Int))) (a1 : (Bool × (List Int))) (a2 : (Bool × (List Int))) (a3 : (Bool × (List Int))) : textF [⟨83, [.d (.pair .bool (.sl kI)), .d (.pair .bool (.sl kI))], [.pair .bool (.sl kI)], fun x => c_parquetref01_Num_Times (x.1) (x.2), none⟩, ⟨103, [.d (.pair .bool (.sl kI)), .d (.pair .bool (.sl kI))], [.pair .bool (.sl kI)], fun x => c_parquetref03_minus (x.1) (x.2), none⟩] tb k Try.f97 an_parquetref03_Det [.d (.pair .bool (.sl kI)), .d (.pair .bool (.sl kI)), .d (.pair .bool (.sl kI)), .d (.pair .bool (.sl kI))] [.pair .bool (.sl kI)] (a0, a1, a2, a3) = b_parquetref03_Det k c_parquetref01_Num_Times c_parquetref03_minus a0 a1 a2 a3 := by kernel_rfl
def g_parquetref03_Det (k : Nat) (a0 : (Bool × (List Int))) (a1 : (Bool × (List Int))) (a2 : (Bool × (List Int))) (a3 : (Bool × (List Int))) : Option (Bool × (List Int)) := b_parquetref03_Det k (g_parquetref01_Num_Times k) (g_parquetref03_minus k) a0 a1 a2 a3
theorem tells_parquetref03_Det (k : Nat) : TellsF Try.prog 97 [.d (.pair .bool (.sl kI)), .d (.pair .bool (.sl kI)), .d (.pair .bool (.sl kI)), .d (.pair .bool (.sl kI))] [.pair .bool (.sl kI)] (fun x => g_parquetref03_Det k (x.1) (x.2.1) (x.2.2.1) (x.2.2.2)) := fun x y h => fun_tells tb_ok mix (es := [⟨83, [.d (.pair .bool (.sl kI)), .d (.pair .bool (.sl kI))], [.pair .bool (.sl kI)], fun x => g_parquetref01_Num_Times k (x.1) (x.2), none⟩, ⟨103, [.d (.pair .bool (.sl kI)), .d (.pair .bool (.sl kI))], [.pair .bool (.sl kI)], fun x => g_parquetref03_minus k (x.1) (x.2), none⟩]) (EsOk.cons (EntryOk.of rfl (tells_parquetref01_Num_Times k)) (EsOk.cons (EntryOk.of rfl (tells_parquetref03_minus k)) (EsOk.nil _))) Try.func97 (N := k) (an := an_parquetref03_Det) (by kernel_rfl) x y ((eq_parquetref03_Det k (g_parquetref01_Num_Times k) (g_parquetref03_minus k) (x.1) (x.2.1) (x.2.2.1) (x.2.2.2)).trans h)

def an_parquetref03_Area : Ann := .leaf
def b_parquetref03_Area (k : Nat) (c_parquetref03_num : Int → Option (Bool × (List Int))) (c_parquetref03_Det : (Bool × (List Int)) → (Bool × (List Int)) → (Bool × (List Int)) → (Bool × (List Int)) → Option (Bool × (List Int))) (c_parquetref01_Num_Plus : (Bool × (List Int)) → (Bool × (List Int)) → Option (Bool × (List Int))) (a0 : (Int × Int)) (a1 : (Int × Int)) (a2 : (Int × Int)) : Option (Bool × (List Int)) :=
  bnd (c_parquetref03_num a0.1) fun r0 =>
   bnd (c_parquetref03_num a0.2) fun r1 =>
   bnd (c_parquetref03_num a1.1) fun r2 =>
   bnd (c_parquetref03_num a1.2) fun r3 =>
   bnd (c_parquetref03_Det (r0.1, r0.2) (r1.1, r1.2) (r2.1, r2.2) (r3.1, r3.2)) fun r4 =>
   bnd (c_parquetref03_num a1.1) fun r5 =>
   bnd (c_parquetref03_num a1.2) fun r6 =>
   bnd (c_parquetref03_num a2.1) fun r7 =>
   bnd (c_parquetref03_num a2.2) fun r8 =>
   bnd (c_parquetref03_Det (r5.1, r5.2) (r6.1, r6.2) (r7.1, r7.2) (r8.1, r8.2)) fun r9 =>
   bnd (c_parquetref01_Num_Plus (r4.1, r4.2) (r9.1, r9.2)) fun r10 =>
   bnd (c_parquetref03_num a2.1) fun r11 =>
   bnd (c_parquetref03_num a2.2) fun r12 =>
   bnd (c_parquetref03_num a0.1) fun r13 =>
   bnd (c_parquetref03_num a0.2) fun r14 =>
   bnd (c_parquetref03_Det (r11.1, r11.2) (r12.1, r12.2) (r13.1, r13.2) (r14.1, r14.2)) fun r15 =>
   bnd (c_parquetref01_Num_Plus (r10.1, r10.2) (r15.1, r15.2)) fun r16 =>
   some (r16.1, r16.2)
theorem eq_parquetref03_Area (k : Nat) (c_parquetref03_num : Int → Option (Bool × (List Int))) (c_parquetref03_Det : (Bool × (List Int)) → (Bool × (List Int)) → (Bool × (List Int)) → (Bool × (List Int)) → Option (Bool × (List Int))) (c_parquetref01_Num_Plus : (Bool × (List Int)) → (Bool × (List Int)) → Option (Bool × (List Int))) (a0 : (Int × Int)) (a1 : (Int × Int)) (a2 : (Int × Int)) : textF [⟨98, [.d kI], [.pair .bool (.sl kI)], fun x => c_parquetref03_num x, none⟩, ⟨97, [.d (.pair .bool (.sl kI)), .d (.pair .bool (.sl kI)), .d (.pair .bool (.sl kI)), .d (.pair .bool (.sl kI))], [.pair .bool (.sl kI)], fun x => c_parquetref03_Det (x.1) (x.2.1) (x.2.2.1) (x.2.2.2), none⟩, ⟨84, [.d (.pair .bool (.sl kI)), .d (.pair .bool (.sl kI))], [.pair .bool (.sl kI)], fun x => c_parquetref01_Num_Plus (x.1) (x.2), none⟩] tb k Try.f86 an_parquetref03_Area [.d (.pair kI kI), .d (.pair kI kI), .d (.pair kI kI)] [.pair .bool (.sl kI)] (a0, a1, a2) = b_parquetref03_Area k c_parquetref03_num c_parquetref03_Det c_parquetref01_Num_Plus a0 a1 a2 := by kernel_rfl
def g_parquetref03_Area (k : Nat) (a0 : (Int × Int)) (a1 : (Int × Int)) (a2 : (Int × Int)) : Option (Bool × (List Int)) := b_parquetref03_Area k (g_parquetref03_num k) (g_parquetref03_Det k) (g_parquetref01_Num_Plus k) a0 a1 a2
theorem tells_parquetref03_Area (k : Nat) : TellsF Try.prog 86 [.d (.pair kI kI), .d (.pair kI kI), .d (.pair kI kI)] [.pair .bool (.sl kI)] (fun x => g_parquetref03_Area k (x.1) (x.2.1) (x.2.2)) := fun x y h => fun_tells tb_ok mix (es := [⟨98, [.d kI], [.pair .bool (.sl kI)], fun x => g_parquetref03_num k x, none⟩, ⟨97, [.d (.pair .bool (.sl kI)), .d (.pair .bool (.sl kI)), .d (.pair .bool (.sl kI)), .d (.pair .bool (.sl kI))], [.pair .bool (.sl kI)], fun x => g_parquetref03_Det k (x.1) (x.2.1) (x.2.2.1) (x.2.2.2), none⟩, ⟨84, [.d (.pair .bool (.sl kI)), .d (.pair .bool (.sl kI))], [.pair .bool (.sl kI)], fun x => g_parquetref01_Num_Plus k (x.1) (x.2), none⟩]) (EsOk.cons (EntryOk.of rfl (tells_parquetref03_num k)) (EsOk.cons (EntryOk.of rfl (tells_parquetref03_Det k)) (EsOk.cons (EntryOk.of rfl (tells_parquetref01_Num_Plus k)) (EsOk.nil _)))) Try.func86 (N := k) (an := an_parquetref03_Area) (by kernel_rfl) x y ((eq_parquetref03_Area k (g_parquetref03_num k) (g_parquetref03_Det k) (g_parquetref01_Num_Plus k) (x.1) (x.2.1) (x.2.2)).trans h)

def an_parquetref01_Num_Sign : Ann := .leaf
def g_parquetref01_Num_Sign (k : Nat) (a0 : (Bool × (List Int))) : Option Int :=
  bif decide ((a0.2.length : Int) = 0) then
    some 0
   else
    bif a0.1 then
     some (-1)
    else
     some 1
theorem eq_parquetref01_Num_Sign (k : Nat) (a0 : (Bool × (List Int))) : textF [] tb k Try.f85 an_parquetref01_Num_Sign [.d (.pair .bool (.sl kI))] [kI] a0 = g_parquetref01_Num_Sign k a0 := by kernel_rfl
theorem tells_parquetref01_Num_Sign (k : Nat) : TellsF Try.prog 85 [.d (.pair .bool (.sl kI))] [kI] (fun x => g_parquetref01_Num_Sign k x) := fun x y h => fun_tells tb_ok mix (es := []) (EsOk.nil _) Try.func85 (N := k) (an := an_parquetref01_Num_Sign) (by kernel_rfl) x y ((eq_parquetref01_Num_Sign k x).trans h)

def an_parquetref03_Orient : Ann := .node none none .leaf (.node none none (.node none none (.node (some [(3, .box [.d (.pair kI kI)]), (4, .box [.d (.pair kI kI)]), (5, .box [.d (.pair kI kI)]), (19, .d .bool)]) none .leaf .leaf) .leaf) .leaf)
def b_parquetref03_Orient (k : Nat) (c_parquetref03_Fits : (Int × Int) → Option Bool) (c_parquetref03_Area : (Int × Int) → (Int × Int) → (Int × Int) → Option (Bool × (List Int))) (c_parquetref01_Num_Sign : (Bool × (List Int)) → Option Int) (a0 : (Int × Int)) (a1 : (Int × Int)) (a2 : (Int × Int)) : Option Int :=
  meet (α := ((Int × Int) × ((Int × Int) × ((Int × Int) × Bool)))) (fun (y0, y1, y2, y3) =>
    bif y3 then
     some 0
    else
     bnd (c_parquetref03_Area (y0.1, y0.2) (y1.1, y1.2) (y2.1, y2.2)) fun r4 =>
     bnd (c_parquetref01_Num_Sign (r4.1, r4.2)) fun r5 =>
     some r5) fun j6 =>
   bnd (c_parquetref03_Fits (a0.1, a0.2)) fun r7 =>
   bif !r7 then
    j6 ((a0.1, a0.2), (a1.1, a1.2), (a2.1, a2.2), true)
   else
    bnd (c_parquetref03_Fits (a1.1, a1.2)) fun r8 =>
    bif !r8 then
     j6 ((a0.1, a0.2), (a1.1, a1.2), (a2.1, a2.2), true)
    else
     bnd (c_parquetref03_Fits (a2.1, a2.2)) fun r9 =>
     j6 ((a0.1, a0.2), (a1.1, a1.2), (a2.1, a2.2), !r9)
theorem eq_parquetref03_Orient (k : Nat) (c_parquetref03_Fits : (Int × Int) → Option Bool) (c_parquetref03_Area : (Int × Int) → (Int × Int) → (Int × Int) → Option (Bool × (List Int))) (c_parquetref01_Num_Sign : (Bool × (List Int)) → Option Int) (a0 : (Int × Int)) (a1 : (Int × Int)) (a2 : (Int × Int)) : textF [⟨69, [.d (.pair kI kI)], [.bool], fun x => c_parquetref03_Fits x, none⟩, ⟨86, [.d (.pair kI kI), .d (.pair kI kI), .d (.pair kI kI)], [.pair .bool (.sl kI)], fun x => c_parquetref03_Area (x.1) (x.2.1) (x.2.2), none⟩, ⟨85, [.d (.pair .bool (.sl kI))], [kI], fun x => c_parquetref01_Num_Sign x, none⟩] tb k Try.f70 an_parquetref03_Orient [.d (.pair kI kI), .d (.pair kI kI), .d (.pair kI kI)] [kI] (a0, a1, a2) = b_parquetref03_Orient k c_parquetref03_Fits c_parquetref03_Area c_parquetref01_Num_Sign a0 a1 a2 := by kernel_rfl
def g_parquetref03_Orient (k : Nat) (a0 : (Int × Int)) (a1 : (Int × Int)) (a2 : (Int × Int)) : Option Int := b_parquetref03_Orient k (g_parquetref03_Fits k) (g_parquetref03_Area k) (g_parquetref01_Num_Sign k) a0 a1 a2
theorem tells_parquetref03_Orient (k : Nat) : TellsF Try.prog 70 [.d (.pair kI kI), .d (.pair kI kI), .d (.pair kI kI)] [kI] (fun x => g_parquetref03_Orient k (x.1) (x.2.1) (x.2.2)) := fun x y h => fun_tells tb_ok mix (es := [⟨69, [.d (.pair kI kI)], [.bool], fun x => g_parquetref03_Fits k x, none⟩, ⟨86, [.d (.pair kI kI), .d (.pair kI kI), .d (.pair kI kI)], [.pair .bool (.sl kI)], fun x => g_parquetref03_Area k (x.1) (x.2.1) (x.2.2), none⟩, ⟨85, [.d (.pair .bool (.sl kI))], [kI], fun x => g_parquetref01_Num_Sign k x, none⟩]) (EsOk.cons (EntryOk.of rfl (tells_parquetref03_Fits k)) (EsOk.cons (EntryOk.of rfl (tells_parquetref03_Area k)) (EsOk.cons (EntryOk.of rfl (tells_parquetref01_Num_Sign k)) (EsOk.nil _)))) Try.func70 (N := k) (an := an_parquetref03_Orient) (by kernel_rfl) x y ((eq_parquetref03_Orient k (g_parquetref03_Fits k) (g_parquetref03_Area k) (g_parquetref01_Num_Sign k) (x.1) (x.2.1) (x.2.2)).trans h)

def an_parquetref04_on : Ann := .node none none .leaf (.node none none .leaf (.node none none (.node (some [(6, .d .bool)]) none .leaf .leaf) .leaf))
def b_parquetref04_on (k : Nat) (c_parquetref01_Small : Int → Option (Bool × (List Int))) (c_parquetref01_Num_Times : (Bool × (List Int)) → (Bool × (List Int)) → Option (Bool × (List Int))) (c_parquetref01_Num_Plus : (Bool × (List Int)) → (Bool × (List Int)) → Option (Bool × (List Int))) (c_parquetref03_Fits : (Int × Int) → Option Bool) (c_parquetref03_Orient : (Int × Int) → (Int × Int) → (Int × Int) → Option Int) (c_parquetref01_Num_Sign : (Bool × (List Int)) → Option Int) (a0 : (Int × Int)) (a1 : (Int × Int)) (a2 : (Int × Int)) : Option Bool :=
  bnd (c_parquetref01_Small (w64 (a2.1 - a0.1))) fun r0 =>
   bnd (c_parquetref01_Small (w64 (a1.1 - a2.1))) fun r1 =>
   bnd (c_parquetref01_Num_Times (r0.1, r0.2) (r1.1, r1.2)) fun r2 =>
   bnd (c_parquetref01_Small (w64 (a2.2 - a0.2))) fun r3 =>
   bnd (c_parquetref01_Small (w64 (a1.2 - a2.2))) fun r4 =>
   bnd (c_parquetref01_Num_Times (r3.1, r3.2) (r4.1, r4.2)) fun r5 =>
   bnd (c_parquetref01_Num_Plus (r2.1, r2.2) (r5.1, r5.2)) fun r6 =>
   meet (α := Bool) (fun y7 =>
    some y7) fun j8 =>
   bif !((decide (a0.1 = a1.1)) && (decide (a0.2 = a1.2))) then
    bnd (c_parquetref03_Fits (a0.1, a0.2)) fun r9 =>
    bif r9 then
     bnd (c_parquetref03_Fits (a1.1, a1.2)) fun r10 =>
     bif r10 then
      bnd (c_parquetref03_Fits (a2.1, a2.2)) fun r11 =>
      bif r11 then
       bnd (c_parquetref03_Orient (a0.1, a0.2) (a1.1, a1.2) (a2.1, a2.2)) fun r12 =>
       bif decide (r12 = 0) then
        bnd (c_parquetref01_Num_Sign (r6.1, r6.2)) fun r13 =>
        j8 (decide (r13 ≥ 0))
       else
        j8 false
      else
       j8 false
     else
      j8 false
    else
     j8 false
   else
    j8 false
theorem eq_parquetref04_on (k : Nat) (c_parquetref01_Small : Int → Option (Bool × (List Int))) (c_parquetref01_Num_Times : (Bool × (List Int)) → (Bool × (List Int)) → Option (Bool × (List Int))) (c_parquetref01_Num_Plus : (Bool × (List Int)) → (Bool × (List Int)) → Option (Bool × (List Int))) (c_parquetref03_Fits : (Int × Int) → Option Bool) (c_parquetref03_Orient : (Int × Int) → (Int × Int) → (Int × Int) → Option Int) (c_parquetref01_Num_Sign : (Bool × (List Int)) → Option Int) (a0 : (Int × Int)) (a1 : (Int × Int)) (a2 : (Int × Int)) : textF [⟨82, [.d kI], [.pair .bool (.sl kI)], fun x => c_parquetref01_Small x, none⟩, ⟨83, [.d (.pair .bool (.sl kI)), .d (.pair .bool (.sl kI))], [.pair .bool (.sl kI)], fun x => c_parquetref01_Num_Times (x.1) (x.2), none⟩, ⟨84, [.d (.pair .bool (.sl kI)), .d (.pair .bool (.sl kI))], [.pair .bool (.sl kI)], fun x => c_parquetref01_Num_Plus (x.1) (x.2), none⟩, ⟨69, [.d (.pair kI kI)], [.bool], fun x => c_parquetref03_Fits x, none⟩, ⟨70, [.d (.pair kI kI), .d (.pair kI kI), .d (.pair kI kI)], [kI], fun x => c_parquetref03_Orient (x.1) (x.2.1) (x.2.2), none⟩, ⟨85, [.d (.pair .bool (.sl kI))], [kI], fun x => c_parquetref01_Num_Sign x, none⟩] tb k Try.f68 an_parquetref04_on [.d (.pair kI kI), .d (.pair kI kI), .d (.pair kI kI)] [.bool] (a0, a1, a2) = b_parquetref04_on k c_parquetref01_Small c_parquetref01_Num_Times c_parquetref01_Num_Plus c_parquetref03_Fits c_parquetref03_Orient c_parquetref01_Num_Sign a0 a1 a2 := by kernel_rfl
def g_parquetref04_on (k : Nat) (a0 : (Int × Int)) (a1 : (Int × Int)) (a2 : (Int × Int)) : Option Bool := b_parquetref04_on k (g_parquetref01_Small k) (g_parquetref01_Num_Times k) (g_parquetref01_Num_Plus k) (g_parquetref03_Fits k) (g_parquetref03_Orient k) (g_parquetref01_Num_Sign k) a0 a1 a2
theorem tells_parquetref04_on (k : Nat) : TellsF Try.prog 68 [.d (.pair kI kI), .d (.pair kI kI), .d (.pair kI kI)] [.bool] (fun x => g_parquetref04_on k (x.1) (x.2.1) (x.2.2)) := fun x y h => fun_tells tb_ok mix (es := [⟨82, [.d kI], [.pair .bool (.sl kI)], fun x => g_parquetref01_Small k x, none⟩, ⟨83, [.d (.pair .bool (.sl kI)), .d (.pair .bool (.sl kI))], [.pair .bool (.sl kI)], fun x => g_parquetref01_Num_Times k (x.1) (x.2), none⟩, ⟨84, [.d (.pair .bool (.sl kI)), .d (.pair .bool (.sl kI))], [.pair .bool (.sl kI)], fun x => g_parquetref01_Num_Plus k (x.1) (x.2), none⟩, ⟨69, [.d (.pair kI kI)], [.bool], fun x => g_parquetref03_Fits k x, none⟩, ⟨70, [.d (.pair kI kI), .d (.pair kI kI), .d (.pair kI kI)], [kI], fun x => g_parquetref03_Orient k (x.1) (x.2.1) (x.2.2), none⟩, ⟨85, [.d (.pair .bool (.sl kI))], [kI], fun x => g_parquetref01_Num_Sign k x, none⟩]) (EsOk.cons (EntryOk.of rfl (tells_parquetref01_Small k)) (EsOk.cons (EntryOk.of rfl (tells_parquetref01_Num_Times k)) (EsOk.cons (EntryOk.of rfl (tells_parquetref01_Num_Plus k)) (EsOk.cons (EntryOk.of rfl (tells_parquetref03_Fits k)) (EsOk.cons (EntryOk.of rfl (tells_parquetref03_Orient k)) (EsOk.cons (EntryOk.of rfl (tells_parquetref01_Num_Sign k)) (EsOk.nil _))))))) Try.func68 (N := k) (an := an_parquetref04_on) (by kernel_rfl) x y ((eq_parquetref04_on k (g_parquetref01_Small k) (g_parquetref01_Num_Times k) (g_parquetref01_Num_Plus k) (g_parquetref03_Fits k) (g_parquetref03_Orient k) (g_parquetref01_Num_Sign k) (x.1) (x.2.1) (x.2.2)).trans h)

def an_parquetref04_Segs : Ann := .node none none .leaf (.node none none (.node none none (.node (some [(4, .box [.d (.pair kI kI)]), (5, .box [.d (.pair kI kI)]), (6, .box [.d (.pair kI kI)]), (7, .box [.d (.pair kI kI)]), (40, .d .bool)]) none .leaf .leaf) .leaf) (.node none none .leaf (.node none none .leaf (.node none none (.node none none (.node (some [(4, .box [.d (.pair kI kI)]), (5, .box [.d (.pair kI kI)]), (6, .box [.d (.pair kI kI)]), (7, .box [.d (.pair kI kI)]), (10, .d kI), (11, .d kI), (54, .d .bool)]) none .leaf .leaf) (.node none none (.node none none .leaf (.node none none (.node none none .leaf (.node (some [(4, .box [.d (.pair kI kI)]), (5, .box [.d (.pair kI kI)]), (6, .box [.d (.pair kI kI)]), (7, .box [.d (.pair kI kI)]), (12, .d kI)]) none .leaf .leaf)) (.node none none (.node none none .leaf (.node (some [(4, .box [.d (.pair kI kI)]), (5, .box [.d (.pair kI kI)]), (6, .box [.d (.pair kI kI)]), (7, .box [.d (.pair kI kI)]), (12, .d kI)]) none .leaf .leaf)) (.node none none (.node none none (.node (some [(5, .box [.d (.pair kI kI)]), (6, .box [.d (.pair kI kI)]), (7, .box [.d (.pair kI kI)]), (12, .d kI), (80, .d .bool)]) none .leaf .leaf) (.node (some [(5, .box [.d (.pair kI kI)]), (6, .box [.d (.pair kI kI)]), (7, .box [.d (.pair kI kI)]), (12, .d kI)]) none .leaf .leaf)) (.node none none (.node none none (.node (some [(12, .d kI), (96, .d .bool)]) none .leaf .leaf) (.node (some [(12, .d kI)]) none .leaf .leaf)) .leaf))))) .leaf)) (.node none none (.node none none (.node (some [(4, .box [.d (.pair kI kI)]), (5, .box [.d (.pair kI kI)]), (6, .box [.d (.pair kI kI)]), (7, .box [.d (.pair kI kI)]), (10, .d kI), (11, .d kI), (120, .d .bool)]) none .leaf .leaf) .leaf) (.node none none (.node none none (.node (some [(4, .box [.d (.pair kI kI)]), (5, .box [.d (.pair kI kI)]), (6, .box [.d (.pair kI kI)]), (7, .box [.d (.pair kI kI)]), (10, .d kI), (11, .d kI), (142, .d .bool)]) none .leaf .leaf) .leaf) (.node none none (.node none none (.node (some [(156, .d .bool)]) none .leaf .leaf) .leaf) .leaf)))))))
def b_parquetref04_Segs (k : Nat) (c_parquetref03_Fits : (Int × Int) → Option Bool) (c_parquetref03_Orient : (Int × Int) → (Int × Int) → (Int × Int) → Option Int) (c_parquetref04_on : (Int × Int) → (Int × Int) → (Int × Int) → Option Bool) (a0 : (Int × Int)) (a1 : (Int × Int)) (a2 : (Int × Int)) (a3 : (Int × Int)) : Option (Int × Int) :=
  meet (α := ((Int × Int) × ((Int × Int) × ((Int × Int) × ((Int × Int) × Bool))))) (fun (y0, y1, y2, y3, y4) =>
    bif y4 then
     some (0, 2)
    else
     bnd (c_parquetref03_Orient (y0.1, y0.2) (y1.1, y1.2) (y2.1, y2.2)) fun r5 =>
     bnd (c_parquetref03_Orient (y0.1, y0.2) (y1.1, y1.2) (y3.1, y3.2)) fun r6 =>
     meet (α := ((Int × Int) × ((Int × Int) × ((Int × Int) × ((Int × Int) × (Int × (Int × Bool))))))) (fun (y7, y8, y9, y10, y11, y12, y13) =>
      bif y13 then
       bnd (c_parquetref04_on (y7.1, y7.2) (y8.1, y8.2) (y9.1, y9.2)) fun r14 =>
       meet (α := ((Int × Int) × ((Int × Int) × ((Int × Int) × ((Int × Int) × Int))))) (fun (y15, y16, y17, y18, y19) =>
        bnd (c_parquetref04_on (y15.1, y15.2) (y16.1, y16.2) (y18.1, y18.2)) fun r20 =>
        meet (α := ((Int × Int) × ((Int × Int) × ((Int × Int) × ((Int × Int) × Int))))) (fun (y21, y22, y23, y24, y25) =>
         meet (α := ((Int × Int) × ((Int × Int) × ((Int × Int) × (Int × Bool))))) (fun (y26, y27, y28, y29, y30) =>
          meet (α := ((Int × Int) × ((Int × Int) × ((Int × Int) × Int)))) (fun (y31, y32, y33, y34) =>
           meet (α := (Int × Bool)) (fun (y35, y36) =>
            meet (α := Int) (fun y37 =>
             bif decide (y37 ≥ 2) then
              some (4, 0)
             else
              bif decide (y37 = 1) then
               some (1, 0)
              else
               some (0, 0)) fun j38 =>
            bif y36 then
             j38 (w64 (y35 + 1))
            else
             j38 y35) fun j39 =>
           bnd (c_parquetref04_on (y32.1, y32.2) (y33.1, y33.2) (y31.1, y31.2)) fun r40 =>
           bif r40 then
            bif !((decide (y31.1 = y32.1)) && (decide (y31.2 = y32.2))) then
             j39 (y34, !((decide (y31.1 = y33.1)) && (decide (y31.2 = y33.2))))
            else
             j39 (y34, false)
           else
            j39 (y34, false)) fun j41 =>
          bif y30 then
           j41 ((y26.1, y26.2), (y27.1, y27.2), (y28.1, y28.2), w64 (y29 + 1))
          else
           j41 ((y26.1, y26.2), (y27.1, y27.2), (y28.1, y28.2), y29)) fun j42 =>
         bnd (c_parquetref04_on (y23.1, y23.2) (y24.1, y24.2) (y21.1, y21.2)) fun r43 =>
         bif r43 then
          bif !((decide (y21.1 = y23.1)) && (decide (y21.2 = y23.2))) then
           j42 ((y22.1, y22.2), (y23.1, y23.2), (y24.1, y24.2), y25, !((decide (y21.1 = y24.1)) && (decide (y21.2 = y24.2))))
          else
           j42 ((y22.1, y22.2), (y23.1, y23.2), (y24.1, y24.2), y25, false)
         else
          j42 ((y22.1, y22.2), (y23.1, y23.2), (y24.1, y24.2), y25, false)) fun j44 =>
        bif r20 then
         j44 ((y15.1, y15.2), (y16.1, y16.2), (y17.1, y17.2), (y18.1, y18.2), w64 (y19 + 1))
        else
         j44 ((y15.1, y15.2), (y16.1, y16.2), (y17.1, y17.2), (y18.1, y18.2), y19)) fun j45 =>
       bif r14 then
        j45 ((y7.1, y7.2), (y8.1, y8.2), (y9.1, y9.2), (y10.1, y10.2), 1)
       else
        j45 ((y7.1, y7.2), (y8.1, y8.2), (y9.1, y9.2), (y10.1, y10.2), 0)
      else
       meet (α := ((Int × Int) × ((Int × Int) × ((Int × Int) × ((Int × Int) × (Int × (Int × Bool))))))) (fun (y46, y47, y48, y49, y50, y51, y52) =>
        bif y52 then
         some (1, 0)
        else
         meet (α := ((Int × Int) × ((Int × Int) × ((Int × Int) × ((Int × Int) × (Int × (Int × Bool))))))) (fun (y53, y54, y55, y56, y57, y58, y59) =>
          bif y59 then
           some (2, 0)
          else
           meet (α := Bool) (fun y60 =>
            bif y60 then
             some (3, 0)
            else
             some (0, 0)) fun j61 =>
           bif !(decide (y57 = y58)) then
            bnd (c_parquetref03_Orient (y55.1, y55.2) (y56.1, y56.2) (y53.1, y53.2)) fun r62 =>
            bnd (c_parquetref03_Orient (y55.1, y55.2) (y56.1, y56.2) (y54.1, y54.2)) fun r63 =>
            j61 (!(decide (r62 = r63)))
           else
            j61 false) fun j64 =>
         bnd (c_parquetref04_on (y46.1, y46.2) (y47.1, y47.2) (y48.1, y48.2)) fun r65 =>
         bif r65 then
          j64 ((y46.1, y46.2), (y47.1, y47.2), (y48.1, y48.2), (y49.1, y49.2), y50, y51, true)
         else
          bnd (c_parquetref04_on (y46.1, y46.2) (y47.1, y47.2) (y49.1, y49.2)) fun r66 =>
          bif r66 then
           j64 ((y46.1, y46.2), (y47.1, y47.2), (y48.1, y48.2), (y49.1, y49.2), y50, y51, true)
          else
           bnd (c_parquetref04_on (y48.1, y48.2) (y49.1, y49.2) (y46.1, y46.2)) fun r67 =>
           bif r67 then
            j64 ((y46.1, y46.2), (y47.1, y47.2), (y48.1, y48.2), (y49.1, y49.2), y50, y51, true)
           else
            bnd (c_parquetref04_on (y48.1, y48.2) (y49.1, y49.2) (y47.1, y47.2)) fun r68 =>
            j64 ((y46.1, y46.2), (y47.1, y47.2), (y48.1, y48.2), (y49.1, y49.2), y50, y51, r68)) fun j69 =>
       bif (decide (y7.1 = y9.1)) && (decide (y7.2 = y9.2)) then
        j69 ((y7.1, y7.2), (y8.1, y8.2), (y9.1, y9.2), (y10.1, y10.2), y11, y12, true)
       else
        bif (decide (y7.1 = y10.1)) && (decide (y7.2 = y10.2)) then
         j69 ((y7.1, y7.2), (y8.1, y8.2), (y9.1, y9.2), (y10.1, y10.2), y11, y12, true)
        else
         bif (decide (y8.1 = y9.1)) && (decide (y8.2 = y9.2)) then
          j69 ((y7.1, y7.2), (y8.1, y8.2), (y9.1, y9.2), (y10.1, y10.2), y11, y12, true)
         else
          j69 ((y7.1, y7.2), (y8.1, y8.2), (y9.1, y9.2), (y10.1, y10.2), y11, y12, (decide (y8.1 = y10.1)) && (decide (y8.2 = y10.2)))) fun j70 =>
     bif decide (r5 = 0) then
      j70 ((y0.1, y0.2), (y1.1, y1.2), (y2.1, y2.2), (y3.1, y3.2), r5, r6, decide (r6 = 0))
     else
      j70 ((y0.1, y0.2), (y1.1, y1.2), (y2.1, y2.2), (y3.1, y3.2), r5, r6, false)) fun j71 =>
   bif (decide (a0.1 = a1.1)) && (decide (a0.2 = a1.2)) then
    j71 ((a0.1, a0.2), (a1.1, a1.2), (a2.1, a2.2), (a3.1, a3.2), true)
   else
    bif (decide (a2.1 = a3.1)) && (decide (a2.2 = a3.2)) then
     j71 ((a0.1, a0.2), (a1.1, a1.2), (a2.1, a2.2), (a3.1, a3.2), true)
    else
     bnd (c_parquetref03_Fits (a0.1, a0.2)) fun r72 =>
     bif !r72 then
      j71 ((a0.1, a0.2), (a1.1, a1.2), (a2.1, a2.2), (a3.1, a3.2), true)
     else
      bnd (c_parquetref03_Fits (a1.1, a1.2)) fun r73 =>
      bif !r73 then
       j71 ((a0.1, a0.2), (a1.1, a1.2), (a2.1, a2.2), (a3.1, a3.2), true)
      else
       bnd (c_parquetref03_Fits (a2.1, a2.2)) fun r74 =>
       bif !r74 then
        j71 ((a0.1, a0.2), (a1.1, a1.2), (a2.1, a2.2), (a3.1, a3.2), true)
       else
        bnd (c_parquetref03_Fits (a3.1, a3.2)) fun r75 =>
        j71 ((a0.1, a0.2), (a1.1, a1.2), (a2.1, a2.2), (a3.1, a3.2), !r75)
theorem eq_parquetref04_Segs (k : Nat) (c_parquetref03_Fits : (Int × Int) → Option Bool) (c_parquetref03_Orient : (Int × Int) → (Int × Int) → (Int × Int) → Option Int) (c_parquetref04_on : (Int × Int) → (Int × Int) → (Int × Int) → Option Bool) (a0 : (Int × Int)) (a1 : (Int × Int)) (a2 : (Int × Int)) (a3 : (Int × Int)) : textF [⟨69, [.d (.pair kI kI)], [.bool], fun x => c_parquetref03_Fits x, none⟩, ⟨70, [.d (.pair kI kI), .d (.pair kI kI), .d (.pair kI kI)], [kI], fun x => c_parquetref03_Orient (x.1) (x.2.1) (x.2.2), none⟩, ⟨68, [.d (.pair kI kI), .d (.pair kI kI), .d (.pair kI kI)], [.bool], fun x => c_parquetref04_on (x.1) (x.2.1) (x.2.2), none⟩] tb k Try.f46 an_parquetref04_Segs [.d (.pair kI kI), .d (.pair kI kI), .d (.pair kI kI), .d (.pair kI kI)] [kI, kI] (a0, a1, a2, a3) = b_parquetref04_Segs k c_parquetref03_Fits c_parquetref03_Orient c_parquetref04_on a0 a1 a2 a3 := by kernel_rfl
def g_parquetref04_Segs (k : Nat) (a0 : (Int × Int)) (a1 : (Int × Int)) (a2 : (Int × Int)) (a3 : (Int × Int)) : Option (Int × Int) := b_parquetref04_Segs k (g_parquetref03_Fits k) (g_parquetref03_Orient k) (g_parquetref04_on k) a0 a1 a2 a3
theorem tells_parquetref04_Segs (k : Nat) : TellsF Try.prog 46 [.d (.pair kI kI), .d (.pair kI kI), .d (.pair kI kI), .d (.pair kI kI)] [kI, kI] (fun x => g_parquetref04_Segs k (x.1) (x.2.1) (x.2.2.1) (x.2.2.2)) := fun x y h => fun_tells tb_ok mix (es := [⟨69, [.d (.pair kI kI)], [.bool], fun x => g_parquetref03_Fits k x, none⟩, ⟨70, [.d (.pair kI kI), .d (.pair kI kI), .d (.pair kI kI)], [kI], fun x => g_parquetref03_Orient k (x.1) (x.2.1) (x.2.2), none⟩, ⟨68, [.d (.pair kI kI), .d (.pair kI kI), .d (.pair kI kI)], [.bool], fun x => g_parquetref04_on k (x.1) (x.2.1) (x.2.2), none⟩]) (EsOk.cons (EntryOk.of rfl (tells_parquetref03_Fits k)) (EsOk.cons (EntryOk.of rfl (tells_parquetref03_Orient k)) (EsOk.cons (EntryOk.of rfl (tells_parquetref04_on k)) (EsOk.nil _)))) Try.func46 (N := k) (an := an_parquetref04_Segs) (by kernel_rfl) x y ((eq_parquetref04_Segs k (g_parquetref03_Fits k) (g_parquetref03_Orient k) (g_parquetref04_on k) (x.1) (x.2.1) (x.2.2.1) (x.2.2.2)).trans h)

def an_parquetref04_Inside : Ann := .node none none .leaf (.node none none (.node (some [(6, .d .bool)]) none .leaf .leaf) .leaf)
def b_parquetref04_Inside (k : Nat) (c_parquetref04_on : (Int × Int) → (Int × Int) → (Int × Int) → Option Bool) (a0 : (Int × Int)) (a1 : (Int × Int)) (a2 : (Int × Int)) : Option Bool :=
  meet (α := Bool) (fun y0 =>
    some y0) fun j1 =>
   bnd (c_parquetref04_on (a0.1, a0.2) (a1.1, a1.2) (a2.1, a2.2)) fun r2 =>
   bif r2 then
    bif !((decide (a2.1 = a0.1)) && (decide (a2.2 = a0.2))) then
     j1 (!((decide (a2.1 = a1.1)) && (decide (a2.2 = a1.2))))
    else
     j1 false
   else
    j1 false
theorem eq_parquetref04_Inside (k : Nat) (c_parquetref04_on : (Int × Int) → (Int × Int) → (Int × Int) → Option Bool) (a0 : (Int × Int)) (a1 : (Int × Int)) (a2 : (Int × Int)) : textF [⟨68, [.d (.pair kI kI), .d (.pair kI kI), .d (.pair kI kI)], [.bool], fun x => c_parquetref04_on (x.1) (x.2.1) (x.2.2), none⟩] tb k Try.f45 an_parquetref04_Inside [.d (.pair kI kI), .d (.pair kI kI), .d (.pair kI kI)] [.bool] (a0, a1, a2) = b_parquetref04_Inside k c_parquetref04_on a0 a1 a2 := by kernel_rfl
def g_parquetref04_Inside (k : Nat) (a0 : (Int × Int)) (a1 : (Int × Int)) (a2 : (Int × Int)) : Option Bool := b_parquetref04_Inside k (g_parquetref04_on k) a0 a1 a2
theorem tells_parquetref04_Inside (k : Nat) : TellsF Try.prog 45 [.d (.pair kI kI), .d (.pair kI kI), .d (.pair kI kI)] [.bool] (fun x => g_parquetref04_Inside k (x.1) (x.2.1) (x.2.2)) := fun x y h => fun_tells tb_ok mix (es := [⟨68, [.d (.pair kI kI), .d (.pair kI kI), .d (.pair kI kI)], [.bool], fun x => g_parquetref04_on k (x.1) (x.2.1) (x.2.2), none⟩]) (EsOk.cons (EntryOk.of rfl (tells_parquetref04_on k)) (EsOk.nil _)) Try.func45 (N := k) (an := an_parquetref04_Inside) (by kernel_rfl) x y ((eq_parquetref04_Inside k (g_parquetref04_on k) (x.1) (x.2.1) (x.2.2)).trans h)

def an_parquetref10_pairs : Ann := .node none none .leaf (.node none none (.node none none .leaf (.node none none (.node none (some [(1, .box [.d (.pair (.sl (.pair kI kI)) (.pair (.sl (.pair kI kI)) (.sl (.pair kI kI))))]), (2, .box [.d (.pair kI (.pair kI kI))]), (3, .d kI)]) (.node none none .leaf (.node none none (.node none none (.node none none .leaf (.node none none (.node none (some [(1, .box [.d (.pair (.sl (.pair kI kI)) (.pair (.sl (.pair kI kI)) (.sl (.pair kI kI))))]), (2, .box [.d (.pair kI (.pair kI kI))]), (3, .d kI), (4, .d kI)]) .leaf .leaf) .leaf)) .leaf) .leaf)) .leaf) .leaf)) (.node none none .leaf (.node none none (.node none none .leaf (.node none none (.node none (some [(1, .box [.d (.pair (.sl (.pair kI kI)) (.pair (.sl (.pair kI kI)) (.sl (.pair kI kI))))]), (2, .box [.d (.pair kI (.pair kI kI))]), (5, .d (.sl (.pair kI kI))), (6, .d kI)]) .leaf .leaf) .leaf)) (.node none none (.node none none .leaf (.node none none (.node none (some [(1, .box [.d (.pair (.sl (.pair kI kI)) (.pair (.sl (.pair kI kI)) (.sl (.pair kI kI))))]), (2, .box [.d (.pair kI (.pair kI kI))]), (5, .d (.sl (.pair kI kI))), (7, .d kI)]) (.node none none .leaf (.node none none (.node none none (.node none none .leaf (.node none none (.node none (some [(1, .box [.d (.pair (.sl (.pair kI kI)) (.pair (.sl (.pair kI kI)) (.sl (.pair kI kI))))]), (2, .box [.d (.pair kI (.pair kI kI))]), (5, .d (.sl (.pair kI kI))), (7, .d kI), (8, .d kI)]) .leaf .leaf) .leaf)) .leaf) .leaf)) .leaf) .leaf)) (.node none none (.node none none .leaf (.node none none (.node none (some [(1, .box [.d (.pair (.sl (.pair kI kI)) (.pair (.sl (.pair kI kI)) (.sl (.pair kI kI))))]), (2, .box [.d (.pair kI (.pair kI kI))]), (5, .d (.sl (.pair kI kI))), (11, .d kI)]) (.node none none .leaf (.node none none (.node none none (.node none none .leaf (.node none none (.node none (some [(1, .box [.d (.pair (.sl (.pair kI kI)) (.pair (.sl (.pair kI kI)) (.sl (.pair kI kI))))]), (2, .box [.d (.pair kI (.pair kI kI))]), (5, .d (.sl (.pair kI kI))), (11, .d kI), (12, .d kI)]) .leaf .leaf) .leaf)) .leaf) .leaf)) .leaf) .leaf)) .leaf)))))
def b_parquetref10_pairs (k : Nat) (c_parquetref10_All : ((List (Int × Int)) × ((List (Int × Int)) × (List (Int × Int)))) → Option (List (Int × Int))) (c_parquetref04_Segs : (Int × Int) → (Int × Int) → (Int × Int) → (Int × Int) → Option (Int × Int)) (c_parquetref04_Inside : (Int × Int) → (Int × Int) → (Int × Int) → Option Bool) (a0 : ((List (Int × Int)) × ((List (Int × Int)) × (List (Int × Int))))) : Option (Int × (Int × Int)) :=
  loopN (α := (((List (Int × Int)) × ((List (Int × Int)) × (List (Int × Int)))) × ((Int × (Int × Int)) × Int))) (fun (x1, x2, x3) next0 =>
    bif decide (x3 < (x1.1.length : Int)) then
     loopN (α := (((List (Int × Int)) × ((List (Int × Int)) × (List (Int × Int)))) × ((Int × (Int × Int)) × (Int × Int)))) (fun (x5, x6, x7, x8) next4 =>
      bif decide (x8 < (x5.1.length : Int)) then
       gd (inb x7 x5.1.length) <|
       gd (inb x8 x5.1.length) <|
       bif (decide ((rdD (0, 0) x5.1 x7).1 = (rdD (0, 0) x5.1 x8).1)) && (decide ((rdD (0, 0) x5.1 x7).2 = (rdD (0, 0) x5.1 x8).2)) then
        some (1, x7, x8)
       else
        next4 ((x5.1, x5.2.1, x5.2.2), (x6.1, x6.2.1, x6.2.2), x7, w64 (x8 + 1))
      else
       next0 ((x5.1, x5.2.1, x5.2.2), (x6.1, x6.2.1, x6.2.2), w64 (x7 + 1))) k ((x1.1, x1.2.1, x1.2.2), (x2.1, x2.2.1, x2.2.2), x3, w64 (x3 + 1))
    else
     bnd (c_parquetref10_All (x1.1, x1.2.1, x1.2.2)) fun r9 =>
     loopN (α := (((List (Int × Int)) × ((List (Int × Int)) × (List (Int × Int)))) × ((Int × (Int × Int)) × ((List (Int × Int)) × Int)))) (fun (x11, x12, x13, x14) next10 =>
      bif decide (x14 < (x13.length : Int)) then
       gd (inb x14 x13.length) <|
       gd (inb x14 x13.length) <|
       bif decide ((rdD (0, 0) x13 x14).1 = (rdD (0, 0) x13 x14).2) then
        some (2, x14, 0)
       else
        next10 ((x11.1, x11.2.1, x11.2.2), (x12.1, x12.2.1, x12.2.2), x13, w64 (x14 + 1))
      else
       loopN (α := (((List (Int × Int)) × ((List (Int × Int)) × (List (Int × Int)))) × ((Int × (Int × Int)) × ((List (Int × Int)) × Int)))) (fun (x16, x17, x18, x19) next15 =>
        bif decide (x19 < (x18.length : Int)) then
         loopN (α := (((List (Int × Int)) × ((List (Int × Int)) × (List (Int × Int)))) × ((Int × (Int × Int)) × ((List (Int × Int)) × (Int × Int))))) (fun (x21, x22, x23, x24, x25) next20 =>
          bif decide (x25 < (x23.length : Int)) then
           gd (inb x24 x23.length) <|
           gd (inb (rdD (0, 0) x23 x24).1 x21.1.length) <|
           gd (inb x24 x23.length) <|
           gd (inb (rdD (0, 0) x23 x24).2 x21.1.length) <|
           gd (inb x25 x23.length) <|
           gd (inb (rdD (0, 0) x23 x25).1 x21.1.length) <|
           gd (inb x25 x23.length) <|
           gd (inb (rdD (0, 0) x23 x25).2 x21.1.length) <|
           bnd (c_parquetref04_Segs ((rdD (0, 0) x21.1 (rdD (0, 0) x23 x24).1).1, (rdD (0, 0) x21.1 (rdD (0, 0) x23 x24).1).2) ((rdD (0, 0) x21.1 (rdD (0, 0) x23 x24).2).1, (rdD (0, 0) x21.1 (rdD (0, 0) x23 x24).2).2) ((rdD (0, 0) x21.1 (rdD (0, 0) x23 x25).1).1, (rdD (0, 0) x21.1 (rdD (0, 0) x23 x25).1).2) ((rdD (0, 0) x21.1 (rdD (0, 0) x23 x25).2).1, (rdD (0, 0) x21.1 (rdD (0, 0) x23 x25).2).2)) fun r26 =>
           bif decide (r26.1 > 1) then
            some (3, x24, x25)
           else
            next20 ((x21.1, x21.2.1, x21.2.2), (x22.1, x22.2.1, x22.2.2), x23, x24, w64 (x25 + 1))
          else
           next15 ((x21.1, x21.2.1, x21.2.2), (x22.1, x22.2.1, x22.2.2), x23, w64 (x24 + 1))) k ((x16.1, x16.2.1, x16.2.2), (x17.1, x17.2.1, x17.2.2), x18, x19, w64 (x19 + 1))
        else
         loopN (α := (((List (Int × Int)) × ((List (Int × Int)) × (List (Int × Int)))) × ((Int × (Int × Int)) × ((List (Int × Int)) × Int)))) (fun (x28, x29, x30, x31) next27 =>
          bif decide (x31 < (x28.1.length : Int)) then
           loopN (α := (((List (Int × Int)) × ((List (Int × Int)) × (List (Int × Int)))) × ((Int × (Int × Int)) × ((List (Int × Int)) × (Int × Int))))) (fun (x33, x34, x35, x36, x37) next32 =>
            bif decide (x37 < (x35.length : Int)) then
             gd (inb x37 x35.length) <|
             gd (inb (rdD (0, 0) x35 x37).1 x33.1.length) <|
             gd (inb x37 x35.length) <|
             gd (inb (rdD (0, 0) x35 x37).2 x33.1.length) <|
             gd (inb x36 x33.1.length) <|
             bnd (c_parquetref04_Inside ((rdD (0, 0) x33.1 (rdD (0, 0) x35 x37).1).1, (rdD (0, 0) x33.1 (rdD (0, 0) x35 x37).1).2) ((rdD (0, 0) x33.1 (rdD (0, 0) x35 x37).2).1, (rdD (0, 0) x33.1 (rdD (0, 0) x35 x37).2).2) ((rdD (0, 0) x33.1 x36).1, (rdD (0, 0) x33.1 x36).2)) fun r38 =>
             bif r38 then
              some (4, x36, x37)
             else
              next32 ((x33.1, x33.2.1, x33.2.2), (x34.1, x34.2.1, x34.2.2), x35, x36, w64 (x37 + 1))
            else
             next27 ((x33.1, x33.2.1, x33.2.2), (x34.1, x34.2.1, x34.2.2), x35, w64 (x36 + 1))) k ((x28.1, x28.2.1, x28.2.2), (x29.1, x29.2.1, x29.2.2), x30, x31, 0)
          else
           some (0, 0, 0)) k ((x16.1, x16.2.1, x16.2.2), (x17.1, x17.2.1, x17.2.2), x18, 0)) k ((x11.1, x11.2.1, x11.2.2), (x12.1, x12.2.1, x12.2.2), x13, 0)) k ((x1.1, x1.2.1, x1.2.2), (x2.1, x2.2.1, x2.2.2), r9, 0)) k ((a0.1, a0.2.1, a0.2.2), (0, 0, 0), 0)
theorem eq_parquetref10_pairs (k : Nat) (c_parquetref10_All : ((List (Int × Int)) × ((List (Int × Int)) × (List (Int × Int)))) → Option (List (Int × Int))) (c_parquetref04_Segs : (Int × Int) → (Int × Int) → (Int × Int) → (Int × Int) → Option (Int × Int)) (c_parquetref04_Inside : (Int × Int) → (Int × Int) → (Int × Int) → Option Bool) (a0 : ((List (Int × Int)) × ((List (Int × Int)) × (List (Int × Int))))) : textF [⟨23, [.d (.pair (.sl (.pair kI kI)) (.pair (.sl (.pair kI kI)) (.sl (.pair kI kI))))], [.sl (.pair kI kI)], fun x => c_parquetref10_All x, none⟩, ⟨46, [.d (.pair kI kI), .d (.pair kI kI), .d (.pair kI kI), .d (.pair kI kI)], [kI, kI], fun x => c_parquetref04_Segs (x.1) (x.2.1) (x.2.2.1) (x.2.2.2), none⟩, ⟨45, [.d (.pair kI kI), .d (.pair kI kI), .d (.pair kI kI)], [.bool], fun x => c_parquetref04_Inside (x.1) (x.2.1) (x.2.2), none⟩] tb k Try.f33 an_parquetref10_pairs [.d (.pair (.sl (.pair kI kI)) (.pair (.sl (.pair kI kI)) (.sl (.pair kI kI))))] [.pair kI (.pair kI kI)] a0 = b_parquetref10_pairs k c_parquetref10_All c_parquetref04_Segs c_parquetref04_Inside a0 := by kernel_rfl
def g_parquetref10_pairs (k : Nat) (a0 : ((List (Int × Int)) × ((List (Int × Int)) × (List (Int × Int))))) : Option (Int × (Int × Int)) := b_parquetref10_pairs k (g_parquetref10_All k) (g_parquetref04_Segs k) (g_parquetref04_Inside k) a0
theorem tells_parquetref10_pairs (k : Nat) : TellsF Try.prog 33 [.d (.pair (.sl (.pair kI kI)) (.pair (.sl (.pair kI kI)) (.sl (.pair kI kI))))] [.pair kI (.pair kI kI)] (fun x => g_parquetref10_pairs k x) := fun x y h => fun_tells tb_ok mix (es := [⟨23, [.d (.pair (.sl (.pair kI kI)) (.pair (.sl (.pair kI kI)) (.sl (.pair kI kI))))], [.sl (.pair kI kI)], fun x => g_parquetref10_All k x, none⟩, ⟨46, [.d (.pair kI kI), .d (.pair kI kI), .d (.pair kI kI), .d (.pair kI kI)], [kI, kI], fun x => g_parquetref04_Segs k (x.1) (x.2.1) (x.2.2.1) (x.2.2.2), none⟩, ⟨45, [.d (.pair kI kI), .d (.pair kI kI), .d (.pair kI kI)], [.bool], fun x => g_parquetref04_Inside k (x.1) (x.2.1) (x.2.2), none⟩]) (EsOk.cons (EntryOk.of rfl (tells_parquetref10_All k)) (EsOk.cons (EntryOk.of rfl (tells_parquetref04_Segs k)) (EsOk.cons (EntryOk.of rfl (tells_parquetref04_Inside k)) (EsOk.nil _)))) Try.func33 (N := k) (an := an_parquetref10_pairs) (by kernel_rfl) x y ((eq_parquetref10_pairs k (g_parquetref10_All k) (g_parquetref04_Segs k) (g_parquetref04_Inside k) x).trans h)

end Go.Proofs.Ytjbimhfhapnjeaa.AM
