/- The functions, by their texts: written by a program. -/
import Derived.Test.YtfmeicojiadeiaaAm
import Derived.Test.YtfmeicojiadeiaaProg
set_option linter.unusedVariables false
set_option maxRecDepth 100000
namespace Go.Proofs.Ytfmeicojiadeiaa.AM
open Go.RowKit Go.Proofs
abbrev kI : Kd := .int .i64
def tb : Tb := [
  (3, ⟨.int .i64, 1, 8, [.int .i64 0], some kI, none⟩),
  (4, ⟨.bool, 1, 1, [.bool false], some .bool, none⟩),
  (22, ⟨.sl 28, 1, 24, [.nil], some (.sl (.pair kI kI)), none⟩),
  (24, ⟨.sl 3, 1, 24, [.nil], some (.sl kI), none⟩),
  (28, ⟨.st [(0, 3), (1, 3)], 2, 16, [.int .i64 0, .int .i64 0], some (.pair kI kI), some [kI, kI]⟩)]
theorem tb_ok : TbOk Try.prog tb := tbB_ok (by kernel_rfl)
theorem mix : Try.prog.follows .mixedOrders = true := by kernel_rfl
def an_sorts_Less : Ann := .node none none .leaf (.node none none (.node (some [(4, .d .bool)]) none .leaf .leaf) .leaf)
def g_sorts_Less (k : Nat) (a0 : (Int × Int)) (a1 : (Int × Int)) : Option Bool :=
  meet (α := Bool) (fun y0 =>
    some y0) fun j1 =>
   bif decide (a0.1 < a1.1) then
    j1 true
   else
    bif decide (a0.1 = a1.1) then
     j1 (decide (a0.2 < a1.2))
    else
     j1 false
theorem eq_sorts_Less (k : Nat) (a0 : (Int × Int)) (a1 : (Int × Int)) : textF [] tb k Try.f20 an_sorts_Less [.d (.pair kI kI), .d (.pair kI kI)] [.bool] (a0, a1) = g_sorts_Less k a0 a1 := by kernel_rfl
theorem tells_sorts_Less (k : Nat) : TellsF Try.prog 20 [.d (.pair kI kI), .d (.pair kI kI)] [.bool] (fun x => g_sorts_Less k (x.1) (x.2)) := fun x y h => fun_tells tb_ok mix (es := []) (EsOk.nil _) Try.func20 (N := k) (an := an_sorts_Less) (by kernel_rfl) x y ((eq_sorts_Less k (x.1) (x.2)).trans h)

def an_sorts_Order_1 : Ann := .leaf
def b_sorts_Order_1 (k : Nat) (c_sorts_Less : (Int × Int) → (Int × Int) → Option Bool) (a0 : Int) (a1 : Int) (a2 : (List (Int × Int))) : Option Bool :=
  gd (inb a0 a2.length) <|
   gd (inb a1 a2.length) <|
   bnd (c_sorts_Less ((rdD (0, 0) a2 a0).1, (rdD (0, 0) a2 a0).2) ((rdD (0, 0) a2 a1).1, (rdD (0, 0) a2 a1).2)) fun r0 =>
   some r0
theorem eq_sorts_Order_1 (k : Nat) (c_sorts_Less : (Int × Int) → (Int × Int) → Option Bool) (a0 : Int) (a1 : Int) (a2 : (List (Int × Int))) : textF [⟨20, [.d (.pair kI kI), .d (.pair kI kI)], [.bool], fun x => c_sorts_Less (x.1) (x.2)⟩] tb k Try.f31 an_sorts_Order_1 [.d kI, .d kI, .kp (.sl (.pair kI kI))] [.bool] (a0, a1, a2) = b_sorts_Order_1 k c_sorts_Less a0 a1 a2 := by kernel_rfl
def g_sorts_Order_1 (k : Nat) (a0 : Int) (a1 : Int) (a2 : (List (Int × Int))) : Option Bool := b_sorts_Order_1 k (g_sorts_Less k) a0 a1 a2
theorem tells_sorts_Order_1 (k : Nat) : TellsF Try.prog 31 [.d kI, .d kI, .kp (.sl (.pair kI kI))] [.bool] (fun x => g_sorts_Order_1 k (x.1) (x.2.1) (x.2.2)) := fun x y h => fun_tells tb_ok mix (es := [⟨20, [.d (.pair kI kI), .d (.pair kI kI)], [.bool], fun x => g_sorts_Less k (x.1) (x.2)⟩]) (EsOk.cons ⟨rfl, tells_sorts_Less k⟩ (EsOk.nil _)) Try.func31 (N := k) (an := an_sorts_Order_1) (by kernel_rfl) x y ((eq_sorts_Order_1 k (g_sorts_Less k) (x.1) (x.2.1) (x.2.2)).trans h)

def an_sorts_Merge_int : Ann := .node none none .leaf (.node none none .leaf (.node none none (.node none none (.node none (some [(0, .d (.sl kI)), (1, .d (.sl kI)), (2, .fn 31 [] [(.kp (.sl (.pair kI kI)))]), (7, .row kI 3)]) (.node none none (.node none none (.node (some [(0, .d (.sl kI)), (1, .d (.sl kI)), (2, .fn 31 [] [(.kp (.sl (.pair kI kI)))]), (7, .row kI 3), (15, .d .bool)]) none .leaf .leaf) .leaf) (.node none none (.node none none .leaf (.node (some [(0, .d (.sl kI)), (1, .d (.sl kI)), (2, .fn 31 [] [(.kp (.sl (.pair kI kI)))]), (7, .row kI 3)]) none (.reg none [(5, 7)]) (.reg none [(5, 7)]))) .leaf)) .leaf) .leaf) .leaf))
def b_sorts_Merge_int (k : Nat) (c_sorts_Order_1 : Int → Int → (List (Int × Int)) → Option Bool) (a0 : (List Int)) (a1 : (List Int)) (a2 : (Unit × (List (Int × Int)))) : Option (List Int) :=
  loopN (α := ((List Int) × ((List Int) × ((Unit × (List (Int × Int))) × (List Int))))) (fun (x1, x2, x3, x4) next0 =>
    meet (α := ((List Int) × ((List Int) × ((Unit × (List (Int × Int))) × ((List Int) × Bool))))) (fun (y5, y6, y7, y8, y9) =>
     bif y9 then
      gd (inb 0 y6.length) <|
      gd (inb 0 y5.length) <|
      bnd (c_sorts_Order_1 (rdD 0 y6 0) (rdD 0 y5 0) y7.2) fun r10 =>
      meet (α := ((List Int) × ((List Int) × ((Unit × (List (Int × Int))) × (List Int))))) (fun (y11, y12, y13, y14) =>
       next0 (y11, y12, ((), y13.2), y14)) fun j15 =>
      bif r10 then
       gd (inb 0 y6.length) <|
       gd (few (y8.length + 1)) <|
       gd (decide (1 ≤ (y6.length : Int))) <|
       j15 (y5, dpL y6 1, ((), y7.2), y8 ++ [rdD 0 y6 0])
      else
       gd (inb 0 y5.length) <|
       gd (few (y8.length + 1)) <|
       gd (decide (1 ≤ (y5.length : Int))) <|
       j15 (dpL y5 1, y6, ((), y7.2), y8 ++ [rdD 0 y5 0])
     else
      gd (few (y8.length + y5.length)) <|
      gd (few ((y8 ++ y5).length + y6.length)) <|
      some ((y8 ++ y5) ++ y6)) fun j16 =>
    bif decide ((x1.length : Int) > 0) then
     j16 (x1, x2, ((), x3.2), x4, decide ((x2.length : Int) > 0))
    else
     j16 (x1, x2, ((), x3.2), x4, false)) k (a0, a1, ((), a2.2), [])
theorem eq_sorts_Merge_int (k : Nat) (c_sorts_Order_1 : Int → Int → (List (Int × Int)) → Option Bool) (a0 : (List Int)) (a1 : (List Int)) (a2 : (Unit × (List (Int × Int)))) : textF [⟨31, [.d kI, .d kI, .kp (.sl (.pair kI kI))], [.bool], fun x => c_sorts_Order_1 (x.1) (x.2.1) (x.2.2)⟩] tb k Try.f22 an_sorts_Merge_int [.d (.sl kI), .d (.sl kI), .fn 31 [] [(.kp (.sl (.pair kI kI)))]] [.sl kI] (a0, a1, a2) = b_sorts_Merge_int k c_sorts_Order_1 a0 a1 a2 := by kernel_rfl
def g_sorts_Merge_int (k : Nat) (a0 : (List Int)) (a1 : (List Int)) (a2 : (Unit × (List (Int × Int)))) : Option (List Int) := b_sorts_Merge_int k (g_sorts_Order_1 k) a0 a1 a2
theorem tells_sorts_Merge_int (k : Nat) : TellsF Try.prog 22 [.d (.sl kI), .d (.sl kI), .fn 31 [] [(.kp (.sl (.pair kI kI)))]] [.sl kI] (fun x => g_sorts_Merge_int k (x.1) (x.2.1) (x.2.2)) := fun x y h => fun_tells tb_ok mix (es := [⟨31, [.d kI, .d kI, .kp (.sl (.pair kI kI))], [.bool], fun x => g_sorts_Order_1 k (x.1) (x.2.1) (x.2.2)⟩]) (EsOk.cons ⟨rfl, tells_sorts_Order_1 k⟩ (EsOk.nil _)) Try.func22 (N := k) (an := an_sorts_Merge_int) (by kernel_rfl) x y ((eq_sorts_Merge_int k (g_sorts_Order_1 k) (x.1) (x.2.1) (x.2.2)).trans h)

def an_sorts_Sort_int : Ann := .leaf
def b_sorts_Sort_int (k : Nat) (c_sorts_Sort_int : (List Int) → (Unit × (List (Int × Int))) → Option (List Int)) (c_sorts_Merge_int : (List Int) → (List Int) → (Unit × (List (Int × Int))) → Option (List Int)) (a0 : (List Int)) (a1 : (Unit × (List (Int × Int)))) : Option (List Int) :=
  bif decide ((a0.length : Int) < 2) then
    gd (few a0.length) <|
    some a0
   else
    gd (decide (0 ≤ (w64 ((a0.length : Int).tdiv 2)))) <|
    gd (decide ((w64 ((a0.length : Int).tdiv 2)) ≤ (a0.length : Int))) <|
    bnd (c_sorts_Sort_int (tkL a0 (w64 ((a0.length : Int).tdiv 2))) ((), a1.2)) fun r0 =>
    gd (decide (0 ≤ (w64 ((a0.length : Int).tdiv 2)))) <|
    gd (decide ((w64 ((a0.length : Int).tdiv 2)) ≤ (a0.length : Int))) <|
    bnd (c_sorts_Sort_int (dpL a0 (w64 ((a0.length : Int).tdiv 2))) ((), a1.2)) fun r1 =>
    bnd (c_sorts_Merge_int r0 r1 ((), a1.2)) fun r2 =>
    some r2
theorem eq_sorts_Sort_int (k : Nat) (c_sorts_Sort_int : (List Int) → (Unit × (List (Int × Int))) → Option (List Int)) (c_sorts_Merge_int : (List Int) → (List Int) → (Unit × (List (Int × Int))) → Option (List Int)) (a0 : (List Int)) (a1 : (Unit × (List (Int × Int)))) : textF [⟨25, [.d (.sl kI), .fn 31 [] [(.kp (.sl (.pair kI kI)))]], [.sl kI], fun x => c_sorts_Sort_int (x.1) (x.2)⟩, ⟨22, [.d (.sl kI), .d (.sl kI), .fn 31 [] [(.kp (.sl (.pair kI kI)))]], [.sl kI], fun x => c_sorts_Merge_int (x.1) (x.2.1) (x.2.2)⟩] tb k Try.f25 an_sorts_Sort_int [.d (.sl kI), .fn 31 [] [(.kp (.sl (.pair kI kI)))]] [.sl kI] (a0, a1) = b_sorts_Sort_int k c_sorts_Sort_int c_sorts_Merge_int a0 a1 := by kernel_rfl
def r_sorts_Sort_int (k : Nat) : Nat → (List Int) → (Unit × (List (Int × Int))) → Option (List Int)
  | 0 => fun a0 a1 => none
  | n + 1 => fun a0 a1 => b_sorts_Sort_int k (r_sorts_Sort_int k n) (g_sorts_Merge_int k) a0 a1
def g_sorts_Sort_int (k : Nat) (a0 : (List Int)) (a1 : (Unit × (List (Int × Int)))) : Option (List Int) := r_sorts_Sort_int k k a0 a1
theorem tellsr_sorts_Sort_int (k : Nat) : ∀ n, TellsF Try.prog 25 [.d (.sl kI), .fn 31 [] [(.kp (.sl (.pair kI kI)))]] [.sl kI] (fun x => r_sorts_Sort_int k n (x.1) (x.2))
  | 0 => fun x y h => by cases h
  | n + 1 => fun x y h => fun_tells tb_ok mix (es := [⟨25, [.d (.sl kI), .fn 31 [] [(.kp (.sl (.pair kI kI)))]], [.sl kI], fun x => r_sorts_Sort_int k n (x.1) (x.2)⟩, ⟨22, [.d (.sl kI), .d (.sl kI), .fn 31 [] [(.kp (.sl (.pair kI kI)))]], [.sl kI], fun x => g_sorts_Merge_int k (x.1) (x.2.1) (x.2.2)⟩]) (EsOk.cons ⟨rfl, tellsr_sorts_Sort_int k n⟩ (EsOk.cons ⟨rfl, tells_sorts_Merge_int k⟩ (EsOk.nil _))) Try.func25 (N := k) (an := an_sorts_Sort_int) (by kernel_rfl) x y ((eq_sorts_Sort_int k (r_sorts_Sort_int k n) (g_sorts_Merge_int k) (x.1) (x.2)).trans h)
theorem tells_sorts_Sort_int (k : Nat) : TellsF Try.prog 25 [.d (.sl kI), .fn 31 [] [(.kp (.sl (.pair kI kI)))]] [.sl kI] (fun x => g_sorts_Sort_int k (x.1) (x.2)) := tellsr_sorts_Sort_int k k

def an_sorts_Order : Ann := .node none none .leaf (.node none none .leaf (.node none none (.node none none .leaf (.node none none (.node none (some [(1, .box [.d (.sl (.pair kI kI))]), (3, .row kI 3), (6, .d kI), (7, .d kI)]) .leaf .leaf) .leaf)) .leaf))
def b_sorts_Order (k : Nat) (c_sorts_Sort_int : (List Int) → (Unit × (List (Int × Int))) → Option (List Int)) (a0 : (List (Int × Int))) : Option (List Int) :=
  loopN (α := ((List (Int × Int)) × ((List Int) × (Int × Int)))) (fun (x1, x2, x3, x4) next0 =>
    bif decide (x4 < x3) then
     gd (few (x2.length + 1)) <|
     next0 (x1, x2 ++ [x4], x3, w64 (x4 + 1))
    else
     bnd (c_sorts_Sort_int x2 ((), x1)) fun r5 =>
     some r5) k (a0, [], (a0.length : Int), 0)
theorem eq_sorts_Order (k : Nat) (c_sorts_Sort_int : (List Int) → (Unit × (List (Int × Int))) → Option (List Int)) (a0 : (List (Int × Int))) : textF [⟨25, [.d (.sl kI), .fn 31 [] [(.kp (.sl (.pair kI kI)))]], [.sl kI], fun x => c_sorts_Sort_int (x.1) (x.2)⟩] tb k Try.f11 an_sorts_Order [.d (.sl (.pair kI kI))] [.sl kI] a0 = b_sorts_Order k c_sorts_Sort_int a0 := by kernel_rfl
def g_sorts_Order (k : Nat) (a0 : (List (Int × Int))) : Option (List Int) := b_sorts_Order k (g_sorts_Sort_int k) a0
theorem tells_sorts_Order (k : Nat) : TellsF Try.prog 11 [.d (.sl (.pair kI kI))] [.sl kI] (fun x => g_sorts_Order k x) := fun x y h => fun_tells tb_ok mix (es := [⟨25, [.d (.sl kI), .fn 31 [] [(.kp (.sl (.pair kI kI)))]], [.sl kI], fun x => g_sorts_Sort_int k (x.1) (x.2)⟩]) (EsOk.cons ⟨rfl, tells_sorts_Sort_int k⟩ (EsOk.nil _)) Try.func11 (N := k) (an := an_sorts_Order) (by kernel_rfl) x y ((eq_sorts_Order k (g_sorts_Sort_int k) x).trans h)

def an_sorts_Twice : Ann := .node none none .leaf (.node none none .leaf (.node none none .leaf (.node none none (.node none none .leaf (.node none none (.node none (some [(0, .d (.sl (.pair kI kI))), (5, .d kI), (6, .d kI), (7, .d .bool), (8, .d (.sl kI)), (9, .d kI)]) (.node none none .leaf (.node none none (.node none none (.node none none .leaf (.node none none (.node (some [(0, .d (.sl (.pair kI kI))), (5, .d kI), (6, .d kI), (7, .d .bool), (8, .d (.sl kI)), (9, .d kI), (10, .d kI), (11, .d kI), (46, .d .bool)]) none .leaf .leaf) (.node (some [(0, .d (.sl (.pair kI kI))), (5, .d kI), (6, .d kI), (7, .d .bool), (8, .d (.sl kI)), (9, .d kI)]) none .leaf .leaf))) .leaf) .leaf)) .leaf) .leaf)) .leaf)))
def b_sorts_Twice (k : Nat) (c_sorts_Order : (List (Int × Int)) → Option (List Int)) (a0 : (List (Int × Int))) : Option (Int × Int × Bool) :=
  bnd (c_sorts_Order a0) fun r0 =>
   loopN (α := ((List (Int × Int)) × (Int × (Int × (Bool × ((List Int) × Int)))))) (fun (x2, x3, x4, x5, x6, x7) next1 =>
    bif decide (x7 < (x6.length : Int)) then
     gd (inb (w64 (x7 - 1)) x6.length) <|
     gd (inb x7 x6.length) <|
     meet (α := ((List (Int × Int)) × (Int × (Int × (Bool × ((List Int) × (Int × (Int × (Int × Bool))))))))) (fun (y8, y9, y10, y11, y12, y13, y14, y15, y16) =>
      meet (α := ((List (Int × Int)) × (Int × (Int × (Bool × ((List Int) × Int)))))) (fun (y17, y18, y19, y20, y21, y22) =>
       next1 (y17, y18, y19, y20, y21, w64 (y22 + 1))) fun j23 =>
      bif y16 then
       j23 (y8, y14, y15, true, y12, y13)
      else
       j23 (y8, y9, y10, y11, y12, y13)) fun j24 =>
     gd (inb (rdD 0 x6 (w64 (x7 - 1))) x2.length) <|
     gd (inb (rdD 0 x6 x7) x2.length) <|
     bif (decide ((rdD (0, 0) x2 (rdD 0 x6 (w64 (x7 - 1)))).1 = (rdD (0, 0) x2 (rdD 0 x6 x7)).1)) && (decide ((rdD (0, 0) x2 (rdD 0 x6 (w64 (x7 - 1)))).2 = (rdD (0, 0) x2 (rdD 0 x6 x7)).2)) then
      bif !x5 then
       j24 (x2, x3, x4, x5, x6, x7, rdD 0 x6 (w64 (x7 - 1)), rdD 0 x6 x7, true)
      else
       j24 (x2, x3, x4, x5, x6, x7, rdD 0 x6 (w64 (x7 - 1)), rdD 0 x6 x7, decide ((rdD 0 x6 (w64 (x7 - 1))) < x3))
     else
      j24 (x2, x3, x4, x5, x6, x7, rdD 0 x6 (w64 (x7 - 1)), rdD 0 x6 x7, false)
    else
     some (x3, x4, x5)) k (a0, 0, 0, false, r0, 1)
theorem eq_sorts_Twice (k : Nat) (c_sorts_Order : (List (Int × Int)) → Option (List Int)) (a0 : (List (Int × Int))) : textF [⟨11, [.d (.sl (.pair kI kI))], [.sl kI], fun x => c_sorts_Order x⟩] tb k Try.f16 an_sorts_Twice [.d (.sl (.pair kI kI))] [kI, kI, .bool] a0 = b_sorts_Twice k c_sorts_Order a0 := by kernel_rfl
def g_sorts_Twice (k : Nat) (a0 : (List (Int × Int))) : Option (Int × Int × Bool) := b_sorts_Twice k (g_sorts_Order k) a0
theorem tells_sorts_Twice (k : Nat) : TellsF Try.prog 16 [.d (.sl (.pair kI kI))] [kI, kI, .bool] (fun x => g_sorts_Twice k x) := fun x y h => fun_tells tb_ok mix (es := [⟨11, [.d (.sl (.pair kI kI))], [.sl kI], fun x => g_sorts_Order k x⟩]) (EsOk.cons ⟨rfl, tells_sorts_Order k⟩ (EsOk.nil _)) Try.func16 (N := k) (an := an_sorts_Twice) (by kernel_rfl) x y ((eq_sorts_Twice k (g_sorts_Order k) x).trans h)

def an_sorts_Box : Ann := .node none none .leaf (.node none none .leaf (.node none none (.reg none [(5, 8)]) (.node none none (.node none none .leaf (.node none none (.node none (some [(2, .box [.d (.pair kI kI)]), (3, .box [.d (.pair kI kI)]), (5, .box [.d (.pair kI kI)]), (6, .box [.d (.pair kI kI)]), (20, .d (.sl (.pair kI kI))), (21, .d kI), (22, .d kI)]) .leaf .leaf) .leaf)) (.node none none (.reg none [(1, 2)]) .leaf))))
def g_sorts_Box (k : Nat) (a0 : (List (Int × Int))) : Option ((Int × Int) × (Int × Int) × Bool) :=
  bif decide ((a0.length : Int) = 0) then
    some ((0, 0), (0, 0), false)
   else
    gd (inb 0 a0.length) <|
    gd (inb 0 a0.length) <|
    loopN (α := ((Int × Int) × ((Int × Int) × ((Int × Int) × ((Int × Int) × ((List (Int × Int)) × (Int × Int))))))) (fun (x1, x2, x3, x4, x5, x6, x7) next0 =>
     bif decide (x7 < x6) then
      gd (inb x7 x5.length) <|
      next0 ((x1.1, x1.2), (x2.1, x2.2), (mnI x3.1 (rdD (0, 0) x5 x7).1, mnI x3.2 (rdD (0, 0) x5 x7).2), (mxI x4.1 (rdD (0, 0) x5 x7).1, mxI x4.2 (rdD (0, 0) x5 x7).2), x5, x6, w64 (x7 + 1))
     else
      some ((x3.1, x3.2), (x4.1, x4.2), true)) k ((0, 0), (0, 0), ((rdD (0, 0) a0 0).1, (rdD (0, 0) a0 0).2), ((rdD (0, 0) a0 0).1, (rdD (0, 0) a0 0).2), a0, (a0.length : Int), 0)
theorem eq_sorts_Box (k : Nat) (a0 : (List (Int × Int))) : textF [] tb k Try.f18 an_sorts_Box [.d (.sl (.pair kI kI))] [.pair kI kI, .pair kI kI, .bool] a0 = g_sorts_Box k a0 := by kernel_rfl
theorem tells_sorts_Box (k : Nat) : TellsF Try.prog 18 [.d (.sl (.pair kI kI))] [.pair kI kI, .pair kI kI, .bool] (fun x => g_sorts_Box k x) := fun x y h => fun_tells tb_ok mix (es := []) (EsOk.nil _) Try.func18 (N := k) (an := an_sorts_Box) (by kernel_rfl) x y ((eq_sorts_Box k x).trans h)

def an_parquetref00_SameInts : Ann := .node none none .leaf (.node none none .leaf (.node none none (.node none none .leaf (.node none none (.node none (some [(0, .d (.sl kI)), (1, .d (.sl kI)), (5, .d kI)]) .leaf .leaf) .leaf)) .leaf))
def g_parquetref00_SameInts (k : Nat) (a0 : (List Int)) (a1 : (List Int)) : Option Bool :=
  bif !(decide ((a0.length : Int) = (a1.length : Int))) then
    some false
   else
    loopN (α := ((List Int) × ((List Int) × Int))) (fun (x1, x2, x3) next0 =>
     bif decide (x3 < (x1.length : Int)) then
      gd (inb x3 x1.length) <|
      gd (inb x3 x2.length) <|
      bif !(decide ((rdD 0 x1 x3) = (rdD 0 x2 x3))) then
       some false
      else
       next0 (x1, x2, w64 (x3 + 1))
     else
      some true) k (a0, a1, 0)
theorem eq_parquetref00_SameInts (k : Nat) (a0 : (List Int)) (a1 : (List Int)) : textF [] tb k Try.f13 an_parquetref00_SameInts [.d (.sl kI), .d (.sl kI)] [.bool] (a0, a1) = g_parquetref00_SameInts k a0 a1 := by kernel_rfl
theorem tells_parquetref00_SameInts (k : Nat) : TellsF Try.prog 13 [.d (.sl kI), .d (.sl kI)] [.bool] (fun x => g_parquetref00_SameInts k (x.1) (x.2)) := fun x y h => fun_tells tb_ok mix (es := []) (EsOk.nil _) Try.func13 (N := k) (an := an_parquetref00_SameInts) (by kernel_rfl) x y ((eq_parquetref00_SameInts k (x.1) (x.2)).trans h)

def an_sorts_Ranks : Ann := .node none none .leaf (.node none none .leaf (.node none none .leaf (.node none none (.node none none .leaf (.node none none (.node none (some [(0, .d (.sl (.pair kI kI))), (3, .row kI 3), (4, .d kI), (5, .d kI), (12, .d (.sl kI)), (13, .d kI), (14, .d kI)]) (.node none none .leaf (.node none none .leaf (.node none none (.node none none (.node none none .leaf (.node none none (.node none none (.node (some [(0, .d (.sl (.pair kI kI))), (3, .row kI 3), (4, .d kI), (7, .d kI), (12, .d (.sl kI)), (13, .d kI), (14, .d kI), (30, .d .bool)]) none .leaf .leaf) (.node (some [(0, .d (.sl (.pair kI kI))), (3, .row kI 3), (4, .d kI), (7, .d kI), (12, .d (.sl kI)), (13, .d kI), (14, .d kI)]) none .leaf .leaf)) .leaf)) .leaf) .leaf))) .leaf) .leaf)) .leaf)))
def b_sorts_Ranks (k : Nat) (c_sorts_Order : (List (Int × Int)) → Option (List Int)) (a0 : (List (Int × Int))) : Option (List Int) :=
  gd (decide (0 ≤ (a0.length : Int))) <|
   gd (fewI (a0.length : Int)) <|
   bnd (c_sorts_Order a0) fun r0 =>
   loopN (α := ((List (Int × Int)) × ((List Int) × (Int × (Int × ((List Int) × (Int × Int))))))) (fun (x2, x3, x4, x5, x6, x7, x8) next1 =>
    bif decide (x8 < x7) then
     gd (inb x8 x6.length) <|
     meet (α := ((List (Int × Int)) × ((List Int) × (Int × (Int × ((List Int) × (Int × (Int × Bool)))))))) (fun (y9, y10, y11, y12, y13, y14, y15, y16) =>
      meet (α := ((List (Int × Int)) × ((List Int) × (Int × (Int × ((List Int) × (Int × Int))))))) (fun (y17, y18, y19, y20, y21, y22, y23) =>
       gd (inb y20 y18.length) <|
       next1 (y17, stL y18 y20 y19, y19, y20, y21, y22, w64 (y23 + 1))) fun j24 =>
      bif y16 then
       j24 (y9, y10, w64 (y11 + 1), y12, y13, y14, y15)
      else
       j24 (y9, y10, y11, y12, y13, y14, y15)) fun j25 =>
     bif decide (x5 ≥ 0) then
      gd (inb (rdD 0 x6 x8) x2.length) <|
      gd (inb x5 x2.length) <|
      j25 (x2, x3, x4, rdD 0 x6 x8, x6, x7, x8, !((decide ((rdD (0, 0) x2 (rdD 0 x6 x8)).1 = (rdD (0, 0) x2 x5).1)) && (decide ((rdD (0, 0) x2 (rdD 0 x6 x8)).2 = (rdD (0, 0) x2 x5).2))))
     else
      j25 (x2, x3, x4, rdD 0 x6 x8, x6, x7, x8, false)
    else
     some x3) k (a0, rpL (a0.length : Int) 0, 0, (-1), r0, (r0.length : Int), 0)
theorem eq_sorts_Ranks (k : Nat) (c_sorts_Order : (List (Int × Int)) → Option (List Int)) (a0 : (List (Int × Int))) : textF [⟨11, [.d (.sl (.pair kI kI))], [.sl kI], fun x => c_sorts_Order x⟩] tb k Try.f12 an_sorts_Ranks [.d (.sl (.pair kI kI))] [.sl kI] a0 = b_sorts_Ranks k c_sorts_Order a0 := by kernel_rfl
def g_sorts_Ranks (k : Nat) (a0 : (List (Int × Int))) : Option (List Int) := b_sorts_Ranks k (g_sorts_Order k) a0
theorem tells_sorts_Ranks (k : Nat) : TellsF Try.prog 12 [.d (.sl (.pair kI kI))] [.sl kI] (fun x => g_sorts_Ranks k x) := fun x y h => fun_tells tb_ok mix (es := [⟨11, [.d (.sl (.pair kI kI))], [.sl kI], fun x => g_sorts_Order k x⟩]) (EsOk.cons ⟨rfl, tells_sorts_Order k⟩ (EsOk.nil _)) Try.func12 (N := k) (an := an_sorts_Ranks) (by kernel_rfl) x y ((eq_sorts_Ranks k (g_sorts_Order k) x).trans h)

def an_parquetlaw07_known : Ann := .node none none .leaf (.node none none .leaf (.node none none .leaf (.node none none .leaf (.node none none (.node (some [(0, .d .bool)]) none .leaf .leaf) .leaf))))
def b_parquetlaw07_known (k : Nat) (c_sorts_Twice : (List (Int × Int)) → Option (Int × Int × Bool)) (c_sorts_Box : (List (Int × Int)) → Option ((Int × Int) × (Int × Int) × Bool)) (c_sorts_Order : (List (Int × Int)) → Option (List Int)) (c_parquetref00_SameInts : (List Int) → (List Int) → Option Bool) (c_sorts_Ranks : (List (Int × Int)) → Option (List Int)) : Option Bool :=
  bnd (c_sorts_Twice [(4, 0), (0, 9), (0, 1), (4, 0)]) fun r0 =>
   bnd (c_sorts_Box [(4, 0), (0, 9), (0, 1), (4, 0)]) fun r1 =>
   meet (α := Bool) (fun y2 =>
    some y2) fun j3 =>
   bnd (c_sorts_Order [(4, 0), (0, 9), (0, 1), (4, 0)]) fun r4 =>
   bnd (c_parquetref00_SameInts r4 [2, 1, 0, 3]) fun r5 =>
   bif r5 then
    bnd (c_sorts_Ranks [(4, 0), (0, 9), (0, 1), (4, 0)]) fun r6 =>
    bnd (c_parquetref00_SameInts r6 [2, 1, 0, 2]) fun r7 =>
    bif r7 then
     bif decide (r0.1 = 0) then
      bif decide (r0.2.1 = 3) then
       bif r0.2.2 then
        bif (decide (r1.1.1 = 0)) && (decide (r1.1.2 = 0)) then
         bif (decide (r1.2.1.1 = 4)) && (decide (r1.2.1.2 = 9)) then
          j3 r1.2.2
         else
          j3 false
        else
         j3 false
       else
        j3 false
      else
       j3 false
     else
      j3 false
    else
     j3 false
   else
    j3 false
theorem eq_parquetlaw07_known (k : Nat) (c_sorts_Twice : (List (Int × Int)) → Option (Int × Int × Bool)) (c_sorts_Box : (List (Int × Int)) → Option ((Int × Int) × (Int × Int) × Bool)) (c_sorts_Order : (List (Int × Int)) → Option (List Int)) (c_parquetref00_SameInts : (List Int) → (List Int) → Option Bool) (c_sorts_Ranks : (List (Int × Int)) → Option (List Int)) : textF [⟨16, [.d (.sl (.pair kI kI))], [kI, kI, .bool], fun x => c_sorts_Twice x⟩, ⟨18, [.d (.sl (.pair kI kI))], [.pair kI kI, .pair kI kI, .bool], fun x => c_sorts_Box x⟩, ⟨11, [.d (.sl (.pair kI kI))], [.sl kI], fun x => c_sorts_Order x⟩, ⟨13, [.d (.sl kI), .d (.sl kI)], [.bool], fun x => c_parquetref00_SameInts (x.1) (x.2)⟩, ⟨12, [.d (.sl (.pair kI kI))], [.sl kI], fun x => c_sorts_Ranks x⟩] tb k Try.f10 an_parquetlaw07_known [] [.bool] () = b_parquetlaw07_known k c_sorts_Twice c_sorts_Box c_sorts_Order c_parquetref00_SameInts c_sorts_Ranks := by kernel_rfl
def g_parquetlaw07_known (k : Nat) : Option Bool := b_parquetlaw07_known k (g_sorts_Twice k) (g_sorts_Box k) (g_sorts_Order k) (g_parquetref00_SameInts k) (g_sorts_Ranks k)
theorem tells_parquetlaw07_known (k : Nat) : TellsF Try.prog 10 [] [.bool] (fun x => g_parquetlaw07_known k) := fun x y h => fun_tells tb_ok mix (es := [⟨16, [.d (.sl (.pair kI kI))], [kI, kI, .bool], fun x => g_sorts_Twice k x⟩, ⟨18, [.d (.sl (.pair kI kI))], [.pair kI kI, .pair kI kI, .bool], fun x => g_sorts_Box k x⟩, ⟨11, [.d (.sl (.pair kI kI))], [.sl kI], fun x => g_sorts_Order k x⟩, ⟨13, [.d (.sl kI), .d (.sl kI)], [.bool], fun x => g_parquetref00_SameInts k (x.1) (x.2)⟩, ⟨12, [.d (.sl (.pair kI kI))], [.sl kI], fun x => g_sorts_Ranks k x⟩]) (EsOk.cons ⟨rfl, tells_sorts_Twice k⟩ (EsOk.cons ⟨rfl, tells_sorts_Box k⟩ (EsOk.cons ⟨rfl, tells_sorts_Order k⟩ (EsOk.cons ⟨rfl, tells_parquetref00_SameInts k⟩ (EsOk.cons ⟨rfl, tells_sorts_Ranks k⟩ (EsOk.nil _)))))) Try.func10 (N := k) (an := an_parquetlaw07_known) (by kernel_rfl) x y ((eq_parquetlaw07_known k (g_sorts_Twice k) (g_sorts_Box k) (g_sorts_Order k) (g_parquetref00_SameInts k) (g_sorts_Ranks k)).trans h)

def an_parquetlaw07_SortsBoxes : Ann := .node none none .leaf (.node none none (.node none none (.node (some [(0, .d (.sl (.pair kI kI))), (1, .d (.sl (.pair kI kI))), (30, .d .bool)]) none .leaf .leaf) .leaf) (.node none none .leaf (.node none none .leaf (.node none none .leaf (.node none none .leaf (.node none none .leaf (.node none none .leaf (.node none none (.node none none .leaf (.node none none (.node none (some [(0, .d (.sl (.pair kI kI))), (1, .d (.sl (.pair kI kI))), (5, .box [.d (.pair kI kI)]), (6, .box [.d (.pair kI kI)]), (7, .d .bool), (8, .d .bool), (9, .d .bool), (10, .d .bool), (11, .d .bool), (12, .d kI)]) (.node none none .leaf (.node none none (.node none none (.node none none (.node none none (.node (some [(0, .d (.sl (.pair kI kI))), (1, .d (.sl (.pair kI kI))), (5, .box [.d (.pair kI kI)]), (6, .box [.d (.pair kI kI)]), (7, .d .bool), (8, .d .bool), (9, .d .bool), (10, .d .bool), (11, .d .bool), (12, .d kI), (86, .d .bool)]) none .leaf .leaf) .leaf) (.node none none (.node (some [(0, .d (.sl (.pair kI kI))), (1, .d (.sl (.pair kI kI))), (5, .box [.d (.pair kI kI)]), (6, .box [.d (.pair kI kI)]), (7, .d .bool), (8, .d .bool), (9, .d .bool), (10, .d .bool), (11, .d .bool), (12, .d kI)]) none .leaf .leaf) (.node none none (.node (some [(0, .d (.sl (.pair kI kI))), (1, .d (.sl (.pair kI kI))), (5, .box [.d (.pair kI kI)]), (6, .box [.d (.pair kI kI)]), (7, .d .bool), (8, .d .bool), (9, .d .bool), (10, .d .bool), (11, .d .bool), (12, .d kI)]) none .leaf .leaf) (.node none none (.node (some [(0, .d (.sl (.pair kI kI))), (1, .d (.sl (.pair kI kI))), (5, .box [.d (.pair kI kI)]), (6, .box [.d (.pair kI kI)]), (7, .d .bool), (8, .d .bool), (9, .d .bool), (10, .d .bool), (11, .d .bool), (12, .d kI)]) none .leaf .leaf) (.node (some [(0, .d (.sl (.pair kI kI))), (1, .d (.sl (.pair kI kI))), (5, .box [.d (.pair kI kI)]), (6, .box [.d (.pair kI kI)]), (7, .d .bool), (8, .d .bool), (9, .d .bool), (10, .d .bool), (11, .d .bool), (12, .d kI)]) none .leaf .leaf))))) .leaf) .leaf)) .leaf) .leaf)) (.node none none (.node none none (.node (some [(0, .d (.sl (.pair kI kI))), (1, .d (.sl (.pair kI kI))), (5, .box [.d (.pair kI kI)]), (6, .box [.d (.pair kI kI)]), (7, .d .bool), (147, .d .bool)]) none .leaf .leaf) .leaf) (.node none none .leaf (.node none none .leaf (.node none none .leaf (.node none none .leaf (.node none none .leaf (.node none none (.node none none (.node (some [(5, .box [.d (.pair kI kI)]), (6, .box [.d (.pair kI kI)]), (7, .d .bool), (14, .box [.d (.pair kI kI)]), (15, .box [.d (.pair kI kI)]), (16, .d .bool), (17, .box [.d (.pair kI kI)]), (18, .box [.d (.pair kI kI)]), (19, .d .bool), (171, .d .bool)]) none .leaf .leaf) (.node none none (.node none none (.node (some [(4, .d .bool)]) none .leaf .leaf) .leaf) .leaf)) (.node none none .leaf (.node none none (.node (some [(4, .d .bool)]) none .leaf .leaf) .leaf)))))))))))))))))
def b_parquetlaw07_SortsBoxes (k : Nat) (c_parquetlaw07_known : Option Bool) (c_sorts_Box : (List (Int × Int)) → Option ((Int × Int) × (Int × Int) × Bool)) (a0 : (List (Int × Int))) (a1 : (List (Int × Int))) : Option Bool :=
  meet (α := ((List (Int × Int)) × ((List (Int × Int)) × Bool))) (fun (y0, y1, y2) =>
    bif y2 then
     bnd (c_parquetlaw07_known) fun r3 =>
     some r3
    else
     bnd (c_sorts_Box y0) fun r4 =>
     bif !(r4.2.2 == (decide ((y0.length : Int) > 0))) then
      some false
     else
      loopN (α := ((List (Int × Int)) × ((List (Int × Int)) × ((Int × Int) × ((Int × Int) × (Bool × (Bool × (Bool × (Bool × (Bool × Int)))))))))) (fun (x6, x7, x8, x9, x10, x11, x12, x13, x14, x15) next5 =>
       bif decide (x15 < (x6.length : Int)) then
        meet (α := ((List (Int × Int)) × ((List (Int × Int)) × ((Int × Int) × ((Int × Int) × (Bool × (Bool × (Bool × (Bool × (Bool × (Int × Bool))))))))))) (fun (y16, y17, y18, y19, y20, y21, y22, y23, y24, y25, y26) =>
         bif y26 then
          some false
         else
          meet (α := ((List (Int × Int)) × ((List (Int × Int)) × ((Int × Int) × ((Int × Int) × (Bool × (Bool × (Bool × (Bool × (Bool × Int)))))))))) (fun (y27, y28, y29, y30, y31, y32, y33, y34, y35, y36) =>
           meet (α := ((List (Int × Int)) × ((List (Int × Int)) × ((Int × Int) × ((Int × Int) × (Bool × (Bool × (Bool × (Bool × (Bool × Int)))))))))) (fun (y37, y38, y39, y40, y41, y42, y43, y44, y45, y46) =>
            meet (α := ((List (Int × Int)) × ((List (Int × Int)) × ((Int × Int) × ((Int × Int) × (Bool × (Bool × (Bool × (Bool × (Bool × Int)))))))))) (fun (y47, y48, y49, y50, y51, y52, y53, y54, y55, y56) =>
             meet (α := ((List (Int × Int)) × ((List (Int × Int)) × ((Int × Int) × ((Int × Int) × (Bool × (Bool × (Bool × (Bool × (Bool × Int)))))))))) (fun (y57, y58, y59, y60, y61, y62, y63, y64, y65, y66) =>
              next5 (y57, y58, (y59.1, y59.2), (y60.1, y60.2), y61, y62, y63, y64, y65, w64 (y66 + 1))) fun j67 =>
             bif y55 then
              j67 (y47, y48, (y49.1, y49.2), (y50.1, y50.2), y51, y52, y53, y54, true, y56)
             else
              gd (inb y56 y47.length) <|
              j67 (y47, y48, (y49.1, y49.2), (y50.1, y50.2), y51, y52, y53, y54, decide ((rdD (0, 0) y47 y56).2 = y50.2), y56)) fun j68 =>
            bif y44 then
             j68 (y37, y38, (y39.1, y39.2), (y40.1, y40.2), y41, y42, y43, true, y45, y46)
            else
             gd (inb y46 y37.length) <|
             j68 (y37, y38, (y39.1, y39.2), (y40.1, y40.2), y41, y42, y43, decide ((rdD (0, 0) y37 y46).2 = y39.2), y45, y46)) fun j69 =>
           bif y33 then
            j69 (y27, y28, (y29.1, y29.2), (y30.1, y30.2), y31, y32, true, y34, y35, y36)
           else
            gd (inb y36 y27.length) <|
            j69 (y27, y28, (y29.1, y29.2), (y30.1, y30.2), y31, y32, decide ((rdD (0, 0) y27 y36).1 = y30.1), y34, y35, y36)) fun j70 =>
          bif y21 then
           j70 (y16, y17, (y18.1, y18.2), (y19.1, y19.2), y20, true, y22, y23, y24, y25)
          else
           gd (inb y25 y16.length) <|
           j70 (y16, y17, (y18.1, y18.2), (y19.1, y19.2), y20, decide ((rdD (0, 0) y16 y25).1 = y18.1), y22, y23, y24, y25)) fun j71 =>
        gd (inb x15 x6.length) <|
        bif decide ((rdD (0, 0) x6 x15).1 < x8.1) then
         j71 (x6, x7, (x8.1, x8.2), (x9.1, x9.2), x10, x11, x12, x13, x14, x15, true)
        else
         gd (inb x15 x6.length) <|
         bif decide ((rdD (0, 0) x6 x15).1 > x9.1) then
          j71 (x6, x7, (x8.1, x8.2), (x9.1, x9.2), x10, x11, x12, x13, x14, x15, true)
         else
          gd (inb x15 x6.length) <|
          bif decide ((rdD (0, 0) x6 x15).2 < x8.2) then
           j71 (x6, x7, (x8.1, x8.2), (x9.1, x9.2), x10, x11, x12, x13, x14, x15, true)
          else
           gd (inb x15 x6.length) <|
           j71 (x6, x7, (x8.1, x8.2), (x9.1, x9.2), x10, x11, x12, x13, x14, x15, decide ((rdD (0, 0) x6 x15).2 > x9.2))
       else
        meet (α := ((List (Int × Int)) × ((List (Int × Int)) × ((Int × Int) × ((Int × Int) × (Bool × Bool)))))) (fun (y72, y73, y74, y75, y76, y77) =>
         bif y77 then
          some false
         else
          gd (few y72.length) <|
          gd (few (y72.length + y73.length)) <|
          bnd (c_sorts_Box y73) fun r78 =>
          bnd (c_sorts_Box (y72 ++ y73)) fun r79 =>
          meet (α := ((Int × Int) × ((Int × Int) × (Bool × ((Int × Int) × ((Int × Int) × (Bool × ((Int × Int) × ((Int × Int) × (Bool × Bool)))))))))) (fun (y80, y81, y82, y83, y84, y85, y86, y87, y88, y89) =>
           bif y89 then
            meet (α := Bool) (fun y90 =>
             some y90) fun j91 =>
            bif y82 then
             bif y88 == true then
              bnd (c_parquetlaw07_known) fun r92 =>
              j91 r92
             else
              j91 false
            else
             bif y88 == y85 then
              bnd (c_parquetlaw07_known) fun r93 =>
              j91 r93
             else
              j91 false
           else
            bnd (c_sorts_Box [(y80.1, y80.2), (y81.1, y81.2), (y83.1, y83.2), (y84.1, y84.2)]) fun r94 =>
            meet (α := Bool) (fun y95 =>
             some y95) fun j96 =>
            bif (decide (y86.1 = r94.1.1)) && (decide (y86.2 = r94.1.2)) then
             bif (decide (y87.1 = r94.2.1.1)) && (decide (y87.2 = r94.2.1.2)) then
              bif y88 then
               bnd (c_parquetlaw07_known) fun r97 =>
               j96 r97
              else
               j96 false
             else
              j96 false
            else
             j96 false) fun j98 =>
          bif !y76 then
           j98 ((y74.1, y74.2), (y75.1, y75.2), y76, (r78.1.1, r78.1.2), (r78.2.1.1, r78.2.1.2), r78.2.2, (r79.1.1, r79.1.2), (r79.2.1.1, r79.2.1.2), r79.2.2, true)
          else
           j98 ((y74.1, y74.2), (y75.1, y75.2), y76, (r78.1.1, r78.1.2), (r78.2.1.1, r78.2.1.2), r78.2.2, (r79.1.1, r79.1.2), (r79.2.1.1, r79.2.1.2), r79.2.2, !r78.2.2)) fun j99 =>
        bif x10 then
         bif !x11 then
          j99 (x6, x7, (x8.1, x8.2), (x9.1, x9.2), x10, true)
         else
          bif !x12 then
           j99 (x6, x7, (x8.1, x8.2), (x9.1, x9.2), x10, true)
          else
           bif !x13 then
            j99 (x6, x7, (x8.1, x8.2), (x9.1, x9.2), x10, true)
           else
            j99 (x6, x7, (x8.1, x8.2), (x9.1, x9.2), x10, !x14)
        else
         j99 (x6, x7, (x8.1, x8.2), (x9.1, x9.2), x10, false)) k (y0, y1, (r4.1.1, r4.1.2), (r4.2.1.1, r4.2.1.2), r4.2.2, false, false, false, false, 0)) fun j100 =>
   bif decide ((a0.length : Int) > 300) then
    j100 (a0, a1, true)
   else
    j100 (a0, a1, decide ((a1.length : Int) > 300))
theorem eq_parquetlaw07_SortsBoxes (k : Nat) (c_parquetlaw07_known : Option Bool) (c_sorts_Box : (List (Int × Int)) → Option ((Int × Int) × (Int × Int) × Bool)) (a0 : (List (Int × Int))) (a1 : (List (Int × Int))) : textF [⟨10, [], [.bool], fun x => c_parquetlaw07_known⟩, ⟨18, [.d (.sl (.pair kI kI))], [.pair kI kI, .pair kI kI, .bool], fun x => c_sorts_Box x⟩] tb k Try.f8 an_parquetlaw07_SortsBoxes [.d (.sl (.pair kI kI)), .d (.sl (.pair kI kI))] [.bool] (a0, a1) = b_parquetlaw07_SortsBoxes k c_parquetlaw07_known c_sorts_Box a0 a1 := by kernel_rfl
def g_parquetlaw07_SortsBoxes (k : Nat) (a0 : (List (Int × Int))) (a1 : (List (Int × Int))) : Option Bool := b_parquetlaw07_SortsBoxes k (g_parquetlaw07_known k) (g_sorts_Box k) a0 a1
theorem tells_parquetlaw07_SortsBoxes (k : Nat) : TellsF Try.prog 8 [.d (.sl (.pair kI kI)), .d (.sl (.pair kI kI))] [.bool] (fun x => g_parquetlaw07_SortsBoxes k (x.1) (x.2)) := fun x y h => fun_tells tb_ok mix (es := [⟨10, [], [.bool], fun x => g_parquetlaw07_known k⟩, ⟨18, [.d (.sl (.pair kI kI))], [.pair kI kI, .pair kI kI, .bool], fun x => g_sorts_Box k x⟩]) (EsOk.cons ⟨rfl, tells_parquetlaw07_known k⟩ (EsOk.cons ⟨rfl, tells_sorts_Box k⟩ (EsOk.nil _))) Try.func8 (N := k) (an := an_parquetlaw07_SortsBoxes) (by kernel_rfl) x y ((eq_parquetlaw07_SortsBoxes k (g_parquetlaw07_known k) (g_sorts_Box k) (x.1) (x.2)).trans h)

end Go.Proofs.Ytfmeicojiadeiaa.AM
