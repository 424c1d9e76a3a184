/- The functions, by their texts: written by a program. -/
import Derived.Test.YtjbimhfhapnjeaaGa3
set_option linter.unusedVariables false
set_option maxRecDepth 100000
namespace Go.Proofs.Ytjbimhfhapnjeaa.AM
open Go.RowKit Go.Proofs
def an_parquetref09_times : Ann := .leaf
def g_parquetref09_times (k : Nat) (a0 : (Int × Int)) (a1 : Int) : Option (Int × Int) :=
  some (w64 (a1 * a0.1), w64 (a1 * a0.2))
theorem eq_parquetref09_times (k : Nat) (a0 : (Int × Int)) (a1 : Int) : textF [] tb k Try.f76 an_parquetref09_times [.d (.pair kI kI), .d kI] [.pair kI kI] (a0, a1) = g_parquetref09_times k a0 a1 := by kernel_rfl
theorem tells_parquetref09_times (k : Nat) : TellsF Try.prog 76 [.d (.pair kI kI), .d kI] [.pair kI kI] (fun x => g_parquetref09_times k (x.1) (x.2)) := fun x y h => fun_tells tb_ok mix (es := []) (EsOk.nil _) Try.func76 (N := k) (an := an_parquetref09_times) (by kernel_rfl) x y ((eq_parquetref09_times k (x.1) (x.2)).trans h)

def an_parquetref09_Check : Ann := .node none none .leaf (.node none none (.node none none .leaf (.node none none (.node none (some [(0, .d (.sl (.pair kI kI))), (1, .d (.sl (.pair kI kI))), (2, .d kI), (7, .d kI)]) (.node none none .leaf (.node none none (.node none none (.node none none .leaf (.node none none (.node none none (.node (some [(0, .d (.sl (.pair kI kI))), (1, .d (.sl (.pair kI kI))), (2, .d kI), (7, .d kI), (8, .box [.d (.pair kI kI)]), (53, .d .bool)]) none .leaf .leaf) .leaf) (.node none none (.node (some [(0, .d (.sl (.pair kI kI))), (1, .d (.sl (.pair kI kI))), (2, .d kI), (7, .d kI), (91, .d .bool)]) none .leaf .leaf) .leaf))) .leaf) .leaf)) .leaf) .leaf)) .leaf)
def b_parquetref09_Check (k : Nat) (c_parquetref03_Fits : (Int × Int) → Option Bool) (c_parquetref09_times : (Int × Int) → Int → Option (Int × Int)) (a0 : (List (Int × Int))) (a1 : (List (Int × Int))) (a2 : Int) : Option Bool :=
  loopN (α := ((List (Int × Int)) × ((List (Int × Int)) × (Int × Int)))) (fun (x1, x2, x3, x4) next0 =>
    bif decide (x4 < (x2.length : Int)) then
     gd (inb x4 x2.length) <|
     meet (α := ((List (Int × Int)) × ((List (Int × Int)) × (Int × (Int × ((Int × Int) × Bool)))))) (fun (y5, y6, y7, y8, y9, y10) =>
      bif y10 then
       some false
      else
       meet (α := ((List (Int × Int)) × ((List (Int × Int)) × (Int × (Int × Bool))))) (fun (y11, y12, y13, y14, y15) =>
        bif y15 then
         some false
        else
         next0 (y11, y12, y13, w64 (y14 + 1))) fun j16 =>
       gd (inb y9.1 y5.length) <|
       bnd (c_parquetref03_Fits ((rdD (0, 0) y5 y9.1).1, (rdD (0, 0) y5 y9.1).2)) fun r17 =>
       bif !r17 then
        j16 (y5, y6, y7, y8, true)
       else
        gd (inb y9.2 y5.length) <|
        bnd (c_parquetref03_Fits ((rdD (0, 0) y5 y9.2).1, (rdD (0, 0) y5 y9.2).2)) fun r18 =>
        bif !r18 then
         j16 (y5, y6, y7, y8, true)
        else
         gd (inb y9.1 y5.length) <|
         bnd (c_parquetref09_times ((rdD (0, 0) y5 y9.1).1, (rdD (0, 0) y5 y9.1).2) y7) fun r19 =>
         bnd (c_parquetref03_Fits (r19.1, r19.2)) fun r20 =>
         bif !r20 then
          j16 (y5, y6, y7, y8, true)
         else
          gd (inb y9.2 y5.length) <|
          bnd (c_parquetref09_times ((rdD (0, 0) y5 y9.2).1, (rdD (0, 0) y5 y9.2).2) y7) fun r21 =>
          bnd (c_parquetref03_Fits (r21.1, r21.2)) fun r22 =>
          j16 (y5, y6, y7, y8, !r22)) fun j23 =>
     bif decide ((rdD (0, 0) x2 x4).1 < 0) then
      j23 (x1, x2, x3, x4, ((rdD (0, 0) x2 x4).1, (rdD (0, 0) x2 x4).2), true)
     else
      bif decide ((rdD (0, 0) x2 x4).2 < 0) then
       j23 (x1, x2, x3, x4, ((rdD (0, 0) x2 x4).1, (rdD (0, 0) x2 x4).2), true)
      else
       bif decide ((rdD (0, 0) x2 x4).1 ≥ (x1.length : Int)) then
        j23 (x1, x2, x3, x4, ((rdD (0, 0) x2 x4).1, (rdD (0, 0) x2 x4).2), true)
       else
        bif decide ((rdD (0, 0) x2 x4).2 ≥ (x1.length : Int)) then
         j23 (x1, x2, x3, x4, ((rdD (0, 0) x2 x4).1, (rdD (0, 0) x2 x4).2), true)
        else
         gd (inb (rdD (0, 0) x2 x4).1 x1.length) <|
         gd (inb (rdD (0, 0) x2 x4).2 x1.length) <|
         j23 (x1, x2, x3, x4, ((rdD (0, 0) x2 x4).1, (rdD (0, 0) x2 x4).2), (decide ((rdD (0, 0) x1 (rdD (0, 0) x2 x4).1).1 = (rdD (0, 0) x1 (rdD (0, 0) x2 x4).2).1)) && (decide ((rdD (0, 0) x1 (rdD (0, 0) x2 x4).1).2 = (rdD (0, 0) x1 (rdD (0, 0) x2 x4).2).2)))
    else
     some true) k (a0, a1, a2, 0)
theorem eq_parquetref09_Check (k : Nat) (c_parquetref03_Fits : (Int × Int) → Option Bool) (c_parquetref09_times : (Int × Int) → Int → Option (Int × Int)) (a0 : (List (Int × Int))) (a1 : (List (Int × Int))) (a2 : Int) : textF [⟨69, [.d (.pair kI kI)], [.bool], fun x => c_parquetref03_Fits x, none⟩, ⟨76, [.d (.pair kI kI), .d kI], [.pair kI kI], fun x => c_parquetref09_times (x.1) (x.2), none⟩] tb k Try.f71 an_parquetref09_Check [.d (.sl (.pair kI kI)), .d (.sl (.pair kI kI)), .d kI] [.bool] (a0, a1, a2) = b_parquetref09_Check k c_parquetref03_Fits c_parquetref09_times a0 a1 a2 := by kernel_rfl
def g_parquetref09_Check (k : Nat) (a0 : (List (Int × Int))) (a1 : (List (Int × Int))) (a2 : Int) : Option Bool := b_parquetref09_Check k (g_parquetref03_Fits k) (g_parquetref09_times k) a0 a1 a2
theorem tells_parquetref09_Check (k : Nat) : TellsF Try.prog 71 [.d (.sl (.pair kI kI)), .d (.sl (.pair kI kI)), .d kI] [.bool] (fun x => g_parquetref09_Check k (x.1) (x.2.1) (x.2.2)) := fun x y h => fun_tells tb_ok mix (es := [⟨69, [.d (.pair kI kI)], [.bool], fun x => g_parquetref03_Fits k x, none⟩, ⟨76, [.d (.pair kI kI), .d kI], [.pair kI kI], fun x => g_parquetref09_times k (x.1) (x.2), none⟩]) (EsOk.cons (EntryOk.of rfl (tells_parquetref03_Fits k)) (EsOk.cons (EntryOk.of rfl (tells_parquetref09_times k)) (EsOk.nil _))) Try.func71 (N := k) (an := an_parquetref09_Check) (by kernel_rfl) x y ((eq_parquetref09_Check k (g_parquetref03_Fits k) (g_parquetref09_times k) (x.1) (x.2.1) (x.2.2)).trans h)

def an_parquetref04_On : Ann := .leaf
def b_parquetref04_On (k : Nat) (c_parquetref04_on : (Int × Int) → (Int × Int) → (Int × Int) → Option Bool) (a0 : (Int × Int)) (a1 : (Int × Int)) (a2 : (Int × Int)) : Option Bool :=
  bnd (c_parquetref04_on (a0.1, a0.2) (a1.1, a1.2) (a2.1, a2.2)) fun r0 =>
   some r0
theorem eq_parquetref04_On (k : Nat) (c_parquetref04_on : (Int × Int) → (Int × Int) → (Int × Int) → Option Bool) (a0 : (Int × Int)) (a1 : (Int × Int)) (a2 : (Int × Int)) : textF [⟨68, [.d (.pair kI kI), .d (.pair kI kI), .d (.pair kI kI)], [.bool], fun x => c_parquetref04_on (x.1) (x.2.1) (x.2.2), none⟩] tb k Try.f77 an_parquetref04_On [.d (.pair kI kI), .d (.pair kI kI), .d (.pair kI kI)] [.bool] (a0, a1, a2) = b_parquetref04_On k c_parquetref04_on a0 a1 a2 := by kernel_rfl
def g_parquetref04_On (k : Nat) (a0 : (Int × Int)) (a1 : (Int × Int)) (a2 : (Int × Int)) : Option Bool := b_parquetref04_On k (g_parquetref04_on k) a0 a1 a2
theorem tells_parquetref04_On (k : Nat) : TellsF Try.prog 77 [.d (.pair kI kI), .d (.pair kI kI), .d (.pair kI kI)] [.bool] (fun x => g_parquetref04_On k (x.1) (x.2.1) (x.2.2)) := fun x y h => fun_tells tb_ok mix (es := [⟨68, [.d (.pair kI kI), .d (.pair kI kI), .d (.pair kI kI)], [.bool], fun x => g_parquetref04_on k (x.1) (x.2.1) (x.2.2), none⟩]) (EsOk.cons (EntryOk.of rfl (tells_parquetref04_on k)) (EsOk.nil _)) Try.func77 (N := k) (an := an_parquetref04_On) (by kernel_rfl) x y ((eq_parquetref04_On k (g_parquetref04_on k) (x.1) (x.2.1) (x.2.2)).trans h)

def an_parquetref09_farther : Ann := .leaf
def b_parquetref09_farther (k : Nat) (c_parquetref01_Small : Int → Option (Bool × (List Int))) (c_parquetref01_Num_Times : (Bool × (List Int)) → (Bool × (List Int)) → Option (Bool × (List Int))) (c_parquetref01_Num_Plus : (Bool × (List Int)) → (Bool × (List Int)) → Option (Bool × (List Int))) (c_parquetref01_Num_Neg : (Bool × (List Int)) → Option (Bool × (List Int))) (c_parquetref01_Num_Sign : (Bool × (List Int)) → Option Int) (a0 : (Int × Int)) (a1 : (Int × Int)) (a2 : (Int × Int)) : Option Bool :=
  bnd (c_parquetref01_Small (w64 (a1.2 - a0.2))) fun r0 =>
   bnd (c_parquetref01_Small a0.1) fun r1 =>
   bnd (c_parquetref01_Num_Times (r1.1, r1.2) (r0.1, r0.2)) fun r2 =>
   bnd (c_parquetref01_Small (w64 (a1.1 - a0.1))) fun r3 =>
   bnd (c_parquetref01_Small (w64 (a2.2 - a0.2))) fun r4 =>
   bnd (c_parquetref01_Num_Times (r3.1, r3.2) (r4.1, r4.2)) fun r5 =>
   bnd (c_parquetref01_Num_Plus (r2.1, r2.2) (r5.1, r5.2)) fun r6 =>
   bnd (c_parquetref01_Small a2.1) fun r7 =>
   bnd (c_parquetref01_Num_Times (r7.1, r7.2) (r0.1, r0.2)) fun r8 =>
   bnd (c_parquetref01_Num_Neg (r8.1, r8.2)) fun r9 =>
   bnd (c_parquetref01_Num_Plus (r6.1, r6.2) (r9.1, r9.2)) fun r10 =>
   bnd (c_parquetref01_Num_Sign (r10.1, r10.2)) fun r11 =>
   bnd (c_parquetref01_Num_Sign (r0.1, r0.2)) fun r12 =>
   some (decide ((w64 (r11 * r12)) > 0))
theorem eq_parquetref09_farther (k : Nat) (c_parquetref01_Small : Int → Option (Bool × (List Int))) (c_parquetref01_Num_Times : (Bool × (List Int)) → (Bool × (List Int)) → Option (Bool × (List Int))) (c_parquetref01_Num_Plus : (Bool × (List Int)) → (Bool × (List Int)) → Option (Bool × (List Int))) (c_parquetref01_Num_Neg : (Bool × (List Int)) → Option (Bool × (List Int))) (c_parquetref01_Num_Sign : (Bool × (List Int)) → Option Int) (a0 : (Int × Int)) (a1 : (Int × Int)) (a2 : (Int × Int)) : textF [⟨82, [.d kI], [.pair .bool (.sl kI)], fun x => c_parquetref01_Small x, none⟩, ⟨83, [.d (.pair .bool (.sl kI)), .d (.pair .bool (.sl kI))], [.pair .bool (.sl kI)], fun x => c_parquetref01_Num_Times (x.1) (x.2), none⟩, ⟨84, [.d (.pair .bool (.sl kI)), .d (.pair .bool (.sl kI))], [.pair .bool (.sl kI)], fun x => c_parquetref01_Num_Plus (x.1) (x.2), none⟩, ⟨91, [.d (.pair .bool (.sl kI))], [.pair .bool (.sl kI)], fun x => c_parquetref01_Num_Neg x, none⟩, ⟨85, [.d (.pair .bool (.sl kI))], [kI], fun x => c_parquetref01_Num_Sign x, none⟩] tb k Try.f78 an_parquetref09_farther [.d (.pair kI kI), .d (.pair kI kI), .d (.pair kI kI)] [.bool] (a0, a1, a2) = b_parquetref09_farther k c_parquetref01_Small c_parquetref01_Num_Times c_parquetref01_Num_Plus c_parquetref01_Num_Neg c_parquetref01_Num_Sign a0 a1 a2 := by kernel_rfl
def g_parquetref09_farther (k : Nat) (a0 : (Int × Int)) (a1 : (Int × Int)) (a2 : (Int × Int)) : Option Bool := b_parquetref09_farther k (g_parquetref01_Small k) (g_parquetref01_Num_Times k) (g_parquetref01_Num_Plus k) (g_parquetref01_Num_Neg k) (g_parquetref01_Num_Sign k) a0 a1 a2
theorem tells_parquetref09_farther (k : Nat) : TellsF Try.prog 78 [.d (.pair kI kI), .d (.pair kI kI), .d (.pair kI kI)] [.bool] (fun x => g_parquetref09_farther k (x.1) (x.2.1) (x.2.2)) := fun x y h => fun_tells tb_ok mix (es := [⟨82, [.d kI], [.pair .bool (.sl kI)], fun x => g_parquetref01_Small k x, none⟩, ⟨83, [.d (.pair .bool (.sl kI)), .d (.pair .bool (.sl kI))], [.pair .bool (.sl kI)], fun x => g_parquetref01_Num_Times k (x.1) (x.2), none⟩, ⟨84, [.d (.pair .bool (.sl kI)), .d (.pair .bool (.sl kI))], [.pair .bool (.sl kI)], fun x => g_parquetref01_Num_Plus k (x.1) (x.2), none⟩, ⟨91, [.d (.pair .bool (.sl kI))], [.pair .bool (.sl kI)], fun x => g_parquetref01_Num_Neg k x, none⟩, ⟨85, [.d (.pair .bool (.sl kI))], [kI], fun x => g_parquetref01_Num_Sign k x, none⟩]) (EsOk.cons (EntryOk.of rfl (tells_parquetref01_Small k)) (EsOk.cons (EntryOk.of rfl (tells_parquetref01_Num_Times k)) (EsOk.cons (EntryOk.of rfl (tells_parquetref01_Num_Plus k)) (EsOk.cons (EntryOk.of rfl (tells_parquetref01_Num_Neg k)) (EsOk.cons (EntryOk.of rfl (tells_parquetref01_Num_Sign k)) (EsOk.nil _)))))) Try.func78 (N := k) (an := an_parquetref09_farther) (by kernel_rfl) x y ((eq_parquetref09_farther k (g_parquetref01_Small k) (g_parquetref01_Num_Times k) (g_parquetref01_Num_Plus k) (g_parquetref01_Num_Neg k) (g_parquetref01_Num_Sign k) (x.1) (x.2.1) (x.2.2)).trans h)

def an_parquetref09_Where : Ann := .node none none .leaf (.node none none .leaf (.node none none (.node none none .leaf (.node none none (.node none (some [(0, .d (.sl (.pair kI kI))), (1, .d (.sl (.pair kI kI))), (2, .d kI), (7, .box [.d (.pair kI kI)]), (9, .d kI), (10, .d kI)]) (.node none none .leaf (.node none none (.node none none (.node none none .leaf (.node none none .leaf (.node none none .leaf (.node none none (.node (some [(0, .d (.sl (.pair kI kI))), (1, .d (.sl (.pair kI kI))), (2, .d kI), (7, .box [.d (.pair kI kI)]), (9, .d kI), (10, .d kI), (59, .d .bool)]) none .leaf .leaf) (.node (some [(0, .d (.sl (.pair kI kI))), (1, .d (.sl (.pair kI kI))), (2, .d kI), (7, .box [.d (.pair kI kI)]), (9, .d kI), (10, .d kI)]) none .leaf .leaf))))) .leaf) .leaf)) .leaf) .leaf)) .leaf))
def b_parquetref09_Where (k : Nat) (c_parquetref09_times : (Int × Int) → Int → Option (Int × Int)) (c_parquetref04_On : (Int × Int) → (Int × Int) → (Int × Int) → Option Bool) (c_parquetref09_farther : (Int × Int) → (Int × Int) → (Int × Int) → Option Bool) (a0 : (List (Int × Int))) (a1 : (List (Int × Int))) (a2 : Int) (a3 : (Int × Int)) : Option Int :=
  loopN (α := ((List (Int × Int)) × ((List (Int × Int)) × (Int × ((Int × Int) × (Int × Int)))))) (fun (x1, x2, x3, x4, x5, x6) next0 =>
    bif decide (x6 < (x2.length : Int)) then
     gd (inb x6 x2.length) <|
     gd (inb (rdD (0, 0) x2 x6).1 x1.length) <|
     bnd (c_parquetref09_times ((rdD (0, 0) x1 (rdD (0, 0) x2 x6).1).1, (rdD (0, 0) x1 (rdD (0, 0) x2 x6).1).2) x3) fun r7 =>
     gd (inb x6 x2.length) <|
     gd (inb (rdD (0, 0) x2 x6).2 x1.length) <|
     bnd (c_parquetref09_times ((rdD (0, 0) x1 (rdD (0, 0) x2 x6).2).1, (rdD (0, 0) x1 (rdD (0, 0) x2 x6).2).2) x3) fun r8 =>
     bnd (c_parquetref04_On (r7.1, r7.2) (r8.1, r8.2) (x4.1, x4.2)) fun r9 =>
     bif r9 then
      some 0
     else
      meet (α := ((List (Int × Int)) × ((List (Int × Int)) × (Int × ((Int × Int) × (Int × (Int × Bool))))))) (fun (y10, y11, y12, y13, y14, y15, y16) =>
       meet (α := ((List (Int × Int)) × ((List (Int × Int)) × (Int × ((Int × Int) × (Int × Int)))))) (fun (y17, y18, y19, y20, y21, y22) =>
        next0 (y17, y18, y19, (y20.1, y20.2), y21, w64 (y22 + 1))) fun j23 =>
       bif y16 then
        j23 (y10, y11, y12, (y13.1, y13.2), w64 (y14 + 1), y15)
       else
        j23 (y10, y11, y12, (y13.1, y13.2), y14, y15)) fun j24 =>
      bif !((decide (r7.2 > x4.2)) == (decide (r8.2 > x4.2))) then
       bnd (c_parquetref09_farther (r7.1, r7.2) (r8.1, r8.2) (x4.1, x4.2)) fun r25 =>
       j24 (x1, x2, x3, (x4.1, x4.2), x5, x6, r25)
      else
       j24 (x1, x2, x3, (x4.1, x4.2), x5, x6, false)
    else
     bif decide ((x5.tmod 2) = 1) then
      some 1
     else
      some (-1)) k (a0, a1, a2, (a3.1, a3.2), 0, 0)
theorem eq_parquetref09_Where (k : Nat) (c_parquetref09_times : (Int × Int) → Int → Option (Int × Int)) (c_parquetref04_On : (Int × Int) → (Int × Int) → (Int × Int) → Option Bool) (c_parquetref09_farther : (Int × Int) → (Int × Int) → (Int × Int) → Option Bool) (a0 : (List (Int × Int))) (a1 : (List (Int × Int))) (a2 : Int) (a3 : (Int × Int)) : textF [⟨76, [.d (.pair kI kI), .d kI], [.pair kI kI], fun x => c_parquetref09_times (x.1) (x.2), none⟩, ⟨77, [.d (.pair kI kI), .d (.pair kI kI), .d (.pair kI kI)], [.bool], fun x => c_parquetref04_On (x.1) (x.2.1) (x.2.2), none⟩, ⟨78, [.d (.pair kI kI), .d (.pair kI kI), .d (.pair kI kI)], [.bool], fun x => c_parquetref09_farther (x.1) (x.2.1) (x.2.2), none⟩] tb k Try.f54 an_parquetref09_Where [.d (.sl (.pair kI kI)), .d (.sl (.pair kI kI)), .d kI, .d (.pair kI kI)] [kI] (a0, a1, a2, a3) = b_parquetref09_Where k c_parquetref09_times c_parquetref04_On c_parquetref09_farther a0 a1 a2 a3 := by kernel_rfl
def g_parquetref09_Where (k : Nat) (a0 : (List (Int × Int))) (a1 : (List (Int × Int))) (a2 : Int) (a3 : (Int × Int)) : Option Int := b_parquetref09_Where k (g_parquetref09_times k) (g_parquetref04_On k) (g_parquetref09_farther k) a0 a1 a2 a3
theorem tells_parquetref09_Where (k : Nat) : TellsF Try.prog 54 [.d (.sl (.pair kI kI)), .d (.sl (.pair kI kI)), .d kI, .d (.pair kI kI)] [kI] (fun x => g_parquetref09_Where k (x.1) (x.2.1) (x.2.2.1) (x.2.2.2)) := fun x y h => fun_tells tb_ok mix (es := [⟨76, [.d (.pair kI kI), .d kI], [.pair kI kI], fun x => g_parquetref09_times k (x.1) (x.2), none⟩, ⟨77, [.d (.pair kI kI), .d (.pair kI kI), .d (.pair kI kI)], [.bool], fun x => g_parquetref04_On k (x.1) (x.2.1) (x.2.2), none⟩, ⟨78, [.d (.pair kI kI), .d (.pair kI kI), .d (.pair kI kI)], [.bool], fun x => g_parquetref09_farther k (x.1) (x.2.1) (x.2.2), none⟩]) (EsOk.cons (EntryOk.of rfl (tells_parquetref09_times k)) (EsOk.cons (EntryOk.of rfl (tells_parquetref04_On k)) (EsOk.cons (EntryOk.of rfl (tells_parquetref09_farther k)) (EsOk.nil _)))) Try.func54 (N := k) (an := an_parquetref09_Where) (by kernel_rfl) x y ((eq_parquetref09_Where k (g_parquetref09_times k) (g_parquetref04_On k) (g_parquetref09_farther k) (x.1) (x.2.1) (x.2.2.1) (x.2.2.2)).trans h)

def an_parquetref09_Middle : Ann := .node none none .leaf (.node none none .leaf (.node none none (.node none none .leaf (.node none none (.node none (some [(0, .d (.sl (.pair kI kI))), (1, .d (.sl (.pair kI kI))), (2, .d (.sl kI)), (8, .box [.d (.pair kI kI)]), (9, .d kI)]) (.node none none .leaf (.node none none (.node none none (.node none none (.node none none (.node (some [(0, .d (.sl (.pair kI kI))), (1, .d (.sl (.pair kI kI))), (2, .d (.sl kI)), (8, .box [.d (.pair kI kI)]), (9, .d kI), (41, .d .bool)]) none .leaf .leaf) .leaf) .leaf) .leaf) .leaf)) .leaf) .leaf)) (.node none none (.node none none (.node (some [(0, .d (.sl (.pair kI kI))), (1, .d (.sl (.pair kI kI))), (2, .d (.sl kI)), (8, .box [.d (.pair kI kI)]), (76, .d .bool)]) none .leaf .leaf) .leaf) .leaf)))
def b_parquetref09_Middle (k : Nat) (c_parquetref03_Fits : (Int × Int) → Option Bool) (c_parquetref09_Check : (List (Int × Int)) → (List (Int × Int)) → Int → Option Bool) (c_parquetref09_Where : (List (Int × Int)) → (List (Int × Int)) → Int → (Int × Int) → Option Int) (a0 : (List (Int × Int))) (a1 : (List (Int × Int))) (a2 : (List Int)) : Option (Int × Int) :=
  loopN (α := ((List (Int × Int)) × ((List (Int × Int)) × ((List Int) × ((Int × Int) × Int))))) (fun (x1, x2, x3, x4, x5) next0 =>
    bif decide (x5 < (x3.length : Int)) then
     meet (α := ((List (Int × Int)) × ((List (Int × Int)) × ((List Int) × ((Int × Int) × (Int × Bool)))))) (fun (y6, y7, y8, y9, y10, y11) =>
      bif y11 then
       some (0, 2)
      else
       gd (inb y10 y8.length) <|
       gd (inb (rdD 0 y8 y10) y6.length) <|
       gd (inb y10 y8.length) <|
       gd (inb (rdD 0 y8 y10) y6.length) <|
       next0 (y6, y7, y8, (w64 (y9.1 + (rdD (0, 0) y6 (rdD 0 y8 y10)).1), w64 (y9.2 + (rdD (0, 0) y6 (rdD 0 y8 y10)).2)), w64 (y10 + 1))) fun j12 =>
     gd (inb x5 x3.length) <|
     bif decide ((rdD 0 x3 x5) < 0) then
      j12 (x1, x2, x3, (x4.1, x4.2), x5, true)
     else
      gd (inb x5 x3.length) <|
      bif decide ((rdD 0 x3 x5) ≥ (x1.length : Int)) then
       j12 (x1, x2, x3, (x4.1, x4.2), x5, true)
      else
       gd (inb x5 x3.length) <|
       gd (inb (rdD 0 x3 x5) x1.length) <|
       bnd (c_parquetref03_Fits ((rdD (0, 0) x1 (rdD 0 x3 x5)).1, (rdD (0, 0) x1 (rdD 0 x3 x5)).2)) fun r13 =>
       j12 (x1, x2, x3, (x4.1, x4.2), x5, !r13)
    else
     meet (α := ((List (Int × Int)) × ((List (Int × Int)) × ((List Int) × ((Int × Int) × Bool))))) (fun (y14, y15, y16, y17, y18) =>
      bif y18 then
       some (0, 2)
      else
       bnd (c_parquetref09_Where y14 y15 (y16.length : Int) (y17.1, y17.2)) fun r19 =>
       some (r19, 0)) fun j20 =>
     bnd (c_parquetref09_Check x1 x2 (x3.length : Int)) fun r21 =>
     bif !r21 then
      j20 (x1, x2, x3, (x4.1, x4.2), true)
     else
      bnd (c_parquetref03_Fits (x4.1, x4.2)) fun r22 =>
      j20 (x1, x2, x3, (x4.1, x4.2), !r22)) k (a0, a1, a2, (0, 0), 0)
theorem eq_parquetref09_Middle (k : Nat) (c_parquetref03_Fits : (Int × Int) → Option Bool) (c_parquetref09_Check : (List (Int × Int)) → (List (Int × Int)) → Int → Option Bool) (c_parquetref09_Where : (List (Int × Int)) → (List (Int × Int)) → Int → (Int × Int) → Option Int) (a0 : (List (Int × Int))) (a1 : (List (Int × Int))) (a2 : (List Int)) : textF [⟨69, [.d (.pair kI kI)], [.bool], fun x => c_parquetref03_Fits x, none⟩, ⟨71, [.d (.sl (.pair kI kI)), .d (.sl (.pair kI kI)), .d kI], [.bool], fun x => c_parquetref09_Check (x.1) (x.2.1) (x.2.2), none⟩, ⟨54, [.d (.sl (.pair kI kI)), .d (.sl (.pair kI kI)), .d kI, .d (.pair kI kI)], [kI], fun x => c_parquetref09_Where (x.1) (x.2.1) (x.2.2.1) (x.2.2.2), none⟩] tb k Try.f47 an_parquetref09_Middle [.d (.sl (.pair kI kI)), .d (.sl (.pair kI kI)), .d (.sl kI)] [kI, kI] (a0, a1, a2) = b_parquetref09_Middle k c_parquetref03_Fits c_parquetref09_Check c_parquetref09_Where a0 a1 a2 := by kernel_rfl
def g_parquetref09_Middle (k : Nat) (a0 : (List (Int × Int))) (a1 : (List (Int × Int))) (a2 : (List Int)) : Option (Int × Int) := b_parquetref09_Middle k (g_parquetref03_Fits k) (g_parquetref09_Check k) (g_parquetref09_Where k) a0 a1 a2
theorem tells_parquetref09_Middle (k : Nat) : TellsF Try.prog 47 [.d (.sl (.pair kI kI)), .d (.sl (.pair kI kI)), .d (.sl kI)] [kI, kI] (fun x => g_parquetref09_Middle k (x.1) (x.2.1) (x.2.2)) := fun x y h => fun_tells tb_ok mix (es := [⟨69, [.d (.pair kI kI)], [.bool], fun x => g_parquetref03_Fits k x, none⟩, ⟨71, [.d (.sl (.pair kI kI)), .d (.sl (.pair kI kI)), .d kI], [.bool], fun x => g_parquetref09_Check k (x.1) (x.2.1) (x.2.2), none⟩, ⟨54, [.d (.sl (.pair kI kI)), .d (.sl (.pair kI kI)), .d kI, .d (.pair kI kI)], [kI], fun x => g_parquetref09_Where k (x.1) (x.2.1) (x.2.2.1) (x.2.2.2), none⟩]) (EsOk.cons (EntryOk.of rfl (tells_parquetref03_Fits k)) (EsOk.cons (EntryOk.of rfl (tells_parquetref09_Check k)) (EsOk.cons (EntryOk.of rfl (tells_parquetref09_Where k)) (EsOk.nil _)))) Try.func47 (N := k) (an := an_parquetref09_Middle) (by kernel_rfl) x y ((eq_parquetref09_Middle k (g_parquetref03_Fits k) (g_parquetref09_Check k) (g_parquetref09_Where k) (x.1) (x.2.1) (x.2.2)).trans h)

def an_parquetref10_loops : Ann := .node none none .leaf (.node none none (.node none none .leaf (.node none none (.node none (some [(1, .box [.d (.pair (.sl (.pair kI kI)) (.pair (.sl (.pair kI kI)) (.sl (.pair kI kI))))]), (2, .box [.d (.pair kI (.pair kI kI))]), (3, .d kI)]) (.node none none .leaf (.node none none (.node none none (.node none none .leaf (.node none none (.node none none .leaf (.node none none (.node none (some [(1, .box [.d (.pair (.sl (.pair kI kI)) (.pair (.sl (.pair kI kI)) (.sl (.pair kI kI))))]), (2, .box [.d (.pair kI (.pair kI kI))]), (3, .d kI), (4, .d kI), (5, .d kI)]) (.node none none .leaf (.node none none (.node none none (.node none none (.node (some [(1, .box [.d (.pair (.sl (.pair kI kI)) (.pair (.sl (.pair kI kI)) (.sl (.pair kI kI))))]), (2, .box [.d (.pair kI (.pair kI kI))]), (3, .d kI), (4, .d kI), (5, .d kI), (44, .d .bool)]) none .leaf .leaf) (.node (some [(1, .box [.d (.pair (.sl (.pair kI kI)) (.pair (.sl (.pair kI kI)) (.sl (.pair kI kI))))]), (2, .box [.d (.pair kI (.pair kI kI))]), (3, .d kI), (4, .d kI), (5, .d kI)]) none .leaf .leaf)) .leaf) .leaf)) .leaf) .leaf)) (.node none none (.node (some [(1, .box [.d (.pair (.sl (.pair kI kI)) (.pair (.sl (.pair kI kI)) (.sl (.pair kI kI))))]), (2, .box [.d (.pair kI (.pair kI kI))]), (3, .d kI), (52, .d .bool)]) none .leaf .leaf) .leaf))) .leaf) .leaf)) .leaf) .leaf)) (.node none none .leaf (.node none none (.node none none .leaf (.node none none (.node none (some [(1, .box [.d (.pair (.sl (.pair kI kI)) (.pair (.sl (.pair kI kI)) (.sl (.pair kI kI))))]), (2, .box [.d (.pair kI (.pair kI kI))]), (6, .d kI)]) .leaf .leaf) .leaf)) (.node none none .leaf (.node none none (.node none none .leaf (.node none none (.node none (some [(1, .box [.d (.pair (.sl (.pair kI kI)) (.pair (.sl (.pair kI kI)) (.sl (.pair kI kI))))]), (2, .box [.d (.pair kI (.pair kI kI))]), (9, .d (.sl (.pair kI kI))), (10, .d kI)]) (.node none none .leaf (.node none none (.node none none (.node none none .leaf (.node none none (.node none none .leaf (.node none none (.node none (some [(1, .box [.d (.pair (.sl (.pair kI kI)) (.pair (.sl (.pair kI kI)) (.sl (.pair kI kI))))]), (2, .box [.d (.pair kI (.pair kI kI))]), (9, .d (.sl (.pair kI kI))), (10, .d kI), (11, .d .bool), (12, .d kI)]) (.node none none .leaf (.node none none (.node none none (.node (some [(1, .box [.d (.pair (.sl (.pair kI kI)) (.pair (.sl (.pair kI kI)) (.sl (.pair kI kI))))]), (2, .box [.d (.pair kI (.pair kI kI))]), (9, .d (.sl (.pair kI kI))), (10, .d kI), (11, .d .bool), (12, .d kI)]) none .leaf .leaf) .leaf) .leaf)) .leaf) .leaf)) (.node none none (.node (some [(1, .box [.d (.pair (.sl (.pair kI kI)) (.pair (.sl (.pair kI kI)) (.sl (.pair kI kI))))]), (2, .box [.d (.pair kI (.pair kI kI))]), (9, .d (.sl (.pair kI kI))), (10, .d kI), (140, .d .bool)]) none .leaf .leaf) .leaf))) .leaf) .leaf)) .leaf) .leaf)) .leaf)))))
def b_parquetref10_loops (k : Nat) (c_parquetref09_Middle : (List (Int × Int)) → (List (Int × Int)) → (List Int) → Option (Int × Int)) (c_parquetref10_All : ((List (Int × Int)) × ((List (Int × Int)) × (List (Int × Int)))) → Option (List (Int × Int))) (c_parquetref09_Where : (List (Int × Int)) → (List (Int × Int)) → Int → (Int × Int) → Option Int) (a0 : ((List (Int × Int)) × ((List (Int × Int)) × (List (Int × Int))))) : Option (Int × (Int × Int)) :=
  loopN (α := (((List (Int × Int)) × ((List (Int × Int)) × (List (Int × Int)))) × ((Int × (Int × Int)) × Int))) (fun (x1, x2, x3) next0 =>
    bif decide (x3 < (x1.1.length : Int)) then
     loopN (α := (((List (Int × Int)) × ((List (Int × Int)) × (List (Int × Int)))) × ((Int × (Int × Int)) × (Int × (Int × Int))))) (fun (x5, x6, x7, x8, x9) next4 =>
      bif decide (x9 < (x5.2.1.length : Int)) then
       meet (α := (((List (Int × Int)) × ((List (Int × Int)) × (List (Int × Int)))) × ((Int × (Int × Int)) × (Int × (Int × (Int × Bool)))))) (fun (y10, y11, y12, y13, y14, y15) =>
        meet (α := (((List (Int × Int)) × ((List (Int × Int)) × (List (Int × Int)))) × ((Int × (Int × Int)) × (Int × (Int × Int))))) (fun (y16, y17, y18, y19, y20) =>
         next4 ((y16.1, y16.2.1, y16.2.2), (y17.1, y17.2.1, y17.2.2), y18, y19, w64 (y20 + 1))) fun j21 =>
        bif y15 then
         j21 ((y10.1, y10.2.1, y10.2.2), (y11.1, y11.2.1, y11.2.2), y12, w64 (y13 + 1), y14)
        else
         j21 ((y10.1, y10.2.1, y10.2.2), (y11.1, y11.2.1, y11.2.2), y12, y13, y14)) fun j22 =>
       gd (inb x9 x5.2.1.length) <|
       bif decide ((rdD (0, 0) x5.2.1 x9).1 = x7) then
        j22 ((x5.1, x5.2.1, x5.2.2), (x6.1, x6.2.1, x6.2.2), x7, x8, x9, true)
       else
        gd (inb x9 x5.2.1.length) <|
        j22 ((x5.1, x5.2.1, x5.2.2), (x6.1, x6.2.1, x6.2.2), x7, x8, x9, decide ((rdD (0, 0) x5.2.1 x9).2 = x7))
      else
       meet (α := (((List (Int × Int)) × ((List (Int × Int)) × (List (Int × Int)))) × ((Int × (Int × Int)) × (Int × Bool)))) (fun (y23, y24, y25, y26) =>
        bif y26 then
         some (5, y25, 0)
        else
         next0 ((y23.1, y23.2.1, y23.2.2), (y24.1, y24.2.1, y24.2.2), w64 (y25 + 1))) fun j27 =>
       bif !(decide (x8 = 0)) then
        j27 ((x5.1, x5.2.1, x5.2.2), (x6.1, x6.2.1, x6.2.2), x7, !(decide (x8 = 2)))
       else
        j27 ((x5.1, x5.2.1, x5.2.2), (x6.1, x6.2.1, x6.2.2), x7, false)) k ((x1.1, x1.2.1, x1.2.2), (x2.1, x2.2.1, x2.2.2), x3, 0, 0)
    else
     bif decide ((x1.2.1.length : Int) = 0) then
      some (6, 0, 0)
     else
      loopN (α := (((List (Int × Int)) × ((List (Int × Int)) × (List (Int × Int)))) × ((Int × (Int × Int)) × Int))) (fun (x29, x30, x31) next28 =>
       bif decide (x31 < (x29.2.2.length : Int)) then
        gd (inb x31 x29.2.2.length) <|
        gd (inb x31 x29.2.2.length) <|
        bnd (c_parquetref09_Middle x29.1 x29.2.1 [(rdD (0, 0) x29.2.2 x31).1, (rdD (0, 0) x29.2.2 x31).2]) fun r32 =>
        bif !(decide (r32.1 = 1)) then
         some (7, x31, 0)
        else
         next28 ((x29.1, x29.2.1, x29.2.2), (x30.1, x30.2.1, x30.2.2), w64 (x31 + 1))
       else
        bnd (c_parquetref10_All (x29.1, x29.2.1, x29.2.2)) fun r33 =>
        loopN (α := (((List (Int × Int)) × ((List (Int × Int)) × (List (Int × Int)))) × ((Int × (Int × Int)) × ((List (Int × Int)) × Int)))) (fun (x35, x36, x37, x38) next34 =>
         bif decide (x38 < (x35.1.length : Int)) then
          loopN (α := (((List (Int × Int)) × ((List (Int × Int)) × (List (Int × Int)))) × ((Int × (Int × Int)) × ((List (Int × Int)) × (Int × (Bool × Int)))))) (fun (x40, x41, x42, x43, x44, x45) next39 =>
           bif decide (x45 < (x42.length : Int)) then
            meet (α := (((List (Int × Int)) × ((List (Int × Int)) × (List (Int × Int)))) × ((Int × (Int × Int)) × ((List (Int × Int)) × (Int × (Bool × Int)))))) (fun (y46, y47, y48, y49, y50, y51) =>
             next39 ((y46.1, y46.2.1, y46.2.2), (y47.1, y47.2.1, y47.2.2), y48, y49, y50, w64 (y51 + 1))) fun j52 =>
            bif x44 then
             j52 ((x40.1, x40.2.1, x40.2.2), (x41.1, x41.2.1, x41.2.2), x42, x43, true, x45)
            else
             gd (inb x45 x42.length) <|
             bif decide ((rdD (0, 0) x42 x45).1 = x43) then
              j52 ((x40.1, x40.2.1, x40.2.2), (x41.1, x41.2.1, x41.2.2), x42, x43, true, x45)
             else
              gd (inb x45 x42.length) <|
              j52 ((x40.1, x40.2.1, x40.2.2), (x41.1, x41.2.1, x41.2.2), x42, x43, decide ((rdD (0, 0) x42 x45).2 = x43), x45)
           else
            meet (α := (((List (Int × Int)) × ((List (Int × Int)) × (List (Int × Int)))) × ((Int × (Int × Int)) × ((List (Int × Int)) × (Int × Bool))))) (fun (y53, y54, y55, y56, y57) =>
             bif y57 then
              some (8, y56, 0)
             else
              next34 ((y53.1, y53.2.1, y53.2.2), (y54.1, y54.2.1, y54.2.2), y55, w64 (y56 + 1))) fun j58 =>
            bif !x44 then
             gd (inb x43 x40.1.length) <|
             bnd (c_parquetref09_Where x40.1 x40.2.1 1 ((rdD (0, 0) x40.1 x43).1, (rdD (0, 0) x40.1 x43).2)) fun r59 =>
             j58 ((x40.1, x40.2.1, x40.2.2), (x41.1, x41.2.1, x41.2.2), x42, x43, !(decide (r59 = 1)))
            else
             j58 ((x40.1, x40.2.1, x40.2.2), (x41.1, x41.2.1, x41.2.2), x42, x43, false)) k ((x35.1, x35.2.1, x35.2.2), (x36.1, x36.2.1, x36.2.2), x37, x38, false, 0)
         else
          some (0, 0, 0)) k ((x29.1, x29.2.1, x29.2.2), (x30.1, x30.2.1, x30.2.2), r33, 0)) k ((x1.1, x1.2.1, x1.2.2), (x2.1, x2.2.1, x2.2.2), 0)) k ((a0.1, a0.2.1, a0.2.2), (0, 0, 0), 0)
theorem eq_parquetref10_loops (k : Nat) (c_parquetref09_Middle : (List (Int × Int)) → (List (Int × Int)) → (List Int) → Option (Int × Int)) (c_parquetref10_All : ((List (Int × Int)) × ((List (Int × Int)) × (List (Int × Int)))) → Option (List (Int × Int))) (c_parquetref09_Where : (List (Int × Int)) → (List (Int × Int)) → Int → (Int × Int) → Option Int) (a0 : ((List (Int × Int)) × ((List (Int × Int)) × (List (Int × Int))))) : textF [⟨47, [.d (.sl (.pair kI kI)), .d (.sl (.pair kI kI)), .d (.sl kI)], [kI, kI], fun x => c_parquetref09_Middle (x.1) (x.2.1) (x.2.2), none⟩, ⟨23, [.d (.pair (.sl (.pair kI kI)) (.pair (.sl (.pair kI kI)) (.sl (.pair kI kI))))], [.sl (.pair kI kI)], fun x => c_parquetref10_All x, none⟩, ⟨54, [.d (.sl (.pair kI kI)), .d (.sl (.pair kI kI)), .d kI, .d (.pair kI kI)], [kI], fun x => c_parquetref09_Where (x.1) (x.2.1) (x.2.2.1) (x.2.2.2), none⟩] tb k Try.f34 an_parquetref10_loops [.d (.pair (.sl (.pair kI kI)) (.pair (.sl (.pair kI kI)) (.sl (.pair kI kI))))] [.pair kI (.pair kI kI)] a0 = b_parquetref10_loops k c_parquetref09_Middle c_parquetref10_All c_parquetref09_Where a0 := by kernel_rfl
def g_parquetref10_loops (k : Nat) (a0 : ((List (Int × Int)) × ((List (Int × Int)) × (List (Int × Int))))) : Option (Int × (Int × Int)) := b_parquetref10_loops k (g_parquetref09_Middle k) (g_parquetref10_All k) (g_parquetref09_Where k) a0
theorem tells_parquetref10_loops (k : Nat) : TellsF Try.prog 34 [.d (.pair (.sl (.pair kI kI)) (.pair (.sl (.pair kI kI)) (.sl (.pair kI kI))))] [.pair kI (.pair kI kI)] (fun x => g_parquetref10_loops k x) := fun x y h => fun_tells tb_ok mix (es := [⟨47, [.d (.sl (.pair kI kI)), .d (.sl (.pair kI kI)), .d (.sl kI)], [kI, kI], fun x => g_parquetref09_Middle k (x.1) (x.2.1) (x.2.2), none⟩, ⟨23, [.d (.pair (.sl (.pair kI kI)) (.pair (.sl (.pair kI kI)) (.sl (.pair kI kI))))], [.sl (.pair kI kI)], fun x => g_parquetref10_All k x, none⟩, ⟨54, [.d (.sl (.pair kI kI)), .d (.sl (.pair kI kI)), .d kI, .d (.pair kI kI)], [kI], fun x => g_parquetref09_Where k (x.1) (x.2.1) (x.2.2.1) (x.2.2.2), none⟩]) (EsOk.cons (EntryOk.of rfl (tells_parquetref09_Middle k)) (EsOk.cons (EntryOk.of rfl (tells_parquetref10_All k)) (EsOk.cons (EntryOk.of rfl (tells_parquetref09_Where k)) (EsOk.nil _)))) Try.func34 (N := k) (an := an_parquetref10_loops) (by kernel_rfl) x y ((eq_parquetref10_loops k (g_parquetref09_Middle k) (g_parquetref10_All k) (g_parquetref09_Where k) x).trans h)

def an_parquetref10_First : Ann := .node none none .leaf (.node none none .leaf (.node none none .leaf (.node none none .leaf (.node none none (.node none none .leaf (.node (some [(2, .box [.d (.pair kI (.pair kI kI))]), (5, .box [.d (.pair kI (.pair kI kI))])]) none .leaf .leaf)) .leaf))))
def b_parquetref10_First (k : Nat) (c_parquetref05_Check : ((List (Int × Int)) × ((List (Int × Int)) × (List (Int × Int)))) → Option Int) (c_parquetref10_pairs : ((List (Int × Int)) × ((List (Int × Int)) × (List (Int × Int)))) → Option (Int × (Int × Int))) (c_parquetref10_loops : ((List (Int × Int)) × ((List (Int × Int)) × (List (Int × Int)))) → Option (Int × (Int × Int))) (a0 : ((List (Int × Int)) × ((List (Int × Int)) × (List (Int × Int))))) : Option ((Int × (Int × Int)) × Int) :=
  bnd (c_parquetref05_Check (a0.1, a0.2.1, a0.2.2)) fun r0 =>
   bif !(decide (r0 = 0)) then
    some ((0, 0, 0), 2)
   else
    bnd (c_parquetref10_pairs (a0.1, a0.2.1, a0.2.2)) fun r1 =>
    meet (α := ((Int × (Int × Int)) × (Int × (Int × Int)))) (fun (y2, y3, y4, y5) =>
     some ((y3, y4, y5), 0)) fun j6 =>
    bif decide (r1.1 = 0) then
     bnd (c_parquetref10_loops (a0.1, a0.2.1, a0.2.2)) fun r7 =>
     j6 ((0, 0, 0), r7.1, r7.2.1, r7.2.2)
    else
     j6 ((0, 0, 0), r1.1, r1.2.1, r1.2.2)
theorem eq_parquetref10_First (k : Nat) (c_parquetref05_Check : ((List (Int × Int)) × ((List (Int × Int)) × (List (Int × Int)))) → Option Int) (c_parquetref10_pairs : ((List (Int × Int)) × ((List (Int × Int)) × (List (Int × Int)))) → Option (Int × (Int × Int))) (c_parquetref10_loops : ((List (Int × Int)) × ((List (Int × Int)) × (List (Int × Int)))) → Option (Int × (Int × Int))) (a0 : ((List (Int × Int)) × ((List (Int × Int)) × (List (Int × Int))))) : textF [⟨21, [.d (.pair (.sl (.pair kI kI)) (.pair (.sl (.pair kI kI)) (.sl (.pair kI kI))))], [kI], fun x => c_parquetref05_Check x, none⟩, ⟨33, [.d (.pair (.sl (.pair kI kI)) (.pair (.sl (.pair kI kI)) (.sl (.pair kI kI))))], [.pair kI (.pair kI kI)], fun x => c_parquetref10_pairs x, none⟩, ⟨34, [.d (.pair (.sl (.pair kI kI)) (.pair (.sl (.pair kI kI)) (.sl (.pair kI kI))))], [.pair kI (.pair kI kI)], fun x => c_parquetref10_loops x, none⟩] tb k Try.f14 an_parquetref10_First [.d (.pair (.sl (.pair kI kI)) (.pair (.sl (.pair kI kI)) (.sl (.pair kI kI))))] [.pair kI (.pair kI kI), kI] a0 = b_parquetref10_First k c_parquetref05_Check c_parquetref10_pairs c_parquetref10_loops a0 := by kernel_rfl
def g_parquetref10_First (k : Nat) (a0 : ((List (Int × Int)) × ((List (Int × Int)) × (List (Int × Int))))) : Option ((Int × (Int × Int)) × Int) := b_parquetref10_First k (g_parquetref05_Check k) (g_parquetref10_pairs k) (g_parquetref10_loops k) a0
theorem tells_parquetref10_First (k : Nat) : TellsF Try.prog 14 [.d (.pair (.sl (.pair kI kI)) (.pair (.sl (.pair kI kI)) (.sl (.pair kI kI))))] [.pair kI (.pair kI kI), kI] (fun x => g_parquetref10_First k x) := fun x y h => fun_tells tb_ok mix (es := [⟨21, [.d (.pair (.sl (.pair kI kI)) (.pair (.sl (.pair kI kI)) (.sl (.pair kI kI))))], [kI], fun x => g_parquetref05_Check k x, none⟩, ⟨33, [.d (.pair (.sl (.pair kI kI)) (.pair (.sl (.pair kI kI)) (.sl (.pair kI kI))))], [.pair kI (.pair kI kI)], fun x => g_parquetref10_pairs k x, none⟩, ⟨34, [.d (.pair (.sl (.pair kI kI)) (.pair (.sl (.pair kI kI)) (.sl (.pair kI kI))))], [.pair kI (.pair kI kI)], fun x => g_parquetref10_loops k x, none⟩]) (EsOk.cons (EntryOk.of rfl (tells_parquetref05_Check k)) (EsOk.cons (EntryOk.of rfl (tells_parquetref10_pairs k)) (EsOk.cons (EntryOk.of rfl (tells_parquetref10_loops k)) (EsOk.nil _)))) Try.func14 (N := k) (an := an_parquetref10_First) (by kernel_rfl) x y ((eq_parquetref10_First k (g_parquetref05_Check k) (g_parquetref10_pairs k) (g_parquetref10_loops k) x).trans h)

def an_parquetref05_SamePoints : Ann := .node none none .leaf (.node none none .leaf (.node none none (.node none none .leaf (.node none none (.node none (some [(0, .d (.sl (.pair kI kI))), (1, .d (.sl (.pair kI kI))), (5, .d kI)]) .leaf .leaf) .leaf)) .leaf))
def g_parquetref05_SamePoints (k : Nat) (a0 : (List (Int × Int))) (a1 : (List (Int × Int))) : Option Bool :=
  bif !(decide ((a0.length : Int) = (a1.length : Int))) then
    some false
   else
    loopN (α := ((List (Int × Int)) × ((List (Int × Int)) × Int))) (fun (x1, x2, x3) next0 =>
     bif decide (x3 < (x1.length : Int)) then
      gd (inb x3 x1.length) <|
      gd (inb x3 x2.length) <|
      bif !((decide ((rdD (0, 0) x1 x3).1 = (rdD (0, 0) x2 x3).1)) && (decide ((rdD (0, 0) x1 x3).2 = (rdD (0, 0) x2 x3).2))) then
       some false
      else
       next0 (x1, x2, w64 (x3 + 1))
     else
      some true) k (a0, a1, 0)
theorem eq_parquetref05_SamePoints (k : Nat) (a0 : (List (Int × Int))) (a1 : (List (Int × Int))) : textF [] tb k Try.f35 an_parquetref05_SamePoints [.d (.sl (.pair kI kI)), .d (.sl (.pair kI kI))] [.bool] (a0, a1) = g_parquetref05_SamePoints k a0 a1 := by kernel_rfl
theorem tells_parquetref05_SamePoints (k : Nat) : TellsF Try.prog 35 [.d (.sl (.pair kI kI)), .d (.sl (.pair kI kI))] [.bool] (fun x => g_parquetref05_SamePoints k (x.1) (x.2)) := fun x y h => fun_tells tb_ok mix (es := []) (EsOk.nil _) Try.func35 (N := k) (an := an_parquetref05_SamePoints) (by kernel_rfl) x y ((eq_parquetref05_SamePoints k (x.1) (x.2)).trans h)

def an_parquetref05_SameSegs : Ann := .node none none .leaf (.node none none .leaf (.node none none (.node none none .leaf (.node none none (.node none (some [(0, .d (.sl (.pair kI kI))), (1, .d (.sl (.pair kI kI))), (5, .d kI)]) .leaf .leaf) .leaf)) .leaf))
def g_parquetref05_SameSegs (k : Nat) (a0 : (List (Int × Int))) (a1 : (List (Int × Int))) : Option Bool :=
  bif !(decide ((a0.length : Int) = (a1.length : Int))) then
    some false
   else
    loopN (α := ((List (Int × Int)) × ((List (Int × Int)) × Int))) (fun (x1, x2, x3) next0 =>
     bif decide (x3 < (x1.length : Int)) then
      gd (inb x3 x1.length) <|
      gd (inb x3 x2.length) <|
      bif !((decide ((rdD (0, 0) x1 x3).1 = (rdD (0, 0) x2 x3).1)) && (decide ((rdD (0, 0) x1 x3).2 = (rdD (0, 0) x2 x3).2))) then
       some false
      else
       next0 (x1, x2, w64 (x3 + 1))
     else
      some true) k (a0, a1, 0)
theorem eq_parquetref05_SameSegs (k : Nat) (a0 : (List (Int × Int))) (a1 : (List (Int × Int))) : textF [] tb k Try.f36 an_parquetref05_SameSegs [.d (.sl (.pair kI kI)), .d (.sl (.pair kI kI))] [.bool] (a0, a1) = g_parquetref05_SameSegs k a0 a1 := by kernel_rfl
theorem tells_parquetref05_SameSegs (k : Nat) : TellsF Try.prog 36 [.d (.sl (.pair kI kI)), .d (.sl (.pair kI kI))] [.bool] (fun x => g_parquetref05_SameSegs k (x.1) (x.2)) := fun x y h => fun_tells tb_ok mix (es := []) (EsOk.nil _) Try.func36 (N := k) (an := an_parquetref05_SameSegs) (by kernel_rfl) x y ((eq_parquetref05_SameSegs k (x.1) (x.2)).trans h)

def an_parquetref05_Same : Ann := .node none none .leaf (.node none none (.node (some [(4, .d .bool)]) none .leaf .leaf) .leaf)
def b_parquetref05_Same (k : Nat) (c_parquetref05_SamePoints : (List (Int × Int)) → (List (Int × Int)) → Option Bool) (c_parquetref05_SameSegs : (List (Int × Int)) → (List (Int × Int)) → Option Bool) (a0 : ((List (Int × Int)) × ((List (Int × Int)) × (List (Int × Int))))) (a1 : ((List (Int × Int)) × ((List (Int × Int)) × (List (Int × Int))))) : Option Bool :=
  meet (α := Bool) (fun y0 =>
    some y0) fun j1 =>
   bnd (c_parquetref05_SamePoints a0.1 a1.1) fun r2 =>
   bif r2 then
    bnd (c_parquetref05_SameSegs a0.2.1 a1.2.1) fun r3 =>
    bif r3 then
     bnd (c_parquetref05_SameSegs a0.2.2 a1.2.2) fun r4 =>
     j1 r4
    else
     j1 false
   else
    j1 false
theorem eq_parquetref05_Same (k : Nat) (c_parquetref05_SamePoints : (List (Int × Int)) → (List (Int × Int)) → Option Bool) (c_parquetref05_SameSegs : (List (Int × Int)) → (List (Int × Int)) → Option Bool) (a0 : ((List (Int × Int)) × ((List (Int × Int)) × (List (Int × Int))))) (a1 : ((List (Int × Int)) × ((List (Int × Int)) × (List (Int × Int))))) : textF [⟨35, [.d (.sl (.pair kI kI)), .d (.sl (.pair kI kI))], [.bool], fun x => c_parquetref05_SamePoints (x.1) (x.2), none⟩, ⟨36, [.d (.sl (.pair kI kI)), .d (.sl (.pair kI kI))], [.bool], fun x => c_parquetref05_SameSegs (x.1) (x.2), none⟩] tb k Try.f15 an_parquetref05_Same [.d (.pair (.sl (.pair kI kI)) (.pair (.sl (.pair kI kI)) (.sl (.pair kI kI)))), .d (.pair (.sl (.pair kI kI)) (.pair (.sl (.pair kI kI)) (.sl (.pair kI kI))))] [.bool] (a0, a1) = b_parquetref05_Same k c_parquetref05_SamePoints c_parquetref05_SameSegs a0 a1 := by kernel_rfl
def g_parquetref05_Same (k : Nat) (a0 : ((List (Int × Int)) × ((List (Int × Int)) × (List (Int × Int))))) (a1 : ((List (Int × Int)) × ((List (Int × Int)) × (List (Int × Int))))) : Option Bool := b_parquetref05_Same k (g_parquetref05_SamePoints k) (g_parquetref05_SameSegs k) a0 a1
theorem tells_parquetref05_Same (k : Nat) : TellsF Try.prog 15 [.d (.pair (.sl (.pair kI kI)) (.pair (.sl (.pair kI kI)) (.sl (.pair kI kI)))), .d (.pair (.sl (.pair kI kI)) (.pair (.sl (.pair kI kI)) (.sl (.pair kI kI))))] [.bool] (fun x => g_parquetref05_Same k (x.1) (x.2)) := fun x y h => fun_tells tb_ok mix (es := [⟨35, [.d (.sl (.pair kI kI)), .d (.sl (.pair kI kI))], [.bool], fun x => g_parquetref05_SamePoints k (x.1) (x.2), none⟩, ⟨36, [.d (.sl (.pair kI kI)), .d (.sl (.pair kI kI))], [.bool], fun x => g_parquetref05_SameSegs k (x.1) (x.2), none⟩]) (EsOk.cons (EntryOk.of rfl (tells_parquetref05_SamePoints k)) (EsOk.cons (EntryOk.of rfl (tells_parquetref05_SameSegs k)) (EsOk.nil _))) Try.func15 (N := k) (an := an_parquetref05_Same) (by kernel_rfl) x y ((eq_parquetref05_Same k (g_parquetref05_SamePoints k) (g_parquetref05_SameSegs k) (x.1) (x.2)).trans h)

def an_parquetlaw10_ValidFinds : Ann := .node none none .leaf (.node none none .leaf (.node none none .leaf (.node none none .leaf (.node none none .leaf (.node none none (.node (some [(2, .d .bool)]) none .leaf .leaf) .leaf)))))
def b_parquetlaw10_ValidFinds (k : Nat) (c_parquetlaw10_many : ((List (Int × Int)) × ((List (Int × Int)) × (List (Int × Int)))) → Option Bool) (c_parquetlaw10_known : Option Bool) (c_valid_First : ((List (Int × Int)) × ((List (Int × Int)) × (List (Int × Int)))) → Option ((Int × (Int × Int)) × Int)) (c_parquetref10_First : ((List (Int × Int)) × ((List (Int × Int)) × (List (Int × Int)))) → Option ((Int × (Int × Int)) × Int)) (c_parquetref05_Same : ((List (Int × Int)) × ((List (Int × Int)) × (List (Int × Int)))) → ((List (Int × Int)) × ((List (Int × Int)) × (List (Int × Int)))) → Option Bool) (a0 : ((List (Int × Int)) × ((List (Int × Int)) × (List (Int × Int))))) : Option Bool :=
  bnd (c_parquetlaw10_many (a0.1, a0.2.1, a0.2.2)) fun r0 =>
   bif r0 then
    bnd (c_parquetlaw10_known) fun r1 =>
    some r1
   else
    gd (few a0.1.length) <|
    gd (few a0.2.1.length) <|
    gd (few a0.2.2.length) <|
    bnd (c_valid_First (a0.1, a0.2.1, a0.2.2)) fun r2 =>
    bnd (c_parquetref10_First (a0.1, a0.2.1, a0.2.2)) fun r3 =>
    meet (α := Bool) (fun y4 =>
     some y4) fun j5 =>
    bif (decide (r2.1.1 = r3.1.1)) && ((decide (r2.1.2.1 = r3.1.2.1)) && (decide (r2.1.2.2 = r3.1.2.2))) then
     bif decide (r2.2 = r3.2) then
      bnd (c_parquetref05_Same (a0.1, a0.2.1, a0.2.2) (a0.1, a0.2.1, a0.2.2)) fun r6 =>
      bif r6 then
       bnd (c_parquetlaw10_known) fun r7 =>
       j5 r7
      else
       j5 false
     else
      j5 false
    else
     j5 false
theorem eq_parquetlaw10_ValidFinds (k : Nat) (c_parquetlaw10_many : ((List (Int × Int)) × ((List (Int × Int)) × (List (Int × Int)))) → Option Bool) (c_parquetlaw10_known : Option Bool) (c_valid_First : ((List (Int × Int)) × ((List (Int × Int)) × (List (Int × Int)))) → Option ((Int × (Int × Int)) × Int)) (c_parquetref10_First : ((List (Int × Int)) × ((List (Int × Int)) × (List (Int × Int)))) → Option ((Int × (Int × Int)) × Int)) (c_parquetref05_Same : ((List (Int × Int)) × ((List (Int × Int)) × (List (Int × Int)))) → ((List (Int × Int)) × ((List (Int × Int)) × (List (Int × Int)))) → Option Bool) (a0 : ((List (Int × Int)) × ((List (Int × Int)) × (List (Int × Int))))) : textF [⟨12, [], [], fun _ => none, some (tb, Try.f12)⟩, ⟨10, [.d (.pair (.sl (.pair kI kI)) (.pair (.sl (.pair kI kI)) (.sl (.pair kI kI))))], [.bool], fun x => c_parquetlaw10_many x, none⟩, ⟨11, [], [.bool], fun x => c_parquetlaw10_known, none⟩, ⟨13, [.d (.pair (.sl (.pair kI kI)) (.pair (.sl (.pair kI kI)) (.sl (.pair kI kI))))], [.pair kI (.pair kI kI), kI], fun x => c_valid_First x, none⟩, ⟨14, [.d (.pair (.sl (.pair kI kI)) (.pair (.sl (.pair kI kI)) (.sl (.pair kI kI))))], [.pair kI (.pair kI kI), kI], fun x => c_parquetref10_First x, none⟩, ⟨15, [.d (.pair (.sl (.pair kI kI)) (.pair (.sl (.pair kI kI)) (.sl (.pair kI kI)))), .d (.pair (.sl (.pair kI kI)) (.pair (.sl (.pair kI kI)) (.sl (.pair kI kI))))], [.bool], fun x => c_parquetref05_Same (x.1) (x.2), none⟩] tb k Try.f3 an_parquetlaw10_ValidFinds [.d (.pair (.sl (.pair kI kI)) (.pair (.sl (.pair kI kI)) (.sl (.pair kI kI))))] [.bool] a0 = b_parquetlaw10_ValidFinds k c_parquetlaw10_many c_parquetlaw10_known c_valid_First c_parquetref10_First c_parquetref05_Same a0 := by kernel_rfl
def g_parquetlaw10_ValidFinds (k : Nat) (a0 : ((List (Int × Int)) × ((List (Int × Int)) × (List (Int × Int))))) : Option Bool := b_parquetlaw10_ValidFinds k (g_parquetlaw10_many k) (g_parquetlaw10_known k) (g_valid_First k) (g_parquetref10_First k) (g_parquetref05_Same k) a0
theorem tells_parquetlaw10_ValidFinds (k : Nat) : TellsF Try.prog 3 [.d (.pair (.sl (.pair kI kI)) (.pair (.sl (.pair kI kI)) (.sl (.pair kI kI))))] [.bool] (fun x => g_parquetlaw10_ValidFinds k x) := fun x y h => fun_tells tb_ok mix (es := [⟨12, [], [], fun _ => none, some (tb, Try.f12)⟩, ⟨10, [.d (.pair (.sl (.pair kI kI)) (.pair (.sl (.pair kI kI)) (.sl (.pair kI kI))))], [.bool], fun x => g_parquetlaw10_many k x, none⟩, ⟨11, [], [.bool], fun x => g_parquetlaw10_known k, none⟩, ⟨13, [.d (.pair (.sl (.pair kI kI)) (.pair (.sl (.pair kI kI)) (.sl (.pair kI kI))))], [.pair kI (.pair kI kI), kI], fun x => g_valid_First k x, none⟩, ⟨14, [.d (.pair (.sl (.pair kI kI)) (.pair (.sl (.pair kI kI)) (.sl (.pair kI kI))))], [.pair kI (.pair kI kI), kI], fun x => g_parquetref10_First k x, none⟩, ⟨15, [.d (.pair (.sl (.pair kI kI)) (.pair (.sl (.pair kI kI)) (.sl (.pair kI kI)))), .d (.pair (.sl (.pair kI kI)) (.pair (.sl (.pair kI kI)) (.sl (.pair kI kI))))], [.bool], fun x => g_parquetref05_Same k (x.1) (x.2), none⟩]) (EsOk.cons (EntryOk.go tb_ok mix Try.func12 (by kernel_rfl)) (EsOk.cons (EntryOk.of rfl (tells_parquetlaw10_many k)) (EsOk.cons (EntryOk.of rfl (tells_parquetlaw10_known k)) (EsOk.cons (EntryOk.of rfl (tells_valid_First k)) (EsOk.cons (EntryOk.of rfl (tells_parquetref10_First k)) (EsOk.cons (EntryOk.of rfl (tells_parquetref05_Same k)) (EsOk.nil _))))))) Try.func3 (N := k) (an := an_parquetlaw10_ValidFinds) (by kernel_rfl) x y ((eq_parquetlaw10_ValidFinds k (g_parquetlaw10_many k) (g_parquetlaw10_known k) (g_valid_First k) (g_parquetref10_First k) (g_parquetref05_Same k) x).trans h)

def an_parquetref10_Right : Ann := .node none none .leaf (.node none none .leaf (.node none none (.node (some [(2, .d .bool)]) none .leaf .leaf) .leaf))
def b_parquetref10_Right (k : Nat) (c_parquetref10_First : ((List (Int × Int)) × ((List (Int × Int)) × (List (Int × Int)))) → Option ((Int × (Int × Int)) × Int)) (a0 : ((List (Int × Int)) × ((List (Int × Int)) × (List (Int × Int))))) : Option Bool :=
  bnd (c_parquetref10_First (a0.1, a0.2.1, a0.2.2)) fun r0 =>
   meet (α := Bool) (fun y1 =>
    some y1) fun j2 =>
   bif decide (r0.2 = 0) then
    j2 (decide (r0.1.1 = 0))
   else
    j2 false
theorem eq_parquetref10_Right (k : Nat) (c_parquetref10_First : ((List (Int × Int)) × ((List (Int × Int)) × (List (Int × Int)))) → Option ((Int × (Int × Int)) × Int)) (a0 : ((List (Int × Int)) × ((List (Int × Int)) × (List (Int × Int))))) : textF [⟨14, [.d (.pair (.sl (.pair kI kI)) (.pair (.sl (.pair kI kI)) (.sl (.pair kI kI))))], [.pair kI (.pair kI kI), kI], fun x => c_parquetref10_First x, none⟩] tb k Try.f39 an_parquetref10_Right [.d (.pair (.sl (.pair kI kI)) (.pair (.sl (.pair kI kI)) (.sl (.pair kI kI))))] [.bool] a0 = b_parquetref10_Right k c_parquetref10_First a0 := by kernel_rfl
def g_parquetref10_Right (k : Nat) (a0 : ((List (Int × Int)) × ((List (Int × Int)) × (List (Int × Int))))) : Option Bool := b_parquetref10_Right k (g_parquetref10_First k) a0
theorem tells_parquetref10_Right (k : Nat) : TellsF Try.prog 39 [.d (.pair (.sl (.pair kI kI)) (.pair (.sl (.pair kI kI)) (.sl (.pair kI kI))))] [.bool] (fun x => g_parquetref10_Right k x) := fun x y h => fun_tells tb_ok mix (es := [⟨14, [.d (.pair (.sl (.pair kI kI)) (.pair (.sl (.pair kI kI)) (.sl (.pair kI kI))))], [.pair kI (.pair kI kI), kI], fun x => g_parquetref10_First k x, none⟩]) (EsOk.cons (EntryOk.of rfl (tells_parquetref10_First k)) (EsOk.nil _)) Try.func39 (N := k) (an := an_parquetref10_Right) (by kernel_rfl) x y ((eq_parquetref10_Right k (g_parquetref10_First k) x).trans h)

def an_parquetref08_Degrees : Ann := .node none none .leaf (.node none none (.node none none (.node (some [(0, .d kI), (1, .d (.sl (.pair kI kI))), (15, .d .bool)]) none .leaf .leaf) .leaf) (.node none none (.node none none .leaf (.node none none (.node none (some [(0, .d kI), (1, .d (.sl (.pair kI kI))), (6, .d kI)]) (.node none none .leaf (.node none none (.node none none (.node none none .leaf (.node none none (.node (some [(0, .d kI), (1, .d (.sl (.pair kI kI))), (6, .d kI), (52, .d .bool)]) none .leaf .leaf) .leaf)) .leaf) .leaf)) .leaf) .leaf)) (.node none none .leaf (.node none none (.node none none .leaf (.node none none (.node none (some [(1, .d (.sl (.pair kI kI))), (8, .row kI 3), (9, .d kI)]) .leaf .leaf) .leaf)) .leaf))))
def g_parquetref08_Degrees (k : Nat) (a0 : Int) (a1 : (List (Int × Int))) : Option ((List Int) × Int) :=
  meet (α := (Int × ((List (Int × Int)) × Bool))) (fun (y0, y1, y2) =>
    bif y2 then
     some ([], 2)
    else
     loopN (α := (Int × ((List (Int × Int)) × Int))) (fun (x4, x5, x6) next3 =>
      bif decide (x6 < (x5.length : Int)) then
       gd (inb x6 x5.length) <|
       meet (α := (Int × ((List (Int × Int)) × (Int × Bool)))) (fun (y7, y8, y9, y10) =>
        bif y10 then
         some ([], 2)
        else
         next3 (y7, y8, w64 (y9 + 1))) fun j11 =>
       bif decide ((rdD (0, 0) x5 x6).1 = (rdD (0, 0) x5 x6).2) then
        j11 (x4, x5, x6, true)
       else
        bif decide ((rdD (0, 0) x5 x6).1 < 0) then
         j11 (x4, x5, x6, true)
        else
         bif decide ((rdD (0, 0) x5 x6).1 ≥ x4) then
          j11 (x4, x5, x6, true)
         else
          bif decide ((rdD (0, 0) x5 x6).2 < 0) then
           j11 (x4, x5, x6, true)
          else
           j11 (x4, x5, x6, decide ((rdD (0, 0) x5 x6).2 ≥ x4))
      else
       gd (decide (0 ≤ x4)) <|
       gd (fewI x4) <|
       loopN (α := ((List (Int × Int)) × ((List Int) × Int))) (fun (x13, x14, x15) next12 =>
        bif decide (x15 < (x13.length : Int)) then
         gd (inb x15 x13.length) <|
         gd (inb (rdD (0, 0) x13 x15).1 x14.length) <|
         gd (inb (rdD (0, 0) x13 x15).1 x14.length) <|
         gd (inb x15 x13.length) <|
         gd (inb (rdD (0, 0) x13 x15).2 x14.length) <|
         gd (inb (rdD (0, 0) x13 x15).2 x14.length) <|
         next12 (x13, stL (stL x14 (rdD (0, 0) x13 x15).1 (w64 ((rdD 0 x14 (rdD (0, 0) x13 x15).1) + 1))) (rdD (0, 0) x13 x15).2 (w64 ((rdD 0 (stL x14 (rdD (0, 0) x13 x15).1 (w64 ((rdD 0 x14 (rdD (0, 0) x13 x15).1) + 1))) (rdD (0, 0) x13 x15).2) + 1)), w64 (x15 + 1))
        else
         some (x14, 0)) k (x5, rpL x4 0, 0)) k (y0, y1, 0)) fun j16 =>
   bif decide (a0 < 0) then
    j16 (a0, a1, true)
   else
    j16 (a0, a1, decide (a0 > 1048576))
theorem eq_parquetref08_Degrees (k : Nat) (a0 : Int) (a1 : (List (Int × Int))) : textF [] tb k Try.f60 an_parquetref08_Degrees [.d kI, .d (.sl (.pair kI kI))] [.sl kI, kI] (a0, a1) = g_parquetref08_Degrees k a0 a1 := by kernel_rfl
theorem tells_parquetref08_Degrees (k : Nat) : TellsF Try.prog 60 [.d kI, .d (.sl (.pair kI kI))] [.sl kI, kI] (fun x => g_parquetref08_Degrees k (x.1) (x.2)) := fun x y h => fun_tells tb_ok mix (es := []) (EsOk.nil _) Try.func60 (N := k) (an := an_parquetref08_Degrees) (by kernel_rfl) x y ((eq_parquetref08_Degrees k (x.1) (x.2)).trans h)

def an_parquetref08_like : Ann := .node none none .leaf (.node none none (.node (some [(4, .d .bool)]) none .leaf .leaf) .leaf)
def g_parquetref08_like (k : Nat) (a0 : (Int × Int)) (a1 : (Int × Int)) : Option Bool :=
  meet (α := Bool) (fun y0 =>
    some y0) fun j1 =>
   bif decide (a0.1 = a1.1) then
    bif decide (a0.2 = a1.2) then
     j1 true
    else
     bif decide (a0.1 = a1.2) then
      j1 (decide (a0.2 = a1.1))
     else
      j1 false
   else
    bif decide (a0.1 = a1.2) then
     j1 (decide (a0.2 = a1.1))
    else
     j1 false
theorem eq_parquetref08_like (k : Nat) (a0 : (Int × Int)) (a1 : (Int × Int)) : textF [] tb k Try.f61 an_parquetref08_like [.d (.pair kI kI), .d (.pair kI kI)] [.bool] (a0, a1) = g_parquetref08_like k a0 a1 := by kernel_rfl
theorem tells_parquetref08_like (k : Nat) : TellsF Try.prog 61 [.d (.pair kI kI), .d (.pair kI kI)] [.bool] (fun x => g_parquetref08_like k (x.1) (x.2)) := fun x y h => fun_tells tb_ok mix (es := []) (EsOk.nil _) Try.func61 (N := k) (an := an_parquetref08_like) (by kernel_rfl) x y ((eq_parquetref08_like k (x.1) (x.2)).trans h)

def an_parquetref08_beside : Ann := .node none none .leaf (.node none none .leaf (.node none none (.node none none .leaf (.node none none (.node none (some [(0, .d (.sl (.pair kI kI))), (1, .d kI), (2, .d (.sl kI)), (7, .d kI), (8, .d kI)]) (.node none none .leaf (.node none none (.node none none (.node none none .leaf (.node none none (.node none none .leaf (.node (some [(0, .d (.sl (.pair kI kI))), (1, .d kI), (2, .d (.sl kI)), (7, .d kI), (8, .d kI), (9, .d kI)]) none .leaf .leaf)) (.node none none (.node none none .leaf (.node (some [(0, .d (.sl (.pair kI kI))), (1, .d kI), (2, .d (.sl kI)), (7, .d kI), (8, .d kI), (9, .d kI)]) none .leaf .leaf)) (.node none none (.node none none .leaf (.node none none (.node none (some [(0, .d (.sl (.pair kI kI))), (1, .d kI), (2, .d (.sl kI)), (7, .d kI), (8, .d kI), (9, .d kI), (10, .d kI)]) (.node none none .leaf (.node none none (.node none none (.node none none .leaf (.node (some [(0, .d (.sl (.pair kI kI))), (1, .d kI), (2, .d (.sl kI)), (7, .d kI), (8, .d kI), (9, .d kI), (10, .d kI)]) none .leaf .leaf)) .leaf) .leaf)) .leaf) .leaf)) (.node none none (.node (some [(0, .d (.sl (.pair kI kI))), (1, .d kI), (2, .d (.sl kI)), (7, .d kI), (8, .d kI), (9, .d kI), (63, .d .bool)]) none .leaf .leaf) (.node (some [(0, .d (.sl (.pair kI kI))), (1, .d kI), (2, .d (.sl kI)), (7, .d kI), (8, .d kI)]) none .leaf .leaf)))))) .leaf) .leaf)) .leaf) .leaf)) .leaf))
def g_parquetref08_beside (k : Nat) (a0 : (List (Int × Int))) (a1 : Int) (a2 : (List Int)) : Option Int :=
  loopN (α := ((List (Int × Int)) × (Int × ((List Int) × (Int × Int))))) (fun (x1, x2, x3, x4, x5) next0 =>
    bif decide (x5 < (x1.length : Int)) then
     gd (inb x5 x1.length) <|
     meet (α := ((List (Int × Int)) × (Int × ((List Int) × (Int × (Int × Int)))))) (fun (y6, y7, y8, y9, y10, y11) =>
      gd (inb y10 y6.length) <|
      meet (α := ((List (Int × Int)) × (Int × ((List Int) × (Int × (Int × Int)))))) (fun (y12, y13, y14, y15, y16, y17) =>
       loopN (α := ((List (Int × Int)) × (Int × ((List Int) × (Int × (Int × (Int × Int))))))) (fun (x19, x20, x21, x22, x23, x24, x25) next18 =>
        bif decide (x25 < (x21.length : Int)) then
         gd (inb x25 x21.length) <|
         meet (α := ((List (Int × Int)) × (Int × ((List Int) × (Int × (Int × (Int × Int))))))) (fun (y26, y27, y28, y29, y30, y31, y32) =>
          next18 (y26, y27, y28, y29, y30, y31, w64 (y32 + 1))) fun j33 =>
         bif decide ((rdD 0 x21 x25) = x24) then
          j33 (x19, x20, x21, x22, x23, (-1), x25)
         else
          j33 (x19, x20, x21, x22, x23, x24, x25)
        else
         meet (α := ((List (Int × Int)) × (Int × ((List Int) × (Int × (Int × (Int × Bool))))))) (fun (y34, y35, y36, y37, y38, y39, y40) =>
          meet (α := ((List (Int × Int)) × (Int × ((List Int) × (Int × Int))))) (fun (y41, y42, y43, y44, y45) =>
           next0 (y41, y42, y43, y44, w64 (y45 + 1))) fun j46 =>
          bif y40 then
           j46 (y34, y35, y36, y39, y38)
          else
           j46 (y34, y35, y36, y37, y38)) fun j47 =>
         bif decide (x24 ≥ 0) then
          bif decide (x22 < 0) then
           j47 (x19, x20, x21, x22, x23, x24, true)
          else
           j47 (x19, x20, x21, x22, x23, x24, decide (x24 < x22))
         else
          j47 (x19, x20, x21, x22, x23, x24, false)) k (y12, y13, y14, y15, y16, y17, 0)) fun j48 =>
      bif decide ((rdD (0, 0) y6 y10).2 = y7) then
       gd (inb y10 y6.length) <|
       j48 (y6, y7, y8, y9, y10, (rdD (0, 0) y6 y10).1)
      else
       j48 (y6, y7, y8, y9, y10, y11)) fun j49 =>
     bif decide ((rdD (0, 0) x1 x5).1 = x2) then
      gd (inb x5 x1.length) <|
      j49 (x1, x2, x3, x4, x5, (rdD (0, 0) x1 x5).2)
     else
      j49 (x1, x2, x3, x4, x5, (-1))
    else
     some x4) k (a0, a1, a2, (-1), 0)
theorem eq_parquetref08_beside (k : Nat) (a0 : (List (Int × Int))) (a1 : Int) (a2 : (List Int)) : textF [] tb k Try.f62 an_parquetref08_beside [.d (.sl (.pair kI kI)), .d kI, .d (.sl kI)] [kI] (a0, a1, a2) = g_parquetref08_beside k a0 a1 a2 := by kernel_rfl
theorem tells_parquetref08_beside (k : Nat) : TellsF Try.prog 62 [.d (.sl (.pair kI kI)), .d kI, .d (.sl kI)] [kI] (fun x => g_parquetref08_beside k (x.1) (x.2.1) (x.2.2)) := fun x y h => fun_tells tb_ok mix (es := []) (EsOk.nil _) Try.func62 (N := k) (an := an_parquetref08_beside) (by kernel_rfl) x y ((eq_parquetref08_beside k (x.1) (x.2.1) (x.2.2)).trans h)

def an_parquetref08_Rings : Ann := .node none none .leaf (.node none none .leaf (.node none none .leaf (.node none none (.node none none .leaf (.node none none (.node none (some [(0, .d kI), (1, .d (.sl (.pair kI kI))), (7, .d (.sl kI)), (9, .d kI)]) (.node none none .leaf (.node none none (.node none none (.node none none .leaf (.node none none (.node none (some [(0, .d kI), (1, .d (.sl (.pair kI kI))), (7, .d (.sl kI)), (9, .d kI), (10, .d kI)]) .leaf .leaf) .leaf)) .leaf) .leaf)) .leaf) .leaf)) (.node none none (.node none none .leaf (.node none none (.node none (some [(0, .d kI), (1, .d (.sl (.pair kI kI))), (7, .d (.sl kI)), (11, .d kI)]) (.node none none .leaf (.node none none (.node none none (.node none none (.node (some [(0, .d kI), (1, .d (.sl (.pair kI kI))), (7, .d (.sl kI)), (11, .d kI), (65, .d .bool)]) none .leaf .leaf) .leaf) .leaf) .leaf)) .leaf) .leaf)) (.node none none .leaf (.node none none .leaf (.node none none (.node none none .leaf (.node none none (.node none (some [(0, .d kI), (1, .d (.sl (.pair kI kI))), (7, .d (.sl kI)), (12, .row (.sl kI) 43), (13, .row kI 3), (14, .d kI)]) (.node none none .leaf (.node none none (.node (some [(0, .d kI), (1, .d (.sl (.pair kI kI))), (7, .d (.sl kI)), (12, .row (.sl kI) 43), (13, .row kI 3), (14, .d kI)]) none (.node none none .leaf (.node none none (.node none none .leaf (.node none none (.node none (some [(0, .d kI), (1, .d (.sl (.pair kI kI))), (7, .d (.sl kI)), (12, .row (.sl kI) 43), (13, .row kI 3), (14, .d kI), (15, .d .bool), (16, .d kI)]) (.node none none .leaf (.node none none (.node none none (.node (some [(0, .d kI), (1, .d (.sl (.pair kI kI))), (7, .d (.sl kI)), (12, .row (.sl kI) 43), (13, .row kI 3), (14, .d kI), (15, .d .bool), (16, .d kI)]) none .leaf .leaf) .leaf) .leaf)) .leaf) .leaf)) (.node none none .leaf (.node none none .leaf (.node none none (.node none none (.node none (some [(0, .d kI), (1, .d (.sl (.pair kI kI))), (7, .d (.sl kI)), (12, .row (.sl kI) 43), (13, .row kI 3), (14, .d kI), (17, .row kI 3)]) .leaf .leaf) .leaf) .leaf))))) .leaf) .leaf)) .leaf) .leaf)) .leaf)))))))
def b_parquetref08_Rings (k : Nat) (c_parquetref08_Degrees : Int → (List (Int × Int)) → Option ((List Int) × Int)) (c_parquetref08_like : (Int × Int) → (Int × Int) → Option Bool) (c_parquetref08_beside : (List (Int × Int)) → Int → (List Int) → Option Int) (a0 : Int) (a1 : (List (Int × Int))) : Option ((List (List Int)) × Int × Int) :=
  bnd (c_parquetref08_Degrees a0 a1) fun r0 =>
   bif !(decide (r0.2 = 0)) then
    some ([], 0, r0.2)
   else
    loopN (α := (Int × ((List (Int × Int)) × ((List Int) × Int)))) (fun (x2, x3, x4, x5) next1 =>
     bif decide (x5 < (x3.length : Int)) then
      loopN (α := (Int × ((List (Int × Int)) × ((List Int) × (Int × Int))))) (fun (x7, x8, x9, x10, x11) next6 =>
       bif decide (x11 < x10) then
        gd (inb x10 x8.length) <|
        gd (inb x11 x8.length) <|
        bnd (c_parquetref08_like ((rdD (0, 0) x8 x10).1, (rdD (0, 0) x8 x10).2) ((rdD (0, 0) x8 x11).1, (rdD (0, 0) x8 x11).2)) fun r12 =>
        bif r12 then
         some ([], x10, 80)
        else
         next6 (x7, x8, x9, x10, w64 (x11 + 1))
       else
        next1 (x7, x8, x9, w64 (x10 + 1))) k (x2, x3, x4, x5, 0)
     else
      loopN (α := (Int × ((List (Int × Int)) × ((List Int) × Int)))) (fun (x14, x15, x16, x17) next13 =>
       bif decide (x17 < x14) then
        meet (α := (Int × ((List (Int × Int)) × ((List Int) × (Int × Bool))))) (fun (y18, y19, y20, y21, y22) =>
         bif y22 then
          some ([], y21, 81)
         else
          next13 (y18, y19, y20, w64 (y21 + 1))) fun j23 =>
        gd (inb x17 x16.length) <|
        bif !(decide ((rdD 0 x16 x17) = 0)) then
         gd (inb x17 x16.length) <|
         j23 (x14, x15, x16, x17, !(decide ((rdD 0 x16 x17) = 2)))
        else
         j23 (x14, x15, x16, x17, false)
       else
        loopN (α := (Int × ((List (Int × Int)) × ((List Int) × ((List (List Int)) × ((List Int) × Int)))))) (fun (x25, x26, x27, x28, x29, x30) next24 =>
         bif decide (x30 < x25) then
          meet (α := (Int × ((List (Int × Int)) × ((List Int) × ((List (List Int)) × ((List Int) × Int)))))) (fun (y31, y32, y33, y34, y35, y36) =>
           next24 (y31, y32, y33, y34, y35, w64 (y36 + 1))) fun j37 =>
          gd (inb x30 x27.length) <|
          loopN (α := (Int × ((List (Int × Int)) × ((List Int) × ((List (List Int)) × ((List Int) × (Int × (Bool × Int)))))))) (fun (x39, x40, x41, x42, x43, x44, x45, x46) next38 =>
           bif decide (x46 < (x43.length : Int)) then
            meet (α := (Int × ((List (Int × Int)) × ((List Int) × ((List (List Int)) × ((List Int) × (Int × (Bool × Int)))))))) (fun (y47, y48, y49, y50, y51, y52, y53, y54) =>
             next38 (y47, y48, y49, y50, y51, y52, y53, w64 (y54 + 1))) fun j55 =>
            bif x45 then
             j55 (x39, x40, x41, x42, x43, x44, true, x46)
            else
             gd (inb x46 x43.length) <|
             j55 (x39, x40, x41, x42, x43, x44, decide ((rdD 0 x43 x46) = x44), x46)
           else
            bif x45 then
             j37 (x39, x40, x41, x42, x43, x44)
            else
             loopN (α := (Int × ((List (Int × Int)) × ((List Int) × ((List (List Int)) × ((List Int) × (Int × (List Int)))))))) (fun (x57, x58, x59, x60, x61, x62, x63) next56 =>
              gd (inb (w64 ((x63.length : Int) - 1)) x63.length) <|
              bnd (c_parquetref08_beside x58 (rdD 0 x63 (w64 ((x63.length : Int) - 1))) x63) fun r64 =>
              bif decide (r64 < 0) then
               gd (few (x60.length + 1)) <|
               gd (few (x61.length + x63.length)) <|
               j37 (x57, x58, x59, x60 ++ [x63], x61 ++ x63, x62)
              else
               gd (few (x63.length + 1)) <|
               next56 (x57, x58, x59, x60, x61, x62, x63 ++ [r64])) k (x39, x40, x41, x42, x43, x44, [x44])) k (x25, x26, x27, x28, x29, x30, decide ((rdD 0 x27 x30) = 0), 0)
         else
          some (x28, 0, 0)) k (x14, x15, x16, [], [], 0)) k (x2, x3, x4, 0)) k (a0, a1, r0.1, 0)
theorem eq_parquetref08_Rings (k : Nat) (c_parquetref08_Degrees : Int → (List (Int × Int)) → Option ((List Int) × Int)) (c_parquetref08_like : (Int × Int) → (Int × Int) → Option Bool) (c_parquetref08_beside : (List (Int × Int)) → Int → (List Int) → Option Int) (a0 : Int) (a1 : (List (Int × Int))) : textF [⟨60, [.d kI, .d (.sl (.pair kI kI))], [.sl kI, kI], fun x => c_parquetref08_Degrees (x.1) (x.2), none⟩, ⟨61, [.d (.pair kI kI), .d (.pair kI kI)], [.bool], fun x => c_parquetref08_like (x.1) (x.2), none⟩, ⟨62, [.d (.sl (.pair kI kI)), .d kI, .d (.sl kI)], [kI], fun x => c_parquetref08_beside (x.1) (x.2.1) (x.2.2), none⟩] tb k Try.f40 an_parquetref08_Rings [.d kI, .d (.sl (.pair kI kI))] [.sl (.sl kI), kI, kI] (a0, a1) = b_parquetref08_Rings k c_parquetref08_Degrees c_parquetref08_like c_parquetref08_beside a0 a1 := by kernel_rfl
def g_parquetref08_Rings (k : Nat) (a0 : Int) (a1 : (List (Int × Int))) : Option ((List (List Int)) × Int × Int) := b_parquetref08_Rings k (g_parquetref08_Degrees k) (g_parquetref08_like k) (g_parquetref08_beside k) a0 a1
theorem tells_parquetref08_Rings (k : Nat) : TellsF Try.prog 40 [.d kI, .d (.sl (.pair kI kI))] [.sl (.sl kI), kI, kI] (fun x => g_parquetref08_Rings k (x.1) (x.2)) := fun x y h => fun_tells tb_ok mix (es := [⟨60, [.d kI, .d (.sl (.pair kI kI))], [.sl kI, kI], fun x => g_parquetref08_Degrees k (x.1) (x.2), none⟩, ⟨61, [.d (.pair kI kI), .d (.pair kI kI)], [.bool], fun x => g_parquetref08_like k (x.1) (x.2), none⟩, ⟨62, [.d (.sl (.pair kI kI)), .d kI, .d (.sl kI)], [kI], fun x => g_parquetref08_beside k (x.1) (x.2.1) (x.2.2), none⟩]) (EsOk.cons (EntryOk.of rfl (tells_parquetref08_Degrees k)) (EsOk.cons (EntryOk.of rfl (tells_parquetref08_like k)) (EsOk.cons (EntryOk.of rfl (tells_parquetref08_beside k)) (EsOk.nil _)))) Try.func40 (N := k) (an := an_parquetref08_Rings) (by kernel_rfl) x y ((eq_parquetref08_Rings k (g_parquetref08_Degrees k) (g_parquetref08_like k) (g_parquetref08_beside k) (x.1) (x.2)).trans h)

end Go.Proofs.Ytjbimhfhapnjeaa.AM
