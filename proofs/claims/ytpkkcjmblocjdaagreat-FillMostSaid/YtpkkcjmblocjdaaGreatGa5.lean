/- The functions, by their texts: written by a program. -/
import Derived.Test.YtpkkcjmblocjdaaGreatGa4
import Derived.Test.YtpkkcjmblocjdaaGreatSrt
set_option linter.unusedVariables false
set_option maxRecDepth 100000
namespace Go.Proofs.YtpkkcjmblocjdaaGreat.AM
open Go.RowKit Go.Proofs
noncomputable section
def an_parquetref03_minus : Ann := .leaf
def b_parquetref03_minus (k : Nat) (c_parquetref01_Num_Neg : (Bool × (List Int)) → Option (Bool × (List Int))) (c_parquetref01_Num_Plus : (Bool × (List Int)) → (Bool × (List Int)) → Option (Bool × (List Int))) (a0 : (Bool × (List Int))) (a1 : (Bool × (List Int))) : Option (Bool × (List Int)) :=
  bnd (c_parquetref01_Num_Neg (a1.1, a1.2)) fun r0 =>
   bnd (c_parquetref01_Num_Plus (a0.1, a0.2) (r0.1, r0.2)) fun r1 =>
   some (r1.1, r1.2)
theorem eq_parquetref03_minus (k : Nat) (c_parquetref01_Num_Neg : (Bool × (List Int)) → Option (Bool × (List Int))) (c_parquetref01_Num_Plus : (Bool × (List Int)) → (Bool × (List Int)) → Option (Bool × (List Int))) (a0 : (Bool × (List Int))) (a1 : (Bool × (List Int))) : textF [⟨66, [.d (.pair .bool (.sl kI))], [.pair .bool (.sl kI)], fun x => c_parquetref01_Num_Neg x, none⟩, ⟨64, [.d (.pair .bool (.sl kI)), .d (.pair .bool (.sl kI))], [.pair .bool (.sl kI)], fun x => c_parquetref01_Num_Plus (x.1) (x.2), none⟩] tb k Tryz.f143 an_parquetref03_minus [.d (.pair .bool (.sl kI)), .d (.pair .bool (.sl kI))] [.pair .bool (.sl kI)] (a0, a1) = b_parquetref03_minus k c_parquetref01_Num_Neg c_parquetref01_Num_Plus a0 a1 := by kernel_rfl
def g_parquetref03_minus (k : Nat) (a0 : (Bool × (List Int))) (a1 : (Bool × (List Int))) : Option (Bool × (List Int)) := b_parquetref03_minus k (g_parquetref01_Num_Neg k) (g_parquetref01_Num_Plus k) a0 a1
theorem tells_parquetref03_minus (k : Nat) : TellsF Tryz.prog 143 [.d (.pair .bool (.sl kI)), .d (.pair .bool (.sl kI))] [.pair .bool (.sl kI)] (fun x => g_parquetref03_minus k (x.1) (x.2)) := fun x y h => fun_tells tb_ok mix (es := [⟨66, [.d (.pair .bool (.sl kI))], [.pair .bool (.sl kI)], fun x => g_parquetref01_Num_Neg k x, none⟩, ⟨64, [.d (.pair .bool (.sl kI)), .d (.pair .bool (.sl kI))], [.pair .bool (.sl kI)], fun x => g_parquetref01_Num_Plus k (x.1) (x.2), none⟩]) (EsOk.cons (EntryOk.of rfl (tells_parquetref01_Num_Neg k)) (EsOk.cons (EntryOk.of rfl (tells_parquetref01_Num_Plus k)) (EsOk.nil _))) Tryz.func143 (N := k) (an := an_parquetref03_minus) (by kernel_rfl) x y ((eq_parquetref03_minus k (g_parquetref01_Num_Neg k) (g_parquetref01_Num_Plus k) (x.1) (x.2)).trans h)

def an_parquetref03_Det : Ann := .leaf
def b_parquetref03_Det (k : Nat) (c_parquetref01_Num_Times : (Bool × (List Int)) → (Bool × (List Int)) → Option (Bool × (List Int))) (c_parquetref03_minus : (Bool × (List Int)) → (Bool × (List Int)) → Option (Bool × (List Int))) (a0 : (Bool × (List Int))) (a1 : (Bool × (List Int))) (a2 : (Bool × (List Int))) (a3 : (Bool × (List Int))) : Option (Bool × (List Int)) :=
  bnd (c_parquetref01_Num_Times (a0.1, a0.2) (a3.1, a3.2)) fun r0 =>
   bnd (c_parquetref01_Num_Times (a1.1, a1.2) (a2.1, a2.2)) fun r1 =>
   bnd (c_parquetref03_minus (r0.1, r0.2) (r1.1, r1.2)) fun r2 =>
   some (r2.1, r2.2)
theorem eq_parquetref03_Det (k : Nat) (c_parquetref01_Num_Times : (Bool × (List Int)) → (Bool × (List Int)) → Option (Bool × (List Int))) (c_parquetref03_minus : (Bool × (List Int)) → (Bool × (List Int)) → Option (Bool × (List Int))) (a0 : (Bool × (List Int))) (a1 : (Bool × (List Int))) (a2 : (Bool × (List Int))) (a3 : (Bool × (List Int))) : textF [⟨103, [.d (.pair .bool (.sl kI)), .d (.pair .bool (.sl kI))], [.pair .bool (.sl kI)], fun x => c_parquetref01_Num_Times (x.1) (x.2), none⟩, ⟨143, [.d (.pair .bool (.sl kI)), .d (.pair .bool (.sl kI))], [.pair .bool (.sl kI)], fun x => c_parquetref03_minus (x.1) (x.2), none⟩] tb k Tryz.f100 an_parquetref03_Det [.d (.pair .bool (.sl kI)), .d (.pair .bool (.sl kI)), .d (.pair .bool (.sl kI)), .d (.pair .bool (.sl kI))] [.pair .bool (.sl kI)] (a0, a1, a2, a3) = b_parquetref03_Det k c_parquetref01_Num_Times c_parquetref03_minus a0 a1 a2 a3 := by kernel_rfl
def g_parquetref03_Det (k : Nat) (a0 : (Bool × (List Int))) (a1 : (Bool × (List Int))) (a2 : (Bool × (List Int))) (a3 : (Bool × (List Int))) : Option (Bool × (List Int)) := b_parquetref03_Det k (g_parquetref01_Num_Times k) (g_parquetref03_minus k) a0 a1 a2 a3
theorem tells_parquetref03_Det (k : Nat) : TellsF Tryz.prog 100 [.d (.pair .bool (.sl kI)), .d (.pair .bool (.sl kI)), .d (.pair .bool (.sl kI)), .d (.pair .bool (.sl kI))] [.pair .bool (.sl kI)] (fun x => g_parquetref03_Det k (x.1) (x.2.1) (x.2.2.1) (x.2.2.2)) := fun x y h => fun_tells tb_ok mix (es := [⟨103, [.d (.pair .bool (.sl kI)), .d (.pair .bool (.sl kI))], [.pair .bool (.sl kI)], fun x => g_parquetref01_Num_Times k (x.1) (x.2), none⟩, ⟨143, [.d (.pair .bool (.sl kI)), .d (.pair .bool (.sl kI))], [.pair .bool (.sl kI)], fun x => g_parquetref03_minus k (x.1) (x.2), none⟩]) (EsOk.cons (EntryOk.of rfl (tells_parquetref01_Num_Times k)) (EsOk.cons (EntryOk.of rfl (tells_parquetref03_minus k)) (EsOk.nil _))) Tryz.func100 (N := k) (an := an_parquetref03_Det) (by kernel_rfl) x y ((eq_parquetref03_Det k (g_parquetref01_Num_Times k) (g_parquetref03_minus k) (x.1) (x.2.1) (x.2.2.1) (x.2.2.2)).trans h)

def an_parquetref03_Area : Ann := .leaf
def b_parquetref03_Area (k : Nat) (c_parquetref03_num : Int → Option (Bool × (List Int))) (c_parquetref03_Det : (Bool × (List Int)) → (Bool × (List Int)) → (Bool × (List Int)) → (Bool × (List Int)) → Option (Bool × (List Int))) (c_parquetref01_Num_Plus : (Bool × (List Int)) → (Bool × (List Int)) → Option (Bool × (List Int))) (a0 : (Int × Int)) (a1 : (Int × Int)) (a2 : (Int × Int)) : Option (Bool × (List Int)) :=
  bnd (c_parquetref03_num a0.1) fun r0 =>
   bnd (c_parquetref03_num a0.2) fun r1 =>
   bnd (c_parquetref03_num a1.1) fun r2 =>
   bnd (c_parquetref03_num a1.2) fun r3 =>
   bnd (c_parquetref03_Det (r0.1, r0.2) (r1.1, r1.2) (r2.1, r2.2) (r3.1, r3.2)) fun r4 =>
   bnd (c_parquetref03_num a1.1) fun r5 =>
   bnd (c_parquetref03_num a1.2) fun r6 =>
   bnd (c_parquetref03_num a2.1) fun r7 =>
   bnd (c_parquetref03_num a2.2) fun r8 =>
   bnd (c_parquetref03_Det (r5.1, r5.2) (r6.1, r6.2) (r7.1, r7.2) (r8.1, r8.2)) fun r9 =>
   bnd (c_parquetref01_Num_Plus (r4.1, r4.2) (r9.1, r9.2)) fun r10 =>
   bnd (c_parquetref03_num a2.1) fun r11 =>
   bnd (c_parquetref03_num a2.2) fun r12 =>
   bnd (c_parquetref03_num a0.1) fun r13 =>
   bnd (c_parquetref03_num a0.2) fun r14 =>
   bnd (c_parquetref03_Det (r11.1, r11.2) (r12.1, r12.2) (r13.1, r13.2) (r14.1, r14.2)) fun r15 =>
   bnd (c_parquetref01_Num_Plus (r10.1, r10.2) (r15.1, r15.2)) fun r16 =>
   some (r16.1, r16.2)
theorem eq_parquetref03_Area (k : Nat) (c_parquetref03_num : Int → Option (Bool × (List Int))) (c_parquetref03_Det : (Bool × (List Int)) → (Bool × (List Int)) → (Bool × (List Int)) → (Bool × (List Int)) → Option (Bool × (List Int))) (c_parquetref01_Num_Plus : (Bool × (List Int)) → (Bool × (List Int)) → Option (Bool × (List Int))) (a0 : (Int × Int)) (a1 : (Int × Int)) (a2 : (Int × Int)) : textF [⟨101, [.d kI], [.pair .bool (.sl kI)], fun x => c_parquetref03_num x, none⟩, ⟨100, [.d (.pair .bool (.sl kI)), .d (.pair .bool (.sl kI)), .d (.pair .bool (.sl kI)), .d (.pair .bool (.sl kI))], [.pair .bool (.sl kI)], fun x => c_parquetref03_Det (x.1) (x.2.1) (x.2.2.1) (x.2.2.2), none⟩, ⟨64, [.d (.pair .bool (.sl kI)), .d (.pair .bool (.sl kI))], [.pair .bool (.sl kI)], fun x => c_parquetref01_Num_Plus (x.1) (x.2), none⟩] tb k Tryz.f65 an_parquetref03_Area [.d (.pair kI kI), .d (.pair kI kI), .d (.pair kI kI)] [.pair .bool (.sl kI)] (a0, a1, a2) = b_parquetref03_Area k c_parquetref03_num c_parquetref03_Det c_parquetref01_Num_Plus a0 a1 a2 := by kernel_rfl
def g_parquetref03_Area (k : Nat) (a0 : (Int × Int)) (a1 : (Int × Int)) (a2 : (Int × Int)) : Option (Bool × (List Int)) := b_parquetref03_Area k (g_parquetref03_num k) (g_parquetref03_Det k) (g_parquetref01_Num_Plus k) a0 a1 a2
theorem tells_parquetref03_Area (k : Nat) : TellsF Tryz.prog 65 [.d (.pair kI kI), .d (.pair kI kI), .d (.pair kI kI)] [.pair .bool (.sl kI)] (fun x => g_parquetref03_Area k (x.1) (x.2.1) (x.2.2)) := fun x y h => fun_tells tb_ok mix (es := [⟨101, [.d kI], [.pair .bool (.sl kI)], fun x => g_parquetref03_num k x, none⟩, ⟨100, [.d (.pair .bool (.sl kI)), .d (.pair .bool (.sl kI)), .d (.pair .bool (.sl kI)), .d (.pair .bool (.sl kI))], [.pair .bool (.sl kI)], fun x => g_parquetref03_Det k (x.1) (x.2.1) (x.2.2.1) (x.2.2.2), none⟩, ⟨64, [.d (.pair .bool (.sl kI)), .d (.pair .bool (.sl kI))], [.pair .bool (.sl kI)], fun x => g_parquetref01_Num_Plus k (x.1) (x.2), none⟩]) (EsOk.cons (EntryOk.of rfl (tells_parquetref03_num k)) (EsOk.cons (EntryOk.of rfl (tells_parquetref03_Det k)) (EsOk.cons (EntryOk.of rfl (tells_parquetref01_Num_Plus k)) (EsOk.nil _)))) Tryz.func65 (N := k) (an := an_parquetref03_Area) (by kernel_rfl) x y ((eq_parquetref03_Area k (g_parquetref03_num k) (g_parquetref03_Det k) (g_parquetref01_Num_Plus k) (x.1) (x.2.1) (x.2.2)).trans h)

def an_parquetref01_Num_Sign : Ann := .leaf
def g_parquetref01_Num_Sign (k : Nat) (a0 : (Bool × (List Int))) : Option Int :=
  bif decide ((a0.2.length : Int) = 0) then
    some 0
   else
    bif a0.1 then
     some (-1)
    else
     some 1
theorem eq_parquetref01_Num_Sign (k : Nat) (a0 : (Bool × (List Int))) : textF [] tb k Tryz.f67 an_parquetref01_Num_Sign [.d (.pair .bool (.sl kI))] [kI] a0 = g_parquetref01_Num_Sign k a0 := by kernel_rfl
theorem tells_parquetref01_Num_Sign (k : Nat) : TellsF Tryz.prog 67 [.d (.pair .bool (.sl kI))] [kI] (fun x => g_parquetref01_Num_Sign k x) := fun x y h => fun_tells tb_ok mix (es := []) (EsOk.nil _) Tryz.func67 (N := k) (an := an_parquetref01_Num_Sign) (by kernel_rfl) x y ((eq_parquetref01_Num_Sign k x).trans h)

def an_parquetref03_Orient : Ann := .node none none .leaf (.node none none (.node none none (.node (some [(3, .box [.d (.pair kI kI)]), (4, .box [.d (.pair kI kI)]), (5, .box [.d (.pair kI kI)]), (19, .d .bool)]) none .leaf .leaf) .leaf) .leaf)
def b_parquetref03_Orient (k : Nat) (c_parquetref03_Fits : (Int × Int) → Option Bool) (c_parquetref03_Area : (Int × Int) → (Int × Int) → (Int × Int) → Option (Bool × (List Int))) (c_parquetref01_Num_Sign : (Bool × (List Int)) → Option Int) (a0 : (Int × Int)) (a1 : (Int × Int)) (a2 : (Int × Int)) : Option Int :=
  meet (α := ((Int × Int) × ((Int × Int) × ((Int × Int) × Bool)))) (fun (y0, y1, y2, y3) =>
    bif y3 then
     some 0
    else
     bnd (c_parquetref03_Area (y0.1, y0.2) (y1.1, y1.2) (y2.1, y2.2)) fun r4 =>
     bnd (c_parquetref01_Num_Sign (r4.1, r4.2)) fun r5 =>
     some r5) fun j6 =>
   bnd (c_parquetref03_Fits (a0.1, a0.2)) fun r7 =>
   bif !r7 then
    j6 ((a0.1, a0.2), (a1.1, a1.2), (a2.1, a2.2), true)
   else
    bnd (c_parquetref03_Fits (a1.1, a1.2)) fun r8 =>
    bif !r8 then
     j6 ((a0.1, a0.2), (a1.1, a1.2), (a2.1, a2.2), true)
    else
     bnd (c_parquetref03_Fits (a2.1, a2.2)) fun r9 =>
     j6 ((a0.1, a0.2), (a1.1, a1.2), (a2.1, a2.2), !r9)
theorem eq_parquetref03_Orient (k : Nat) (c_parquetref03_Fits : (Int × Int) → Option Bool) (c_parquetref03_Area : (Int × Int) → (Int × Int) → (Int × Int) → Option (Bool × (List Int))) (c_parquetref01_Num_Sign : (Bool × (List Int)) → Option Int) (a0 : (Int × Int)) (a1 : (Int × Int)) (a2 : (Int × Int)) : textF [⟨72, [.d (.pair kI kI)], [.bool], fun x => c_parquetref03_Fits x, none⟩, ⟨65, [.d (.pair kI kI), .d (.pair kI kI), .d (.pair kI kI)], [.pair .bool (.sl kI)], fun x => c_parquetref03_Area (x.1) (x.2.1) (x.2.2), none⟩, ⟨67, [.d (.pair .bool (.sl kI))], [kI], fun x => c_parquetref01_Num_Sign x, none⟩] tb k Tryz.f73 an_parquetref03_Orient [.d (.pair kI kI), .d (.pair kI kI), .d (.pair kI kI)] [kI] (a0, a1, a2) = b_parquetref03_Orient k c_parquetref03_Fits c_parquetref03_Area c_parquetref01_Num_Sign a0 a1 a2 := by kernel_rfl
def g_parquetref03_Orient (k : Nat) (a0 : (Int × Int)) (a1 : (Int × Int)) (a2 : (Int × Int)) : Option Int := b_parquetref03_Orient k (g_parquetref03_Fits k) (g_parquetref03_Area k) (g_parquetref01_Num_Sign k) a0 a1 a2
theorem tells_parquetref03_Orient (k : Nat) : TellsF Tryz.prog 73 [.d (.pair kI kI), .d (.pair kI kI), .d (.pair kI kI)] [kI] (fun x => g_parquetref03_Orient k (x.1) (x.2.1) (x.2.2)) := fun x y h => fun_tells tb_ok mix (es := [⟨72, [.d (.pair kI kI)], [.bool], fun x => g_parquetref03_Fits k x, none⟩, ⟨65, [.d (.pair kI kI), .d (.pair kI kI), .d (.pair kI kI)], [.pair .bool (.sl kI)], fun x => g_parquetref03_Area k (x.1) (x.2.1) (x.2.2), none⟩, ⟨67, [.d (.pair .bool (.sl kI))], [kI], fun x => g_parquetref01_Num_Sign k x, none⟩]) (EsOk.cons (EntryOk.of rfl (tells_parquetref03_Fits k)) (EsOk.cons (EntryOk.of rfl (tells_parquetref03_Area k)) (EsOk.cons (EntryOk.of rfl (tells_parquetref01_Num_Sign k)) (EsOk.nil _)))) Tryz.func73 (N := k) (an := an_parquetref03_Orient) (by kernel_rfl) x y ((eq_parquetref03_Orient k (g_parquetref03_Fits k) (g_parquetref03_Area k) (g_parquetref01_Num_Sign k) (x.1) (x.2.1) (x.2.2)).trans h)

def an_parquetref12_Has : Ann := .node none none .leaf (.node none none (.node none none .leaf (.node none none (.node none (some [(0, .d (.sl (.pair kI kI))), (1, .d kI), (2, .d kI), (7, .d kI)]) (.node none none .leaf (.node none none (.node none none (.node none none (.node (some [(0, .d (.sl (.pair kI kI))), (1, .d kI), (2, .d kI), (7, .d kI), (47, .d .bool)]) none .leaf .leaf) .leaf) .leaf) .leaf)) .leaf) .leaf)) .leaf)
def g_parquetref12_Has (k : Nat) (a0 : (List (Int × Int))) (a1 : Int) (a2 : Int) : Option Bool :=
  loopN (α := ((List (Int × Int)) × (Int × (Int × Int)))) (fun (x1, x2, x3, x4) next0 =>
    bif decide (x4 < (x1.length : Int)) then
     meet (α := ((List (Int × Int)) × (Int × (Int × (Int × Bool))))) (fun (y5, y6, y7, y8, y9) =>
      bif y9 then
       some true
      else
       next0 (y5, y6, y7, w64 (y8 + 1))) fun j10 =>
     gd (inb x4 x1.length) <|
     bif decide ((rdD (0, 0) x1 x4).1 = x2) then
      gd (inb x4 x1.length) <|
      bif decide ((rdD (0, 0) x1 x4).2 = x3) then
       j10 (x1, x2, x3, x4, true)
      else
       gd (inb x4 x1.length) <|
       bif decide ((rdD (0, 0) x1 x4).1 = x3) then
        gd (inb x4 x1.length) <|
        j10 (x1, x2, x3, x4, decide ((rdD (0, 0) x1 x4).2 = x2))
       else
        j10 (x1, x2, x3, x4, false)
     else
      gd (inb x4 x1.length) <|
      bif decide ((rdD (0, 0) x1 x4).1 = x3) then
       gd (inb x4 x1.length) <|
       j10 (x1, x2, x3, x4, decide ((rdD (0, 0) x1 x4).2 = x2))
      else
       j10 (x1, x2, x3, x4, false)
    else
     some false) k (a0, a1, a2, 0)
theorem eq_parquetref12_Has (k : Nat) (a0 : (List (Int × Int))) (a1 : Int) (a2 : Int) : textF [] tb k Tryz.f28 an_parquetref12_Has [.d (.sl (.pair kI kI)), .d kI, .d kI] [.bool] (a0, a1, a2) = g_parquetref12_Has k a0 a1 a2 := by kernel_rfl
theorem tells_parquetref12_Has (k : Nat) : TellsF Tryz.prog 28 [.d (.sl (.pair kI kI)), .d kI, .d kI] [.bool] (fun x => g_parquetref12_Has k (x.1) (x.2.1) (x.2.2)) := fun x y h => fun_tells tb_ok mix (es := []) (EsOk.nil _) Tryz.func28 (N := k) (an := an_parquetref12_Has) (by kernel_rfl) x y ((eq_parquetref12_Has k (x.1) (x.2.1) (x.2.2)).trans h)

def an_parquetlaw12_many : Ann := .node none none .leaf (.node none none (.node (some [(2, .d .bool)]) none .leaf .leaf) .leaf)
def g_parquetlaw12_many (k : Nat) (a0 : ((List (Int × Int)) × ((List (Int × Int)) × (List (Int × Int))))) : Option Bool :=
  meet (α := Bool) (fun y0 =>
    some y0) fun j1 =>
   bif decide ((a0.1.length : Int) > 24) then
    bif decide ((a0.1.length : Int) ≤ 200) then
     j1 true
    else
     bif decide ((a0.2.1.length : Int) > 60) then
      bif decide ((a0.2.1.length : Int) ≤ 400) then
       j1 true
      else
       bif decide ((a0.2.2.length : Int) > 60) then
        bif decide ((a0.2.2.length : Int) ≤ 400) then
         j1 true
        else
         bif decide ((a0.1.length : Int) > 300) then
          j1 true
         else
          bif decide ((a0.2.1.length : Int) > 500) then
           j1 true
          else
           j1 (decide ((a0.2.2.length : Int) > 500))
       else
        bif decide ((a0.1.length : Int) > 300) then
         j1 true
        else
         bif decide ((a0.2.1.length : Int) > 500) then
          j1 true
         else
          j1 (decide ((a0.2.2.length : Int) > 500))
     else
      bif decide ((a0.2.2.length : Int) > 60) then
       bif decide ((a0.2.2.length : Int) ≤ 400) then
        j1 true
       else
        bif decide ((a0.1.length : Int) > 300) then
         j1 true
        else
         bif decide ((a0.2.1.length : Int) > 500) then
          j1 true
         else
          j1 (decide ((a0.2.2.length : Int) > 500))
      else
       bif decide ((a0.1.length : Int) > 300) then
        j1 true
       else
        bif decide ((a0.2.1.length : Int) > 500) then
         j1 true
        else
         j1 (decide ((a0.2.2.length : Int) > 500))
   else
    bif decide ((a0.2.1.length : Int) > 60) then
     bif decide ((a0.2.1.length : Int) ≤ 400) then
      j1 true
     else
      bif decide ((a0.2.2.length : Int) > 60) then
       bif decide ((a0.2.2.length : Int) ≤ 400) then
        j1 true
       else
        bif decide ((a0.1.length : Int) > 300) then
         j1 true
        else
         bif decide ((a0.2.1.length : Int) > 500) then
          j1 true
         else
          j1 (decide ((a0.2.2.length : Int) > 500))
      else
       bif decide ((a0.1.length : Int) > 300) then
        j1 true
       else
        bif decide ((a0.2.1.length : Int) > 500) then
         j1 true
        else
         j1 (decide ((a0.2.2.length : Int) > 500))
    else
     bif decide ((a0.2.2.length : Int) > 60) then
      bif decide ((a0.2.2.length : Int) ≤ 400) then
       j1 true
      else
       bif decide ((a0.1.length : Int) > 300) then
        j1 true
       else
        bif decide ((a0.2.1.length : Int) > 500) then
         j1 true
        else
         j1 (decide ((a0.2.2.length : Int) > 500))
     else
      bif decide ((a0.1.length : Int) > 300) then
       j1 true
      else
       bif decide ((a0.2.1.length : Int) > 500) then
        j1 true
       else
        j1 (decide ((a0.2.2.length : Int) > 500))
theorem eq_parquetlaw12_many (k : Nat) (a0 : ((List (Int × Int)) × ((List (Int × Int)) × (List (Int × Int))))) : textF [] tb k Tryz.f10 an_parquetlaw12_many [.d (.pair (.sl (.pair kI kI)) (.pair (.sl (.pair kI kI)) (.sl (.pair kI kI))))] [.bool] a0 = g_parquetlaw12_many k a0 := by kernel_rfl
theorem tells_parquetlaw12_many (k : Nat) : TellsF Tryz.prog 10 [.d (.pair (.sl (.pair kI kI)) (.pair (.sl (.pair kI kI)) (.sl (.pair kI kI))))] [.bool] (fun x => g_parquetlaw12_many k x) := fun x y h => fun_tells tb_ok mix (es := []) (EsOk.nil _) Tryz.func10 (N := k) (an := an_parquetlaw12_many) (by kernel_rfl) x y ((eq_parquetlaw12_many k x).trans h)

def an_parquetref05_Check : Ann := .node none none .leaf (.node none none .leaf (.node none none (.node none none (.node (some [(1, .box [.d (.pair (.sl (.pair kI kI)) (.pair (.sl (.pair kI kI)) (.sl (.pair kI kI))))]), (3, .d kI), (23, .d .bool)]) none .leaf .leaf) .leaf) (.node none none (.node none none .leaf (.node none none (.node none (some [(1, .box [.d (.pair (.sl (.pair kI kI)) (.pair (.sl (.pair kI kI)) (.sl (.pair kI kI))))]), (3, .d kI), (4, .d kI)]) (.node none none .leaf (.node none none (.node none none (.node none none (.node (some [(1, .box [.d (.pair (.sl (.pair kI kI)) (.pair (.sl (.pair kI kI)) (.sl (.pair kI kI))))]), (3, .d kI), (4, .d kI), (62, .d .bool)]) none .leaf .leaf) .leaf) .leaf) .leaf)) .leaf) .leaf)) (.node none none (.node none none .leaf (.node none none (.node none (some [(1, .box [.d (.pair (.sl (.pair kI kI)) (.pair (.sl (.pair kI kI)) (.sl (.pair kI kI))))]), (3, .d kI), (5, .d kI)]) (.node none none .leaf (.node none none (.node none none (.node none none .leaf (.node none none (.node none none .leaf (.node (some [(1, .box [.d (.pair (.sl (.pair kI kI)) (.pair (.sl (.pair kI kI)) (.sl (.pair kI kI))))]), (3, .d kI), (5, .d kI), (6, .box [.d (.pair kI kI)])]) none .leaf .leaf)) (.node none none (.node (some [(1, .box [.d (.pair (.sl (.pair kI kI)) (.pair (.sl (.pair kI kI)) (.sl (.pair kI kI))))]), (3, .d kI), (5, .d kI), (113, .d .bool)]) none .leaf .leaf) .leaf))) .leaf) .leaf)) .leaf) .leaf)) .leaf))))
def g_parquetref05_Check (k : Nat) (a0 : ((List (Int × Int)) × ((List (Int × Int)) × (List (Int × Int))))) : Option Int :=
  meet (α := (((List (Int × Int)) × ((List (Int × Int)) × (List (Int × Int)))) × (Int × Bool))) (fun (y0, y1, y2) =>
    bif y2 then
     some 2
    else
     loopN (α := (((List (Int × Int)) × ((List (Int × Int)) × (List (Int × Int)))) × (Int × Int))) (fun (x4, x5, x6) next3 =>
      bif decide (x6 < x5) then
       meet (α := (((List (Int × Int)) × ((List (Int × Int)) × (List (Int × Int)))) × (Int × (Int × Bool)))) (fun (y7, y8, y9, y10) =>
        bif y10 then
         some 2
        else
         next3 ((y7.1, y7.2.1, y7.2.2), y8, w64 (y9 + 1))) fun j11 =>
       gd (inb x6 x4.1.length) <|
       bif decide ((rdD (0, 0) x4.1 x6).1 > 1048576) then
        j11 ((x4.1, x4.2.1, x4.2.2), x5, x6, true)
       else
        gd (inb x6 x4.1.length) <|
        bif decide ((rdD (0, 0) x4.1 x6).1 < (-1048576)) then
         j11 ((x4.1, x4.2.1, x4.2.2), x5, x6, true)
        else
         gd (inb x6 x4.1.length) <|
         bif decide ((rdD (0, 0) x4.1 x6).2 > 1048576) then
          j11 ((x4.1, x4.2.1, x4.2.2), x5, x6, true)
         else
          gd (inb x6 x4.1.length) <|
          j11 ((x4.1, x4.2.1, x4.2.2), x5, x6, decide ((rdD (0, 0) x4.1 x6).2 < (-1048576)))
      else
       loopN (α := (((List (Int × Int)) × ((List (Int × Int)) × (List (Int × Int)))) × (Int × Int))) (fun (x13, x14, x15) next12 =>
        bif decide (x15 < (w64 ((x13.2.1.length : Int) + (x13.2.2.length : Int)))) then
         meet (α := (((List (Int × Int)) × ((List (Int × Int)) × (List (Int × Int)))) × (Int × (Int × (Int × Int))))) (fun (y16, y17, y18, y19, y20) =>
          meet (α := (((List (Int × Int)) × ((List (Int × Int)) × (List (Int × Int)))) × (Int × (Int × Bool)))) (fun (y21, y22, y23, y24) =>
           bif y24 then
            some 2
           else
            next12 ((y21.1, y21.2.1, y21.2.2), y22, w64 (y23 + 1))) fun j25 =>
          bif decide (y19 < 0) then
           j25 ((y16.1, y16.2.1, y16.2.2), y17, y18, true)
          else
           bif decide (y19 ≥ y17) then
            j25 ((y16.1, y16.2.1, y16.2.2), y17, y18, true)
           else
            bif decide (y20 < 0) then
             j25 ((y16.1, y16.2.1, y16.2.2), y17, y18, true)
            else
             j25 ((y16.1, y16.2.1, y16.2.2), y17, y18, decide (y20 ≥ y17))) fun j26 =>
         bif decide (x15 < (x13.2.1.length : Int)) then
          gd (inb x15 x13.2.1.length) <|
          j26 ((x13.1, x13.2.1, x13.2.2), x14, x15, (rdD (0, 0) x13.2.1 x15).1, (rdD (0, 0) x13.2.1 x15).2)
         else
          gd (inb (w64 (x15 - (x13.2.1.length : Int))) x13.2.2.length) <|
          j26 ((x13.1, x13.2.1, x13.2.2), x14, x15, (rdD (0, 0) x13.2.2 (w64 (x15 - (x13.2.1.length : Int)))).1, (rdD (0, 0) x13.2.2 (w64 (x15 - (x13.2.1.length : Int)))).2)
        else
         some 0) k ((x4.1, x4.2.1, x4.2.2), x5, 0)) k ((y0.1, y0.2.1, y0.2.2), y1, 0)) fun j27 =>
   bif decide ((a0.1.length : Int) > 200) then
    j27 ((a0.1, a0.2.1, a0.2.2), (a0.1.length : Int), true)
   else
    bif decide ((a0.2.1.length : Int) > 400) then
     j27 ((a0.1, a0.2.1, a0.2.2), (a0.1.length : Int), true)
    else
     j27 ((a0.1, a0.2.1, a0.2.2), (a0.1.length : Int), decide ((a0.2.2.length : Int) > 400))
theorem eq_parquetref05_Check (k : Nat) (a0 : ((List (Int × Int)) × ((List (Int × Int)) × (List (Int × Int))))) : textF [] tb k Tryz.f94 an_parquetref05_Check [.d (.pair (.sl (.pair kI kI)) (.pair (.sl (.pair kI kI)) (.sl (.pair kI kI))))] [kI] a0 = g_parquetref05_Check k a0 := by kernel_rfl
theorem tells_parquetref05_Check (k : Nat) : TellsF Tryz.prog 94 [.d (.pair (.sl (.pair kI kI)) (.pair (.sl (.pair kI kI)) (.sl (.pair kI kI))))] [kI] (fun x => g_parquetref05_Check k x) := fun x y h => fun_tells tb_ok mix (es := []) (EsOk.nil _) Tryz.func94 (N := k) (an := an_parquetref05_Check) (by kernel_rfl) x y ((eq_parquetref05_Check k x).trans h)

end
end Go.Proofs.YtpkkcjmblocjdaaGreat.AM
