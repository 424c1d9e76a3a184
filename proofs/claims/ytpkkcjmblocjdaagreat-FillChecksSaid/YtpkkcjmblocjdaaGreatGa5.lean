/- The functions, by their texts: written by a program. -/
import Derived.Test.YtpkkcjmblocjdaaGreatGa4
import Derived.Test.YtpkkcjmblocjdaaGreatSrt
set_option linter.unusedVariables false
set_option maxRecDepth 100000
namespace Go.Proofs.YtpkkcjmblocjdaaGreat.AM
open Go.RowKit Go.Proofs
noncomputable section
def an_parquetref03_minus : Ann := .leaf
def b_parquetref03_minus (k : Nat) (c_parquetref01_Num_Neg : (Bool × (List Int)) → Option (Bool × (List Int))) (c_parquetref01_Num_Plus : (Bool × (List Int)) → (Bool × (List Int)) → Option (Bool × (List Int))) (a0 : (Bool × (List Int))) (a1 : (Bool × (List Int))) : Option (Bool × (List Int)) :=
  bnd (c_parquetref01_Num_Neg (a1.1, a1.2)) fun r0 =>
   bnd (c_parquetref01_Num_Plus (a0.1, a0.2) (r0.1, r0.2)) fun r1 =>
   some (r1.1, r1.2)
theorem eq_parquetref03_minus (k : Nat) (c_parquetref01_Num_Neg : (Bool × (List Int)) → Option (Bool × (List Int))) (c_parquetref01_Num_Plus : (Bool × (List Int)) → (Bool × (List Int)) → Option (Bool × (List Int))) (a0 : (Bool × (List Int))) (a1 : (Bool × (List Int))) : textF [⟨66, [.d (.pair .bool (.sl kI))], [.pair .bool (.sl kI)], fun x => c_parquetref01_Num_Neg x, none⟩, ⟨64, [.d (.pair .bool (.sl kI)), .d (.pair .bool (.sl kI))], [.pair .bool (.sl kI)], fun x => c_parquetref01_Num_Plus (x.1) (x.2), none⟩] tb k Tryz.f143 an_parquetref03_minus [.d (.pair .bool (.sl kI)), .d (.pair .bool (.sl kI))] [.pair .bool (.sl kI)] (a0, a1) = b_parquetref03_minus k c_parquetref01_Num_Neg c_parquetref01_Num_Plus a0 a1 := by kernel_rfl
def g_parquetref03_minus (k : Nat) (a0 : (Bool × (List Int))) (a1 : (Bool × (List Int))) : Option (Bool × (List Int)) := b_parquetref03_minus k (g_parquetref01_Num_Neg k) (g_parquetref01_Num_Plus k) a0 a1
theorem tells_parquetref03_minus (k : Nat) : TellsF Tryz.prog 143 [.d (.pair .bool (.sl kI)), .d (.pair .bool (.sl kI))] [.pair .bool (.sl kI)] (fun x => g_parquetref03_minus k (x.1) (x.2)) := fun x y h => fun_tells tb_ok mix (es := [⟨66, [.d (.pair .bool (.sl kI))], [.pair .bool (.sl kI)], fun x => g_parquetref01_Num_Neg k x, none⟩, ⟨64, [.d (.pair .bool (.sl kI)), .d (.pair .bool (.sl kI))], [.pair .bool (.sl kI)], fun x => g_parquetref01_Num_Plus k (x.1) (x.2), none⟩]) (EsOk.cons (EntryOk.of rfl (tells_parquetref01_Num_Neg k)) (EsOk.cons (EntryOk.of rfl (tells_parquetref01_Num_Plus k)) (EsOk.nil _))) Tryz.func143 (N := k) (an := an_parquetref03_minus) (by kernel_rfl) x y ((eq_parquetref03_minus k (g_parquetref01_Num_Neg k) (g_parquetref01_Num_Plus k) (x.1) (x.2)).trans h)

def an_parquetref03_Det : Ann := .leaf
def b_parquetref03_Det (k : Nat) (c_parquetref01_Num_Times : (Bool × (List Int)) → (Bool × (List Int)) → Option (Bool × (List Int))) (c_parquetref03_minus : (Bool × (List Int)) → (Bool × (List Int)) → Option (Bool × (List Int))) (a0 : (Bool × (List Int))) (a1 : (Bool × (List Int))) (a2 : (Bool × (List Int))) (a3 : (Bool × (List Int))) : Option (Bool × (List Int)) :=
  bnd (c_parquetref01_Num_Times (a0.1, a0.2) (a3.1, a3.2)) fun r0 =>
   bnd (c_parquetref01_Num_Times (a1.1, a1.2) (a2.1, a2.2)) fun r1 =>
   bnd (c_parquetref03_minus (r0.1, r0.2) (r1.1, r1.2)) fun r2 =>
   some (r2.1, r2.2)
theorem eq_parquetref03_Det (k : Nat) (c_parquetref01_Num_Times : (Bool × (List Int)) → (Bool × (List Int)) → Option (Bool × (List Int))) (c_parquetref03_minus : (Bool × (List Int)) → (Bool × (List Int)) → Option (Bool × (List Int))) (a0 : (Bool × (List Int))) (a1 : (Bool × (List Int))) (a2 : (Bool × (List Int))) (a3 : (Bool × (List Int))) : textF [⟨103, [.d (.pair .bool (.sl kI)), .d (.pair .bool (.sl kI))], [.pair .bool (.sl kI)], fun x => c_parquetref01_Num_Times (x.1) (x.2), none⟩, ⟨143, [.d (.pair .bool (.sl kI)), .d (.pair .bool (.sl kI))], [.pair .bool (.sl kI)], fun x => c_parquetref03_minus (x.1) (x.2), none⟩] tb k Tryz.f100 an_parquetref03_Det [.d (.pair .bool (.sl kI)), .d (.pair .bool (.sl kI)), .d (.pair .bool (.sl kI)), .d (.pair .bool (.sl kI))] [.pair .bool (.sl kI)] (a0, a1, a2, a3) = b_parquetref03_Det k c_parquetref01_Num_Times c_parquetref03_minus a0 a1 a2 a3 := by kernel_rfl
def g_parquetref03_Det (k : Nat) (a0 : (Bool × (List Int))) (a1 : (Bool × (List Int))) (a2 : (Bool × (List Int))) (a3 : (Bool × (List Int))) : Option (Bool × (List Int)) := b_parquetref03_Det k (g_parquetref01_Num_Times k) (g_parquetref03_minus k) a0 a1 a2 a3
theorem tells_parquetref03_Det (k : Nat) : TellsF Tryz.prog 100 [.d (.pair .bool (.sl kI)), .d (.pair .bool (.sl kI)), .d (.pair .bool (.sl kI)), .d (.pair .bool (.sl kI))] [.pair .bool (.sl kI)] (fun x => g_parquetref03_Det k (x.1) (x.2.1) (x.2.2.1) (x.2.2.2)) := fun x y h => fun_tells tb_ok mix (es := [⟨103, [.d (.pair .bool (.sl kI)), .d (.pair .bool (.sl kI))], [.pair .bool (.sl kI)], fun x => g_parquetref01_Num_Times k (x.1) (x.2), none⟩, ⟨143, [.d (.pair .bool (.sl kI)), .d (.pair .bool (.sl kI))], [.pair .bool (.sl kI)], fun x => g_parquetref03_minus k (x.1) (x.2), none⟩]) (EsOk.cons (EntryOk.of rfl (tells_parquetref01_Num_Times k)) (EsOk.cons (EntryOk.of rfl (tells_parquetref03_minus k)) (EsOk.nil _))) Tryz.func100 (N := k) (an := an_parquetref03_Det) (by kernel_rfl) x y ((eq_parquetref03_Det k (g_parquetref01_Num_Times k) (g_parquetref03_minus k) (x.1) (x.2.1) (x.2.2.1) (x.2.2.2)).trans h)

def an_parquetref03_Area : Ann := .leaf
def b_parquetref03_Area (k : Nat) (c_parquetref03_num : Int → Option (Bool × (List Int))) (c_parquetref03_Det : (Bool × (List Int)) → (Bool × (List Int)) → (Bool × (List Int)) → (Bool × (List Int)) → Option (Bool × (List Int))) (c_parquetref01_Num_Plus : (Bool × (List Int)) → (Bool × (List Int)) → Option (Bool × (List Int))) (a0 : (Int × Int)) (a1 : (Int × Int)) (a2 : (Int × Int)) : Option (Bool × (List Int)) :=
  bnd (c_parquetref03_num a0.1) fun r0 =>
   bnd (c_parquetref03_num a0.2) fun r1 =>
   bnd (c_parquetref03_num a1.1) fun r2 =>
   bnd (c_parquetref03_num a1.2) fun r3 =>
   bnd (c_parquetref03_Det (r0.1, r0.2) (r1.1, r1.2) (r2.1, r2.2) (r3.1, r3.2)) fun r4 =>
   bnd (c_parquetref03_num a1.1) fun r5 =>
   bnd (c_parquetref03_num a1.2) fun r6 =>
   bnd (c_parquetref03_num a2.1) fun r7 =>
   bnd (c_parquetref03_num a2.2) fun r8 =>
   bnd (c_parquetref03_Det (r5.1, r5.2) (r6.1, r6.2) (r7.1, r7.2) (r8.1, r8.2)) fun r9 =>
   bnd (c_parquetref01_Num_Plus (r4.1, r4.2) (r9.1, r9.2)) fun r10 =>
   bnd (c_parquetref03_num a2.1) fun r11 =>
   bnd (c_parquetref03_num a2.2) fun r12 =>
   bnd (c_parquetref03_num a0.1) fun r13 =>
   bnd (c_parquetref03_num a0.2) fun r14 =>
   bnd (c_parquetref03_Det (r11.1, r11.2) (r12.1, r12.2) (r13.1, r13.2) (r14.1, r14.2)) fun r15 =>
   bnd (c_parquetref01_Num_Plus (r10.1, r10.2) (r15.1, r15.2)) fun r16 =>
   some (r16.1, r16.2)
theorem eq_parquetref03_Area (k : Nat) (c_parquetref03_num : Int → Option (Bool × (List Int))) (c_parquetref03_Det : (Bool × (List Int)) → (Bool × (List Int)) → (Bool × (List Int)) → (Bool × (List Int)) → Option (Bool × (List Int))) (c_parquetref01_Num_Plus : (Bool × (List Int)) → (Bool × (List Int)) → Option (Bool × (List Int))) (a0 : (Int × Int)) (a1 : (Int × Int)) (a2 : (Int × Int)) : textF [⟨101, [.d kI], [.pair .bool (.sl kI)], fun x => c_parquetref03_num x, none⟩, ⟨100, [.d (.pair .bool (.sl kI)), .d (.pair .bool (.sl kI)), .d (.pair .bool (.sl kI)), .d (.pair .bool (.sl kI))], [.pair .bool (.sl kI)], fun x => c_parquetref03_Det (x.1) (x.2.1) (x.2.2.1) (x.2.2.2), none⟩, ⟨64, [.d (.pair .bool (.sl kI)), .d (.pair .bool (.sl kI))], [.pair .bool (.sl kI)], fun x => c_parquetref01_Num_Plus (x.1) (x.2), none⟩] tb k Tryz.f65 an_parquetref03_Area [.d (.pair kI kI), .d (.pair kI kI), .d (.pair kI kI)] [.pair .bool (.sl kI)] (a0, a1, a2) = b_parquetref03_Area k c_parquetref03_num c_parquetref03_Det c_parquetref01_Num_Plus a0 a1 a2 := by kernel_rfl
def g_parquetref03_Area (k : Nat) (a0 : (Int × Int)) (a1 : (Int × Int)) (a2 : (Int × Int)) : Option (Bool × (List Int)) := b_parquetref03_Area k (g_parquetref03_num k) (g_parquetref03_Det k) (g_parquetref01_Num_Plus k) a0 a1 a2
theorem tells_parquetref03_Area (k : Nat) : TellsF Tryz.prog 65 [.d (.pair kI kI), .d (.pair kI kI), .d (.pair kI kI)] [.pair .bool (.sl kI)] (fun x => g_parquetref03_Area k (x.1) (x.2.1) (x.2.2)) := fun x y h => fun_tells tb_ok mix (es := [⟨101, [.d kI], [.pair .bool (.sl kI)], fun x => g_parquetref03_num k x, none⟩, ⟨100, [.d (.pair .bool (.sl kI)), .d (.pair .bool (.sl kI)), .d (.pair .bool (.sl kI)), .d (.pair .bool (.sl kI))], [.pair .bool (.sl kI)], fun x => g_parquetref03_Det k (x.1) (x.2.1) (x.2.2.1) (x.2.2.2), none⟩, ⟨64, [.d (.pair .bool (.sl kI)), .d (.pair .bool (.sl kI))], [.pair .bool (.sl kI)], fun x => g_parquetref01_Num_Plus k (x.1) (x.2), none⟩]) (EsOk.cons (EntryOk.of rfl (tells_parquetref03_num k)) (EsOk.cons (EntryOk.of rfl (tells_parquetref03_Det k)) (EsOk.cons (EntryOk.of rfl (tells_parquetref01_Num_Plus k)) (EsOk.nil _)))) Tryz.func65 (N := k) (an := an_parquetref03_Area) (by kernel_rfl) x y ((eq_parquetref03_Area k (g_parquetref03_num k) (g_parquetref03_Det k) (g_parquetref01_Num_Plus k) (x.1) (x.2.1) (x.2.2)).trans h)

def an_parquetref01_Num_Sign : Ann := .leaf
def g_parquetref01_Num_Sign (k : Nat) (a0 : (Bool × (List Int))) : Option Int :=
  bif decide ((a0.2.length : Int) = 0) then
    some 0
   else
    bif a0.1 then
     some (-1)
    else
     some 1
theorem eq_parquetref01_Num_Sign (k : Nat) (a0 : (Bool × (List Int))) : textF [] tb k Tryz.f67 an_parquetref01_Num_Sign [.d (.pair .bool (.sl kI))] [kI] a0 = g_parquetref01_Num_Sign k a0 := by kernel_rfl
theorem tells_parquetref01_Num_Sign (k : Nat) : TellsF Tryz.prog 67 [.d (.pair .bool (.sl kI))] [kI] (fun x => g_parquetref01_Num_Sign k x) := fun x y h => fun_tells tb_ok mix (es := []) (EsOk.nil _) Tryz.func67 (N := k) (an := an_parquetref01_Num_Sign) (by kernel_rfl) x y ((eq_parquetref01_Num_Sign k x).trans h)

def an_parquetref03_Orient : Ann := .node none none .leaf (.node none none (.node none none (.node (some [(3, .box [.d (.pair kI kI)]), (4, .box [.d (.pair kI kI)]), (5, .box [.d (.pair kI kI)]), (19, .d .bool)]) none .leaf .leaf) .leaf) .leaf)
def b_parquetref03_Orient (k : Nat) (c_parquetref03_Fits : (Int × Int) → Option Bool) (c_parquetref03_Area : (Int × Int) → (Int × Int) → (Int × Int) → Option (Bool × (List Int))) (c_parquetref01_Num_Sign : (Bool × (List Int)) → Option Int) (a0 : (Int × Int)) (a1 : (Int × Int)) (a2 : (Int × Int)) : Option Int :=
  meet (α := ((Int × Int) × ((Int × Int) × ((Int × Int) × Bool)))) (fun (y0, y1, y2, y3) =>
    bif y3 then
     some 0
    else
     bnd (c_parquetref03_Area (y0.1, y0.2) (y1.1, y1.2) (y2.1, y2.2)) fun r4 =>
     bnd (c_parquetref01_Num_Sign (r4.1, r4.2)) fun r5 =>
     some r5) fun j6 =>
   bnd (c_parquetref03_Fits (a0.1, a0.2)) fun r7 =>
   bif !r7 then
    j6 ((a0.1, a0.2), (a1.1, a1.2), (a2.1, a2.2), true)
   else
    bnd (c_parquetref03_Fits (a1.1, a1.2)) fun r8 =>
    bif !r8 then
     j6 ((a0.1, a0.2), (a1.1, a1.2), (a2.1, a2.2), true)
    else
     bnd (c_parquetref03_Fits (a2.1, a2.2)) fun r9 =>
     j6 ((a0.1, a0.2), (a1.1, a1.2), (a2.1, a2.2), !r9)
theorem eq_parquetref03_Orient (k : Nat) (c_parquetref03_Fits : (Int × Int) → Option Bool) (c_parquetref03_Area : (Int × Int) → (Int × Int) → (Int × Int) → Option (Bool × (List Int))) (c_parquetref01_Num_Sign : (Bool × (List Int)) → Option Int) (a0 : (Int × Int)) (a1 : (Int × Int)) (a2 : (Int × Int)) : textF [⟨72, [.d (.pair kI kI)], [.bool], fun x => c_parquetref03_Fits x, none⟩, ⟨65, [.d (.pair kI kI), .d (.pair kI kI), .d (.pair kI kI)], [.pair .bool (.sl kI)], fun x => c_parquetref03_Area (x.1) (x.2.1) (x.2.2), none⟩, ⟨67, [.d (.pair .bool (.sl kI))], [kI], fun x => c_parquetref01_Num_Sign x, none⟩] tb k Tryz.f73 an_parquetref03_Orient [.d (.pair kI kI), .d (.pair kI kI), .d (.pair kI kI)] [kI] (a0, a1, a2) = b_parquetref03_Orient k c_parquetref03_Fits c_parquetref03_Area c_parquetref01_Num_Sign a0 a1 a2 := by kernel_rfl
def g_parquetref03_Orient (k : Nat) (a0 : (Int × Int)) (a1 : (Int × Int)) (a2 : (Int × Int)) : Option Int := b_parquetref03_Orient k (g_parquetref03_Fits k) (g_parquetref03_Area k) (g_parquetref01_Num_Sign k) a0 a1 a2
theorem tells_parquetref03_Orient (k : Nat) : TellsF Tryz.prog 73 [.d (.pair kI kI), .d (.pair kI kI), .d (.pair kI kI)] [kI] (fun x => g_parquetref03_Orient k (x.1) (x.2.1) (x.2.2)) := fun x y h => fun_tells tb_ok mix (es := [⟨72, [.d (.pair kI kI)], [.bool], fun x => g_parquetref03_Fits k x, none⟩, ⟨65, [.d (.pair kI kI), .d (.pair kI kI), .d (.pair kI kI)], [.pair .bool (.sl kI)], fun x => g_parquetref03_Area k (x.1) (x.2.1) (x.2.2), none⟩, ⟨67, [.d (.pair .bool (.sl kI))], [kI], fun x => g_parquetref01_Num_Sign k x, none⟩]) (EsOk.cons (EntryOk.of rfl (tells_parquetref03_Fits k)) (EsOk.cons (EntryOk.of rfl (tells_parquetref03_Area k)) (EsOk.cons (EntryOk.of rfl (tells_parquetref01_Num_Sign k)) (EsOk.nil _)))) Tryz.func73 (N := k) (an := an_parquetref03_Orient) (by kernel_rfl) x y ((eq_parquetref03_Orient k (g_parquetref03_Fits k) (g_parquetref03_Area k) (g_parquetref01_Num_Sign k) (x.1) (x.2.1) (x.2.2)).trans h)

def an_parquetref12_Tri : Ann := .node none none .leaf (.node none none .leaf (.node none none (.node none none (.node (some [(0, .d (.sl (.pair kI kI))), (1, .d kI), (2, .d kI), (3, .d kI), (8, .box [.d (.pair kI (.pair kI kI))]), (56, .d .bool)]) none .leaf .leaf) .leaf) (.node none none .leaf (.node none none (.node none none .leaf (.node none none (.node none (some [(0, .d (.sl (.pair kI kI))), (8, .box [.d (.pair kI (.pair kI kI))]), (11, .row (.pair kI (.pair kI kI)) 56), (12, .d kI)]) (.node none none .leaf (.node none none (.node none none (.node none none .leaf (.node none none (.node (some [(0, .d (.sl (.pair kI kI))), (8, .box [.d (.pair kI (.pair kI kI))]), (11, .row (.pair kI (.pair kI kI)) 56), (12, .d kI), (13, .box [.d (.pair kI (.pair kI kI))]), (121, .d .bool)]) none .leaf .leaf) .leaf)) .leaf) .leaf)) .leaf) .leaf)) .leaf))))
def b_parquetref12_Tri (k : Nat) (c_parquetref03_Orient : (Int × Int) → (Int × Int) → (Int × Int) → Option Int) (a0 : (List (Int × Int))) (a1 : Int) (a2 : Int) (a3 : Int) : Option ((Int × (Int × Int)) × Bool) :=
  meet (α := ((List (Int × Int)) × (Int × (Int × (Int × ((Int × (Int × Int)) × Bool)))))) (fun (y0, y1, y2, y3, y4, y5) =>
    bif y5 then
     some ((0, 0, 0), false)
    else
     loopN (α := ((List (Int × Int)) × ((Int × (Int × Int)) × ((List (Int × (Int × Int))) × Int)))) (fun (x7, x8, x9, x10) next6 =>
      bif decide (x10 < 6) then
       gd (inb x10 x9.length) <|
       meet (α := ((List (Int × Int)) × ((Int × (Int × Int)) × ((List (Int × (Int × Int))) × (Int × ((Int × (Int × Int)) × Bool)))))) (fun (y11, y12, y13, y14, y15, y16) =>
        bif y16 then
         some ((y15.1, y15.2.1, y15.2.2), true)
        else
         next6 (y11, (y12.1, y12.2.1, y12.2.2), y13, w64 (y14 + 1))) fun j17 =>
       bif decide ((rdD (0, 0, 0) x9 x10).1 < (rdD (0, 0, 0) x9 x10).2.1) then
        bif decide ((rdD (0, 0, 0) x9 x10).1 < (rdD (0, 0, 0) x9 x10).2.2) then
         gd (inb (rdD (0, 0, 0) x9 x10).1 x7.length) <|
         gd (inb (rdD (0, 0, 0) x9 x10).2.1 x7.length) <|
         gd (inb (rdD (0, 0, 0) x9 x10).2.2 x7.length) <|
         bnd (c_parquetref03_Orient ((rdD (0, 0) x7 (rdD (0, 0, 0) x9 x10).1).1, (rdD (0, 0) x7 (rdD (0, 0, 0) x9 x10).1).2) ((rdD (0, 0) x7 (rdD (0, 0, 0) x9 x10).2.1).1, (rdD (0, 0) x7 (rdD (0, 0, 0) x9 x10).2.1).2) ((rdD (0, 0) x7 (rdD (0, 0, 0) x9 x10).2.2).1, (rdD (0, 0) x7 (rdD (0, 0, 0) x9 x10).2.2).2)) fun r18 =>
         j17 (x7, (x8.1, x8.2.1, x8.2.2), x9, x10, ((rdD (0, 0, 0) x9 x10).1, (rdD (0, 0, 0) x9 x10).2.1, (rdD (0, 0, 0) x9 x10).2.2), decide (r18 = 1))
        else
         j17 (x7, (x8.1, x8.2.1, x8.2.2), x9, x10, ((rdD (0, 0, 0) x9 x10).1, (rdD (0, 0, 0) x9 x10).2.1, (rdD (0, 0, 0) x9 x10).2.2), false)
       else
        j17 (x7, (x8.1, x8.2.1, x8.2.2), x9, x10, ((rdD (0, 0, 0) x9 x10).1, (rdD (0, 0, 0) x9 x10).2.1, (rdD (0, 0, 0) x9 x10).2.2), false)
      else
       some ((0, 0, 0), false)) k (y0, (y4.1, y4.2.1, y4.2.2), [(y1, y2, y3), (y2, y3, y1), (y3, y1, y2), (y1, y3, y2), (y3, y2, y1), (y2, y1, y3)], 0)) fun j19 =>
   bif decide (a1 < 0) then
    j19 (a0, a1, a2, a3, (0, 0, 0), true)
   else
    bif decide (a2 < 0) then
     j19 (a0, a1, a2, a3, (0, 0, 0), true)
    else
     bif decide (a3 < 0) then
      j19 (a0, a1, a2, a3, (0, 0, 0), true)
     else
      bif decide (a1 ≥ (a0.length : Int)) then
       j19 (a0, a1, a2, a3, (0, 0, 0), true)
      else
       bif decide (a2 ≥ (a0.length : Int)) then
        j19 (a0, a1, a2, a3, (0, 0, 0), true)
       else
        bif decide (a3 ≥ (a0.length : Int)) then
         j19 (a0, a1, a2, a3, (0, 0, 0), true)
        else
         gd (inb a1 a0.length) <|
         gd (inb a2 a0.length) <|
         gd (inb a3 a0.length) <|
         bnd (c_parquetref03_Orient ((rdD (0, 0) a0 a1).1, (rdD (0, 0) a0 a1).2) ((rdD (0, 0) a0 a2).1, (rdD (0, 0) a0 a2).2) ((rdD (0, 0) a0 a3).1, (rdD (0, 0) a0 a3).2)) fun r20 =>
         j19 (a0, a1, a2, a3, (0, 0, 0), decide (r20 = 0))
theorem eq_parquetref12_Tri (k : Nat) (c_parquetref03_Orient : (Int × Int) → (Int × Int) → (Int × Int) → Option Int) (a0 : (List (Int × Int))) (a1 : Int) (a2 : Int) (a3 : Int) : textF [⟨73, [.d (.pair kI kI), .d (.pair kI kI), .d (.pair kI kI)], [kI], fun x => c_parquetref03_Orient (x.1) (x.2.1) (x.2.2), none⟩] tb k Tryz.f41 an_parquetref12_Tri [.d (.sl (.pair kI kI)), .d kI, .d kI, .d kI] [.pair kI (.pair kI kI), .bool] (a0, a1, a2, a3) = b_parquetref12_Tri k c_parquetref03_Orient a0 a1 a2 a3 := by kernel_rfl
def g_parquetref12_Tri (k : Nat) (a0 : (List (Int × Int))) (a1 : Int) (a2 : Int) (a3 : Int) : Option ((Int × (Int × Int)) × Bool) := b_parquetref12_Tri k (g_parquetref03_Orient k) a0 a1 a2 a3
theorem tells_parquetref12_Tri (k : Nat) : TellsF Tryz.prog 41 [.d (.sl (.pair kI kI)), .d kI, .d kI, .d kI] [.pair kI (.pair kI kI), .bool] (fun x => g_parquetref12_Tri k (x.1) (x.2.1) (x.2.2.1) (x.2.2.2)) := fun x y h => fun_tells tb_ok mix (es := [⟨73, [.d (.pair kI kI), .d (.pair kI kI), .d (.pair kI kI)], [kI], fun x => g_parquetref03_Orient k (x.1) (x.2.1) (x.2.2), none⟩]) (EsOk.cons (EntryOk.of rfl (tells_parquetref03_Orient k)) (EsOk.nil _)) Tryz.func41 (N := k) (an := an_parquetref12_Tri) (by kernel_rfl) x y ((eq_parquetref12_Tri k (g_parquetref03_Orient k) (x.1) (x.2.1) (x.2.2.1) (x.2.2.2)).trans h)

def an_fill_Faces : Ann := .node none none .leaf (.node none none .leaf (.node none none (.node none none .leaf (.node none none (.node none (some [(3, .row (.sl kI) 49), (6, .d (.sl (.pair kI (.pair kI kI)))), (7, .d kI), (8, .d kI)]) .leaf .leaf) .leaf)) .leaf))
def g_fill_Faces (k : Nat) (a0 : (List (Int × (Int × Int)))) : Option (List (List Int)) :=
  loopN (α := ((List (List Int)) × ((List (Int × (Int × Int))) × (Int × Int)))) (fun (x1, x2, x3, x4) next0 =>
    bif decide (x4 < x3) then
     gd (inb x4 x2.length) <|
     gd (few (x1.length + 1)) <|
     next0 (x1 ++ [[(rdD (0, 0, 0) x2 x4).1, (rdD (0, 0, 0) x2 x4).2.1, (rdD (0, 0, 0) x2 x4).2.2]], x2, x3, w64 (x4 + 1))
    else
     some x1) k ([], a0, (a0.length : Int), 0)
theorem eq_fill_Faces (k : Nat) (a0 : (List (Int × (Int × Int)))) : textF [] tb k Tryz.f42 an_fill_Faces [.d (.sl (.pair kI (.pair kI kI)))] [.sl (.sl kI)] a0 = g_fill_Faces k a0 := by kernel_rfl
theorem tells_fill_Faces (k : Nat) : TellsF Tryz.prog 42 [.d (.sl (.pair kI (.pair kI kI)))] [.sl (.sl kI)] (fun x => g_fill_Faces k x) := fun x y h => fun_tells tb_ok mix (es := []) (EsOk.nil _) Tryz.func42 (N := k) (an := an_fill_Faces) (by kernel_rfl) x y ((eq_fill_Faces k x).trans h)

def an_parquetref12_Faces : Ann := .node none none .leaf (.node none none .leaf (.node none none (.node none none .leaf (.node none none (.node none (some [(0, .d (.sl (.pair kI (.pair kI kI)))), (3, .row (.sl kI) 49), (4, .d kI)]) .leaf .leaf) .leaf)) .leaf))
def g_parquetref12_Faces (k : Nat) (a0 : (List (Int × (Int × Int)))) : Option (List (List Int)) :=
  loopN (α := ((List (Int × (Int × Int))) × ((List (List Int)) × Int))) (fun (x1, x2, x3) next0 =>
    bif decide (x3 < (x1.length : Int)) then
     gd (inb x3 x1.length) <|
     gd (inb x3 x1.length) <|
     gd (inb x3 x1.length) <|
     gd (few (x2.length + 1)) <|
     next0 (x1, x2 ++ [[(rdD (0, 0, 0) x1 x3).1, (rdD (0, 0, 0) x1 x3).2.1, (rdD (0, 0, 0) x1 x3).2.2]], w64 (x3 + 1))
    else
     some x2) k (a0, [], 0)
theorem eq_parquetref12_Faces (k : Nat) (a0 : (List (Int × (Int × Int)))) : textF [] tb k Tryz.f31 an_parquetref12_Faces [.d (.sl (.pair kI (.pair kI kI)))] [.sl (.sl kI)] a0 = g_parquetref12_Faces k a0 := by kernel_rfl
theorem tells_parquetref12_Faces (k : Nat) : TellsF Tryz.prog 31 [.d (.sl (.pair kI (.pair kI kI)))] [.sl (.sl kI)] (fun x => g_parquetref12_Faces k x) := fun x y h => fun_tells tb_ok mix (es := []) (EsOk.nil _) Tryz.func31 (N := k) (an := an_parquetref12_Faces) (by kernel_rfl) x y ((eq_parquetref12_Faces k x).trans h)

def an_parquetref00_SameInts : Ann := .node none none .leaf (.node none none .leaf (.node none none (.node none none .leaf (.node none none (.node none (some [(0, .d (.sl kI)), (1, .d (.sl kI)), (5, .d kI)]) .leaf .leaf) .leaf)) .leaf))
def g_parquetref00_SameInts (k : Nat) (a0 : (List Int)) (a1 : (List Int)) : Option Bool :=
  bif !(decide ((a0.length : Int) = (a1.length : Int))) then
    some false
   else
    loopN (α := ((List Int) × ((List Int) × Int))) (fun (x1, x2, x3) next0 =>
     bif decide (x3 < (x1.length : Int)) then
      gd (inb x3 x1.length) <|
      gd (inb x3 x2.length) <|
      bif !(decide ((rdD 0 x1 x3) = (rdD 0 x2 x3))) then
       some false
      else
       next0 (x1, x2, w64 (x3 + 1))
     else
      some true) k (a0, a1, 0)
theorem eq_parquetref00_SameInts (k : Nat) (a0 : (List Int)) (a1 : (List Int)) : textF [] tb k Tryz.f43 an_parquetref00_SameInts [.d (.sl kI), .d (.sl kI)] [.bool] (a0, a1) = g_parquetref00_SameInts k a0 a1 := by kernel_rfl
theorem tells_parquetref00_SameInts (k : Nat) : TellsF Tryz.prog 43 [.d (.sl kI), .d (.sl kI)] [.bool] (fun x => g_parquetref00_SameInts k (x.1) (x.2)) := fun x y h => fun_tells tb_ok mix (es := []) (EsOk.nil _) Tryz.func43 (N := k) (an := an_parquetref00_SameInts) (by kernel_rfl) x y ((eq_parquetref00_SameInts k (x.1) (x.2)).trans h)

def an_parquetref12_before : Ann := .leaf
def g_parquetref12_before (k : Nat) (a0 : (Int × (Int × Int))) (a1 : (Int × (Int × Int))) : Option Bool :=
  bif !(decide (a0.1 = a1.1)) then
    some (decide (a0.1 < a1.1))
   else
    bif !(decide (a0.2.1 = a1.2.1)) then
     some (decide (a0.2.1 < a1.2.1))
    else
     some (decide (a0.2.2 < a1.2.2))
theorem eq_parquetref12_before (k : Nat) (a0 : (Int × (Int × Int))) (a1 : (Int × (Int × Int))) : textF [] tb k Tryz.f62 an_parquetref12_before [.d (.pair kI (.pair kI kI)), .d (.pair kI (.pair kI kI))] [.bool] (a0, a1) = g_parquetref12_before k a0 a1 := by kernel_rfl
theorem tells_parquetref12_before (k : Nat) : TellsF Tryz.prog 62 [.d (.pair kI (.pair kI kI)), .d (.pair kI (.pair kI kI))] [.bool] (fun x => g_parquetref12_before k (x.1) (x.2)) := fun x y h => fun_tells tb_ok mix (es := []) (EsOk.nil _) Tryz.func62 (N := k) (an := an_parquetref12_before) (by kernel_rfl) x y ((eq_parquetref12_before k (x.1) (x.2)).trans h)

def an_parquetref12_Sides : Ann := .leaf
def g_parquetref12_Sides (k : Nat) (a0 : (Int × (Int × Int))) : Option (List (Int × Int)) :=
  some [(a0.1, a0.2.1), (a0.2.1, a0.2.2), (a0.2.2, a0.1)]
theorem eq_parquetref12_Sides (k : Nat) (a0 : (Int × (Int × Int))) : textF [] tb k Tryz.f63 an_parquetref12_Sides [.d (.pair kI (.pair kI kI))] [.sl (.pair kI kI)] a0 = g_parquetref12_Sides k a0 := by kernel_rfl
theorem tells_parquetref12_Sides (k : Nat) : TellsF Tryz.prog 63 [.d (.pair kI (.pair kI kI))] [.sl (.pair kI kI)] (fun x => g_parquetref12_Sides k x) := fun x y h => fun_tells tb_ok mix (es := []) (EsOk.nil _) Tryz.func63 (N := k) (an := an_parquetref12_Sides) (by kernel_rfl) x y ((eq_parquetref12_Sides k x).trans h)

def an_parquetref12_Left : Ann := .node none none .leaf (.node none none (.node none none .leaf (.node none none (.node none (some [(0, .d (.sl (.pair kI (.pair kI kI)))), (1, .d kI), (2, .d kI), (7, .d kI)]) (.node none none .leaf (.node none none (.node none none (.node none none .leaf (.node none none .leaf (.node none none (.node none (some [(0, .d (.sl (.pair kI (.pair kI kI)))), (1, .d kI), (2, .d kI), (7, .d kI), (8, .d (.sl (.pair kI kI))), (9, .d kI)]) (.node none none .leaf (.node none none (.node none none (.node none none (.node (some [(0, .d (.sl (.pair kI (.pair kI kI)))), (1, .d kI), (2, .d kI), (7, .d kI), (8, .d (.sl (.pair kI kI))), (9, .d kI), (40, .d .bool)]) none .leaf .leaf) .leaf) .leaf) .leaf)) .leaf) .leaf))) .leaf) .leaf)) .leaf) .leaf)) .leaf)
def b_parquetref12_Left (k : Nat) (c_parquetref12_Sides : (Int × (Int × Int)) → Option (List (Int × Int))) (a0 : (List (Int × (Int × Int)))) (a1 : Int) (a2 : Int) : Option Int :=
  loopN (α := ((List (Int × (Int × Int))) × (Int × (Int × Int)))) (fun (x1, x2, x3, x4) next0 =>
    bif decide (x4 < (x1.length : Int)) then
     gd (inb x4 x1.length) <|
     bnd (c_parquetref12_Sides ((rdD (0, 0, 0) x1 x4).1, (rdD (0, 0, 0) x1 x4).2.1, (rdD (0, 0, 0) x1 x4).2.2)) fun r5 =>
     loopN (α := ((List (Int × (Int × Int))) × (Int × (Int × (Int × ((List (Int × Int)) × Int)))))) (fun (x7, x8, x9, x10, x11, x12) next6 =>
      bif decide (x12 < 3) then
       meet (α := ((List (Int × (Int × Int))) × (Int × (Int × (Int × ((List (Int × Int)) × (Int × Bool))))))) (fun (y13, y14, y15, y16, y17, y18, y19) =>
        bif y19 then
         some y16
        else
         next6 (y13, y14, y15, y16, y17, w64 (y18 + 1))) fun j20 =>
       gd (inb x12 x11.length) <|
       bif decide ((rdD (0, 0) x11 x12).1 = x8) then
        gd (inb x12 x11.length) <|
        j20 (x7, x8, x9, x10, x11, x12, decide ((rdD (0, 0) x11 x12).2 = x9))
       else
        j20 (x7, x8, x9, x10, x11, x12, false)
      else
       next0 (x7, x8, x9, w64 (x10 + 1))) k (x1, x2, x3, x4, r5, 0)
    else
     some (-1)) k (a0, a1, a2, 0)
theorem eq_parquetref12_Left (k : Nat) (c_parquetref12_Sides : (Int × (Int × Int)) → Option (List (Int × Int))) (a0 : (List (Int × (Int × Int)))) (a1 : Int) (a2 : Int) : textF [⟨63, [.d (.pair kI (.pair kI kI))], [.sl (.pair kI kI)], fun x => c_parquetref12_Sides x, none⟩] tb k Tryz.f29 an_parquetref12_Left [.d (.sl (.pair kI (.pair kI kI))), .d kI, .d kI] [kI] (a0, a1, a2) = b_parquetref12_Left k c_parquetref12_Sides a0 a1 a2 := by kernel_rfl
def g_parquetref12_Left (k : Nat) (a0 : (List (Int × (Int × Int)))) (a1 : Int) (a2 : Int) : Option Int := b_parquetref12_Left k (g_parquetref12_Sides k) a0 a1 a2
theorem tells_parquetref12_Left (k : Nat) : TellsF Tryz.prog 29 [.d (.sl (.pair kI (.pair kI kI))), .d kI, .d kI] [kI] (fun x => g_parquetref12_Left k (x.1) (x.2.1) (x.2.2)) := fun x y h => fun_tells tb_ok mix (es := [⟨63, [.d (.pair kI (.pair kI kI))], [.sl (.pair kI kI)], fun x => g_parquetref12_Sides k x, none⟩]) (EsOk.cons (EntryOk.of rfl (tells_parquetref12_Sides k)) (EsOk.nil _)) Tryz.func29 (N := k) (an := an_parquetref12_Left) (by kernel_rfl) x y ((eq_parquetref12_Left k (g_parquetref12_Sides k) (x.1) (x.2.1) (x.2.2)).trans h)

def an_parquetref12_Has : Ann := .node none none .leaf (.node none none (.node none none .leaf (.node none none (.node none (some [(0, .d (.sl (.pair kI kI))), (1, .d kI), (2, .d kI), (7, .d kI)]) (.node none none .leaf (.node none none (.node none none (.node none none (.node (some [(0, .d (.sl (.pair kI kI))), (1, .d kI), (2, .d kI), (7, .d kI), (47, .d .bool)]) none .leaf .leaf) .leaf) .leaf) .leaf)) .leaf) .leaf)) .leaf)
def g_parquetref12_Has (k : Nat) (a0 : (List (Int × Int))) (a1 : Int) (a2 : Int) : Option Bool :=
  loopN (α := ((List (Int × Int)) × (Int × (Int × Int)))) (fun (x1, x2, x3, x4) next0 =>
    bif decide (x4 < (x1.length : Int)) then
     meet (α := ((List (Int × Int)) × (Int × (Int × (Int × Bool))))) (fun (y5, y6, y7, y8, y9) =>
      bif y9 then
       some true
      else
       next0 (y5, y6, y7, w64 (y8 + 1))) fun j10 =>
     gd (inb x4 x1.length) <|
     bif decide ((rdD (0, 0) x1 x4).1 = x2) then
      gd (inb x4 x1.length) <|
      bif decide ((rdD (0, 0) x1 x4).2 = x3) then
       j10 (x1, x2, x3, x4, true)
      else
       gd (inb x4 x1.length) <|
       bif decide ((rdD (0, 0) x1 x4).1 = x3) then
        gd (inb x4 x1.length) <|
        j10 (x1, x2, x3, x4, decide ((rdD (0, 0) x1 x4).2 = x2))
       else
        j10 (x1, x2, x3, x4, false)
     else
      gd (inb x4 x1.length) <|
      bif decide ((rdD (0, 0) x1 x4).1 = x3) then
       gd (inb x4 x1.length) <|
       j10 (x1, x2, x3, x4, decide ((rdD (0, 0) x1 x4).2 = x2))
      else
       j10 (x1, x2, x3, x4, false)
    else
     some false) k (a0, a1, a2, 0)
theorem eq_parquetref12_Has (k : Nat) (a0 : (List (Int × Int))) (a1 : Int) (a2 : Int) : textF [] tb k Tryz.f28 an_parquetref12_Has [.d (.sl (.pair kI kI)), .d kI, .d kI] [.bool] (a0, a1, a2) = g_parquetref12_Has k a0 a1 a2 := by kernel_rfl
theorem tells_parquetref12_Has (k : Nat) : TellsF Tryz.prog 28 [.d (.sl (.pair kI kI)), .d kI, .d kI] [.bool] (fun x => g_parquetref12_Has k (x.1) (x.2.1) (x.2.2)) := fun x y h => fun_tells tb_ok mix (es := []) (EsOk.nil _) Tryz.func28 (N := k) (an := an_parquetref12_Has) (by kernel_rfl) x y ((eq_parquetref12_Has k (x.1) (x.2.1) (x.2.2)).trans h)

def an_parquetref12_Check : Ann := .node none none .leaf (.node none none (.node none none .leaf (.node none none (.node none (some [(1, .box [.d (.pair (.sl (.pair kI kI)) (.pair (.sl (.pair kI (.pair kI kI))) (.sl (.pair kI kI))))]), (3, .d kI)]) (.node none none .leaf (.node none none (.node none none (.node none none .leaf (.node none none (.node none none (.node (some [(1, .box [.d (.pair (.sl (.pair kI kI)) (.pair (.sl (.pair kI (.pair kI kI))) (.sl (.pair kI kI))))]), (3, .d kI), (4, .box [.d (.pair kI (.pair kI kI))]), (66, .d .bool)]) none .leaf .leaf) .leaf) (.node none none .leaf (.node none none .leaf (.node none none (.node none (some [(1, .box [.d (.pair (.sl (.pair kI kI)) (.pair (.sl (.pair kI (.pair kI kI))) (.sl (.pair kI kI))))]), (3, .d kI), (6, .d (.sl (.pair kI kI))), (7, .d kI)]) (.node none none .leaf (.node none none (.node none none (.node none none .leaf (.node none none (.node (some [(1, .box [.d (.pair (.sl (.pair kI kI)) (.pair (.sl (.pair kI (.pair kI kI))) (.sl (.pair kI kI))))]), (3, .d kI), (6, .d (.sl (.pair kI kI))), (7, .d kI), (117, .d .bool)]) none .leaf .leaf) .leaf)) .leaf) .leaf)) .leaf) .leaf))))) .leaf) .leaf)) .leaf) .leaf)) (.node none none (.node none none .leaf (.node none none (.node none (some [(1, .box [.d (.pair (.sl (.pair kI kI)) (.pair (.sl (.pair kI (.pair kI kI))) (.sl (.pair kI kI))))]), (8, .d kI)]) (.node none none .leaf (.node none none (.node none none (.node none none .leaf (.node none none (.node none none (.node (some [(1, .box [.d (.pair (.sl (.pair kI kI)) (.pair (.sl (.pair kI (.pair kI kI))) (.sl (.pair kI kI))))]), (8, .d kI), (9, .box [.d (.pair kI kI)]), (174, .d .bool)]) none .leaf .leaf) .leaf) (.node none none (.node (some [(1, .box [.d (.pair (.sl (.pair kI kI)) (.pair (.sl (.pair kI (.pair kI kI))) (.sl (.pair kI kI))))]), (8, .d kI), (192, .d .bool)]) none .leaf .leaf) .leaf))) .leaf) .leaf)) .leaf) .leaf)) .leaf))
def b_parquetref12_Check (k : Nat) (c_parquetref12_Tri : (List (Int × Int)) → Int → Int → Int → Option ((Int × (Int × Int)) × Bool)) (c_parquetref12_before : (Int × (Int × Int)) → (Int × (Int × Int)) → Option Bool) (c_parquetref12_Sides : (Int × (Int × Int)) → Option (List (Int × Int))) (c_parquetref12_Left : (List (Int × (Int × Int))) → Int → Int → Option Int) (c_parquetref12_Has : (List (Int × Int)) → Int → Int → Option Bool) (a0 : ((List (Int × Int)) × ((List (Int × (Int × Int))) × (List (Int × Int))))) : Option Int :=
  loopN (α := (((List (Int × Int)) × ((List (Int × (Int × Int))) × (List (Int × Int)))) × Int)) (fun (x1, x2) next0 =>
    bif decide (x2 < (x1.2.1.length : Int)) then
     gd (inb x2 x1.2.1.length) <|
     gd (inb x2 x1.2.1.length) <|
     gd (inb x2 x1.2.1.length) <|
     bnd (c_parquetref12_Tri x1.1 (rdD (0, 0, 0) x1.2.1 x2).1 (rdD (0, 0, 0) x1.2.1 x2).2.1 (rdD (0, 0, 0) x1.2.1 x2).2.2) fun r3 =>
     meet (α := (((List (Int × Int)) × ((List (Int × (Int × Int))) × (List (Int × Int)))) × (Int × ((Int × (Int × Int)) × Bool)))) (fun (y4, y5, y6, y7) =>
      bif y7 then
       some 2
      else
       bnd (c_parquetref12_Sides (y6.1, y6.2.1, y6.2.2)) fun r8 =>
       loopN (α := (((List (Int × Int)) × ((List (Int × (Int × Int))) × (List (Int × Int)))) × (Int × ((List (Int × Int)) × Int)))) (fun (x10, x11, x12, x13) next9 =>
        bif decide (x13 < 3) then
         gd (inb x13 x12.length) <|
         gd (inb x13 x12.length) <|
         bnd (c_parquetref12_Left x10.2.1 (rdD (0, 0) x12 x13).1 (rdD (0, 0) x12 x13).2) fun r14 =>
         bif !(decide (r14 = x11)) then
          some 2
         else
          meet (α := (((List (Int × Int)) × ((List (Int × (Int × Int))) × (List (Int × Int)))) × (Int × ((List (Int × Int)) × (Int × Bool))))) (fun (y15, y16, y17, y18, y19) =>
           bif y19 then
            some 2
           else
            next9 ((y15.1, y15.2.1, y15.2.2), y16, y17, w64 (y18 + 1))) fun j20 =>
          gd (inb x13 x12.length) <|
          gd (inb x13 x12.length) <|
          bnd (c_parquetref12_Left x10.2.1 (rdD (0, 0) x12 x13).2 (rdD (0, 0) x12 x13).1) fun r21 =>
          bif decide (r21 < 0) then
           gd (inb x13 x12.length) <|
           gd (inb x13 x12.length) <|
           bnd (c_parquetref12_Has x10.2.2 (rdD (0, 0) x12 x13).1 (rdD (0, 0) x12 x13).2) fun r22 =>
           j20 ((x10.1, x10.2.1, x10.2.2), x11, x12, x13, !r22)
          else
           j20 ((x10.1, x10.2.1, x10.2.2), x11, x12, x13, false)
        else
         next0 ((x10.1, x10.2.1, x10.2.2), w64 (x11 + 1))) k ((y4.1, y4.2.1, y4.2.2), y5, r8, 0)) fun j23 =>
     bif !r3.2 then
      j23 ((x1.1, x1.2.1, x1.2.2), x2, (r3.1.1, r3.1.2.1, r3.1.2.2), true)
     else
      gd (inb x2 x1.2.1.length) <|
      bif !((decide (r3.1.1 = (rdD (0, 0, 0) x1.2.1 x2).1)) && ((decide (r3.1.2.1 = (rdD (0, 0, 0) x1.2.1 x2).2.1)) && (decide (r3.1.2.2 = (rdD (0, 0, 0) x1.2.1 x2).2.2)))) then
       j23 ((x1.1, x1.2.1, x1.2.2), x2, (r3.1.1, r3.1.2.1, r3.1.2.2), true)
      else
       bif decide (x2 > 0) then
        gd (inb (w64 (x2 - 1)) x1.2.1.length) <|
        bnd (c_parquetref12_before ((rdD (0, 0, 0) x1.2.1 (w64 (x2 - 1))).1, (rdD (0, 0, 0) x1.2.1 (w64 (x2 - 1))).2.1, (rdD (0, 0, 0) x1.2.1 (w64 (x2 - 1))).2.2) (r3.1.1, r3.1.2.1, r3.1.2.2)) fun r24 =>
        j23 ((x1.1, x1.2.1, x1.2.2), x2, (r3.1.1, r3.1.2.1, r3.1.2.2), !r24)
       else
        j23 ((x1.1, x1.2.1, x1.2.2), x2, (r3.1.1, r3.1.2.1, r3.1.2.2), false)
    else
     loopN (α := (((List (Int × Int)) × ((List (Int × (Int × Int))) × (List (Int × Int)))) × Int)) (fun (x26, x27) next25 =>
      bif decide (x27 < (x26.2.2.length : Int)) then
       gd (inb x27 x26.2.2.length) <|
       meet (α := (((List (Int × Int)) × ((List (Int × (Int × Int))) × (List (Int × Int)))) × (Int × ((Int × Int) × Bool)))) (fun (y28, y29, y30, y31) =>
        bif y31 then
         some 2
        else
         meet (α := (((List (Int × Int)) × ((List (Int × (Int × Int))) × (List (Int × Int)))) × (Int × Bool))) (fun (y32, y33, y34) =>
          bif y34 then
           some 2
          else
           next25 ((y32.1, y32.2.1, y32.2.2), w64 (y33 + 1))) fun j35 =>
         bnd (c_parquetref12_Left y28.2.1 y30.1 y30.2) fun r36 =>
         bif decide (r36 < 0) then
          bnd (c_parquetref12_Left y28.2.1 y30.2 y30.1) fun r37 =>
          j35 ((y28.1, y28.2.1, y28.2.2), y29, decide (r37 < 0))
         else
          j35 ((y28.1, y28.2.1, y28.2.2), y29, false)) fun j38 =>
       bif decide ((rdD (0, 0) x26.2.2 x27).1 ≥ (rdD (0, 0) x26.2.2 x27).2) then
        j38 ((x26.1, x26.2.1, x26.2.2), x27, ((rdD (0, 0) x26.2.2 x27).1, (rdD (0, 0) x26.2.2 x27).2), true)
       else
        bif decide (x27 > 0) then
         gd (inb (w64 (x27 - 1)) x26.2.2.length) <|
         bif decide ((rdD (0, 0) x26.2.2 (w64 (x27 - 1))).1 > (rdD (0, 0) x26.2.2 x27).1) then
          j38 ((x26.1, x26.2.1, x26.2.2), x27, ((rdD (0, 0) x26.2.2 x27).1, (rdD (0, 0) x26.2.2 x27).2), true)
         else
          gd (inb (w64 (x27 - 1)) x26.2.2.length) <|
          bif decide ((rdD (0, 0) x26.2.2 (w64 (x27 - 1))).1 = (rdD (0, 0) x26.2.2 x27).1) then
           gd (inb (w64 (x27 - 1)) x26.2.2.length) <|
           j38 ((x26.1, x26.2.1, x26.2.2), x27, ((rdD (0, 0) x26.2.2 x27).1, (rdD (0, 0) x26.2.2 x27).2), decide ((rdD (0, 0) x26.2.2 (w64 (x27 - 1))).2 ≥ (rdD (0, 0) x26.2.2 x27).2))
          else
           j38 ((x26.1, x26.2.1, x26.2.2), x27, ((rdD (0, 0) x26.2.2 x27).1, (rdD (0, 0) x26.2.2 x27).2), false)
        else
         j38 ((x26.1, x26.2.1, x26.2.2), x27, ((rdD (0, 0) x26.2.2 x27).1, (rdD (0, 0) x26.2.2 x27).2), false)
      else
       some 0) k ((x1.1, x1.2.1, x1.2.2), 0)) k ((a0.1, a0.2.1, a0.2.2), 0)
theorem eq_parquetref12_Check (k : Nat) (c_parquetref12_Tri : (List (Int × Int)) → Int → Int → Int → Option ((Int × (Int × Int)) × Bool)) (c_parquetref12_before : (Int × (Int × Int)) → (Int × (Int × Int)) → Option Bool) (c_parquetref12_Sides : (Int × (Int × Int)) → Option (List (Int × Int))) (c_parquetref12_Left : (List (Int × (Int × Int))) → Int → Int → Option Int) (c_parquetref12_Has : (List (Int × Int)) → Int → Int → Option Bool) (a0 : ((List (Int × Int)) × ((List (Int × (Int × Int))) × (List (Int × Int))))) : textF [⟨41, [.d (.sl (.pair kI kI)), .d kI, .d kI, .d kI], [.pair kI (.pair kI kI), .bool], fun x => c_parquetref12_Tri (x.1) (x.2.1) (x.2.2.1) (x.2.2.2), none⟩, ⟨62, [.d (.pair kI (.pair kI kI)), .d (.pair kI (.pair kI kI))], [.bool], fun x => c_parquetref12_before (x.1) (x.2), none⟩, ⟨63, [.d (.pair kI (.pair kI kI))], [.sl (.pair kI kI)], fun x => c_parquetref12_Sides x, none⟩, ⟨29, [.d (.sl (.pair kI (.pair kI kI))), .d kI, .d kI], [kI], fun x => c_parquetref12_Left (x.1) (x.2.1) (x.2.2), none⟩, ⟨28, [.d (.sl (.pair kI kI)), .d kI, .d kI], [.bool], fun x => c_parquetref12_Has (x.1) (x.2.1) (x.2.2), none⟩] tb k Tryz.f22 an_parquetref12_Check [.d (.pair (.sl (.pair kI kI)) (.pair (.sl (.pair kI (.pair kI kI))) (.sl (.pair kI kI))))] [kI] a0 = b_parquetref12_Check k c_parquetref12_Tri c_parquetref12_before c_parquetref12_Sides c_parquetref12_Left c_parquetref12_Has a0 := by kernel_rfl
def g_parquetref12_Check (k : Nat) (a0 : ((List (Int × Int)) × ((List (Int × (Int × Int))) × (List (Int × Int))))) : Option Int := b_parquetref12_Check k (g_parquetref12_Tri k) (g_parquetref12_before k) (g_parquetref12_Sides k) (g_parquetref12_Left k) (g_parquetref12_Has k) a0
theorem tells_parquetref12_Check (k : Nat) : TellsF Tryz.prog 22 [.d (.pair (.sl (.pair kI kI)) (.pair (.sl (.pair kI (.pair kI kI))) (.sl (.pair kI kI))))] [kI] (fun x => g_parquetref12_Check k x) := fun x y h => fun_tells tb_ok mix (es := [⟨41, [.d (.sl (.pair kI kI)), .d kI, .d kI, .d kI], [.pair kI (.pair kI kI), .bool], fun x => g_parquetref12_Tri k (x.1) (x.2.1) (x.2.2.1) (x.2.2.2), none⟩, ⟨62, [.d (.pair kI (.pair kI kI)), .d (.pair kI (.pair kI kI))], [.bool], fun x => g_parquetref12_before k (x.1) (x.2), none⟩, ⟨63, [.d (.pair kI (.pair kI kI))], [.sl (.pair kI kI)], fun x => g_parquetref12_Sides k x, none⟩, ⟨29, [.d (.sl (.pair kI (.pair kI kI))), .d kI, .d kI], [kI], fun x => g_parquetref12_Left k (x.1) (x.2.1) (x.2.2), none⟩, ⟨28, [.d (.sl (.pair kI kI)), .d kI, .d kI], [.bool], fun x => g_parquetref12_Has k (x.1) (x.2.1) (x.2.2), none⟩]) (EsOk.cons (EntryOk.of rfl (tells_parquetref12_Tri k)) (EsOk.cons (EntryOk.of rfl (tells_parquetref12_before k)) (EsOk.cons (EntryOk.of rfl (tells_parquetref12_Sides k)) (EsOk.cons (EntryOk.of rfl (tells_parquetref12_Left k)) (EsOk.cons (EntryOk.of rfl (tells_parquetref12_Has k)) (EsOk.nil _)))))) Tryz.func22 (N := k) (an := an_parquetref12_Check) (by kernel_rfl) x y ((eq_parquetref12_Check k (g_parquetref12_Tri k) (g_parquetref12_before k) (g_parquetref12_Sides k) (g_parquetref12_Left k) (g_parquetref12_Has k) x).trans h)

def an_parquetref05_SamePoints : Ann := .node none none .leaf (.node none none .leaf (.node none none (.node none none .leaf (.node none none (.node none (some [(0, .d (.sl (.pair kI kI))), (1, .d (.sl (.pair kI kI))), (5, .d kI)]) .leaf .leaf) .leaf)) .leaf))
def g_parquetref05_SamePoints (k : Nat) (a0 : (List (Int × Int))) (a1 : (List (Int × Int))) : Option Bool :=
  bif !(decide ((a0.length : Int) = (a1.length : Int))) then
    some false
   else
    loopN (α := ((List (Int × Int)) × ((List (Int × Int)) × Int))) (fun (x1, x2, x3) next0 =>
     bif decide (x3 < (x1.length : Int)) then
      gd (inb x3 x1.length) <|
      gd (inb x3 x2.length) <|
      bif !((decide ((rdD (0, 0) x1 x3).1 = (rdD (0, 0) x2 x3).1)) && (decide ((rdD (0, 0) x1 x3).2 = (rdD (0, 0) x2 x3).2))) then
       some false
      else
       next0 (x1, x2, w64 (x3 + 1))
     else
      some true) k (a0, a1, 0)
theorem eq_parquetref05_SamePoints (k : Nat) (a0 : (List (Int × Int))) (a1 : (List (Int × Int))) : textF [] tb k Tryz.f23 an_parquetref05_SamePoints [.d (.sl (.pair kI kI)), .d (.sl (.pair kI kI))] [.bool] (a0, a1) = g_parquetref05_SamePoints k a0 a1 := by kernel_rfl
theorem tells_parquetref05_SamePoints (k : Nat) : TellsF Tryz.prog 23 [.d (.sl (.pair kI kI)), .d (.sl (.pair kI kI))] [.bool] (fun x => g_parquetref05_SamePoints k (x.1) (x.2)) := fun x y h => fun_tells tb_ok mix (es := []) (EsOk.nil _) Tryz.func23 (N := k) (an := an_parquetref05_SamePoints) (by kernel_rfl) x y ((eq_parquetref05_SamePoints k (x.1) (x.2)).trans h)

def an_parquetref12_Same : Ann := .node none none .leaf (.node none none (.node (some [(4, .d .bool)]) none .leaf .leaf) .leaf)
def b_parquetref12_Same (k : Nat) (c_parquetref05_SamePoints : (List (Int × Int)) → (List (Int × Int)) → Option Bool) (c_parquetref12_SameTris : (List (Int × (Int × Int))) → (List (Int × (Int × Int))) → Option Bool) (c_parquetref05_SameSegs : (List (Int × Int)) → (List (Int × Int)) → Option Bool) (a0 : ((List (Int × Int)) × ((List (Int × (Int × Int))) × (List (Int × Int))))) (a1 : ((List (Int × Int)) × ((List (Int × (Int × Int))) × (List (Int × Int))))) : Option Bool :=
  meet (α := Bool) (fun y0 =>
    some y0) fun j1 =>
   bnd (c_parquetref05_SamePoints a0.1 a1.1) fun r2 =>
   bif r2 then
    bnd (c_parquetref12_SameTris a0.2.1 a1.2.1) fun r3 =>
    bif r3 then
     bnd (c_parquetref05_SameSegs a0.2.2 a1.2.2) fun r4 =>
     j1 r4
    else
     j1 false
   else
    j1 false
theorem eq_parquetref12_Same (k : Nat) (c_parquetref05_SamePoints : (List (Int × Int)) → (List (Int × Int)) → Option Bool) (c_parquetref12_SameTris : (List (Int × (Int × Int))) → (List (Int × (Int × Int))) → Option Bool) (c_parquetref05_SameSegs : (List (Int × Int)) → (List (Int × Int)) → Option Bool) (a0 : ((List (Int × Int)) × ((List (Int × (Int × Int))) × (List (Int × Int))))) (a1 : ((List (Int × Int)) × ((List (Int × (Int × Int))) × (List (Int × Int))))) : textF [⟨23, [.d (.sl (.pair kI kI)), .d (.sl (.pair kI kI))], [.bool], fun x => c_parquetref05_SamePoints (x.1) (x.2), none⟩, ⟨44, [.d (.sl (.pair kI (.pair kI kI))), .d (.sl (.pair kI (.pair kI kI)))], [.bool], fun x => c_parquetref12_SameTris (x.1) (x.2), none⟩, ⟨17, [.d (.sl (.pair kI kI)), .d (.sl (.pair kI kI))], [.bool], fun x => c_parquetref05_SameSegs (x.1) (x.2), none⟩] tb k Tryz.f18 an_parquetref12_Same [.d (.pair (.sl (.pair kI kI)) (.pair (.sl (.pair kI (.pair kI kI))) (.sl (.pair kI kI)))), .d (.pair (.sl (.pair kI kI)) (.pair (.sl (.pair kI (.pair kI kI))) (.sl (.pair kI kI))))] [.bool] (a0, a1) = b_parquetref12_Same k c_parquetref05_SamePoints c_parquetref12_SameTris c_parquetref05_SameSegs a0 a1 := by kernel_rfl
def g_parquetref12_Same (k : Nat) (a0 : ((List (Int × Int)) × ((List (Int × (Int × Int))) × (List (Int × Int))))) (a1 : ((List (Int × Int)) × ((List (Int × (Int × Int))) × (List (Int × Int))))) : Option Bool := b_parquetref12_Same k (g_parquetref05_SamePoints k) (g_parquetref12_SameTris k) (g_parquetref05_SameSegs k) a0 a1
theorem tells_parquetref12_Same (k : Nat) : TellsF Tryz.prog 18 [.d (.pair (.sl (.pair kI kI)) (.pair (.sl (.pair kI (.pair kI kI))) (.sl (.pair kI kI)))), .d (.pair (.sl (.pair kI kI)) (.pair (.sl (.pair kI (.pair kI kI))) (.sl (.pair kI kI))))] [.bool] (fun x => g_parquetref12_Same k (x.1) (x.2)) := fun x y h => fun_tells tb_ok mix (es := [⟨23, [.d (.sl (.pair kI kI)), .d (.sl (.pair kI kI))], [.bool], fun x => g_parquetref05_SamePoints k (x.1) (x.2), none⟩, ⟨44, [.d (.sl (.pair kI (.pair kI kI))), .d (.sl (.pair kI (.pair kI kI)))], [.bool], fun x => g_parquetref12_SameTris k (x.1) (x.2), none⟩, ⟨17, [.d (.sl (.pair kI kI)), .d (.sl (.pair kI kI))], [.bool], fun x => g_parquetref05_SameSegs k (x.1) (x.2), none⟩]) (EsOk.cons (EntryOk.of rfl (tells_parquetref05_SamePoints k)) (EsOk.cons (EntryOk.of rfl (tells_parquetref12_SameTris k)) (EsOk.cons (EntryOk.of rfl (tells_parquetref05_SameSegs k)) (EsOk.nil _)))) Tryz.func18 (N := k) (an := an_parquetref12_Same) (by kernel_rfl) x y ((eq_parquetref12_Same k (g_parquetref05_SamePoints k) (g_parquetref12_SameTris k) (g_parquetref05_SameSegs k) (x.1) (x.2)).trans h)

def an_parquetlaw12_FillChecks : Ann := .node none none .leaf (.node none none (.node none none (.node (some [(1, .d kI), (2, .d kI), (3, .d kI), (4, .box [.d (.pair (.sl (.pair kI kI)) (.pair (.sl (.pair kI (.pair kI kI))) (.sl (.pair kI kI))))]), (32, .d .bool)]) none .leaf .leaf) .leaf) (.node none none .leaf (.node none none .leaf (.node none none .leaf (.node none none .leaf (.node none none .leaf (.node none none .leaf (.node none none (.node none none .leaf (.node none none (.node none (some [(4, .box [.d (.pair (.sl (.pair kI kI)) (.pair (.sl (.pair kI (.pair kI kI))) (.sl (.pair kI kI))))]), (9, .box [.row (.pair kI kI) 44, .d (.sl (.pair kI (.pair kI kI))), .row (.pair kI kI) 60]), (10, .box [.d (.pair kI (.pair kI kI))]), (11, .d .bool), (12, .box [.d (.pair kI (.pair kI kI))]), (13, .d .bool), (14, .d (.sl (.sl kI))), (15, .d (.sl (.sl kI))), (16, .d kI)]) .leaf .leaf) .leaf)) (.node none none (.node (some [(8, .d .bool)]) none .leaf .leaf) .leaf)))))))))
def b_parquetlaw12_FillChecks (k : Nat) (c_parquetlaw12_known : Option Bool) (c_fill_Tri : (List (Int × Int)) → Int → Int → Int → Option ((Int × (Int × Int)) × Bool)) (c_parquetref12_Tri : (List (Int × Int)) → Int → Int → Int → Option ((Int × (Int × Int)) × Bool)) (c_fill_Faces : (List (Int × (Int × Int))) → Option (List (List Int))) (c_parquetref12_Faces : (List (Int × (Int × Int))) → Option (List (List Int))) (c_parquetref00_SameInts : (List Int) → (List Int) → Option Bool) (c_fill_Check : ((List (Int × Int)) × ((List (Int × (Int × Int))) × (List (Int × Int)))) → Option Int) (c_parquetref12_Check : ((List (Int × Int)) × ((List (Int × (Int × Int))) × (List (Int × Int)))) → Option Int) (c_parquetref12_Same : ((List (Int × Int)) × ((List (Int × (Int × Int))) × (List (Int × Int)))) → ((List (Int × Int)) × ((List (Int × (Int × Int))) × (List (Int × Int)))) → Option Bool) (a0 : ((List (Int × Int)) × ((List (Int × (Int × Int))) × (List (Int × Int))))) (a1 : Int) (a2 : Int) (a3 : Int) : Option Bool :=
  meet (α := (Int × (Int × (Int × (((List (Int × Int)) × ((List (Int × (Int × Int))) × (List (Int × Int)))) × Bool))))) (fun (y0, y1, y2, y3, y4) =>
    bif y4 then
     bnd (c_parquetlaw12_known) fun r5 =>
     some r5
    else
     gd (few y3.1.length) <|
     gd (few y3.2.1.length) <|
     gd (few y3.2.2.length) <|
     bnd (c_fill_Tri y3.1 y0 y1 y2) fun r6 =>
     bnd (c_parquetref12_Tri y3.1 y0 y1 y2) fun r7 =>
     bnd (c_fill_Faces y3.2.1) fun r8 =>
     bnd (c_parquetref12_Faces y3.2.1) fun r9 =>
     bif !(decide ((r8.length : Int) = (r9.length : Int))) then
      some false
     else
      loopN (α := (((List (Int × Int)) × ((List (Int × (Int × Int))) × (List (Int × Int)))) × (((List (Int × Int)) × ((List (Int × (Int × Int))) × (List (Int × Int)))) × ((Int × (Int × Int)) × (Bool × ((Int × (Int × Int)) × (Bool × ((List (List Int)) × ((List (List Int)) × Int))))))))) (fun (x11, x12, x13, x14, x15, x16, x17, x18, x19) next10 =>
       bif decide (x19 < (x17.length : Int)) then
        gd (inb x19 x17.length) <|
        gd (inb x19 x18.length) <|
        bnd (c_parquetref00_SameInts (rdD [] x17 x19) (rdD [] x18 x19)) fun r20 =>
        bif !r20 then
         some false
        else
         next10 ((x11.1, x11.2.1, x11.2.2), (x12.1, x12.2.1, x12.2.2), (x13.1, x13.2.1, x13.2.2), x14, (x15.1, x15.2.1, x15.2.2), x16, x17, x18, w64 (x19 + 1))
       else
        meet (α := Bool) (fun y21 =>
         some y21) fun j22 =>
        bnd (c_fill_Check (x12.1, x12.2.1, x12.2.2)) fun r23 =>
        bnd (c_parquetref12_Check (x11.1, x11.2.1, x11.2.2)) fun r24 =>
        bif decide (r23 = r24) then
         bif (decide (x13.1 = x15.1)) && ((decide (x13.2.1 = x15.2.1)) && (decide (x13.2.2 = x15.2.2))) then
          bif x14 == x16 then
           bnd (c_parquetref12_Same (x12.1, x12.2.1, x12.2.2) (x11.1, x11.2.1, x11.2.2)) fun r25 =>
           bif r25 then
            bnd (c_parquetlaw12_known) fun r26 =>
            j22 r26
           else
            j22 false
          else
           j22 false
         else
          j22 false
        else
         j22 false) k ((y3.1, y3.2.1, y3.2.2), (y3.1, y3.2.1, y3.2.2), (r6.1.1, r6.1.2.1, r6.1.2.2), r6.2, (r7.1.1, r7.1.2.1, r7.1.2.2), r7.2, r8, r9, 0)) fun j27 =>
   bif decide ((a0.1.length : Int) > 60) then
    j27 (a1, a2, a3, (a0.1, a0.2.1, a0.2.2), true)
   else
    bif decide ((a0.2.1.length : Int) > 80) then
     j27 (a1, a2, a3, (a0.1, a0.2.1, a0.2.2), true)
    else
     j27 (a1, a2, a3, (a0.1, a0.2.1, a0.2.2), decide ((a0.2.2.length : Int) > 80))
theorem eq_parquetlaw12_FillChecks (k : Nat) (c_parquetlaw12_known : Option Bool) (c_fill_Tri : (List (Int × Int)) → Int → Int → Int → Option ((Int × (Int × Int)) × Bool)) (c_parquetref12_Tri : (List (Int × Int)) → Int → Int → Int → Option ((Int × (Int × Int)) × Bool)) (c_fill_Faces : (List (Int × (Int × Int))) → Option (List (List Int))) (c_parquetref12_Faces : (List (Int × (Int × Int))) → Option (List (List Int))) (c_parquetref00_SameInts : (List Int) → (List Int) → Option Bool) (c_fill_Check : ((List (Int × Int)) × ((List (Int × (Int × Int))) × (List (Int × Int)))) → Option Int) (c_parquetref12_Check : ((List (Int × Int)) × ((List (Int × (Int × Int))) × (List (Int × Int)))) → Option Int) (c_parquetref12_Same : ((List (Int × Int)) × ((List (Int × (Int × Int))) × (List (Int × Int)))) → ((List (Int × Int)) × ((List (Int × (Int × Int))) × (List (Int × Int)))) → Option Bool) (a0 : ((List (Int × Int)) × ((List (Int × (Int × Int))) × (List (Int × Int))))) (a1 : Int) (a2 : Int) (a3 : Int) : textF [⟨39, [], [], fun _ => none, some (.code tb Tryz.f39)⟩, ⟨11, [], [.bool], fun x => c_parquetlaw12_known, none⟩, ⟨40, [.d (.sl (.pair kI kI)), .d kI, .d kI, .d kI], [.pair kI (.pair kI kI), .bool], fun x => c_fill_Tri (x.1) (x.2.1) (x.2.2.1) (x.2.2.2), none⟩, ⟨41, [.d (.sl (.pair kI kI)), .d kI, .d kI, .d kI], [.pair kI (.pair kI kI), .bool], fun x => c_parquetref12_Tri (x.1) (x.2.1) (x.2.2.1) (x.2.2.2), none⟩, ⟨42, [.d (.sl (.pair kI (.pair kI kI)))], [.sl (.sl kI)], fun x => c_fill_Faces x, none⟩, ⟨31, [.d (.sl (.pair kI (.pair kI kI)))], [.sl (.sl kI)], fun x => c_parquetref12_Faces x, none⟩, ⟨43, [.d (.sl kI), .d (.sl kI)], [.bool], fun x => c_parquetref00_SameInts (x.1) (x.2), none⟩, ⟨21, [.d (.pair (.sl (.pair kI kI)) (.pair (.sl (.pair kI (.pair kI kI))) (.sl (.pair kI kI))))], [kI], fun x => c_fill_Check x, none⟩, ⟨22, [.d (.pair (.sl (.pair kI kI)) (.pair (.sl (.pair kI (.pair kI kI))) (.sl (.pair kI kI))))], [kI], fun x => c_parquetref12_Check x, none⟩, ⟨18, [.d (.pair (.sl (.pair kI kI)) (.pair (.sl (.pair kI (.pair kI kI))) (.sl (.pair kI kI)))), .d (.pair (.sl (.pair kI kI)) (.pair (.sl (.pair kI (.pair kI kI))) (.sl (.pair kI kI))))], [.bool], fun x => c_parquetref12_Same (x.1) (x.2), none⟩] tb k Tryz.f9 an_parquetlaw12_FillChecks [.d (.pair (.sl (.pair kI kI)) (.pair (.sl (.pair kI (.pair kI kI))) (.sl (.pair kI kI)))), .d kI, .d kI, .d kI] [.bool] (a0, a1, a2, a3) = b_parquetlaw12_FillChecks k c_parquetlaw12_known c_fill_Tri c_parquetref12_Tri c_fill_Faces c_parquetref12_Faces c_parquetref00_SameInts c_fill_Check c_parquetref12_Check c_parquetref12_Same a0 a1 a2 a3 := by kernel_rfl
def g_parquetlaw12_FillChecks (k : Nat) (a0 : ((List (Int × Int)) × ((List (Int × (Int × Int))) × (List (Int × Int))))) (a1 : Int) (a2 : Int) (a3 : Int) : Option Bool := b_parquetlaw12_FillChecks k (g_parquetlaw12_known k) (g_fill_Tri k) (g_parquetref12_Tri k) (g_fill_Faces k) (g_parquetref12_Faces k) (g_parquetref00_SameInts k) (g_fill_Check k) (g_parquetref12_Check k) (g_parquetref12_Same k) a0 a1 a2 a3
theorem tells_parquetlaw12_FillChecks (k : Nat) : TellsF Tryz.prog 9 [.d (.pair (.sl (.pair kI kI)) (.pair (.sl (.pair kI (.pair kI kI))) (.sl (.pair kI kI)))), .d kI, .d kI, .d kI] [.bool] (fun x => g_parquetlaw12_FillChecks k (x.1) (x.2.1) (x.2.2.1) (x.2.2.2)) := fun x y h => fun_tells tb_ok mix (es := [⟨39, [], [], fun _ => none, some (.code tb Tryz.f39)⟩, ⟨11, [], [.bool], fun x => g_parquetlaw12_known k, none⟩, ⟨40, [.d (.sl (.pair kI kI)), .d kI, .d kI, .d kI], [.pair kI (.pair kI kI), .bool], fun x => g_fill_Tri k (x.1) (x.2.1) (x.2.2.1) (x.2.2.2), none⟩, ⟨41, [.d (.sl (.pair kI kI)), .d kI, .d kI, .d kI], [.pair kI (.pair kI kI), .bool], fun x => g_parquetref12_Tri k (x.1) (x.2.1) (x.2.2.1) (x.2.2.2), none⟩, ⟨42, [.d (.sl (.pair kI (.pair kI kI)))], [.sl (.sl kI)], fun x => g_fill_Faces k x, none⟩, ⟨31, [.d (.sl (.pair kI (.pair kI kI)))], [.sl (.sl kI)], fun x => g_parquetref12_Faces k x, none⟩, ⟨43, [.d (.sl kI), .d (.sl kI)], [.bool], fun x => g_parquetref00_SameInts k (x.1) (x.2), none⟩, ⟨21, [.d (.pair (.sl (.pair kI kI)) (.pair (.sl (.pair kI (.pair kI kI))) (.sl (.pair kI kI))))], [kI], fun x => g_fill_Check k x, none⟩, ⟨22, [.d (.pair (.sl (.pair kI kI)) (.pair (.sl (.pair kI (.pair kI kI))) (.sl (.pair kI kI))))], [kI], fun x => g_parquetref12_Check k x, none⟩, ⟨18, [.d (.pair (.sl (.pair kI kI)) (.pair (.sl (.pair kI (.pair kI kI))) (.sl (.pair kI kI)))), .d (.pair (.sl (.pair kI kI)) (.pair (.sl (.pair kI (.pair kI kI))) (.sl (.pair kI kI))))], [.bool], fun x => g_parquetref12_Same k (x.1) (x.2), none⟩]) (EsOk.cons (EntryOk.go tb_ok mix Tryz.func39 (by kernel_rfl)) (EsOk.cons (EntryOk.of rfl (tells_parquetlaw12_known k)) (EsOk.cons (EntryOk.of rfl (tells_fill_Tri k)) (EsOk.cons (EntryOk.of rfl (tells_parquetref12_Tri k)) (EsOk.cons (EntryOk.of rfl (tells_fill_Faces k)) (EsOk.cons (EntryOk.of rfl (tells_parquetref12_Faces k)) (EsOk.cons (EntryOk.of rfl (tells_parquetref00_SameInts k)) (EsOk.cons (EntryOk.of rfl (tells_fill_Check k)) (EsOk.cons (EntryOk.of rfl (tells_parquetref12_Check k)) (EsOk.cons (EntryOk.of rfl (tells_parquetref12_Same k)) (EsOk.nil _))))))))))) Tryz.func9 (N := k) (an := an_parquetlaw12_FillChecks) (by kernel_rfl) x y ((eq_parquetlaw12_FillChecks k (g_parquetlaw12_known k) (g_fill_Tri k) (g_parquetref12_Tri k) (g_fill_Faces k) (g_parquetref12_Faces k) (g_parquetref00_SameInts k) (g_fill_Check k) (g_parquetref12_Check k) (g_parquetref12_Same k) (x.1) (x.2.1) (x.2.2.1) (x.2.2.2)).trans h)

end
end Go.Proofs.YtpkkcjmblocjdaaGreat.AM
