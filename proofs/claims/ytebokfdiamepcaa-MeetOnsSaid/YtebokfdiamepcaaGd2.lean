/- The functions, by their texts: written by a program. -/
import Derived.Test.YtebokfdiamepcaaGd1
set_option linter.unusedVariables false
set_option maxRecDepth 100000
namespace Go.Proofs.Ytebokfdiamepcaa.AM
open Go.RowKit Go.Proofs
def an_parquetref03_minus : Ann := .leaf
def b_parquetref03_minus (k : Nat) (c_parquetref01_Num_Neg : (Bool × (List Int)) → Option (Bool × (List Int))) (c_parquetref01_Num_Plus : (Bool × (List Int)) → (Bool × (List Int)) → Option (Bool × (List Int))) (a0 : (Bool × (List Int))) (a1 : (Bool × (List Int))) : Option (Bool × (List Int)) :=
  bnd (c_parquetref01_Num_Neg (a1.1, a1.2)) fun r0 =>
   bnd (c_parquetref01_Num_Plus (a0.1, a0.2) (r0.1, r0.2)) fun r1 =>
   some (r1.1, r1.2)
theorem eq_parquetref03_minus (k : Nat) (c_parquetref01_Num_Neg : (Bool × (List Int)) → Option (Bool × (List Int))) (c_parquetref01_Num_Plus : (Bool × (List Int)) → (Bool × (List Int)) → Option (Bool × (List Int))) (a0 : (Bool × (List Int))) (a1 : (Bool × (List Int))) : textF [⟨43, [.d (.pair .bool (.sl kI))], [.pair .bool (.sl kI)], fun x => c_parquetref01_Num_Neg x⟩, ⟨31, [.d (.pair .bool (.sl kI)), .d (.pair .bool (.sl kI))], [.pair .bool (.sl kI)], fun x => c_parquetref01_Num_Plus (x.1) (x.2)⟩] tb k Try.f39 an_parquetref03_minus [.d (.pair .bool (.sl kI)), .d (.pair .bool (.sl kI))] [.pair .bool (.sl kI)] (a0, a1) = b_parquetref03_minus k c_parquetref01_Num_Neg c_parquetref01_Num_Plus a0 a1 := by kernel_rfl
def g_parquetref03_minus (k : Nat) (a0 : (Bool × (List Int))) (a1 : (Bool × (List Int))) : Option (Bool × (List Int)) := b_parquetref03_minus k (g_parquetref01_Num_Neg k) (g_parquetref01_Num_Plus k) a0 a1
theorem tells_parquetref03_minus (k : Nat) : TellsF Try.prog 39 [.d (.pair .bool (.sl kI)), .d (.pair .bool (.sl kI))] [.pair .bool (.sl kI)] (fun x => g_parquetref03_minus k (x.1) (x.2)) := fun x y h => fun_tells tb_ok mix (es := [⟨43, [.d (.pair .bool (.sl kI))], [.pair .bool (.sl kI)], fun x => g_parquetref01_Num_Neg k x⟩, ⟨31, [.d (.pair .bool (.sl kI)), .d (.pair .bool (.sl kI))], [.pair .bool (.sl kI)], fun x => g_parquetref01_Num_Plus k (x.1) (x.2)⟩]) (EsOk.cons ⟨rfl, tells_parquetref01_Num_Neg k⟩ (EsOk.cons ⟨rfl, tells_parquetref01_Num_Plus k⟩ (EsOk.nil _))) Try.func39 (N := k) (an := an_parquetref03_minus) (by kernel_rfl) x y ((eq_parquetref03_minus k (g_parquetref01_Num_Neg k) (g_parquetref01_Num_Plus k) (x.1) (x.2)).trans h)

def an_parquetref03_Det : Ann := .leaf
def b_parquetref03_Det (k : Nat) (c_parquetref01_Num_Times : (Bool × (List Int)) → (Bool × (List Int)) → Option (Bool × (List Int))) (c_parquetref03_minus : (Bool × (List Int)) → (Bool × (List Int)) → Option (Bool × (List Int))) (a0 : (Bool × (List Int))) (a1 : (Bool × (List Int))) (a2 : (Bool × (List Int))) (a3 : (Bool × (List Int))) : Option (Bool × (List Int)) :=
  bnd (c_parquetref01_Num_Times (a0.1, a0.2) (a3.1, a3.2)) fun r0 =>
   bnd (c_parquetref01_Num_Times (a1.1, a1.2) (a2.1, a2.2)) fun r1 =>
   bnd (c_parquetref03_minus (r0.1, r0.2) (r1.1, r1.2)) fun r2 =>
   some (r2.1, r2.2)
theorem eq_parquetref03_Det (k : Nat) (c_parquetref01_Num_Times : (Bool × (List Int)) → (Bool × (List Int)) → Option (Bool × (List Int))) (c_parquetref03_minus : (Bool × (List Int)) → (Bool × (List Int)) → Option (Bool × (List Int))) (a0 : (Bool × (List Int))) (a1 : (Bool × (List Int))) (a2 : (Bool × (List Int))) (a3 : (Bool × (List Int))) : textF [⟨30, [.d (.pair .bool (.sl kI)), .d (.pair .bool (.sl kI))], [.pair .bool (.sl kI)], fun x => c_parquetref01_Num_Times (x.1) (x.2)⟩, ⟨39, [.d (.pair .bool (.sl kI)), .d (.pair .bool (.sl kI))], [.pair .bool (.sl kI)], fun x => c_parquetref03_minus (x.1) (x.2)⟩] tb k Try.f32 an_parquetref03_Det [.d (.pair .bool (.sl kI)), .d (.pair .bool (.sl kI)), .d (.pair .bool (.sl kI)), .d (.pair .bool (.sl kI))] [.pair .bool (.sl kI)] (a0, a1, a2, a3) = b_parquetref03_Det k c_parquetref01_Num_Times c_parquetref03_minus a0 a1 a2 a3 := by kernel_rfl
def g_parquetref03_Det (k : Nat) (a0 : (Bool × (List Int))) (a1 : (Bool × (List Int))) (a2 : (Bool × (List Int))) (a3 : (Bool × (List Int))) : Option (Bool × (List Int)) := b_parquetref03_Det k (g_parquetref01_Num_Times k) (g_parquetref03_minus k) a0 a1 a2 a3
theorem tells_parquetref03_Det (k : Nat) : TellsF Try.prog 32 [.d (.pair .bool (.sl kI)), .d (.pair .bool (.sl kI)), .d (.pair .bool (.sl kI)), .d (.pair .bool (.sl kI))] [.pair .bool (.sl kI)] (fun x => g_parquetref03_Det k (x.1) (x.2.1) (x.2.2.1) (x.2.2.2)) := fun x y h => fun_tells tb_ok mix (es := [⟨30, [.d (.pair .bool (.sl kI)), .d (.pair .bool (.sl kI))], [.pair .bool (.sl kI)], fun x => g_parquetref01_Num_Times k (x.1) (x.2)⟩, ⟨39, [.d (.pair .bool (.sl kI)), .d (.pair .bool (.sl kI))], [.pair .bool (.sl kI)], fun x => g_parquetref03_minus k (x.1) (x.2)⟩]) (EsOk.cons ⟨rfl, tells_parquetref01_Num_Times k⟩ (EsOk.cons ⟨rfl, tells_parquetref03_minus k⟩ (EsOk.nil _))) Try.func32 (N := k) (an := an_parquetref03_Det) (by kernel_rfl) x y ((eq_parquetref03_Det k (g_parquetref01_Num_Times k) (g_parquetref03_minus k) (x.1) (x.2.1) (x.2.2.1) (x.2.2.2)).trans h)

def an_parquetref03_Area : Ann := .leaf
def b_parquetref03_Area (k : Nat) (c_parquetref03_num : Int → Option (Bool × (List Int))) (c_parquetref03_Det : (Bool × (List Int)) → (Bool × (List Int)) → (Bool × (List Int)) → (Bool × (List Int)) → Option (Bool × (List Int))) (c_parquetref01_Num_Plus : (Bool × (List Int)) → (Bool × (List Int)) → Option (Bool × (List Int))) (a0 : (Int × Int)) (a1 : (Int × Int)) (a2 : (Int × Int)) : Option (Bool × (List Int)) :=
  bnd (c_parquetref03_num a0.1) fun r0 =>
   bnd (c_parquetref03_num a0.2) fun r1 =>
   bnd (c_parquetref03_num a1.1) fun r2 =>
   bnd (c_parquetref03_num a1.2) fun r3 =>
   bnd (c_parquetref03_Det (r0.1, r0.2) (r1.1, r1.2) (r2.1, r2.2) (r3.1, r3.2)) fun r4 =>
   bnd (c_parquetref03_num a1.1) fun r5 =>
   bnd (c_parquetref03_num a1.2) fun r6 =>
   bnd (c_parquetref03_num a2.1) fun r7 =>
   bnd (c_parquetref03_num a2.2) fun r8 =>
   bnd (c_parquetref03_Det (r5.1, r5.2) (r6.1, r6.2) (r7.1, r7.2) (r8.1, r8.2)) fun r9 =>
   bnd (c_parquetref01_Num_Plus (r4.1, r4.2) (r9.1, r9.2)) fun r10 =>
   bnd (c_parquetref03_num a2.1) fun r11 =>
   bnd (c_parquetref03_num a2.2) fun r12 =>
   bnd (c_parquetref03_num a0.1) fun r13 =>
   bnd (c_parquetref03_num a0.2) fun r14 =>
   bnd (c_parquetref03_Det (r11.1, r11.2) (r12.1, r12.2) (r13.1, r13.2) (r14.1, r14.2)) fun r15 =>
   bnd (c_parquetref01_Num_Plus (r10.1, r10.2) (r15.1, r15.2)) fun r16 =>
   some (r16.1, r16.2)
theorem eq_parquetref03_Area (k : Nat) (c_parquetref03_num : Int → Option (Bool × (List Int))) (c_parquetref03_Det : (Bool × (List Int)) → (Bool × (List Int)) → (Bool × (List Int)) → (Bool × (List Int)) → Option (Bool × (List Int))) (c_parquetref01_Num_Plus : (Bool × (List Int)) → (Bool × (List Int)) → Option (Bool × (List Int))) (a0 : (Int × Int)) (a1 : (Int × Int)) (a2 : (Int × Int)) : textF [⟨33, [.d kI], [.pair .bool (.sl kI)], fun x => c_parquetref03_num x⟩, ⟨32, [.d (.pair .bool (.sl kI)), .d (.pair .bool (.sl kI)), .d (.pair .bool (.sl kI)), .d (.pair .bool (.sl kI))], [.pair .bool (.sl kI)], fun x => c_parquetref03_Det (x.1) (x.2.1) (x.2.2.1) (x.2.2.2)⟩, ⟨31, [.d (.pair .bool (.sl kI)), .d (.pair .bool (.sl kI))], [.pair .bool (.sl kI)], fun x => c_parquetref01_Num_Plus (x.1) (x.2)⟩] tb k Try.f26 an_parquetref03_Area [.d (.pair kI kI), .d (.pair kI kI), .d (.pair kI kI)] [.pair .bool (.sl kI)] (a0, a1, a2) = b_parquetref03_Area k c_parquetref03_num c_parquetref03_Det c_parquetref01_Num_Plus a0 a1 a2 := by kernel_rfl
def g_parquetref03_Area (k : Nat) (a0 : (Int × Int)) (a1 : (Int × Int)) (a2 : (Int × Int)) : Option (Bool × (List Int)) := b_parquetref03_Area k (g_parquetref03_num k) (g_parquetref03_Det k) (g_parquetref01_Num_Plus k) a0 a1 a2
theorem tells_parquetref03_Area (k : Nat) : TellsF Try.prog 26 [.d (.pair kI kI), .d (.pair kI kI), .d (.pair kI kI)] [.pair .bool (.sl kI)] (fun x => g_parquetref03_Area k (x.1) (x.2.1) (x.2.2)) := fun x y h => fun_tells tb_ok mix (es := [⟨33, [.d kI], [.pair .bool (.sl kI)], fun x => g_parquetref03_num k x⟩, ⟨32, [.d (.pair .bool (.sl kI)), .d (.pair .bool (.sl kI)), .d (.pair .bool (.sl kI)), .d (.pair .bool (.sl kI))], [.pair .bool (.sl kI)], fun x => g_parquetref03_Det k (x.1) (x.2.1) (x.2.2.1) (x.2.2.2)⟩, ⟨31, [.d (.pair .bool (.sl kI)), .d (.pair .bool (.sl kI))], [.pair .bool (.sl kI)], fun x => g_parquetref01_Num_Plus k (x.1) (x.2)⟩]) (EsOk.cons ⟨rfl, tells_parquetref03_num k⟩ (EsOk.cons ⟨rfl, tells_parquetref03_Det k⟩ (EsOk.cons ⟨rfl, tells_parquetref01_Num_Plus k⟩ (EsOk.nil _)))) Try.func26 (N := k) (an := an_parquetref03_Area) (by kernel_rfl) x y ((eq_parquetref03_Area k (g_parquetref03_num k) (g_parquetref03_Det k) (g_parquetref01_Num_Plus k) (x.1) (x.2.1) (x.2.2)).trans h)

def an_parquetref01_Num_Sign : Ann := .leaf
def g_parquetref01_Num_Sign (k : Nat) (a0 : (Bool × (List Int))) : Option Int :=
  bif decide ((a0.2.length : Int) = 0) then
    some 0
   else
    bif a0.1 then
     some (-1)
    else
     some 1
theorem eq_parquetref01_Num_Sign (k : Nat) (a0 : (Bool × (List Int))) : textF [] tb k Try.f27 an_parquetref01_Num_Sign [.d (.pair .bool (.sl kI))] [kI] a0 = g_parquetref01_Num_Sign k a0 := by kernel_rfl
theorem tells_parquetref01_Num_Sign (k : Nat) : TellsF Try.prog 27 [.d (.pair .bool (.sl kI))] [kI] (fun x => g_parquetref01_Num_Sign k x) := fun x y h => fun_tells tb_ok mix (es := []) (EsOk.nil _) Try.func27 (N := k) (an := an_parquetref01_Num_Sign) (by kernel_rfl) x y ((eq_parquetref01_Num_Sign k x).trans h)

def an_parquetref03_Orient : Ann := .node none none .leaf (.node none none (.node none none (.node (some [(3, .box [.d (.pair kI kI)]), (4, .box [.d (.pair kI kI)]), (5, .box [.d (.pair kI kI)]), (19, .d .bool)]) none .leaf .leaf) .leaf) .leaf)
def b_parquetref03_Orient (k : Nat) (c_parquetref03_Fits : (Int × Int) → Option Bool) (c_parquetref03_Area : (Int × Int) → (Int × Int) → (Int × Int) → Option (Bool × (List Int))) (c_parquetref01_Num_Sign : (Bool × (List Int)) → Option Int) (a0 : (Int × Int)) (a1 : (Int × Int)) (a2 : (Int × Int)) : Option Int :=
  meet (α := ((Int × Int) × ((Int × Int) × ((Int × Int) × Bool)))) (fun (y0, y1, y2, y3) =>
    bif y3 then
     some 0
    else
     bnd (c_parquetref03_Area (y0.1, y0.2) (y1.1, y1.2) (y2.1, y2.2)) fun r4 =>
     bnd (c_parquetref01_Num_Sign (r4.1, r4.2)) fun r5 =>
     some r5) fun j6 =>
   bnd (c_parquetref03_Fits (a0.1, a0.2)) fun r7 =>
   bif !r7 then
    j6 ((a0.1, a0.2), (a1.1, a1.2), (a2.1, a2.2), true)
   else
    bnd (c_parquetref03_Fits (a1.1, a1.2)) fun r8 =>
    bif !r8 then
     j6 ((a0.1, a0.2), (a1.1, a1.2), (a2.1, a2.2), true)
    else
     bnd (c_parquetref03_Fits (a2.1, a2.2)) fun r9 =>
     j6 ((a0.1, a0.2), (a1.1, a1.2), (a2.1, a2.2), !r9)
theorem eq_parquetref03_Orient (k : Nat) (c_parquetref03_Fits : (Int × Int) → Option Bool) (c_parquetref03_Area : (Int × Int) → (Int × Int) → (Int × Int) → Option (Bool × (List Int))) (c_parquetref01_Num_Sign : (Bool × (List Int)) → Option Int) (a0 : (Int × Int)) (a1 : (Int × Int)) (a2 : (Int × Int)) : textF [⟨17, [.d (.pair kI kI)], [.bool], fun x => c_parquetref03_Fits x⟩, ⟨26, [.d (.pair kI kI), .d (.pair kI kI), .d (.pair kI kI)], [.pair .bool (.sl kI)], fun x => c_parquetref03_Area (x.1) (x.2.1) (x.2.2)⟩, ⟨27, [.d (.pair .bool (.sl kI))], [kI], fun x => c_parquetref01_Num_Sign x⟩] tb k Try.f19 an_parquetref03_Orient [.d (.pair kI kI), .d (.pair kI kI), .d (.pair kI kI)] [kI] (a0, a1, a2) = b_parquetref03_Orient k c_parquetref03_Fits c_parquetref03_Area c_parquetref01_Num_Sign a0 a1 a2 := by kernel_rfl
def g_parquetref03_Orient (k : Nat) (a0 : (Int × Int)) (a1 : (Int × Int)) (a2 : (Int × Int)) : Option Int := b_parquetref03_Orient k (g_parquetref03_Fits k) (g_parquetref03_Area k) (g_parquetref01_Num_Sign k) a0 a1 a2
theorem tells_parquetref03_Orient (k : Nat) : TellsF Try.prog 19 [.d (.pair kI kI), .d (.pair kI kI), .d (.pair kI kI)] [kI] (fun x => g_parquetref03_Orient k (x.1) (x.2.1) (x.2.2)) := fun x y h => fun_tells tb_ok mix (es := [⟨17, [.d (.pair kI kI)], [.bool], fun x => g_parquetref03_Fits k x⟩, ⟨26, [.d (.pair kI kI), .d (.pair kI kI), .d (.pair kI kI)], [.pair .bool (.sl kI)], fun x => g_parquetref03_Area k (x.1) (x.2.1) (x.2.2)⟩, ⟨27, [.d (.pair .bool (.sl kI))], [kI], fun x => g_parquetref01_Num_Sign k x⟩]) (EsOk.cons ⟨rfl, tells_parquetref03_Fits k⟩ (EsOk.cons ⟨rfl, tells_parquetref03_Area k⟩ (EsOk.cons ⟨rfl, tells_parquetref01_Num_Sign k⟩ (EsOk.nil _)))) Try.func19 (N := k) (an := an_parquetref03_Orient) (by kernel_rfl) x y ((eq_parquetref03_Orient k (g_parquetref03_Fits k) (g_parquetref03_Area k) (g_parquetref01_Num_Sign k) (x.1) (x.2.1) (x.2.2)).trans h)

def an_parquetlaw04_MeetFan : Ann := .node none none .leaf (.node none none .leaf (.node none none (.node none none .leaf (.node none none (.node none none (.node (some [(6, .d .bool)]) none .leaf .leaf) .leaf) .leaf)) (.node none none (.node (some [(7, .d kI), (9, .d .bool)]) none .leaf .leaf) (.node none none .leaf (.node none none (.node none none .leaf (.node (some [(7, .d kI), (10, .d kI)]) none .leaf .leaf)) (.node none none (.node (some [(6, .d .bool)]) none .leaf .leaf) .leaf))))))
def b_parquetlaw04_MeetFan (k : Nat) (c_meet_Segs : (Int × Int) → (Int × Int) → (Int × Int) → (Int × Int) → Option (Int × Int)) (c_parquetlaw04_known : Option Bool) (c_parquetref03_Orient : (Int × Int) → (Int × Int) → (Int × Int) → Option Int) (c_meet_On : (Int × Int) → (Int × Int) → (Int × Int) → Option Bool) (a0 : (Int × Int)) (a1 : (Int × Int)) (a2 : (Int × Int)) : Option Bool :=
  bnd (c_meet_Segs (a0.1, a0.2) (a1.1, a1.2) (a0.1, a0.2) (a2.1, a2.2)) fun r0 =>
   bif !(decide (r0.2 = 0)) then
    meet (α := Bool) (fun y1 =>
     some y1) fun j2 =>
    bif decide (r0.1 = 0) then
     bif decide (r0.2 = 2) then
      bnd (c_parquetlaw04_known) fun r3 =>
      j2 r3
     else
      j2 false
    else
     j2 false
   else
    meet (α := (Int × Bool)) (fun (y4, y5) =>
     meet (α := (Int × Int)) (fun (y6, y7) =>
      meet (α := Bool) (fun y8 =>
       some y8) fun j9 =>
      bif decide (y6 = y7) then
       bnd (c_parquetlaw04_known) fun r10 =>
       j9 r10
      else
       j9 false) fun j11 =>
     bif y5 then
      j11 (y4, 4)
     else
      j11 (y4, 1)) fun j12 =>
    bnd (c_parquetref03_Orient (a0.1, a0.2) (a1.1, a1.2) (a2.1, a2.2)) fun r13 =>
    bif decide (r13 = 0) then
     bnd (c_meet_On (a0.1, a0.2) (a1.1, a1.2) (a2.1, a2.2)) fun r14 =>
     bif r14 then
      j12 (r0.1, true)
     else
      bnd (c_meet_On (a0.1, a0.2) (a2.1, a2.2) (a1.1, a1.2)) fun r15 =>
      j12 (r0.1, r15)
    else
     j12 (r0.1, false)
theorem eq_parquetlaw04_MeetFan (k : Nat) (c_meet_Segs : (Int × Int) → (Int × Int) → (Int × Int) → (Int × Int) → Option (Int × Int)) (c_parquetlaw04_known : Option Bool) (c_parquetref03_Orient : (Int × Int) → (Int × Int) → (Int × Int) → Option Int) (c_meet_On : (Int × Int) → (Int × Int) → (Int × Int) → Option Bool) (a0 : (Int × Int)) (a1 : (Int × Int)) (a2 : (Int × Int)) : textF [⟨10, [.d (.pair kI kI), .d (.pair kI kI), .d (.pair kI kI), .d (.pair kI kI)], [kI, kI], fun x => c_meet_Segs (x.1) (x.2.1) (x.2.2.1) (x.2.2.2)⟩, ⟨12, [], [.bool], fun x => c_parquetlaw04_known⟩, ⟨19, [.d (.pair kI kI), .d (.pair kI kI), .d (.pair kI kI)], [kI], fun x => c_parquetref03_Orient (x.1) (x.2.1) (x.2.2)⟩, ⟨13, [.d (.pair kI kI), .d (.pair kI kI), .d (.pair kI kI)], [.bool], fun x => c_meet_On (x.1) (x.2.1) (x.2.2)⟩] tb k Try.f8 an_parquetlaw04_MeetFan [.d (.pair kI kI), .d (.pair kI kI), .d (.pair kI kI)] [.bool] (a0, a1, a2) = b_parquetlaw04_MeetFan k c_meet_Segs c_parquetlaw04_known c_parquetref03_Orient c_meet_On a0 a1 a2 := by kernel_rfl
def g_parquetlaw04_MeetFan (k : Nat) (a0 : (Int × Int)) (a1 : (Int × Int)) (a2 : (Int × Int)) : Option Bool := b_parquetlaw04_MeetFan k (g_meet_Segs k) (g_parquetlaw04_known k) (g_parquetref03_Orient k) (g_meet_On k) a0 a1 a2
theorem tells_parquetlaw04_MeetFan (k : Nat) : TellsF Try.prog 8 [.d (.pair kI kI), .d (.pair kI kI), .d (.pair kI kI)] [.bool] (fun x => g_parquetlaw04_MeetFan k (x.1) (x.2.1) (x.2.2)) := fun x y h => fun_tells tb_ok mix (es := [⟨10, [.d (.pair kI kI), .d (.pair kI kI), .d (.pair kI kI), .d (.pair kI kI)], [kI, kI], fun x => g_meet_Segs k (x.1) (x.2.1) (x.2.2.1) (x.2.2.2)⟩, ⟨12, [], [.bool], fun x => g_parquetlaw04_known k⟩, ⟨19, [.d (.pair kI kI), .d (.pair kI kI), .d (.pair kI kI)], [kI], fun x => g_parquetref03_Orient k (x.1) (x.2.1) (x.2.2)⟩, ⟨13, [.d (.pair kI kI), .d (.pair kI kI), .d (.pair kI kI)], [.bool], fun x => g_meet_On k (x.1) (x.2.1) (x.2.2)⟩]) (EsOk.cons ⟨rfl, tells_meet_Segs k⟩ (EsOk.cons ⟨rfl, tells_parquetlaw04_known k⟩ (EsOk.cons ⟨rfl, tells_parquetref03_Orient k⟩ (EsOk.cons ⟨rfl, tells_meet_On k⟩ (EsOk.nil _))))) Try.func8 (N := k) (an := an_parquetlaw04_MeetFan) (by kernel_rfl) x y ((eq_parquetlaw04_MeetFan k (g_meet_Segs k) (g_parquetlaw04_known k) (g_parquetref03_Orient k) (g_meet_On k) (x.1) (x.2.1) (x.2.2)).trans h)

def an_parquetref04_on : Ann := .node none none .leaf (.node none none .leaf (.node none none (.node (some [(6, .d .bool)]) none .leaf .leaf) .leaf))
def b_parquetref04_on (k : Nat) (c_parquetref01_Small : Int → Option (Bool × (List Int))) (c_parquetref01_Num_Times : (Bool × (List Int)) → (Bool × (List Int)) → Option (Bool × (List Int))) (c_parquetref01_Num_Plus : (Bool × (List Int)) → (Bool × (List Int)) → Option (Bool × (List Int))) (c_parquetref03_Fits : (Int × Int) → Option Bool) (c_parquetref03_Orient : (Int × Int) → (Int × Int) → (Int × Int) → Option Int) (c_parquetref01_Num_Sign : (Bool × (List Int)) → Option Int) (a0 : (Int × Int)) (a1 : (Int × Int)) (a2 : (Int × Int)) : Option Bool :=
  bnd (c_parquetref01_Small (w64 (a2.1 - a0.1))) fun r0 =>
   bnd (c_parquetref01_Small (w64 (a1.1 - a2.1))) fun r1 =>
   bnd (c_parquetref01_Num_Times (r0.1, r0.2) (r1.1, r1.2)) fun r2 =>
   bnd (c_parquetref01_Small (w64 (a2.2 - a0.2))) fun r3 =>
   bnd (c_parquetref01_Small (w64 (a1.2 - a2.2))) fun r4 =>
   bnd (c_parquetref01_Num_Times (r3.1, r3.2) (r4.1, r4.2)) fun r5 =>
   bnd (c_parquetref01_Num_Plus (r2.1, r2.2) (r5.1, r5.2)) fun r6 =>
   meet (α := Bool) (fun y7 =>
    some y7) fun j8 =>
   bif !((decide (a0.1 = a1.1)) && (decide (a0.2 = a1.2))) then
    bnd (c_parquetref03_Fits (a0.1, a0.2)) fun r9 =>
    bif r9 then
     bnd (c_parquetref03_Fits (a1.1, a1.2)) fun r10 =>
     bif r10 then
      bnd (c_parquetref03_Fits (a2.1, a2.2)) fun r11 =>
      bif r11 then
       bnd (c_parquetref03_Orient (a0.1, a0.2) (a1.1, a1.2) (a2.1, a2.2)) fun r12 =>
       bif decide (r12 = 0) then
        bnd (c_parquetref01_Num_Sign (r6.1, r6.2)) fun r13 =>
        j8 (decide (r13 ≥ 0))
       else
        j8 false
      else
       j8 false
     else
      j8 false
    else
     j8 false
   else
    j8 false
theorem eq_parquetref04_on (k : Nat) (c_parquetref01_Small : Int → Option (Bool × (List Int))) (c_parquetref01_Num_Times : (Bool × (List Int)) → (Bool × (List Int)) → Option (Bool × (List Int))) (c_parquetref01_Num_Plus : (Bool × (List Int)) → (Bool × (List Int)) → Option (Bool × (List Int))) (c_parquetref03_Fits : (Int × Int) → Option Bool) (c_parquetref03_Orient : (Int × Int) → (Int × Int) → (Int × Int) → Option Int) (c_parquetref01_Num_Sign : (Bool × (List Int)) → Option Int) (a0 : (Int × Int)) (a1 : (Int × Int)) (a2 : (Int × Int)) : textF [⟨29, [.d kI], [.pair .bool (.sl kI)], fun x => c_parquetref01_Small x⟩, ⟨30, [.d (.pair .bool (.sl kI)), .d (.pair .bool (.sl kI))], [.pair .bool (.sl kI)], fun x => c_parquetref01_Num_Times (x.1) (x.2)⟩, ⟨31, [.d (.pair .bool (.sl kI)), .d (.pair .bool (.sl kI))], [.pair .bool (.sl kI)], fun x => c_parquetref01_Num_Plus (x.1) (x.2)⟩, ⟨17, [.d (.pair kI kI)], [.bool], fun x => c_parquetref03_Fits x⟩, ⟨19, [.d (.pair kI kI), .d (.pair kI kI), .d (.pair kI kI)], [kI], fun x => c_parquetref03_Orient (x.1) (x.2.1) (x.2.2)⟩, ⟨27, [.d (.pair .bool (.sl kI))], [kI], fun x => c_parquetref01_Num_Sign x⟩] tb k Try.f24 an_parquetref04_on [.d (.pair kI kI), .d (.pair kI kI), .d (.pair kI kI)] [.bool] (a0, a1, a2) = b_parquetref04_on k c_parquetref01_Small c_parquetref01_Num_Times c_parquetref01_Num_Plus c_parquetref03_Fits c_parquetref03_Orient c_parquetref01_Num_Sign a0 a1 a2 := by kernel_rfl
def g_parquetref04_on (k : Nat) (a0 : (Int × Int)) (a1 : (Int × Int)) (a2 : (Int × Int)) : Option Bool := b_parquetref04_on k (g_parquetref01_Small k) (g_parquetref01_Num_Times k) (g_parquetref01_Num_Plus k) (g_parquetref03_Fits k) (g_parquetref03_Orient k) (g_parquetref01_Num_Sign k) a0 a1 a2
theorem tells_parquetref04_on (k : Nat) : TellsF Try.prog 24 [.d (.pair kI kI), .d (.pair kI kI), .d (.pair kI kI)] [.bool] (fun x => g_parquetref04_on k (x.1) (x.2.1) (x.2.2)) := fun x y h => fun_tells tb_ok mix (es := [⟨29, [.d kI], [.pair .bool (.sl kI)], fun x => g_parquetref01_Small k x⟩, ⟨30, [.d (.pair .bool (.sl kI)), .d (.pair .bool (.sl kI))], [.pair .bool (.sl kI)], fun x => g_parquetref01_Num_Times k (x.1) (x.2)⟩, ⟨31, [.d (.pair .bool (.sl kI)), .d (.pair .bool (.sl kI))], [.pair .bool (.sl kI)], fun x => g_parquetref01_Num_Plus k (x.1) (x.2)⟩, ⟨17, [.d (.pair kI kI)], [.bool], fun x => g_parquetref03_Fits k x⟩, ⟨19, [.d (.pair kI kI), .d (.pair kI kI), .d (.pair kI kI)], [kI], fun x => g_parquetref03_Orient k (x.1) (x.2.1) (x.2.2)⟩, ⟨27, [.d (.pair .bool (.sl kI))], [kI], fun x => g_parquetref01_Num_Sign k x⟩]) (EsOk.cons ⟨rfl, tells_parquetref01_Small k⟩ (EsOk.cons ⟨rfl, tells_parquetref01_Num_Times k⟩ (EsOk.cons ⟨rfl, tells_parquetref01_Num_Plus k⟩ (EsOk.cons ⟨rfl, tells_parquetref03_Fits k⟩ (EsOk.cons ⟨rfl, tells_parquetref03_Orient k⟩ (EsOk.cons ⟨rfl, tells_parquetref01_Num_Sign k⟩ (EsOk.nil _))))))) Try.func24 (N := k) (an := an_parquetref04_on) (by kernel_rfl) x y ((eq_parquetref04_on k (g_parquetref01_Small k) (g_parquetref01_Num_Times k) (g_parquetref01_Num_Plus k) (g_parquetref03_Fits k) (g_parquetref03_Orient k) (g_parquetref01_Num_Sign k) (x.1) (x.2.1) (x.2.2)).trans h)

def an_parquetref04_On : Ann := .leaf
def b_parquetref04_On (k : Nat) (c_parquetref04_on : (Int × Int) → (Int × Int) → (Int × Int) → Option Bool) (a0 : (Int × Int)) (a1 : (Int × Int)) (a2 : (Int × Int)) : Option Bool :=
  bnd (c_parquetref04_on (a0.1, a0.2) (a1.1, a1.2) (a2.1, a2.2)) fun r0 =>
   some r0
theorem eq_parquetref04_On (k : Nat) (c_parquetref04_on : (Int × Int) → (Int × Int) → (Int × Int) → Option Bool) (a0 : (Int × Int)) (a1 : (Int × Int)) (a2 : (Int × Int)) : textF [⟨24, [.d (.pair kI kI), .d (.pair kI kI), .d (.pair kI kI)], [.bool], fun x => c_parquetref04_on (x.1) (x.2.1) (x.2.2)⟩] tb k Try.f14 an_parquetref04_On [.d (.pair kI kI), .d (.pair kI kI), .d (.pair kI kI)] [.bool] (a0, a1, a2) = b_parquetref04_On k c_parquetref04_on a0 a1 a2 := by kernel_rfl
def g_parquetref04_On (k : Nat) (a0 : (Int × Int)) (a1 : (Int × Int)) (a2 : (Int × Int)) : Option Bool := b_parquetref04_On k (g_parquetref04_on k) a0 a1 a2
theorem tells_parquetref04_On (k : Nat) : TellsF Try.prog 14 [.d (.pair kI kI), .d (.pair kI kI), .d (.pair kI kI)] [.bool] (fun x => g_parquetref04_On k (x.1) (x.2.1) (x.2.2)) := fun x y h => fun_tells tb_ok mix (es := [⟨24, [.d (.pair kI kI), .d (.pair kI kI), .d (.pair kI kI)], [.bool], fun x => g_parquetref04_on k (x.1) (x.2.1) (x.2.2)⟩]) (EsOk.cons ⟨rfl, tells_parquetref04_on k⟩ (EsOk.nil _)) Try.func14 (N := k) (an := an_parquetref04_On) (by kernel_rfl) x y ((eq_parquetref04_On k (g_parquetref04_on k) (x.1) (x.2.1) (x.2.2)).trans h)

def an_parquetref04_Inside : Ann := .node none none .leaf (.node none none (.node (some [(6, .d .bool)]) none .leaf .leaf) .leaf)
def b_parquetref04_Inside (k : Nat) (c_parquetref04_on : (Int × Int) → (Int × Int) → (Int × Int) → Option Bool) (a0 : (Int × Int)) (a1 : (Int × Int)) (a2 : (Int × Int)) : Option Bool :=
  meet (α := Bool) (fun y0 =>
    some y0) fun j1 =>
   bnd (c_parquetref04_on (a0.1, a0.2) (a1.1, a1.2) (a2.1, a2.2)) fun r2 =>
   bif r2 then
    bif !((decide (a2.1 = a0.1)) && (decide (a2.2 = a0.2))) then
     j1 (!((decide (a2.1 = a1.1)) && (decide (a2.2 = a1.2))))
    else
     j1 false
   else
    j1 false
theorem eq_parquetref04_Inside (k : Nat) (c_parquetref04_on : (Int × Int) → (Int × Int) → (Int × Int) → Option Bool) (a0 : (Int × Int)) (a1 : (Int × Int)) (a2 : (Int × Int)) : textF [⟨24, [.d (.pair kI kI), .d (.pair kI kI), .d (.pair kI kI)], [.bool], fun x => c_parquetref04_on (x.1) (x.2.1) (x.2.2)⟩] tb k Try.f16 an_parquetref04_Inside [.d (.pair kI kI), .d (.pair kI kI), .d (.pair kI kI)] [.bool] (a0, a1, a2) = b_parquetref04_Inside k c_parquetref04_on a0 a1 a2 := by kernel_rfl
def g_parquetref04_Inside (k : Nat) (a0 : (Int × Int)) (a1 : (Int × Int)) (a2 : (Int × Int)) : Option Bool := b_parquetref04_Inside k (g_parquetref04_on k) a0 a1 a2
theorem tells_parquetref04_Inside (k : Nat) : TellsF Try.prog 16 [.d (.pair kI kI), .d (.pair kI kI), .d (.pair kI kI)] [.bool] (fun x => g_parquetref04_Inside k (x.1) (x.2.1) (x.2.2)) := fun x y h => fun_tells tb_ok mix (es := [⟨24, [.d (.pair kI kI), .d (.pair kI kI), .d (.pair kI kI)], [.bool], fun x => g_parquetref04_on k (x.1) (x.2.1) (x.2.2)⟩]) (EsOk.cons ⟨rfl, tells_parquetref04_on k⟩ (EsOk.nil _)) Try.func16 (N := k) (an := an_parquetref04_Inside) (by kernel_rfl) x y ((eq_parquetref04_Inside k (g_parquetref04_on k) (x.1) (x.2.1) (x.2.2)).trans h)

def an_parquetlaw04_MeetOns : Ann := .node none none .leaf (.node none none (.node (some [(6, .d .bool)]) none .leaf .leaf) .leaf)
def b_parquetlaw04_MeetOns (k : Nat) (c_meet_On : (Int × Int) → (Int × Int) → (Int × Int) → Option Bool) (c_parquetref04_On : (Int × Int) → (Int × Int) → (Int × Int) → Option Bool) (c_meet_Inside : (Int × Int) → (Int × Int) → (Int × Int) → Option Bool) (c_parquetref04_Inside : (Int × Int) → (Int × Int) → (Int × Int) → Option Bool) (c_parquetlaw04_known : Option Bool) (a0 : (Int × Int)) (a1 : (Int × Int)) (a2 : (Int × Int)) : Option Bool :=
  meet (α := Bool) (fun y0 =>
    some y0) fun j1 =>
   bnd (c_meet_On (a0.1, a0.2) (a1.1, a1.2) (a2.1, a2.2)) fun r2 =>
   bnd (c_parquetref04_On (a0.1, a0.2) (a1.1, a1.2) (a2.1, a2.2)) fun r3 =>
   bif r2 == r3 then
    bnd (c_meet_Inside (a0.1, a0.2) (a1.1, a1.2) (a2.1, a2.2)) fun r4 =>
    bnd (c_parquetref04_Inside (a0.1, a0.2) (a1.1, a1.2) (a2.1, a2.2)) fun r5 =>
    bif r4 == r5 then
     bnd (c_meet_On (a1.1, a1.2) (a0.1, a0.2) (a2.1, a2.2)) fun r6 =>
     bnd (c_meet_On (a0.1, a0.2) (a1.1, a1.2) (a2.1, a2.2)) fun r7 =>
     bif r6 == r7 then
      bnd (c_parquetlaw04_known) fun r8 =>
      j1 r8
     else
      j1 false
    else
     j1 false
   else
    j1 false
theorem eq_parquetlaw04_MeetOns (k : Nat) (c_meet_On : (Int × Int) → (Int × Int) → (Int × Int) → Option Bool) (c_parquetref04_On : (Int × Int) → (Int × Int) → (Int × Int) → Option Bool) (c_meet_Inside : (Int × Int) → (Int × Int) → (Int × Int) → Option Bool) (c_parquetref04_Inside : (Int × Int) → (Int × Int) → (Int × Int) → Option Bool) (c_parquetlaw04_known : Option Bool) (a0 : (Int × Int)) (a1 : (Int × Int)) (a2 : (Int × Int)) : textF [⟨13, [.d (.pair kI kI), .d (.pair kI kI), .d (.pair kI kI)], [.bool], fun x => c_meet_On (x.1) (x.2.1) (x.2.2)⟩, ⟨14, [.d (.pair kI kI), .d (.pair kI kI), .d (.pair kI kI)], [.bool], fun x => c_parquetref04_On (x.1) (x.2.1) (x.2.2)⟩, ⟨15, [.d (.pair kI kI), .d (.pair kI kI), .d (.pair kI kI)], [.bool], fun x => c_meet_Inside (x.1) (x.2.1) (x.2.2)⟩, ⟨16, [.d (.pair kI kI), .d (.pair kI kI), .d (.pair kI kI)], [.bool], fun x => c_parquetref04_Inside (x.1) (x.2.1) (x.2.2)⟩, ⟨12, [], [.bool], fun x => c_parquetlaw04_known⟩] tb k Try.f4 an_parquetlaw04_MeetOns [.d (.pair kI kI), .d (.pair kI kI), .d (.pair kI kI)] [.bool] (a0, a1, a2) = b_parquetlaw04_MeetOns k c_meet_On c_parquetref04_On c_meet_Inside c_parquetref04_Inside c_parquetlaw04_known a0 a1 a2 := by kernel_rfl
def g_parquetlaw04_MeetOns (k : Nat) (a0 : (Int × Int)) (a1 : (Int × Int)) (a2 : (Int × Int)) : Option Bool := b_parquetlaw04_MeetOns k (g_meet_On k) (g_parquetref04_On k) (g_meet_Inside k) (g_parquetref04_Inside k) (g_parquetlaw04_known k) a0 a1 a2
theorem tells_parquetlaw04_MeetOns (k : Nat) : TellsF Try.prog 4 [.d (.pair kI kI), .d (.pair kI kI), .d (.pair kI kI)] [.bool] (fun x => g_parquetlaw04_MeetOns k (x.1) (x.2.1) (x.2.2)) := fun x y h => fun_tells tb_ok mix (es := [⟨13, [.d (.pair kI kI), .d (.pair kI kI), .d (.pair kI kI)], [.bool], fun x => g_meet_On k (x.1) (x.2.1) (x.2.2)⟩, ⟨14, [.d (.pair kI kI), .d (.pair kI kI), .d (.pair kI kI)], [.bool], fun x => g_parquetref04_On k (x.1) (x.2.1) (x.2.2)⟩, ⟨15, [.d (.pair kI kI), .d (.pair kI kI), .d (.pair kI kI)], [.bool], fun x => g_meet_Inside k (x.1) (x.2.1) (x.2.2)⟩, ⟨16, [.d (.pair kI kI), .d (.pair kI kI), .d (.pair kI kI)], [.bool], fun x => g_parquetref04_Inside k (x.1) (x.2.1) (x.2.2)⟩, ⟨12, [], [.bool], fun x => g_parquetlaw04_known k⟩]) (EsOk.cons ⟨rfl, tells_meet_On k⟩ (EsOk.cons ⟨rfl, tells_parquetref04_On k⟩ (EsOk.cons ⟨rfl, tells_meet_Inside k⟩ (EsOk.cons ⟨rfl, tells_parquetref04_Inside k⟩ (EsOk.cons ⟨rfl, tells_parquetlaw04_known k⟩ (EsOk.nil _)))))) Try.func4 (N := k) (an := an_parquetlaw04_MeetOns) (by kernel_rfl) x y ((eq_parquetlaw04_MeetOns k (g_meet_On k) (g_parquetref04_On k) (g_meet_Inside k) (g_parquetref04_Inside k) (g_parquetlaw04_known k) (x.1) (x.2.1) (x.2.2)).trans h)

end Go.Proofs.Ytebokfdiamepcaa.AM
