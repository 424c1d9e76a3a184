/- The functions, by their texts: written by a program. -/
import Derived.Test.YtgbgihofehmjpaaGa1
set_option linter.unusedVariables false
set_option maxRecDepth 100000
namespace Go.Proofs.Ytgbgihofehmjpaa.AM
open Go.RowKit Go.Proofs
def an_parquetref03_num : Ann := .leaf
def b_parquetref03_num (k : Nat) (c_parquetref01_Small : Int → Option (Bool × (List Int))) (a0 : Int) : Option (Bool × (List Int)) :=
  bnd (c_parquetref01_Small a0) fun r0 =>
   some (r0.1, r0.2)
theorem eq_parquetref03_num (k : Nat) (c_parquetref01_Small : Int → Option (Bool × (List Int))) (a0 : Int) : textF [⟨41, [.d kI], [.pair .bool (.sl kI)], fun x => c_parquetref01_Small x⟩] tb k Try.f55 an_parquetref03_num [.d kI] [.pair .bool (.sl kI)] a0 = b_parquetref03_num k c_parquetref01_Small a0 := by kernel_rfl
def g_parquetref03_num (k : Nat) (a0 : Int) : Option (Bool × (List Int)) := b_parquetref03_num k (g_parquetref01_Small k) a0
theorem tells_parquetref03_num (k : Nat) : TellsF Try.prog 55 [.d kI] [.pair .bool (.sl kI)] (fun x => g_parquetref03_num k x) := fun x y h => fun_tells tb_ok mix (es := [⟨41, [.d kI], [.pair .bool (.sl kI)], fun x => g_parquetref01_Small k x⟩]) (EsOk.cons ⟨rfl, tells_parquetref01_Small k⟩ (EsOk.nil _)) Try.func55 (N := k) (an := an_parquetref03_num) (by kernel_rfl) x y ((eq_parquetref03_num k (g_parquetref01_Small k) x).trans h)

def an_parquetref01_Num_Neg : Ann := .node none none .leaf (.node none none (.node (some [(2, .box [.d (.pair .bool (.sl kI))])]) none .leaf .leaf) .leaf)
def g_parquetref01_Num_Neg (k : Nat) (a0 : (Bool × (List Int))) : Option (Bool × (List Int)) :=
  meet (α := (Bool × (List Int))) (fun (y0, y1) =>
    some (y0, y1)) fun j2 =>
   bif !a0.1 then
    j2 (decide ((a0.2.length : Int) > 0), a0.2)
   else
    j2 (false, a0.2)
theorem eq_parquetref01_Num_Neg (k : Nat) (a0 : (Bool × (List Int))) : textF [] tb k Try.f48 an_parquetref01_Num_Neg [.d (.pair .bool (.sl kI))] [.pair .bool (.sl kI)] a0 = g_parquetref01_Num_Neg k a0 := by kernel_rfl
theorem tells_parquetref01_Num_Neg (k : Nat) : TellsF Try.prog 48 [.d (.pair .bool (.sl kI))] [.pair .bool (.sl kI)] (fun x => g_parquetref01_Num_Neg k x) := fun x y h => fun_tells tb_ok mix (es := []) (EsOk.nil _) Try.func48 (N := k) (an := an_parquetref01_Num_Neg) (by kernel_rfl) x y ((eq_parquetref01_Num_Neg k x).trans h)

def an_parquetref03_minus : Ann := .leaf
def b_parquetref03_minus (k : Nat) (c_parquetref01_Num_Neg : (Bool × (List Int)) → Option (Bool × (List Int))) (c_parquetref01_Num_Plus : (Bool × (List Int)) → (Bool × (List Int)) → Option (Bool × (List Int))) (a0 : (Bool × (List Int))) (a1 : (Bool × (List Int))) : Option (Bool × (List Int)) :=
  bnd (c_parquetref01_Num_Neg (a1.1, a1.2)) fun r0 =>
   bnd (c_parquetref01_Num_Plus (a0.1, a0.2) (r0.1, r0.2)) fun r1 =>
   some (r1.1, r1.2)
theorem eq_parquetref03_minus (k : Nat) (c_parquetref01_Num_Neg : (Bool × (List Int)) → Option (Bool × (List Int))) (c_parquetref01_Num_Plus : (Bool × (List Int)) → (Bool × (List Int)) → Option (Bool × (List Int))) (a0 : (Bool × (List Int))) (a1 : (Bool × (List Int))) : textF [⟨48, [.d (.pair .bool (.sl kI))], [.pair .bool (.sl kI)], fun x => c_parquetref01_Num_Neg x⟩, ⟨43, [.d (.pair .bool (.sl kI)), .d (.pair .bool (.sl kI))], [.pair .bool (.sl kI)], fun x => c_parquetref01_Num_Plus (x.1) (x.2)⟩] tb k Try.f58 an_parquetref03_minus [.d (.pair .bool (.sl kI)), .d (.pair .bool (.sl kI))] [.pair .bool (.sl kI)] (a0, a1) = b_parquetref03_minus k c_parquetref01_Num_Neg c_parquetref01_Num_Plus a0 a1 := by kernel_rfl
def g_parquetref03_minus (k : Nat) (a0 : (Bool × (List Int))) (a1 : (Bool × (List Int))) : Option (Bool × (List Int)) := b_parquetref03_minus k (g_parquetref01_Num_Neg k) (g_parquetref01_Num_Plus k) a0 a1
theorem tells_parquetref03_minus (k : Nat) : TellsF Try.prog 58 [.d (.pair .bool (.sl kI)), .d (.pair .bool (.sl kI))] [.pair .bool (.sl kI)] (fun x => g_parquetref03_minus k (x.1) (x.2)) := fun x y h => fun_tells tb_ok mix (es := [⟨48, [.d (.pair .bool (.sl kI))], [.pair .bool (.sl kI)], fun x => g_parquetref01_Num_Neg k x⟩, ⟨43, [.d (.pair .bool (.sl kI)), .d (.pair .bool (.sl kI))], [.pair .bool (.sl kI)], fun x => g_parquetref01_Num_Plus k (x.1) (x.2)⟩]) (EsOk.cons ⟨rfl, tells_parquetref01_Num_Neg k⟩ (EsOk.cons ⟨rfl, tells_parquetref01_Num_Plus k⟩ (EsOk.nil _))) Try.func58 (N := k) (an := an_parquetref03_minus) (by kernel_rfl) x y ((eq_parquetref03_minus k (g_parquetref01_Num_Neg k) (g_parquetref01_Num_Plus k) (x.1) (x.2)).trans h)

def an_parquetref03_Det : Ann := .leaf
def b_parquetref03_Det (k : Nat) (c_parquetref01_Num_Times : (Bool × (List Int)) → (Bool × (List Int)) → Option (Bool × (List Int))) (c_parquetref03_minus : (Bool × (List Int)) → (Bool × (List Int)) → Option (Bool × (List Int))) (a0 : (Bool × (List Int))) (a1 : (Bool × (List Int))) (a2 : (Bool × (List Int))) (a3 : (Bool × (List Int))) : Option (Bool × (List Int)) :=
  bnd (c_parquetref01_Num_Times (a0.1, a0.2) (a3.1, a3.2)) fun r0 =>
   bnd (c_parquetref01_Num_Times (a1.1, a1.2) (a2.1, a2.2)) fun r1 =>
   bnd (c_parquetref03_minus (r0.1, r0.2) (r1.1, r1.2)) fun r2 =>
   some (r2.1, r2.2)
theorem eq_parquetref03_Det (k : Nat) (c_parquetref01_Num_Times : (Bool × (List Int)) → (Bool × (List Int)) → Option (Bool × (List Int))) (c_parquetref03_minus : (Bool × (List Int)) → (Bool × (List Int)) → Option (Bool × (List Int))) (a0 : (Bool × (List Int))) (a1 : (Bool × (List Int))) (a2 : (Bool × (List Int))) (a3 : (Bool × (List Int))) : textF [⟨42, [.d (.pair .bool (.sl kI)), .d (.pair .bool (.sl kI))], [.pair .bool (.sl kI)], fun x => c_parquetref01_Num_Times (x.1) (x.2)⟩, ⟨58, [.d (.pair .bool (.sl kI)), .d (.pair .bool (.sl kI))], [.pair .bool (.sl kI)], fun x => c_parquetref03_minus (x.1) (x.2)⟩] tb k Try.f54 an_parquetref03_Det [.d (.pair .bool (.sl kI)), .d (.pair .bool (.sl kI)), .d (.pair .bool (.sl kI)), .d (.pair .bool (.sl kI))] [.pair .bool (.sl kI)] (a0, a1, a2, a3) = b_parquetref03_Det k c_parquetref01_Num_Times c_parquetref03_minus a0 a1 a2 a3 := by kernel_rfl
def g_parquetref03_Det (k : Nat) (a0 : (Bool × (List Int))) (a1 : (Bool × (List Int))) (a2 : (Bool × (List Int))) (a3 : (Bool × (List Int))) : Option (Bool × (List Int)) := b_parquetref03_Det k (g_parquetref01_Num_Times k) (g_parquetref03_minus k) a0 a1 a2 a3
theorem tells_parquetref03_Det (k : Nat) : TellsF Try.prog 54 [.d (.pair .bool (.sl kI)), .d (.pair .bool (.sl kI)), .d (.pair .bool (.sl kI)), .d (.pair .bool (.sl kI))] [.pair .bool (.sl kI)] (fun x => g_parquetref03_Det k (x.1) (x.2.1) (x.2.2.1) (x.2.2.2)) := fun x y h => fun_tells tb_ok mix (es := [⟨42, [.d (.pair .bool (.sl kI)), .d (.pair .bool (.sl kI))], [.pair .bool (.sl kI)], fun x => g_parquetref01_Num_Times k (x.1) (x.2)⟩, ⟨58, [.d (.pair .bool (.sl kI)), .d (.pair .bool (.sl kI))], [.pair .bool (.sl kI)], fun x => g_parquetref03_minus k (x.1) (x.2)⟩]) (EsOk.cons ⟨rfl, tells_parquetref01_Num_Times k⟩ (EsOk.cons ⟨rfl, tells_parquetref03_minus k⟩ (EsOk.nil _))) Try.func54 (N := k) (an := an_parquetref03_Det) (by kernel_rfl) x y ((eq_parquetref03_Det k (g_parquetref01_Num_Times k) (g_parquetref03_minus k) (x.1) (x.2.1) (x.2.2.1) (x.2.2.2)).trans h)

def an_parquetref03_Area : Ann := .leaf
def b_parquetref03_Area (k : Nat) (c_parquetref03_num : Int → Option (Bool × (List Int))) (c_parquetref03_Det : (Bool × (List Int)) → (Bool × (List Int)) → (Bool × (List Int)) → (Bool × (List Int)) → Option (Bool × (List Int))) (c_parquetref01_Num_Plus : (Bool × (List Int)) → (Bool × (List Int)) → Option (Bool × (List Int))) (a0 : (Int × Int)) (a1 : (Int × Int)) (a2 : (Int × Int)) : Option (Bool × (List Int)) :=
  bnd (c_parquetref03_num a0.1) fun r0 =>
   bnd (c_parquetref03_num a0.2) fun r1 =>
   bnd (c_parquetref03_num a1.1) fun r2 =>
   bnd (c_parquetref03_num a1.2) fun r3 =>
   bnd (c_parquetref03_Det (r0.1, r0.2) (r1.1, r1.2) (r2.1, r2.2) (r3.1, r3.2)) fun r4 =>
   bnd (c_parquetref03_num a1.1) fun r5 =>
   bnd (c_parquetref03_num a1.2) fun r6 =>
   bnd (c_parquetref03_num a2.1) fun r7 =>
   bnd (c_parquetref03_num a2.2) fun r8 =>
   bnd (c_parquetref03_Det (r5.1, r5.2) (r6.1, r6.2) (r7.1, r7.2) (r8.1, r8.2)) fun r9 =>
   bnd (c_parquetref01_Num_Plus (r4.1, r4.2) (r9.1, r9.2)) fun r10 =>
   bnd (c_parquetref03_num a2.1) fun r11 =>
   bnd (c_parquetref03_num a2.2) fun r12 =>
   bnd (c_parquetref03_num a0.1) fun r13 =>
   bnd (c_parquetref03_num a0.2) fun r14 =>
   bnd (c_parquetref03_Det (r11.1, r11.2) (r12.1, r12.2) (r13.1, r13.2) (r14.1, r14.2)) fun r15 =>
   bnd (c_parquetref01_Num_Plus (r10.1, r10.2) (r15.1, r15.2)) fun r16 =>
   some (r16.1, r16.2)
theorem eq_parquetref03_Area (k : Nat) (c_parquetref03_num : Int → Option (Bool × (List Int))) (c_parquetref03_Det : (Bool × (List Int)) → (Bool × (List Int)) → (Bool × (List Int)) → (Bool × (List Int)) → Option (Bool × (List Int))) (c_parquetref01_Num_Plus : (Bool × (List Int)) → (Bool × (List Int)) → Option (Bool × (List Int))) (a0 : (Int × Int)) (a1 : (Int × Int)) (a2 : (Int × Int)) : textF [⟨55, [.d kI], [.pair .bool (.sl kI)], fun x => c_parquetref03_num x⟩, ⟨54, [.d (.pair .bool (.sl kI)), .d (.pair .bool (.sl kI)), .d (.pair .bool (.sl kI)), .d (.pair .bool (.sl kI))], [.pair .bool (.sl kI)], fun x => c_parquetref03_Det (x.1) (x.2.1) (x.2.2.1) (x.2.2.2)⟩, ⟨43, [.d (.pair .bool (.sl kI)), .d (.pair .bool (.sl kI))], [.pair .bool (.sl kI)], fun x => c_parquetref01_Num_Plus (x.1) (x.2)⟩] tb k Try.f52 an_parquetref03_Area [.d (.pair kI kI), .d (.pair kI kI), .d (.pair kI kI)] [.pair .bool (.sl kI)] (a0, a1, a2) = b_parquetref03_Area k c_parquetref03_num c_parquetref03_Det c_parquetref01_Num_Plus a0 a1 a2 := by kernel_rfl
def g_parquetref03_Area (k : Nat) (a0 : (Int × Int)) (a1 : (Int × Int)) (a2 : (Int × Int)) : Option (Bool × (List Int)) := b_parquetref03_Area k (g_parquetref03_num k) (g_parquetref03_Det k) (g_parquetref01_Num_Plus k) a0 a1 a2
theorem tells_parquetref03_Area (k : Nat) : TellsF Try.prog 52 [.d (.pair kI kI), .d (.pair kI kI), .d (.pair kI kI)] [.pair .bool (.sl kI)] (fun x => g_parquetref03_Area k (x.1) (x.2.1) (x.2.2)) := fun x y h => fun_tells tb_ok mix (es := [⟨55, [.d kI], [.pair .bool (.sl kI)], fun x => g_parquetref03_num k x⟩, ⟨54, [.d (.pair .bool (.sl kI)), .d (.pair .bool (.sl kI)), .d (.pair .bool (.sl kI)), .d (.pair .bool (.sl kI))], [.pair .bool (.sl kI)], fun x => g_parquetref03_Det k (x.1) (x.2.1) (x.2.2.1) (x.2.2.2)⟩, ⟨43, [.d (.pair .bool (.sl kI)), .d (.pair .bool (.sl kI))], [.pair .bool (.sl kI)], fun x => g_parquetref01_Num_Plus k (x.1) (x.2)⟩]) (EsOk.cons ⟨rfl, tells_parquetref03_num k⟩ (EsOk.cons ⟨rfl, tells_parquetref03_Det k⟩ (EsOk.cons ⟨rfl, tells_parquetref01_Num_Plus k⟩ (EsOk.nil _)))) Try.func52 (N := k) (an := an_parquetref03_Area) (by kernel_rfl) x y ((eq_parquetref03_Area k (g_parquetref03_num k) (g_parquetref03_Det k) (g_parquetref01_Num_Plus k) (x.1) (x.2.1) (x.2.2)).trans h)

def an_parquetref01_Num_Sign : Ann := .leaf
def g_parquetref01_Num_Sign (k : Nat) (a0 : (Bool × (List Int))) : Option Int :=
  bif decide ((a0.2.length : Int) = 0) then
    some 0
   else
    bif a0.1 then
     some (-1)
    else
     some 1
theorem eq_parquetref01_Num_Sign (k : Nat) (a0 : (Bool × (List Int))) : textF [] tb k Try.f45 an_parquetref01_Num_Sign [.d (.pair .bool (.sl kI))] [kI] a0 = g_parquetref01_Num_Sign k a0 := by kernel_rfl
theorem tells_parquetref01_Num_Sign (k : Nat) : TellsF Try.prog 45 [.d (.pair .bool (.sl kI))] [kI] (fun x => g_parquetref01_Num_Sign k x) := fun x y h => fun_tells tb_ok mix (es := []) (EsOk.nil _) Try.func45 (N := k) (an := an_parquetref01_Num_Sign) (by kernel_rfl) x y ((eq_parquetref01_Num_Sign k x).trans h)

def an_parquetref03_Orient : Ann := .node none none .leaf (.node none none (.node none none (.node (some [(3, .box [.d (.pair kI kI)]), (4, .box [.d (.pair kI kI)]), (5, .box [.d (.pair kI kI)]), (19, .d .bool)]) none .leaf .leaf) .leaf) .leaf)
def b_parquetref03_Orient (k : Nat) (c_parquetref03_Fits : (Int × Int) → Option Bool) (c_parquetref03_Area : (Int × Int) → (Int × Int) → (Int × Int) → Option (Bool × (List Int))) (c_parquetref01_Num_Sign : (Bool × (List Int)) → Option Int) (a0 : (Int × Int)) (a1 : (Int × Int)) (a2 : (Int × Int)) : Option Int :=
  meet (α := ((Int × Int) × ((Int × Int) × ((Int × Int) × Bool)))) (fun (y0, y1, y2, y3) =>
    bif y3 then
     some 0
    else
     bnd (c_parquetref03_Area (y0.1, y0.2) (y1.1, y1.2) (y2.1, y2.2)) fun r4 =>
     bnd (c_parquetref01_Num_Sign (r4.1, r4.2)) fun r5 =>
     some r5) fun j6 =>
   bnd (c_parquetref03_Fits (a0.1, a0.2)) fun r7 =>
   bif !r7 then
    j6 ((a0.1, a0.2), (a1.1, a1.2), (a2.1, a2.2), true)
   else
    bnd (c_parquetref03_Fits (a1.1, a1.2)) fun r8 =>
    bif !r8 then
     j6 ((a0.1, a0.2), (a1.1, a1.2), (a2.1, a2.2), true)
    else
     bnd (c_parquetref03_Fits (a2.1, a2.2)) fun r9 =>
     j6 ((a0.1, a0.2), (a1.1, a1.2), (a2.1, a2.2), !r9)
theorem eq_parquetref03_Orient (k : Nat) (c_parquetref03_Fits : (Int × Int) → Option Bool) (c_parquetref03_Area : (Int × Int) → (Int × Int) → (Int × Int) → Option (Bool × (List Int))) (c_parquetref01_Num_Sign : (Bool × (List Int)) → Option Int) (a0 : (Int × Int)) (a1 : (Int × Int)) (a2 : (Int × Int)) : textF [⟨19, [.d (.pair kI kI)], [.bool], fun x => c_parquetref03_Fits x⟩, ⟨52, [.d (.pair kI kI), .d (.pair kI kI), .d (.pair kI kI)], [.pair .bool (.sl kI)], fun x => c_parquetref03_Area (x.1) (x.2.1) (x.2.2)⟩, ⟨45, [.d (.pair .bool (.sl kI))], [kI], fun x => c_parquetref01_Num_Sign x⟩] tb k Try.f44 an_parquetref03_Orient [.d (.pair kI kI), .d (.pair kI kI), .d (.pair kI kI)] [kI] (a0, a1, a2) = b_parquetref03_Orient k c_parquetref03_Fits c_parquetref03_Area c_parquetref01_Num_Sign a0 a1 a2 := by kernel_rfl
def g_parquetref03_Orient (k : Nat) (a0 : (Int × Int)) (a1 : (Int × Int)) (a2 : (Int × Int)) : Option Int := b_parquetref03_Orient k (g_parquetref03_Fits k) (g_parquetref03_Area k) (g_parquetref01_Num_Sign k) a0 a1 a2
theorem tells_parquetref03_Orient (k : Nat) : TellsF Try.prog 44 [.d (.pair kI kI), .d (.pair kI kI), .d (.pair kI kI)] [kI] (fun x => g_parquetref03_Orient k (x.1) (x.2.1) (x.2.2)) := fun x y h => fun_tells tb_ok mix (es := [⟨19, [.d (.pair kI kI)], [.bool], fun x => g_parquetref03_Fits k x⟩, ⟨52, [.d (.pair kI kI), .d (.pair kI kI), .d (.pair kI kI)], [.pair .bool (.sl kI)], fun x => g_parquetref03_Area k (x.1) (x.2.1) (x.2.2)⟩, ⟨45, [.d (.pair .bool (.sl kI))], [kI], fun x => g_parquetref01_Num_Sign k x⟩]) (EsOk.cons ⟨rfl, tells_parquetref03_Fits k⟩ (EsOk.cons ⟨rfl, tells_parquetref03_Area k⟩ (EsOk.cons ⟨rfl, tells_parquetref01_Num_Sign k⟩ (EsOk.nil _)))) Try.func44 (N := k) (an := an_parquetref03_Orient) (by kernel_rfl) x y ((eq_parquetref03_Orient k (g_parquetref03_Fits k) (g_parquetref03_Area k) (g_parquetref01_Num_Sign k) (x.1) (x.2.1) (x.2.2)).trans h)

def an_parquetref04_on : Ann := .node none none .leaf (.node none none .leaf (.node none none (.node (some [(6, .d .bool)]) none .leaf .leaf) .leaf))
def b_parquetref04_on (k : Nat) (c_parquetref01_Small : Int → Option (Bool × (List Int))) (c_parquetref01_Num_Times : (Bool × (List Int)) → (Bool × (List Int)) → Option (Bool × (List Int))) (c_parquetref01_Num_Plus : (Bool × (List Int)) → (Bool × (List Int)) → Option (Bool × (List Int))) (c_parquetref03_Fits : (Int × Int) → Option Bool) (c_parquetref03_Orient : (Int × Int) → (Int × Int) → (Int × Int) → Option Int) (c_parquetref01_Num_Sign : (Bool × (List Int)) → Option Int) (a0 : (Int × Int)) (a1 : (Int × Int)) (a2 : (Int × Int)) : Option Bool :=
  bnd (c_parquetref01_Small (w64 (a2.1 - a0.1))) fun r0 =>
   bnd (c_parquetref01_Small (w64 (a1.1 - a2.1))) fun r1 =>
   bnd (c_parquetref01_Num_Times (r0.1, r0.2) (r1.1, r1.2)) fun r2 =>
   bnd (c_parquetref01_Small (w64 (a2.2 - a0.2))) fun r3 =>
   bnd (c_parquetref01_Small (w64 (a1.2 - a2.2))) fun r4 =>
   bnd (c_parquetref01_Num_Times (r3.1, r3.2) (r4.1, r4.2)) fun r5 =>
   bnd (c_parquetref01_Num_Plus (r2.1, r2.2) (r5.1, r5.2)) fun r6 =>
   meet (α := Bool) (fun y7 =>
    some y7) fun j8 =>
   bif !((decide (a0.1 = a1.1)) && (decide (a0.2 = a1.2))) then
    bnd (c_parquetref03_Fits (a0.1, a0.2)) fun r9 =>
    bif r9 then
     bnd (c_parquetref03_Fits (a1.1, a1.2)) fun r10 =>
     bif r10 then
      bnd (c_parquetref03_Fits (a2.1, a2.2)) fun r11 =>
      bif r11 then
       bnd (c_parquetref03_Orient (a0.1, a0.2) (a1.1, a1.2) (a2.1, a2.2)) fun r12 =>
       bif decide (r12 = 0) then
        bnd (c_parquetref01_Num_Sign (r6.1, r6.2)) fun r13 =>
        j8 (decide (r13 ≥ 0))
       else
        j8 false
      else
       j8 false
     else
      j8 false
    else
     j8 false
   else
    j8 false
theorem eq_parquetref04_on (k : Nat) (c_parquetref01_Small : Int → Option (Bool × (List Int))) (c_parquetref01_Num_Times : (Bool × (List Int)) → (Bool × (List Int)) → Option (Bool × (List Int))) (c_parquetref01_Num_Plus : (Bool × (List Int)) → (Bool × (List Int)) → Option (Bool × (List Int))) (c_parquetref03_Fits : (Int × Int) → Option Bool) (c_parquetref03_Orient : (Int × Int) → (Int × Int) → (Int × Int) → Option Int) (c_parquetref01_Num_Sign : (Bool × (List Int)) → Option Int) (a0 : (Int × Int)) (a1 : (Int × Int)) (a2 : (Int × Int)) : textF [⟨41, [.d kI], [.pair .bool (.sl kI)], fun x => c_parquetref01_Small x⟩, ⟨42, [.d (.pair .bool (.sl kI)), .d (.pair .bool (.sl kI))], [.pair .bool (.sl kI)], fun x => c_parquetref01_Num_Times (x.1) (x.2)⟩, ⟨43, [.d (.pair .bool (.sl kI)), .d (.pair .bool (.sl kI))], [.pair .bool (.sl kI)], fun x => c_parquetref01_Num_Plus (x.1) (x.2)⟩, ⟨19, [.d (.pair kI kI)], [.bool], fun x => c_parquetref03_Fits x⟩, ⟨44, [.d (.pair kI kI), .d (.pair kI kI), .d (.pair kI kI)], [kI], fun x => c_parquetref03_Orient (x.1) (x.2.1) (x.2.2)⟩, ⟨45, [.d (.pair .bool (.sl kI))], [kI], fun x => c_parquetref01_Num_Sign x⟩] tb k Try.f32 an_parquetref04_on [.d (.pair kI kI), .d (.pair kI kI), .d (.pair kI kI)] [.bool] (a0, a1, a2) = b_parquetref04_on k c_parquetref01_Small c_parquetref01_Num_Times c_parquetref01_Num_Plus c_parquetref03_Fits c_parquetref03_Orient c_parquetref01_Num_Sign a0 a1 a2 := by kernel_rfl
def g_parquetref04_on (k : Nat) (a0 : (Int × Int)) (a1 : (Int × Int)) (a2 : (Int × Int)) : Option Bool := b_parquetref04_on k (g_parquetref01_Small k) (g_parquetref01_Num_Times k) (g_parquetref01_Num_Plus k) (g_parquetref03_Fits k) (g_parquetref03_Orient k) (g_parquetref01_Num_Sign k) a0 a1 a2
theorem tells_parquetref04_on (k : Nat) : TellsF Try.prog 32 [.d (.pair kI kI), .d (.pair kI kI), .d (.pair kI kI)] [.bool] (fun x => g_parquetref04_on k (x.1) (x.2.1) (x.2.2)) := fun x y h => fun_tells tb_ok mix (es := [⟨41, [.d kI], [.pair .bool (.sl kI)], fun x => g_parquetref01_Small k x⟩, ⟨42, [.d (.pair .bool (.sl kI)), .d (.pair .bool (.sl kI))], [.pair .bool (.sl kI)], fun x => g_parquetref01_Num_Times k (x.1) (x.2)⟩, ⟨43, [.d (.pair .bool (.sl kI)), .d (.pair .bool (.sl kI))], [.pair .bool (.sl kI)], fun x => g_parquetref01_Num_Plus k (x.1) (x.2)⟩, ⟨19, [.d (.pair kI kI)], [.bool], fun x => g_parquetref03_Fits k x⟩, ⟨44, [.d (.pair kI kI), .d (.pair kI kI), .d (.pair kI kI)], [kI], fun x => g_parquetref03_Orient k (x.1) (x.2.1) (x.2.2)⟩, ⟨45, [.d (.pair .bool (.sl kI))], [kI], fun x => g_parquetref01_Num_Sign k x⟩]) (EsOk.cons ⟨rfl, tells_parquetref01_Small k⟩ (EsOk.cons ⟨rfl, tells_parquetref01_Num_Times k⟩ (EsOk.cons ⟨rfl, tells_parquetref01_Num_Plus k⟩ (EsOk.cons ⟨rfl, tells_parquetref03_Fits k⟩ (EsOk.cons ⟨rfl, tells_parquetref03_Orient k⟩ (EsOk.cons ⟨rfl, tells_parquetref01_Num_Sign k⟩ (EsOk.nil _))))))) Try.func32 (N := k) (an := an_parquetref04_on) (by kernel_rfl) x y ((eq_parquetref04_on k (g_parquetref01_Small k) (g_parquetref01_Num_Times k) (g_parquetref01_Num_Plus k) (g_parquetref03_Fits k) (g_parquetref03_Orient k) (g_parquetref01_Num_Sign k) (x.1) (x.2.1) (x.2.2)).trans h)

def an_parquetref04_On : Ann := .leaf
def b_parquetref04_On (k : Nat) (c_parquetref04_on : (Int × Int) → (Int × Int) → (Int × Int) → Option Bool) (a0 : (Int × Int)) (a1 : (Int × Int)) (a2 : (Int × Int)) : Option Bool :=
  bnd (c_parquetref04_on (a0.1, a0.2) (a1.1, a1.2) (a2.1, a2.2)) fun r0 =>
   some r0
theorem eq_parquetref04_On (k : Nat) (c_parquetref04_on : (Int × Int) → (Int × Int) → (Int × Int) → Option Bool) (a0 : (Int × Int)) (a1 : (Int × Int)) (a2 : (Int × Int)) : textF [⟨32, [.d (.pair kI kI), .d (.pair kI kI), .d (.pair kI kI)], [.bool], fun x => c_parquetref04_on (x.1) (x.2.1) (x.2.2)⟩] tb k Try.f38 an_parquetref04_On [.d (.pair kI kI), .d (.pair kI kI), .d (.pair kI kI)] [.bool] (a0, a1, a2) = b_parquetref04_On k c_parquetref04_on a0 a1 a2 := by kernel_rfl
def g_parquetref04_On (k : Nat) (a0 : (Int × Int)) (a1 : (Int × Int)) (a2 : (Int × Int)) : Option Bool := b_parquetref04_On k (g_parquetref04_on k) a0 a1 a2
theorem tells_parquetref04_On (k : Nat) : TellsF Try.prog 38 [.d (.pair kI kI), .d (.pair kI kI), .d (.pair kI kI)] [.bool] (fun x => g_parquetref04_On k (x.1) (x.2.1) (x.2.2)) := fun x y h => fun_tells tb_ok mix (es := [⟨32, [.d (.pair kI kI), .d (.pair kI kI), .d (.pair kI kI)], [.bool], fun x => g_parquetref04_on k (x.1) (x.2.1) (x.2.2)⟩]) (EsOk.cons ⟨rfl, tells_parquetref04_on k⟩ (EsOk.nil _)) Try.func38 (N := k) (an := an_parquetref04_On) (by kernel_rfl) x y ((eq_parquetref04_On k (g_parquetref04_on k) (x.1) (x.2.1) (x.2.2)).trans h)

def an_parquetref09_farther : Ann := .leaf
def b_parquetref09_farther (k : Nat) (c_parquetref01_Small : Int → Option (Bool × (List Int))) (c_parquetref01_Num_Times : (Bool × (List Int)) → (Bool × (List Int)) → Option (Bool × (List Int))) (c_parquetref01_Num_Plus : (Bool × (List Int)) → (Bool × (List Int)) → Option (Bool × (List Int))) (c_parquetref01_Num_Neg : (Bool × (List Int)) → Option (Bool × (List Int))) (c_parquetref01_Num_Sign : (Bool × (List Int)) → Option Int) (a0 : (Int × Int)) (a1 : (Int × Int)) (a2 : (Int × Int)) : Option Bool :=
  bnd (c_parquetref01_Small (w64 (a1.2 - a0.2))) fun r0 =>
   bnd (c_parquetref01_Small a0.1) fun r1 =>
   bnd (c_parquetref01_Num_Times (r1.1, r1.2) (r0.1, r0.2)) fun r2 =>
   bnd (c_parquetref01_Small (w64 (a1.1 - a0.1))) fun r3 =>
   bnd (c_parquetref01_Small (w64 (a2.2 - a0.2))) fun r4 =>
   bnd (c_parquetref01_Num_Times (r3.1, r3.2) (r4.1, r4.2)) fun r5 =>
   bnd (c_parquetref01_Num_Plus (r2.1, r2.2) (r5.1, r5.2)) fun r6 =>
   bnd (c_parquetref01_Small a2.1) fun r7 =>
   bnd (c_parquetref01_Num_Times (r7.1, r7.2) (r0.1, r0.2)) fun r8 =>
   bnd (c_parquetref01_Num_Neg (r8.1, r8.2)) fun r9 =>
   bnd (c_parquetref01_Num_Plus (r6.1, r6.2) (r9.1, r9.2)) fun r10 =>
   bnd (c_parquetref01_Num_Sign (r10.1, r10.2)) fun r11 =>
   bnd (c_parquetref01_Num_Sign (r0.1, r0.2)) fun r12 =>
   some (decide ((w64 (r11 * r12)) > 0))
theorem eq_parquetref09_farther (k : Nat) (c_parquetref01_Small : Int → Option (Bool × (List Int))) (c_parquetref01_Num_Times : (Bool × (List Int)) → (Bool × (List Int)) → Option (Bool × (List Int))) (c_parquetref01_Num_Plus : (Bool × (List Int)) → (Bool × (List Int)) → Option (Bool × (List Int))) (c_parquetref01_Num_Neg : (Bool × (List Int)) → Option (Bool × (List Int))) (c_parquetref01_Num_Sign : (Bool × (List Int)) → Option Int) (a0 : (Int × Int)) (a1 : (Int × Int)) (a2 : (Int × Int)) : textF [⟨41, [.d kI], [.pair .bool (.sl kI)], fun x => c_parquetref01_Small x⟩, ⟨42, [.d (.pair .bool (.sl kI)), .d (.pair .bool (.sl kI))], [.pair .bool (.sl kI)], fun x => c_parquetref01_Num_Times (x.1) (x.2)⟩, ⟨43, [.d (.pair .bool (.sl kI)), .d (.pair .bool (.sl kI))], [.pair .bool (.sl kI)], fun x => c_parquetref01_Num_Plus (x.1) (x.2)⟩, ⟨48, [.d (.pair .bool (.sl kI))], [.pair .bool (.sl kI)], fun x => c_parquetref01_Num_Neg x⟩, ⟨45, [.d (.pair .bool (.sl kI))], [kI], fun x => c_parquetref01_Num_Sign x⟩] tb k Try.f39 an_parquetref09_farther [.d (.pair kI kI), .d (.pair kI kI), .d (.pair kI kI)] [.bool] (a0, a1, a2) = b_parquetref09_farther k c_parquetref01_Small c_parquetref01_Num_Times c_parquetref01_Num_Plus c_parquetref01_Num_Neg c_parquetref01_Num_Sign a0 a1 a2 := by kernel_rfl
def g_parquetref09_farther (k : Nat) (a0 : (Int × Int)) (a1 : (Int × Int)) (a2 : (Int × Int)) : Option Bool := b_parquetref09_farther k (g_parquetref01_Small k) (g_parquetref01_Num_Times k) (g_parquetref01_Num_Plus k) (g_parquetref01_Num_Neg k) (g_parquetref01_Num_Sign k) a0 a1 a2
theorem tells_parquetref09_farther (k : Nat) : TellsF Try.prog 39 [.d (.pair kI kI), .d (.pair kI kI), .d (.pair kI kI)] [.bool] (fun x => g_parquetref09_farther k (x.1) (x.2.1) (x.2.2)) := fun x y h => fun_tells tb_ok mix (es := [⟨41, [.d kI], [.pair .bool (.sl kI)], fun x => g_parquetref01_Small k x⟩, ⟨42, [.d (.pair .bool (.sl kI)), .d (.pair .bool (.sl kI))], [.pair .bool (.sl kI)], fun x => g_parquetref01_Num_Times k (x.1) (x.2)⟩, ⟨43, [.d (.pair .bool (.sl kI)), .d (.pair .bool (.sl kI))], [.pair .bool (.sl kI)], fun x => g_parquetref01_Num_Plus k (x.1) (x.2)⟩, ⟨48, [.d (.pair .bool (.sl kI))], [.pair .bool (.sl kI)], fun x => g_parquetref01_Num_Neg k x⟩, ⟨45, [.d (.pair .bool (.sl kI))], [kI], fun x => g_parquetref01_Num_Sign k x⟩]) (EsOk.cons ⟨rfl, tells_parquetref01_Small k⟩ (EsOk.cons ⟨rfl, tells_parquetref01_Num_Times k⟩ (EsOk.cons ⟨rfl, tells_parquetref01_Num_Plus k⟩ (EsOk.cons ⟨rfl, tells_parquetref01_Num_Neg k⟩ (EsOk.cons ⟨rfl, tells_parquetref01_Num_Sign k⟩ (EsOk.nil _)))))) Try.func39 (N := k) (an := an_parquetref09_farther) (by kernel_rfl) x y ((eq_parquetref09_farther k (g_parquetref01_Small k) (g_parquetref01_Num_Times k) (g_parquetref01_Num_Plus k) (g_parquetref01_Num_Neg k) (g_parquetref01_Num_Sign k) (x.1) (x.2.1) (x.2.2)).trans h)

def an_parquetref09_Where : Ann := .node none none .leaf (.node none none .leaf (.node none none (.node none none .leaf (.node none none (.node none (some [(0, .d (.sl (.pair kI kI))), (1, .d (.sl (.pair kI kI))), (2, .d kI), (7, .box [.d (.pair kI kI)]), (9, .d kI), (10, .d kI)]) (.node none none .leaf (.node none none (.node none none (.node none none .leaf (.node none none .leaf (.node none none .leaf (.node none none (.node (some [(0, .d (.sl (.pair kI kI))), (1, .d (.sl (.pair kI kI))), (2, .d kI), (7, .box [.d (.pair kI kI)]), (9, .d kI), (10, .d kI), (59, .d .bool)]) none .leaf .leaf) (.node (some [(0, .d (.sl (.pair kI kI))), (1, .d (.sl (.pair kI kI))), (2, .d kI), (7, .box [.d (.pair kI kI)]), (9, .d kI), (10, .d kI)]) none .leaf .leaf))))) .leaf) .leaf)) .leaf) .leaf)) .leaf))
def b_parquetref09_Where (k : Nat) (c_parquetref09_times : (Int × Int) → Int → Option (Int × Int)) (c_parquetref04_On : (Int × Int) → (Int × Int) → (Int × Int) → Option Bool) (c_parquetref09_farther : (Int × Int) → (Int × Int) → (Int × Int) → Option Bool) (a0 : (List (Int × Int))) (a1 : (List (Int × Int))) (a2 : Int) (a3 : (Int × Int)) : Option Int :=
  loopN (α := ((List (Int × Int)) × ((List (Int × Int)) × (Int × ((Int × Int) × (Int × Int)))))) (fun (x1, x2, x3, x4, x5, x6) next0 =>
    bif decide (x6 < (x2.length : Int)) then
     gd (inb x6 x2.length) <|
     gd (inb (rdD (0, 0) x2 x6).1 x1.length) <|
     bnd (c_parquetref09_times ((rdD (0, 0) x1 (rdD (0, 0) x2 x6).1).1, (rdD (0, 0) x1 (rdD (0, 0) x2 x6).1).2) x3) fun r7 =>
     gd (inb x6 x2.length) <|
     gd (inb (rdD (0, 0) x2 x6).2 x1.length) <|
     bnd (c_parquetref09_times ((rdD (0, 0) x1 (rdD (0, 0) x2 x6).2).1, (rdD (0, 0) x1 (rdD (0, 0) x2 x6).2).2) x3) fun r8 =>
     bnd (c_parquetref04_On (r7.1, r7.2) (r8.1, r8.2) (x4.1, x4.2)) fun r9 =>
     bif r9 then
      some 0
     else
      meet (α := ((List (Int × Int)) × ((List (Int × Int)) × (Int × ((Int × Int) × (Int × (Int × Bool))))))) (fun (y10, y11, y12, y13, y14, y15, y16) =>
       meet (α := ((List (Int × Int)) × ((List (Int × Int)) × (Int × ((Int × Int) × (Int × Int)))))) (fun (y17, y18, y19, y20, y21, y22) =>
        next0 (y17, y18, y19, (y20.1, y20.2), y21, w64 (y22 + 1))) fun j23 =>
       bif y16 then
        j23 (y10, y11, y12, (y13.1, y13.2), w64 (y14 + 1), y15)
       else
        j23 (y10, y11, y12, (y13.1, y13.2), y14, y15)) fun j24 =>
      bif !((decide (r7.2 > x4.2)) == (decide (r8.2 > x4.2))) then
       bnd (c_parquetref09_farther (r7.1, r7.2) (r8.1, r8.2) (x4.1, x4.2)) fun r25 =>
       j24 (x1, x2, x3, (x4.1, x4.2), x5, x6, r25)
      else
       j24 (x1, x2, x3, (x4.1, x4.2), x5, x6, false)
    else
     bif decide ((x5.tmod 2) = 1) then
      some 1
     else
      some (-1)) k (a0, a1, a2, (a3.1, a3.2), 0, 0)
theorem eq_parquetref09_Where (k : Nat) (c_parquetref09_times : (Int × Int) → Int → Option (Int × Int)) (c_parquetref04_On : (Int × Int) → (Int × Int) → (Int × Int) → Option Bool) (c_parquetref09_farther : (Int × Int) → (Int × Int) → (Int × Int) → Option Bool) (a0 : (List (Int × Int))) (a1 : (List (Int × Int))) (a2 : Int) (a3 : (Int × Int)) : textF [⟨37, [.d (.pair kI kI), .d kI], [.pair kI kI], fun x => c_parquetref09_times (x.1) (x.2)⟩, ⟨38, [.d (.pair kI kI), .d (.pair kI kI), .d (.pair kI kI)], [.bool], fun x => c_parquetref04_On (x.1) (x.2.1) (x.2.2)⟩, ⟨39, [.d (.pair kI kI), .d (.pair kI kI), .d (.pair kI kI)], [.bool], fun x => c_parquetref09_farther (x.1) (x.2.1) (x.2.2)⟩] tb k Try.f30 an_parquetref09_Where [.d (.sl (.pair kI kI)), .d (.sl (.pair kI kI)), .d kI, .d (.pair kI kI)] [kI] (a0, a1, a2, a3) = b_parquetref09_Where k c_parquetref09_times c_parquetref04_On c_parquetref09_farther a0 a1 a2 a3 := by kernel_rfl
def g_parquetref09_Where (k : Nat) (a0 : (List (Int × Int))) (a1 : (List (Int × Int))) (a2 : Int) (a3 : (Int × Int)) : Option Int := b_parquetref09_Where k (g_parquetref09_times k) (g_parquetref04_On k) (g_parquetref09_farther k) a0 a1 a2 a3
theorem tells_parquetref09_Where (k : Nat) : TellsF Try.prog 30 [.d (.sl (.pair kI kI)), .d (.sl (.pair kI kI)), .d kI, .d (.pair kI kI)] [kI] (fun x => g_parquetref09_Where k (x.1) (x.2.1) (x.2.2.1) (x.2.2.2)) := fun x y h => fun_tells tb_ok mix (es := [⟨37, [.d (.pair kI kI), .d kI], [.pair kI kI], fun x => g_parquetref09_times k (x.1) (x.2)⟩, ⟨38, [.d (.pair kI kI), .d (.pair kI kI), .d (.pair kI kI)], [.bool], fun x => g_parquetref04_On k (x.1) (x.2.1) (x.2.2)⟩, ⟨39, [.d (.pair kI kI), .d (.pair kI kI), .d (.pair kI kI)], [.bool], fun x => g_parquetref09_farther k (x.1) (x.2.1) (x.2.2)⟩]) (EsOk.cons ⟨rfl, tells_parquetref09_times k⟩ (EsOk.cons ⟨rfl, tells_parquetref04_On k⟩ (EsOk.cons ⟨rfl, tells_parquetref09_farther k⟩ (EsOk.nil _)))) Try.func30 (N := k) (an := an_parquetref09_Where) (by kernel_rfl) x y ((eq_parquetref09_Where k (g_parquetref09_times k) (g_parquetref04_On k) (g_parquetref09_farther k) (x.1) (x.2.1) (x.2.2.1) (x.2.2.2)).trans h)

def an_parquetref09_At : Ann := .node none none .leaf (.node none none (.node none none (.node (some [(0, .d (.sl (.pair kI kI))), (1, .d (.sl (.pair kI kI))), (5, .box [.d (.pair kI kI)]), (16, .d .bool)]) none .leaf .leaf) .leaf) .leaf)
def b_parquetref09_At (k : Nat) (c_parquetref09_Check : (List (Int × Int)) → (List (Int × Int)) → Int → Option Bool) (c_parquetref03_Fits : (Int × Int) → Option Bool) (c_parquetref09_Where : (List (Int × Int)) → (List (Int × Int)) → Int → (Int × Int) → Option Int) (a0 : (List (Int × Int))) (a1 : (List (Int × Int))) (a2 : (Int × Int)) : Option (Int × Int) :=
  meet (α := ((List (Int × Int)) × ((List (Int × Int)) × ((Int × Int) × Bool)))) (fun (y0, y1, y2, y3) =>
    bif y3 then
     some (0, 2)
    else
     bnd (c_parquetref09_Where y0 y1 1 (y2.1, y2.2)) fun r4 =>
     some (r4, 0)) fun j5 =>
   bnd (c_parquetref09_Check a0 a1 1) fun r6 =>
   bif !r6 then
    j5 (a0, a1, (a2.1, a2.2), true)
   else
    bnd (c_parquetref03_Fits (a2.1, a2.2)) fun r7 =>
    j5 (a0, a1, (a2.1, a2.2), !r7)
theorem eq_parquetref09_At (k : Nat) (c_parquetref09_Check : (List (Int × Int)) → (List (Int × Int)) → Int → Option Bool) (c_parquetref03_Fits : (Int × Int) → Option Bool) (c_parquetref09_Where : (List (Int × Int)) → (List (Int × Int)) → Int → (Int × Int) → Option Int) (a0 : (List (Int × Int))) (a1 : (List (Int × Int))) (a2 : (Int × Int)) : textF [⟨29, [.d (.sl (.pair kI kI)), .d (.sl (.pair kI kI)), .d kI], [.bool], fun x => c_parquetref09_Check (x.1) (x.2.1) (x.2.2)⟩, ⟨19, [.d (.pair kI kI)], [.bool], fun x => c_parquetref03_Fits x⟩, ⟨30, [.d (.sl (.pair kI kI)), .d (.sl (.pair kI kI)), .d kI, .d (.pair kI kI)], [kI], fun x => c_parquetref09_Where (x.1) (x.2.1) (x.2.2.1) (x.2.2.2)⟩] tb k Try.f13 an_parquetref09_At [.d (.sl (.pair kI kI)), .d (.sl (.pair kI kI)), .d (.pair kI kI)] [kI, kI] (a0, a1, a2) = b_parquetref09_At k c_parquetref09_Check c_parquetref03_Fits c_parquetref09_Where a0 a1 a2 := by kernel_rfl
def g_parquetref09_At (k : Nat) (a0 : (List (Int × Int))) (a1 : (List (Int × Int))) (a2 : (Int × Int)) : Option (Int × Int) := b_parquetref09_At k (g_parquetref09_Check k) (g_parquetref03_Fits k) (g_parquetref09_Where k) a0 a1 a2
theorem tells_parquetref09_At (k : Nat) : TellsF Try.prog 13 [.d (.sl (.pair kI kI)), .d (.sl (.pair kI kI)), .d (.pair kI kI)] [kI, kI] (fun x => g_parquetref09_At k (x.1) (x.2.1) (x.2.2)) := fun x y h => fun_tells tb_ok mix (es := [⟨29, [.d (.sl (.pair kI kI)), .d (.sl (.pair kI kI)), .d kI], [.bool], fun x => g_parquetref09_Check k (x.1) (x.2.1) (x.2.2)⟩, ⟨19, [.d (.pair kI kI)], [.bool], fun x => g_parquetref03_Fits k x⟩, ⟨30, [.d (.sl (.pair kI kI)), .d (.sl (.pair kI kI)), .d kI, .d (.pair kI kI)], [kI], fun x => g_parquetref09_Where k (x.1) (x.2.1) (x.2.2.1) (x.2.2.2)⟩]) (EsOk.cons ⟨rfl, tells_parquetref09_Check k⟩ (EsOk.cons ⟨rfl, tells_parquetref03_Fits k⟩ (EsOk.cons ⟨rfl, tells_parquetref09_Where k⟩ (EsOk.nil _)))) Try.func13 (N := k) (an := an_parquetref09_At) (by kernel_rfl) x y ((eq_parquetref09_At k (g_parquetref09_Check k) (g_parquetref03_Fits k) (g_parquetref09_Where k) (x.1) (x.2.1) (x.2.2)).trans h)

def an_parquetlaw09_WithinTells : Ann := .node none none .leaf (.node none none .leaf (.node none none .leaf (.node none none .leaf (.node none none (.node (some [(6, .d .bool)]) none .leaf .leaf) .leaf))))
def b_parquetlaw09_WithinTells (k : Nat) (c_parquetlaw09_many : (List (Int × Int)) → (List (Int × Int)) → Option Bool) (c_parquetlaw09_known : Option Bool) (c_within_At : (List (Int × Int)) → (List (Int × Int)) → (Int × Int) → Option (Int × Int)) (c_parquetref09_At : (List (Int × Int)) → (List (Int × Int)) → (Int × Int) → Option (Int × Int)) (a0 : (List (Int × Int))) (a1 : (List (Int × Int))) (a2 : (Int × Int)) : Option Bool :=
  bnd (c_parquetlaw09_many a0 a1) fun r0 =>
   bif r0 then
    bnd (c_parquetlaw09_known) fun r1 =>
    some r1
   else
    bnd (c_within_At a0 a1 (a2.1, a2.2)) fun r2 =>
    bnd (c_parquetref09_At a0 a1 (a2.1, a2.2)) fun r3 =>
    meet (α := Bool) (fun y4 =>
     some y4) fun j5 =>
    bif decide (r2.1 = r3.1) then
     bif decide (r2.2 = r3.2) then
      bnd (c_parquetlaw09_known) fun r6 =>
      j5 r6
     else
      j5 false
    else
     j5 false
theorem eq_parquetlaw09_WithinTells (k : Nat) (c_parquetlaw09_many : (List (Int × Int)) → (List (Int × Int)) → Option Bool) (c_parquetlaw09_known : Option Bool) (c_within_At : (List (Int × Int)) → (List (Int × Int)) → (Int × Int) → Option (Int × Int)) (c_parquetref09_At : (List (Int × Int)) → (List (Int × Int)) → (Int × Int) → Option (Int × Int)) (a0 : (List (Int × Int))) (a1 : (List (Int × Int))) (a2 : (Int × Int)) : textF [⟨10, [.d (.sl (.pair kI kI)), .d (.sl (.pair kI kI))], [.bool], fun x => c_parquetlaw09_many (x.1) (x.2)⟩, ⟨11, [], [.bool], fun x => c_parquetlaw09_known⟩, ⟨12, [.d (.sl (.pair kI kI)), .d (.sl (.pair kI kI)), .d (.pair kI kI)], [kI, kI], fun x => c_within_At (x.1) (x.2.1) (x.2.2)⟩, ⟨13, [.d (.sl (.pair kI kI)), .d (.sl (.pair kI kI)), .d (.pair kI kI)], [kI, kI], fun x => c_parquetref09_At (x.1) (x.2.1) (x.2.2)⟩] tb k Try.f3 an_parquetlaw09_WithinTells [.d (.sl (.pair kI kI)), .d (.sl (.pair kI kI)), .d (.pair kI kI)] [.bool] (a0, a1, a2) = b_parquetlaw09_WithinTells k c_parquetlaw09_many c_parquetlaw09_known c_within_At c_parquetref09_At a0 a1 a2 := by kernel_rfl
def g_parquetlaw09_WithinTells (k : Nat) (a0 : (List (Int × Int))) (a1 : (List (Int × Int))) (a2 : (Int × Int)) : Option Bool := b_parquetlaw09_WithinTells k (g_parquetlaw09_many k) (g_parquetlaw09_known k) (g_within_At k) (g_parquetref09_At k) a0 a1 a2
theorem tells_parquetlaw09_WithinTells (k : Nat) : TellsF Try.prog 3 [.d (.sl (.pair kI kI)), .d (.sl (.pair kI kI)), .d (.pair kI kI)] [.bool] (fun x => g_parquetlaw09_WithinTells k (x.1) (x.2.1) (x.2.2)) := fun x y h => fun_tells tb_ok mix (es := [⟨10, [.d (.sl (.pair kI kI)), .d (.sl (.pair kI kI))], [.bool], fun x => g_parquetlaw09_many k (x.1) (x.2)⟩, ⟨11, [], [.bool], fun x => g_parquetlaw09_known k⟩, ⟨12, [.d (.sl (.pair kI kI)), .d (.sl (.pair kI kI)), .d (.pair kI kI)], [kI, kI], fun x => g_within_At k (x.1) (x.2.1) (x.2.2)⟩, ⟨13, [.d (.sl (.pair kI kI)), .d (.sl (.pair kI kI)), .d (.pair kI kI)], [kI, kI], fun x => g_parquetref09_At k (x.1) (x.2.1) (x.2.2)⟩]) (EsOk.cons ⟨rfl, tells_parquetlaw09_many k⟩ (EsOk.cons ⟨rfl, tells_parquetlaw09_known k⟩ (EsOk.cons ⟨rfl, tells_within_At k⟩ (EsOk.cons ⟨rfl, tells_parquetref09_At k⟩ (EsOk.nil _))))) Try.func3 (N := k) (an := an_parquetlaw09_WithinTells) (by kernel_rfl) x y ((eq_parquetlaw09_WithinTells k (g_parquetlaw09_many k) (g_parquetlaw09_known k) (g_within_At k) (g_parquetref09_At k) (x.1) (x.2.1) (x.2.2)).trans h)

def an_parquetref09_Middle : Ann := .node none none .leaf (.node none none .leaf (.node none none (.node none none .leaf (.node none none (.node none (some [(0, .d (.sl (.pair kI kI))), (1, .d (.sl (.pair kI kI))), (2, .d (.sl kI)), (8, .box [.d (.pair kI kI)]), (9, .d kI)]) (.node none none .leaf (.node none none (.node none none (.node none none (.node none none (.node (some [(0, .d (.sl (.pair kI kI))), (1, .d (.sl (.pair kI kI))), (2, .d (.sl kI)), (8, .box [.d (.pair kI kI)]), (9, .d kI), (41, .d .bool)]) none .leaf .leaf) .leaf) .leaf) .leaf) .leaf)) .leaf) .leaf)) (.node none none (.node none none (.node (some [(0, .d (.sl (.pair kI kI))), (1, .d (.sl (.pair kI kI))), (2, .d (.sl kI)), (8, .box [.d (.pair kI kI)]), (76, .d .bool)]) none .leaf .leaf) .leaf) .leaf)))
def b_parquetref09_Middle (k : Nat) (c_parquetref03_Fits : (Int × Int) → Option Bool) (c_parquetref09_Check : (List (Int × Int)) → (List (Int × Int)) → Int → Option Bool) (c_parquetref09_Where : (List (Int × Int)) → (List (Int × Int)) → Int → (Int × Int) → Option Int) (a0 : (List (Int × Int))) (a1 : (List (Int × Int))) (a2 : (List Int)) : Option (Int × Int) :=
  loopN (α := ((List (Int × Int)) × ((List (Int × Int)) × ((List Int) × ((Int × Int) × Int))))) (fun (x1, x2, x3, x4, x5) next0 =>
    bif decide (x5 < (x3.length : Int)) then
     meet (α := ((List (Int × Int)) × ((List (Int × Int)) × ((List Int) × ((Int × Int) × (Int × Bool)))))) (fun (y6, y7, y8, y9, y10, y11) =>
      bif y11 then
       some (0, 2)
      else
       gd (inb y10 y8.length) <|
       gd (inb (rdD 0 y8 y10) y6.length) <|
       gd (inb y10 y8.length) <|
       gd (inb (rdD 0 y8 y10) y6.length) <|
       next0 (y6, y7, y8, (w64 (y9.1 + (rdD (0, 0) y6 (rdD 0 y8 y10)).1), w64 (y9.2 + (rdD (0, 0) y6 (rdD 0 y8 y10)).2)), w64 (y10 + 1))) fun j12 =>
     gd (inb x5 x3.length) <|
     bif decide ((rdD 0 x3 x5) < 0) then
      j12 (x1, x2, x3, (x4.1, x4.2), x5, true)
     else
      gd (inb x5 x3.length) <|
      bif decide ((rdD 0 x3 x5) ≥ (x1.length : Int)) then
       j12 (x1, x2, x3, (x4.1, x4.2), x5, true)
      else
       gd (inb x5 x3.length) <|
       gd (inb (rdD 0 x3 x5) x1.length) <|
       bnd (c_parquetref03_Fits ((rdD (0, 0) x1 (rdD 0 x3 x5)).1, (rdD (0, 0) x1 (rdD 0 x3 x5)).2)) fun r13 =>
       j12 (x1, x2, x3, (x4.1, x4.2), x5, !r13)
    else
     meet (α := ((List (Int × Int)) × ((List (Int × Int)) × ((List Int) × ((Int × Int) × Bool))))) (fun (y14, y15, y16, y17, y18) =>
      bif y18 then
       some (0, 2)
      else
       bnd (c_parquetref09_Where y14 y15 (y16.length : Int) (y17.1, y17.2)) fun r19 =>
       some (r19, 0)) fun j20 =>
     bnd (c_parquetref09_Check x1 x2 (x3.length : Int)) fun r21 =>
     bif !r21 then
      j20 (x1, x2, x3, (x4.1, x4.2), true)
     else
      bnd (c_parquetref03_Fits (x4.1, x4.2)) fun r22 =>
      j20 (x1, x2, x3, (x4.1, x4.2), !r22)) k (a0, a1, a2, (0, 0), 0)
theorem eq_parquetref09_Middle (k : Nat) (c_parquetref03_Fits : (Int × Int) → Option Bool) (c_parquetref09_Check : (List (Int × Int)) → (List (Int × Int)) → Int → Option Bool) (c_parquetref09_Where : (List (Int × Int)) → (List (Int × Int)) → Int → (Int × Int) → Option Int) (a0 : (List (Int × Int))) (a1 : (List (Int × Int))) (a2 : (List Int)) : textF [⟨19, [.d (.pair kI kI)], [.bool], fun x => c_parquetref03_Fits x⟩, ⟨29, [.d (.sl (.pair kI kI)), .d (.sl (.pair kI kI)), .d kI], [.bool], fun x => c_parquetref09_Check (x.1) (x.2.1) (x.2.2)⟩, ⟨30, [.d (.sl (.pair kI kI)), .d (.sl (.pair kI kI)), .d kI, .d (.pair kI kI)], [kI], fun x => c_parquetref09_Where (x.1) (x.2.1) (x.2.2.1) (x.2.2.2)⟩] tb k Try.f15 an_parquetref09_Middle [.d (.sl (.pair kI kI)), .d (.sl (.pair kI kI)), .d (.sl kI)] [kI, kI] (a0, a1, a2) = b_parquetref09_Middle k c_parquetref03_Fits c_parquetref09_Check c_parquetref09_Where a0 a1 a2 := by kernel_rfl
def g_parquetref09_Middle (k : Nat) (a0 : (List (Int × Int))) (a1 : (List (Int × Int))) (a2 : (List Int)) : Option (Int × Int) := b_parquetref09_Middle k (g_parquetref03_Fits k) (g_parquetref09_Check k) (g_parquetref09_Where k) a0 a1 a2
theorem tells_parquetref09_Middle (k : Nat) : TellsF Try.prog 15 [.d (.sl (.pair kI kI)), .d (.sl (.pair kI kI)), .d (.sl kI)] [kI, kI] (fun x => g_parquetref09_Middle k (x.1) (x.2.1) (x.2.2)) := fun x y h => fun_tells tb_ok mix (es := [⟨19, [.d (.pair kI kI)], [.bool], fun x => g_parquetref03_Fits k x⟩, ⟨29, [.d (.sl (.pair kI kI)), .d (.sl (.pair kI kI)), .d kI], [.bool], fun x => g_parquetref09_Check k (x.1) (x.2.1) (x.2.2)⟩, ⟨30, [.d (.sl (.pair kI kI)), .d (.sl (.pair kI kI)), .d kI, .d (.pair kI kI)], [kI], fun x => g_parquetref09_Where k (x.1) (x.2.1) (x.2.2.1) (x.2.2.2)⟩]) (EsOk.cons ⟨rfl, tells_parquetref03_Fits k⟩ (EsOk.cons ⟨rfl, tells_parquetref09_Check k⟩ (EsOk.cons ⟨rfl, tells_parquetref09_Where k⟩ (EsOk.nil _)))) Try.func15 (N := k) (an := an_parquetref09_Middle) (by kernel_rfl) x y ((eq_parquetref09_Middle k (g_parquetref03_Fits k) (g_parquetref09_Check k) (g_parquetref09_Where k) (x.1) (x.2.1) (x.2.2)).trans h)

def an_parquetlaw09_WithinMiddles : Ann := .node none none .leaf (.node none none .leaf (.node none none .leaf (.node none none .leaf (.node none none .leaf (.node none none .leaf (.node none none .leaf (.node none none .leaf (.node none none (.node (some [(10, .d .bool)]) none .leaf .leaf) .leaf))))))))
def b_parquetlaw09_WithinMiddles (k : Nat) (c_parquetlaw09_many : (List (Int × Int)) → (List (Int × Int)) → Option Bool) (c_parquetlaw09_known : Option Bool) (c_within_Halfway : (List (Int × Int)) → (List (Int × Int)) → Int → Int → Option (Int × Int)) (c_parquetref09_Middle : (List (Int × Int)) → (List (Int × Int)) → (List Int) → Option (Int × Int)) (c_within_Third : (List (Int × Int)) → (List (Int × Int)) → Int → Int → Int → Option (Int × Int)) (a0 : (List (Int × Int))) (a1 : (List (Int × Int))) (a2 : Int) (a3 : Int) (a4 : Int) : Option Bool :=
  bnd (c_parquetlaw09_many a0 a1) fun r0 =>
   bif r0 then
    bnd (c_parquetlaw09_known) fun r1 =>
    some r1
   else
    bnd (c_within_Halfway a0 a1 a2 a3) fun r2 =>
    bnd (c_parquetref09_Middle a0 a1 [a2, a3]) fun r3 =>
    bnd (c_within_Third a0 a1 a2 a3 a4) fun r4 =>
    bnd (c_parquetref09_Middle a0 a1 [a2, a3, a4]) fun r5 =>
    bnd (c_within_Halfway a0 a1 a3 a2) fun r6 =>
    bnd (c_within_Third a0 a1 a4 a2 a3) fun r7 =>
    meet (α := Bool) (fun y8 =>
     some y8) fun j9 =>
    bif decide (r2.1 = r3.1) then
     bif decide (r2.2 = r3.2) then
      bif decide (r4.1 = r5.1) then
       bif decide (r4.2 = r5.2) then
        bif decide (r6.1 = r2.1) then
         bif decide (r7.1 = r4.1) then
          bnd (c_parquetlaw09_known) fun r10 =>
          j9 r10
         else
          j9 false
        else
         j9 false
       else
        j9 false
      else
       j9 false
     else
      j9 false
    else
     j9 false
theorem eq_parquetlaw09_WithinMiddles (k : Nat) (c_parquetlaw09_many : (List (Int × Int)) → (List (Int × Int)) → Option Bool) (c_parquetlaw09_known : Option Bool) (c_within_Halfway : (List (Int × Int)) → (List (Int × Int)) → Int → Int → Option (Int × Int)) (c_parquetref09_Middle : (List (Int × Int)) → (List (Int × Int)) → (List Int) → Option (Int × Int)) (c_within_Third : (List (Int × Int)) → (List (Int × Int)) → Int → Int → Int → Option (Int × Int)) (a0 : (List (Int × Int))) (a1 : (List (Int × Int))) (a2 : Int) (a3 : Int) (a4 : Int) : textF [⟨10, [.d (.sl (.pair kI kI)), .d (.sl (.pair kI kI))], [.bool], fun x => c_parquetlaw09_many (x.1) (x.2)⟩, ⟨11, [], [.bool], fun x => c_parquetlaw09_known⟩, ⟨14, [.d (.sl (.pair kI kI)), .d (.sl (.pair kI kI)), .d kI, .d kI], [kI, kI], fun x => c_within_Halfway (x.1) (x.2.1) (x.2.2.1) (x.2.2.2)⟩, ⟨15, [.d (.sl (.pair kI kI)), .d (.sl (.pair kI kI)), .d (.sl kI)], [kI, kI], fun x => c_parquetref09_Middle (x.1) (x.2.1) (x.2.2)⟩, ⟨16, [.d (.sl (.pair kI kI)), .d (.sl (.pair kI kI)), .d kI, .d kI, .d kI], [kI, kI], fun x => c_within_Third (x.1) (x.2.1) (x.2.2.1) (x.2.2.2.1) (x.2.2.2.2)⟩] tb k Try.f4 an_parquetlaw09_WithinMiddles [.d (.sl (.pair kI kI)), .d (.sl (.pair kI kI)), .d kI, .d kI, .d kI] [.bool] (a0, a1, a2, a3, a4) = b_parquetlaw09_WithinMiddles k c_parquetlaw09_many c_parquetlaw09_known c_within_Halfway c_parquetref09_Middle c_within_Third a0 a1 a2 a3 a4 := by kernel_rfl
def g_parquetlaw09_WithinMiddles (k : Nat) (a0 : (List (Int × Int))) (a1 : (List (Int × Int))) (a2 : Int) (a3 : Int) (a4 : Int) : Option Bool := b_parquetlaw09_WithinMiddles k (g_parquetlaw09_many k) (g_parquetlaw09_known k) (g_within_Halfway k) (g_parquetref09_Middle k) (g_within_Third k) a0 a1 a2 a3 a4
theorem tells_parquetlaw09_WithinMiddles (k : Nat) : TellsF Try.prog 4 [.d (.sl (.pair kI kI)), .d (.sl (.pair kI kI)), .d kI, .d kI, .d kI] [.bool] (fun x => g_parquetlaw09_WithinMiddles k (x.1) (x.2.1) (x.2.2.1) (x.2.2.2.1) (x.2.2.2.2)) := fun x y h => fun_tells tb_ok mix (es := [⟨10, [.d (.sl (.pair kI kI)), .d (.sl (.pair kI kI))], [.bool], fun x => g_parquetlaw09_many k (x.1) (x.2)⟩, ⟨11, [], [.bool], fun x => g_parquetlaw09_known k⟩, ⟨14, [.d (.sl (.pair kI kI)), .d (.sl (.pair kI kI)), .d kI, .d kI], [kI, kI], fun x => g_within_Halfway k (x.1) (x.2.1) (x.2.2.1) (x.2.2.2)⟩, ⟨15, [.d (.sl (.pair kI kI)), .d (.sl (.pair kI kI)), .d (.sl kI)], [kI, kI], fun x => g_parquetref09_Middle k (x.1) (x.2.1) (x.2.2)⟩, ⟨16, [.d (.sl (.pair kI kI)), .d (.sl (.pair kI kI)), .d kI, .d kI, .d kI], [kI, kI], fun x => g_within_Third k (x.1) (x.2.1) (x.2.2.1) (x.2.2.2.1) (x.2.2.2.2)⟩]) (EsOk.cons ⟨rfl, tells_parquetlaw09_many k⟩ (EsOk.cons ⟨rfl, tells_parquetlaw09_known k⟩ (EsOk.cons ⟨rfl, tells_within_Halfway k⟩ (EsOk.cons ⟨rfl, tells_parquetref09_Middle k⟩ (EsOk.cons ⟨rfl, tells_within_Third k⟩ (EsOk.nil _)))))) Try.func4 (N := k) (an := an_parquetlaw09_WithinMiddles) (by kernel_rfl) x y ((eq_parquetlaw09_WithinMiddles k (g_parquetlaw09_many k) (g_parquetlaw09_known k) (g_within_Halfway k) (g_parquetref09_Middle k) (g_within_Third k) (x.1) (x.2.1) (x.2.2.1) (x.2.2.2.1) (x.2.2.2.2)).trans h)

def an_parquetlaw09_ring : Ann := .node none none .leaf (.node none none .leaf (.node none none (.node none none .leaf (.node none none (.node none (some [(0, .d (.sl (.pair kI kI))), (3, .row (.pair kI kI) 44), (4, .d kI)]) .leaf .leaf) .leaf)) .leaf))
def g_parquetlaw09_ring (k : Nat) (a0 : (List (Int × Int))) : Option (List (Int × Int)) :=
  loopN (α := ((List (Int × Int)) × ((List (Int × Int)) × Int))) (fun (x1, x2, x3) next0 =>
    bif decide (x3 < (x1.length : Int)) then
     gd (!(decide ((x1.length : Int) = 0))) <|
     gd (few (x2.length + 1)) <|
     next0 (x1, x2 ++ [(x3, (w64 (x3 + 1)).tmod (x1.length : Int))], w64 (x3 + 1))
    else
     some x2) k (a0, [], 0)
theorem eq_parquetlaw09_ring (k : Nat) (a0 : (List (Int × Int))) : textF [] tb k Try.f17 an_parquetlaw09_ring [.d (.sl (.pair kI kI))] [.sl (.pair kI kI)] a0 = g_parquetlaw09_ring k a0 := by kernel_rfl
theorem tells_parquetlaw09_ring (k : Nat) : TellsF Try.prog 17 [.d (.sl (.pair kI kI))] [.sl (.pair kI kI)] (fun x => g_parquetlaw09_ring k x) := fun x y h => fun_tells tb_ok mix (es := []) (EsOk.nil _) Try.func17 (N := k) (an := an_parquetlaw09_ring) (by kernel_rfl) x y ((eq_parquetlaw09_ring k x).trans h)

def an_parquetlaw09_changed : Ann := .node none none .leaf (.node none none .leaf (.node none none (.node none none .leaf (.node none none (.node none (some [(0, .d (.sl (.pair kI kI))), (1, .d .bool), (5, .row (.pair kI kI) 25), (6, .d kI)]) (.node none none .leaf (.node none none (.node none none (.node none none .leaf (.node (some [(0, .d (.sl (.pair kI kI))), (1, .d .bool), (5, .row (.pair kI kI) 25), (6, .d kI)]) none .leaf .leaf)) .leaf) .leaf)) .leaf) .leaf)) .leaf))
def g_parquetlaw09_changed (k : Nat) (a0 : (List (Int × Int))) (a1 : Bool) : Option (List (Int × Int)) :=
  loopN (α := ((List (Int × Int)) × (Bool × ((List (Int × Int)) × Int)))) (fun (x1, x2, x3, x4) next0 =>
    bif decide (x4 < (x1.length : Int)) then
     meet (α := ((List (Int × Int)) × (Bool × ((List (Int × Int)) × Int)))) (fun (y5, y6, y7, y8) =>
      next0 (y5, y6, y7, w64 (y8 + 1))) fun j9 =>
     bif x2 then
      gd (inb x4 x1.length) <|
      gd (inb x4 x1.length) <|
      gd (few (x3.length + 1)) <|
      j9 (x1, x2, x3 ++ [((rdD (0, 0) x1 x4).2, (rdD (0, 0) x1 x4).1)], x4)
     else
      gd (inb x4 x1.length) <|
      gd (inb x4 x1.length) <|
      gd (few (x3.length + 1)) <|
      j9 (x1, x2, x3 ++ [(w64 (0 - (rdD (0, 0) x1 x4).1), w64 (0 - (rdD (0, 0) x1 x4).2))], x4)
    else
     some x3) k (a0, a1, [], 0)
theorem eq_parquetlaw09_changed (k : Nat) (a0 : (List (Int × Int))) (a1 : Bool) : textF [] tb k Try.f18 an_parquetlaw09_changed [.d (.sl (.pair kI kI)), .d .bool] [.sl (.pair kI kI)] (a0, a1) = g_parquetlaw09_changed k a0 a1 := by kernel_rfl
theorem tells_parquetlaw09_changed (k : Nat) : TellsF Try.prog 18 [.d (.sl (.pair kI kI)), .d .bool] [.sl (.pair kI kI)] (fun x => g_parquetlaw09_changed k (x.1) (x.2)) := fun x y h => fun_tells tb_ok mix (es := []) (EsOk.nil _) Try.func18 (N := k) (an := an_parquetlaw09_changed) (by kernel_rfl) x y ((eq_parquetlaw09_changed k (x.1) (x.2)).trans h)

def an_parquetlaw09_WithinWays : Ann := .node none none .leaf (.node none none (.node none none (.node (some [(0, .d (.sl (.pair kI kI))), (3, .box [.d (.pair kI kI)]), (21, .d .bool)]) none .leaf .leaf) .leaf) (.node none none .leaf (.node none none .leaf (.node none none .leaf (.node none none .leaf (.node none none .leaf (.node none none .leaf (.node none none .leaf (.node none none .leaf (.node none none (.node (some [(4, .d .bool)]) none .leaf .leaf) .leaf))))))))))
def b_parquetlaw09_WithinWays (k : Nat) (c_parquetlaw09_known : Option Bool) (c_parquetlaw09_ring : (List (Int × Int)) → Option (List (Int × Int))) (c_within_At : (List (Int × Int)) → (List (Int × Int)) → (Int × Int) → Option (Int × Int)) (c_parquetlaw09_changed : (List (Int × Int)) → Bool → Option (List (Int × Int))) (a0 : (List (Int × Int))) (a1 : (Int × Int)) : Option Bool :=
  meet (α := ((List (Int × Int)) × ((Int × Int) × Bool))) (fun (y0, y1, y2) =>
    bif y2 then
     bnd (c_parquetlaw09_known) fun r3 =>
     some r3
    else
     bnd (c_parquetlaw09_ring y0) fun r4 =>
     bnd (c_within_At y0 r4 (y1.1, y1.2)) fun r5 =>
     gd (few y0.length) <|
     gd (few (y0.length + 1)) <|
     bnd (c_parquetlaw09_changed (y0 ++ [(y1.1, y1.2)]) false) fun r6 =>
     bnd (c_parquetlaw09_changed (y0 ++ [(y1.1, y1.2)]) true) fun r7 =>
     gd (decide (0 ≤ (y0.length : Int))) <|
     gd (decide ((y0.length : Int) ≤ (r6.length : Int))) <|
     bnd (c_parquetlaw09_ring y0) fun r8 =>
     gd (inb (y0.length : Int) r6.length) <|
     bnd (c_within_At (tkL r6 (y0.length : Int)) r8 ((rdD (0, 0) r6 (y0.length : Int)).1, (rdD (0, 0) r6 (y0.length : Int)).2)) fun r9 =>
     gd (decide (0 ≤ (y0.length : Int))) <|
     gd (decide ((y0.length : Int) ≤ (r7.length : Int))) <|
     bnd (c_parquetlaw09_ring y0) fun r10 =>
     gd (inb (y0.length : Int) r7.length) <|
     bnd (c_within_At (tkL r7 (y0.length : Int)) r10 ((rdD (0, 0) r7 (y0.length : Int)).1, (rdD (0, 0) r7 (y0.length : Int)).2)) fun r11 =>
     meet (α := Bool) (fun y12 =>
      some y12) fun j13 =>
     bif decide (r9.2 = r5.2) then
      bif decide (r11.2 = r5.2) then
       bif decide (r9.1 = r5.1) then
        bif decide (r11.1 = r5.1) then
         bnd (c_parquetlaw09_known) fun r14 =>
         j13 r14
        else
         j13 false
       else
        j13 false
      else
       j13 false
     else
      j13 false) fun j15 =>
   bif decide ((a0.length : Int) > 60) then
    j15 (a0, (a1.1, a1.2), true)
   else
    j15 (a0, (a1.1, a1.2), decide ((a0.length : Int) = 0))
theorem eq_parquetlaw09_WithinWays (k : Nat) (c_parquetlaw09_known : Option Bool) (c_parquetlaw09_ring : (List (Int × Int)) → Option (List (Int × Int))) (c_within_At : (List (Int × Int)) → (List (Int × Int)) → (Int × Int) → Option (Int × Int)) (c_parquetlaw09_changed : (List (Int × Int)) → Bool → Option (List (Int × Int))) (a0 : (List (Int × Int))) (a1 : (Int × Int)) : textF [⟨11, [], [.bool], fun x => c_parquetlaw09_known⟩, ⟨17, [.d (.sl (.pair kI kI))], [.sl (.pair kI kI)], fun x => c_parquetlaw09_ring x⟩, ⟨12, [.d (.sl (.pair kI kI)), .d (.sl (.pair kI kI)), .d (.pair kI kI)], [kI, kI], fun x => c_within_At (x.1) (x.2.1) (x.2.2)⟩, ⟨18, [.d (.sl (.pair kI kI)), .d .bool], [.sl (.pair kI kI)], fun x => c_parquetlaw09_changed (x.1) (x.2)⟩] tb k Try.f5 an_parquetlaw09_WithinWays [.d (.sl (.pair kI kI)), .d (.pair kI kI)] [.bool] (a0, a1) = b_parquetlaw09_WithinWays k c_parquetlaw09_known c_parquetlaw09_ring c_within_At c_parquetlaw09_changed a0 a1 := by kernel_rfl
def g_parquetlaw09_WithinWays (k : Nat) (a0 : (List (Int × Int))) (a1 : (Int × Int)) : Option Bool := b_parquetlaw09_WithinWays k (g_parquetlaw09_known k) (g_parquetlaw09_ring k) (g_within_At k) (g_parquetlaw09_changed k) a0 a1
theorem tells_parquetlaw09_WithinWays (k : Nat) : TellsF Try.prog 5 [.d (.sl (.pair kI kI)), .d (.pair kI kI)] [.bool] (fun x => g_parquetlaw09_WithinWays k (x.1) (x.2)) := fun x y h => fun_tells tb_ok mix (es := [⟨11, [], [.bool], fun x => g_parquetlaw09_known k⟩, ⟨17, [.d (.sl (.pair kI kI))], [.sl (.pair kI kI)], fun x => g_parquetlaw09_ring k x⟩, ⟨12, [.d (.sl (.pair kI kI)), .d (.sl (.pair kI kI)), .d (.pair kI kI)], [kI, kI], fun x => g_within_At k (x.1) (x.2.1) (x.2.2)⟩, ⟨18, [.d (.sl (.pair kI kI)), .d .bool], [.sl (.pair kI kI)], fun x => g_parquetlaw09_changed k (x.1) (x.2)⟩]) (EsOk.cons ⟨rfl, tells_parquetlaw09_known k⟩ (EsOk.cons ⟨rfl, tells_parquetlaw09_ring k⟩ (EsOk.cons ⟨rfl, tells_within_At k⟩ (EsOk.cons ⟨rfl, tells_parquetlaw09_changed k⟩ (EsOk.nil _))))) Try.func5 (N := k) (an := an_parquetlaw09_WithinWays) (by kernel_rfl) x y ((eq_parquetlaw09_WithinWays k (g_parquetlaw09_known k) (g_parquetlaw09_ring k) (g_within_At k) (g_parquetlaw09_changed k) (x.1) (x.2)).trans h)

def an_parquetlaw09_WithinBoth : Ann := .node none none .leaf (.node none none (.node none none (.node (some [(0, .d (.sl (.pair kI kI))), (1, .d kI), (5, .box [.d (.pair kI kI)]), (25, .d .bool)]) none .leaf .leaf) .leaf) (.node none none .leaf (.node none none .leaf (.node none none .leaf (.node none none .leaf (.node none none .leaf (.node none none (.node none none .leaf (.node none none (.node none (some [(0, .d (.sl (.pair kI kI))), (5, .box [.d (.pair kI kI)]), (7, .d kI), (8, .d (.sl (.pair kI kI))), (9, .d (.sl (.pair kI kI))), (10, .row (.pair kI kI) 44), (11, .d kI)]) .leaf .leaf) .leaf)) (.node none none .leaf (.node none none .leaf (.node none none .leaf (.node none none (.node none none (.node (some [(12, .d kI), (14, .d kI), (16, .d kI), (17, .d kI), (101, .d .bool)]) none .leaf .leaf) (.node none none (.node none none (.node (some [(6, .d .bool)]) none .leaf .leaf) .leaf) .leaf)) (.node none none (.node none none (.node (some [(12, .d kI), (14, .d kI), (16, .d kI), (17, .d kI), (116, .d .bool)]) none .leaf .leaf) (.node none none (.node none none (.node (some [(6, .d .bool)]) none .leaf .leaf) .leaf) .leaf)) (.node none none (.node (some [(6, .d .bool)]) none .leaf .leaf) .leaf)))))))))))))
def b_parquetlaw09_WithinBoth (k : Nat) (c_parquetlaw09_known : Option Bool) (c_parquetlaw09_ring : (List (Int × Int)) → Option (List (Int × Int))) (c_within_At : (List (Int × Int)) → (List (Int × Int)) → (Int × Int) → Option (Int × Int)) (a0 : (List (Int × Int))) (a1 : Int) (a2 : (Int × Int)) : Option Bool :=
  meet (α := ((List (Int × Int)) × (Int × ((Int × Int) × Bool)))) (fun (y0, y1, y2, y3) =>
    bif y3 then
     bnd (c_parquetlaw09_known) fun r4 =>
     some r4
    else
     gd (!(decide ((IntKind.wrap .u64 (w64 ((y0.length : Int) - 5))) = 0))) <|
     gd (decide (0 ≤ (w64 (3 + (w64 ((IntKind.wrap .u64 y1).tmod (IntKind.wrap .u64 (w64 ((y0.length : Int) - 5))))))))) <|
     gd (decide ((w64 (3 + (w64 ((IntKind.wrap .u64 y1).tmod (IntKind.wrap .u64 (w64 ((y0.length : Int) - 5))))))) ≤ (y0.length : Int))) <|
     bnd (c_parquetlaw09_ring (tkL y0 (w64 (3 + (w64 ((IntKind.wrap .u64 y1).tmod (IntKind.wrap .u64 (w64 ((y0.length : Int) - 5))))))))) fun r5 =>
     gd (decide (0 ≤ (w64 (3 + (w64 ((IntKind.wrap .u64 y1).tmod (IntKind.wrap .u64 (w64 ((y0.length : Int) - 5))))))))) <|
     gd (decide ((w64 (3 + (w64 ((IntKind.wrap .u64 y1).tmod (IntKind.wrap .u64 (w64 ((y0.length : Int) - 5))))))) ≤ (y0.length : Int))) <|
     bnd (c_parquetlaw09_ring (dpL y0 (w64 (3 + (w64 ((IntKind.wrap .u64 y1).tmod (IntKind.wrap .u64 (w64 ((y0.length : Int) - 5))))))))) fun r6 =>
     gd (few r5.length) <|
     loopN (α := ((List (Int × Int)) × ((Int × Int) × (Int × ((List (Int × Int)) × ((List (Int × Int)) × ((List (Int × Int)) × Int))))))) (fun (x8, x9, x10, x11, x12, x13, x14) next7 =>
      bif decide (x14 < (x12.length : Int)) then
       gd (inb x14 x12.length) <|
       gd (inb x14 x12.length) <|
       gd (few (x13.length + 1)) <|
       next7 (x8, (x9.1, x9.2), x10, x11, x12, x13 ++ [(w64 ((rdD (0, 0) x12 x14).1 + x10), w64 ((rdD (0, 0) x12 x14).2 + x10))], w64 (x14 + 1))
      else
       gd (decide (0 ≤ x10)) <|
       gd (decide (x10 ≤ (x8.length : Int))) <|
       bnd (c_within_At (tkL x8 x10) x11 (x9.1, x9.2)) fun r15 =>
       gd (decide (0 ≤ x10)) <|
       gd (decide (x10 ≤ (x8.length : Int))) <|
       bnd (c_within_At (dpL x8 x10) x12 (x9.1, x9.2)) fun r16 =>
       bnd (c_within_At x8 x13 (x9.1, x9.2)) fun r17 =>
       meet (α := (Int × (Int × (Int × (Int × Bool))))) (fun (y18, y19, y20, y21, y22) =>
        bif y22 then
         meet (α := Bool) (fun y23 =>
          some y23) fun j24 =>
         bif decide (y21 = 2) then
          bif decide (y20 = 0) then
           bnd (c_parquetlaw09_known) fun r25 =>
           j24 r25
          else
           j24 false
         else
          j24 false
        else
         meet (α := (Int × (Int × (Int × (Int × Bool))))) (fun (y26, y27, y28, y29, y30) =>
          bif y30 then
           meet (α := Bool) (fun y31 =>
            some y31) fun j32 =>
           bif decide (y29 = 0) then
            bif decide (y28 = 0) then
             bnd (c_parquetlaw09_known) fun r33 =>
             j32 r33
            else
             j32 false
           else
            j32 false
          else
           meet (α := Bool) (fun y34 =>
            some y34) fun j35 =>
           bif decide (y29 = 0) then
            bif (decide (y28 = 1)) == (!(decide (y26 = y27))) then
             bif !(decide (y28 = 0)) then
              bnd (c_parquetlaw09_known) fun r36 =>
              j35 r36
             else
              j35 false
            else
             j35 false
           else
            j35 false) fun j37 =>
         bif decide (y18 = 0) then
          j37 (y18, y19, y20, y21, true)
         else
          j37 (y18, y19, y20, y21, decide (y19 = 0))) fun j38 =>
       bif !(decide (r15.2 = 0)) then
        j38 (r15.1, r16.1, r17.1, r17.2, true)
       else
        j38 (r15.1, r16.1, r17.1, r17.2, !(decide (r16.2 = 0)))) k (y0, (y2.1, y2.2), w64 (3 + (w64 ((IntKind.wrap .u64 y1).tmod (IntKind.wrap .u64 (w64 ((y0.length : Int) - 5)))))), r5, r6, r5, 0)) fun j39 =>
   bif decide ((a0.length : Int) > 60) then
    j39 (a0, a1, (a2.1, a2.2), true)
   else
    j39 (a0, a1, (a2.1, a2.2), decide ((a0.length : Int) < 6))
theorem eq_parquetlaw09_WithinBoth (k : Nat) (c_parquetlaw09_known : Option Bool) (c_parquetlaw09_ring : (List (Int × Int)) → Option (List (Int × Int))) (c_within_At : (List (Int × Int)) → (List (Int × Int)) → (Int × Int) → Option (Int × Int)) (a0 : (List (Int × Int))) (a1 : Int) (a2 : (Int × Int)) : textF [⟨11, [], [.bool], fun x => c_parquetlaw09_known⟩, ⟨17, [.d (.sl (.pair kI kI))], [.sl (.pair kI kI)], fun x => c_parquetlaw09_ring x⟩, ⟨12, [.d (.sl (.pair kI kI)), .d (.sl (.pair kI kI)), .d (.pair kI kI)], [kI, kI], fun x => c_within_At (x.1) (x.2.1) (x.2.2)⟩] tb k Try.f6 an_parquetlaw09_WithinBoth [.d (.sl (.pair kI kI)), .d kI, .d (.pair kI kI)] [.bool] (a0, a1, a2) = b_parquetlaw09_WithinBoth k c_parquetlaw09_known c_parquetlaw09_ring c_within_At a0 a1 a2 := by kernel_rfl
def g_parquetlaw09_WithinBoth (k : Nat) (a0 : (List (Int × Int))) (a1 : Int) (a2 : (Int × Int)) : Option Bool := b_parquetlaw09_WithinBoth k (g_parquetlaw09_known k) (g_parquetlaw09_ring k) (g_within_At k) a0 a1 a2
theorem tells_parquetlaw09_WithinBoth (k : Nat) : TellsF Try.prog 6 [.d (.sl (.pair kI kI)), .d kI, .d (.pair kI kI)] [.bool] (fun x => g_parquetlaw09_WithinBoth k (x.1) (x.2.1) (x.2.2)) := fun x y h => fun_tells tb_ok mix (es := [⟨11, [], [.bool], fun x => g_parquetlaw09_known k⟩, ⟨17, [.d (.sl (.pair kI kI))], [.sl (.pair kI kI)], fun x => g_parquetlaw09_ring k x⟩, ⟨12, [.d (.sl (.pair kI kI)), .d (.sl (.pair kI kI)), .d (.pair kI kI)], [kI, kI], fun x => g_within_At k (x.1) (x.2.1) (x.2.2)⟩]) (EsOk.cons ⟨rfl, tells_parquetlaw09_known k⟩ (EsOk.cons ⟨rfl, tells_parquetlaw09_ring k⟩ (EsOk.cons ⟨rfl, tells_within_At k⟩ (EsOk.nil _)))) Try.func6 (N := k) (an := an_parquetlaw09_WithinBoth) (by kernel_rfl) x y ((eq_parquetlaw09_WithinBoth k (g_parquetlaw09_known k) (g_parquetlaw09_ring k) (g_within_At k) (x.1) (x.2.1) (x.2.2)).trans h)

end Go.Proofs.Ytgbgihofehmjpaa.AM
