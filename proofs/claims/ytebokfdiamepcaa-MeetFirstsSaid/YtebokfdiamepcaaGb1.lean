/- The functions, by their texts: written by a program. -/
import Derived.Test.YtebokfdiamepcaaGb0
set_option linter.unusedVariables false
set_option maxRecDepth 100000
namespace Go.Proofs.Ytebokfdiamepcaa.AM
open Go.RowKit Go.Proofs
def an_wide_Cmp : Ann := .node none none .leaf (.node none none .leaf (.node none none (.node none none (.node (some [(2, .box [.d (.pair .bool (.pair (.int .u64) (.pair (.int .u64) (.pair (.int .u64) (.int .u64)))))]), (3, .box [.d (.pair .bool (.pair (.int .u64) (.pair (.int .u64) (.pair (.int .u64) (.int .u64)))))]), (5, .d kI), (6, .d kI), (17, .d .bool)]) none .leaf .leaf) .leaf) .leaf))
def b_wide_Cmp (k : Nat) (c_wide_Sign : (Bool × (Int × (Int × (Int × Int)))) → Option Int) (c_cmp_Compare_int : Int → Int → Option Int) (c_wide_size : (Int × (Int × (Int × Int))) → (Int × (Int × (Int × Int))) → Option Int) (a0 : (Bool × (Int × (Int × (Int × Int))))) (a1 : (Bool × (Int × (Int × (Int × Int))))) : Option Int :=
  bnd (c_wide_Sign (a0.1, a0.2.1, a0.2.2.1, a0.2.2.2.1, a0.2.2.2.2)) fun r0 =>
   bnd (c_wide_Sign (a1.1, a1.2.1, a1.2.2.1, a1.2.2.2.1, a1.2.2.2.2)) fun r1 =>
   meet (α := ((Bool × (Int × (Int × (Int × Int)))) × ((Bool × (Int × (Int × (Int × Int)))) × (Int × (Int × Bool))))) (fun (y2, y3, y4, y5, y6) =>
    bif y6 then
     bnd (c_cmp_Compare_int y4 y5) fun r7 =>
     some r7
    else
     bnd (c_wide_size (y2.2.1, y2.2.2.1, y2.2.2.2.1, y2.2.2.2.2) (y3.2.1, y3.2.2.1, y3.2.2.2.1, y3.2.2.2.2)) fun r8 =>
     some (w64 (y4 * r8))) fun j9 =>
   bif !(decide (r0 = r1)) then
    j9 ((a0.1, a0.2.1, a0.2.2.1, a0.2.2.2.1, a0.2.2.2.2), (a1.1, a1.2.1, a1.2.2.1, a1.2.2.2.1, a1.2.2.2.2), r0, r1, true)
   else
    j9 ((a0.1, a0.2.1, a0.2.2.1, a0.2.2.2.1, a0.2.2.2.2), (a1.1, a1.2.1, a1.2.2.1, a1.2.2.2.1, a1.2.2.2.2), r0, r1, decide (r0 = 0))
theorem eq_wide_Cmp (k : Nat) (c_wide_Sign : (Bool × (Int × (Int × (Int × Int)))) → Option Int) (c_cmp_Compare_int : Int → Int → Option Int) (c_wide_size : (Int × (Int × (Int × Int))) → (Int × (Int × (Int × Int))) → Option Int) (a0 : (Bool × (Int × (Int × (Int × Int))))) (a1 : (Bool × (Int × (Int × (Int × Int))))) : textF [⟨45, [.d (.pair .bool (.pair (.int .u64) (.pair (.int .u64) (.pair (.int .u64) (.int .u64)))))], [kI], fun x => c_wide_Sign x⟩, ⟨46, [.d kI, .d kI], [kI], fun x => c_cmp_Compare_int (x.1) (x.2)⟩, ⟨47, [.d (.pair (.int .u64) (.pair (.int .u64) (.pair (.int .u64) (.int .u64)))), .d (.pair (.int .u64) (.pair (.int .u64) (.pair (.int .u64) (.int .u64))))], [kI], fun x => c_wide_size (x.1) (x.2)⟩] tb k Try.f42 an_wide_Cmp [.d (.pair .bool (.pair (.int .u64) (.pair (.int .u64) (.pair (.int .u64) (.int .u64))))), .d (.pair .bool (.pair (.int .u64) (.pair (.int .u64) (.pair (.int .u64) (.int .u64)))))] [kI] (a0, a1) = b_wide_Cmp k c_wide_Sign c_cmp_Compare_int c_wide_size a0 a1 := by kernel_rfl
def g_wide_Cmp (k : Nat) (a0 : (Bool × (Int × (Int × (Int × Int))))) (a1 : (Bool × (Int × (Int × (Int × Int))))) : Option Int := b_wide_Cmp k (g_wide_Sign k) (g_cmp_Compare_int k) (g_wide_size k) a0 a1
theorem tells_wide_Cmp (k : Nat) : TellsF Try.prog 42 [.d (.pair .bool (.pair (.int .u64) (.pair (.int .u64) (.pair (.int .u64) (.int .u64))))), .d (.pair .bool (.pair (.int .u64) (.pair (.int .u64) (.pair (.int .u64) (.int .u64)))))] [kI] (fun x => g_wide_Cmp k (x.1) (x.2)) := fun x y h => fun_tells tb_ok mix (es := [⟨45, [.d (.pair .bool (.pair (.int .u64) (.pair (.int .u64) (.pair (.int .u64) (.int .u64)))))], [kI], fun x => g_wide_Sign k x⟩, ⟨46, [.d kI, .d kI], [kI], fun x => g_cmp_Compare_int k (x.1) (x.2)⟩, ⟨47, [.d (.pair (.int .u64) (.pair (.int .u64) (.pair (.int .u64) (.int .u64)))), .d (.pair (.int .u64) (.pair (.int .u64) (.pair (.int .u64) (.int .u64))))], [kI], fun x => g_wide_size k (x.1) (x.2)⟩]) (EsOk.cons ⟨rfl, tells_wide_Sign k⟩ (EsOk.cons ⟨rfl, tells_cmp_Compare_int k⟩ (EsOk.cons ⟨rfl, tells_wide_size k⟩ (EsOk.nil _)))) Try.func42 (N := k) (an := an_wide_Cmp) (by kernel_rfl) x y ((eq_wide_Cmp k (g_wide_Sign k) (g_cmp_Compare_int k) (g_wide_size k) (x.1) (x.2)).trans h)

def an_pred_cross : Ann := .leaf
def b_pred_cross (k : Nat) (c_pred_product : Int → Int → Option (Bool × (Int × (Int × (Int × Int))))) (c_wide_Cmp : (Bool × (Int × (Int × (Int × Int)))) → (Bool × (Int × (Int × (Int × Int)))) → Option Int) (a0 : Int) (a1 : Int) (a2 : Int) (a3 : Int) : Option Int :=
  bnd (c_pred_product a0 a1) fun r0 =>
   bnd (c_pred_product a2 a3) fun r1 =>
   bnd (c_wide_Cmp (r0.1, r0.2.1, r0.2.2.1, r0.2.2.2.1, r0.2.2.2.2) (r1.1, r1.2.1, r1.2.2.1, r1.2.2.2.1, r1.2.2.2.2)) fun r2 =>
   some r2
theorem eq_pred_cross (k : Nat) (c_pred_product : Int → Int → Option (Bool × (Int × (Int × (Int × Int))))) (c_wide_Cmp : (Bool × (Int × (Int × (Int × Int)))) → (Bool × (Int × (Int × (Int × Int)))) → Option Int) (a0 : Int) (a1 : Int) (a2 : Int) (a3 : Int) : textF [⟨41, [.d kI, .d kI], [.pair .bool (.pair (.int .u64) (.pair (.int .u64) (.pair (.int .u64) (.int .u64))))], fun x => c_pred_product (x.1) (x.2)⟩, ⟨42, [.d (.pair .bool (.pair (.int .u64) (.pair (.int .u64) (.pair (.int .u64) (.int .u64))))), .d (.pair .bool (.pair (.int .u64) (.pair (.int .u64) (.pair (.int .u64) (.int .u64)))))], [kI], fun x => c_wide_Cmp (x.1) (x.2)⟩] tb k Try.f35 an_pred_cross [.d kI, .d kI, .d kI, .d kI] [kI] (a0, a1, a2, a3) = b_pred_cross k c_pred_product c_wide_Cmp a0 a1 a2 a3 := by kernel_rfl
def g_pred_cross (k : Nat) (a0 : Int) (a1 : Int) (a2 : Int) (a3 : Int) : Option Int := b_pred_cross k (g_pred_product k) (g_wide_Cmp k) a0 a1 a2 a3
theorem tells_pred_cross (k : Nat) : TellsF Try.prog 35 [.d kI, .d kI, .d kI, .d kI] [kI] (fun x => g_pred_cross k (x.1) (x.2.1) (x.2.2.1) (x.2.2.2)) := fun x y h => fun_tells tb_ok mix (es := [⟨41, [.d kI, .d kI], [.pair .bool (.pair (.int .u64) (.pair (.int .u64) (.pair (.int .u64) (.int .u64))))], fun x => g_pred_product k (x.1) (x.2)⟩, ⟨42, [.d (.pair .bool (.pair (.int .u64) (.pair (.int .u64) (.pair (.int .u64) (.int .u64))))), .d (.pair .bool (.pair (.int .u64) (.pair (.int .u64) (.pair (.int .u64) (.int .u64)))))], [kI], fun x => g_wide_Cmp k (x.1) (x.2)⟩]) (EsOk.cons ⟨rfl, tells_pred_product k⟩ (EsOk.cons ⟨rfl, tells_wide_Cmp k⟩ (EsOk.nil _))) Try.func35 (N := k) (an := an_pred_cross) (by kernel_rfl) x y ((eq_pred_cross k (g_pred_product k) (g_wide_Cmp k) (x.1) (x.2.1) (x.2.2.1) (x.2.2.2)).trans h)

def an_pred_orient : Ann := .leaf
def b_pred_orient (k : Nat) (c_pred_small : (List Int) → Option Bool) (c_pred_cross : Int → Int → Int → Int → Option Int) (a0 : (Int × Int)) (a1 : (Int × Int)) (a2 : (Int × Int)) : Option Int :=
  bnd (c_pred_small [w64 (a1.1 - a0.1), w64 (a2.2 - a0.2), w64 (a1.2 - a0.2), w64 (a2.1 - a0.1)]) fun r0 =>
   bif r0 then
    bif decide ((w64 ((w64 ((w64 (a1.1 - a0.1)) * (w64 (a2.2 - a0.2)))) - (w64 ((w64 (a1.2 - a0.2)) * (w64 (a2.1 - a0.1)))))) > 0) then
     some 1
    else
     bif decide ((w64 ((w64 ((w64 (a1.1 - a0.1)) * (w64 (a2.2 - a0.2)))) - (w64 ((w64 (a1.2 - a0.2)) * (w64 (a2.1 - a0.1)))))) < 0) then
      some (-1)
     else
      some 0
   else
    bnd (c_pred_cross (w64 (a1.1 - a0.1)) (w64 (a2.2 - a0.2)) (w64 (a1.2 - a0.2)) (w64 (a2.1 - a0.1))) fun r1 =>
    some r1
theorem eq_pred_orient (k : Nat) (c_pred_small : (List Int) → Option Bool) (c_pred_cross : Int → Int → Int → Int → Option Int) (a0 : (Int × Int)) (a1 : (Int × Int)) (a2 : (Int × Int)) : textF [⟨34, [.d (.sl kI)], [.bool], fun x => c_pred_small x⟩, ⟨35, [.d kI, .d kI, .d kI, .d kI], [kI], fun x => c_pred_cross (x.1) (x.2.1) (x.2.2.1) (x.2.2.2)⟩] tb k Try.f28 an_pred_orient [.d (.pair kI kI), .d (.pair kI kI), .d (.pair kI kI)] [kI] (a0, a1, a2) = b_pred_orient k c_pred_small c_pred_cross a0 a1 a2 := by kernel_rfl
def g_pred_orient (k : Nat) (a0 : (Int × Int)) (a1 : (Int × Int)) (a2 : (Int × Int)) : Option Int := b_pred_orient k (g_pred_small k) (g_pred_cross k) a0 a1 a2
theorem tells_pred_orient (k : Nat) : TellsF Try.prog 28 [.d (.pair kI kI), .d (.pair kI kI), .d (.pair kI kI)] [kI] (fun x => g_pred_orient k (x.1) (x.2.1) (x.2.2)) := fun x y h => fun_tells tb_ok mix (es := [⟨34, [.d (.sl kI)], [.bool], fun x => g_pred_small k x⟩, ⟨35, [.d kI, .d kI, .d kI, .d kI], [kI], fun x => g_pred_cross k (x.1) (x.2.1) (x.2.2.1) (x.2.2.2)⟩]) (EsOk.cons ⟨rfl, tells_pred_small k⟩ (EsOk.cons ⟨rfl, tells_pred_cross k⟩ (EsOk.nil _))) Try.func28 (N := k) (an := an_pred_orient) (by kernel_rfl) x y ((eq_pred_orient k (g_pred_small k) (g_pred_cross k) (x.1) (x.2.1) (x.2.2)).trans h)

def an_pred_Orient : Ann := .leaf
def b_pred_Orient (k : Nat) (c_pred_Fits : (List (Int × Int)) → Option Bool) (c_pred_orient : (Int × Int) → (Int × Int) → (Int × Int) → Option Int) (a0 : (Int × Int)) (a1 : (Int × Int)) (a2 : (Int × Int)) : Option Int :=
  bnd (c_pred_Fits [(a0.1, a0.2), (a1.1, a1.2), (a2.1, a2.2)]) fun r0 =>
   bif !r0 then
    some 0
   else
    bnd (c_pred_orient (a0.1, a0.2) (a1.1, a1.2) (a2.1, a2.2)) fun r1 =>
    some r1
theorem eq_pred_Orient (k : Nat) (c_pred_Fits : (List (Int × Int)) → Option Bool) (c_pred_orient : (Int × Int) → (Int × Int) → (Int × Int) → Option Int) (a0 : (Int × Int)) (a1 : (Int × Int)) (a2 : (Int × Int)) : textF [⟨21, [.d (.sl (.pair kI kI))], [.bool], fun x => c_pred_Fits x⟩, ⟨28, [.d (.pair kI kI), .d (.pair kI kI), .d (.pair kI kI)], [kI], fun x => c_pred_orient (x.1) (x.2.1) (x.2.2)⟩] tb k Try.f23 an_pred_Orient [.d (.pair kI kI), .d (.pair kI kI), .d (.pair kI kI)] [kI] (a0, a1, a2) = b_pred_Orient k c_pred_Fits c_pred_orient a0 a1 a2 := by kernel_rfl
def g_pred_Orient (k : Nat) (a0 : (Int × Int)) (a1 : (Int × Int)) (a2 : (Int × Int)) : Option Int := b_pred_Orient k (g_pred_Fits k) (g_pred_orient k) a0 a1 a2
theorem tells_pred_Orient (k : Nat) : TellsF Try.prog 23 [.d (.pair kI kI), .d (.pair kI kI), .d (.pair kI kI)] [kI] (fun x => g_pred_Orient k (x.1) (x.2.1) (x.2.2)) := fun x y h => fun_tells tb_ok mix (es := [⟨21, [.d (.sl (.pair kI kI))], [.bool], fun x => g_pred_Fits k x⟩, ⟨28, [.d (.pair kI kI), .d (.pair kI kI), .d (.pair kI kI)], [kI], fun x => g_pred_orient k (x.1) (x.2.1) (x.2.2)⟩]) (EsOk.cons ⟨rfl, tells_pred_Fits k⟩ (EsOk.cons ⟨rfl, tells_pred_orient k⟩ (EsOk.nil _))) Try.func23 (N := k) (an := an_pred_Orient) (by kernel_rfl) x y ((eq_pred_Orient k (g_pred_Fits k) (g_pred_orient k) (x.1) (x.2.1) (x.2.2)).trans h)

def an_meet_between : Ann := .node none none .leaf (.node none none (.node (some [(6, .d .bool)]) none .leaf .leaf) .leaf)
def g_meet_between (k : Nat) (a0 : Int) (a1 : Int) (a2 : Int) : Option Bool :=
  meet (α := Bool) (fun y0 =>
    some y0) fun j1 =>
   bif decide ((mnI a0 a1) ≤ a2) then
    j1 (decide (a2 ≤ (mxI a0 a1)))
   else
    j1 false
theorem eq_meet_between (k : Nat) (a0 : Int) (a1 : Int) (a2 : Int) : textF [] tb k Try.f25 an_meet_between [.d kI, .d kI, .d kI] [.bool] (a0, a1, a2) = g_meet_between k a0 a1 a2 := by kernel_rfl
theorem tells_meet_between (k : Nat) : TellsF Try.prog 25 [.d kI, .d kI, .d kI] [.bool] (fun x => g_meet_between k (x.1) (x.2.1) (x.2.2)) := fun x y h => fun_tells tb_ok mix (es := []) (EsOk.nil _) Try.func25 (N := k) (an := an_meet_between) (by kernel_rfl) x y ((eq_meet_between k (x.1) (x.2.1) (x.2.2)).trans h)

def an_meet_On : Ann := .node none none .leaf (.node none none (.node (some [(6, .d .bool)]) none .leaf .leaf) .leaf)
def b_meet_On (k : Nat) (c_pred_Fits : (List (Int × Int)) → Option Bool) (c_pred_Orient : (Int × Int) → (Int × Int) → (Int × Int) → Option Int) (c_meet_between : Int → Int → Int → Option Bool) (a0 : (Int × Int)) (a1 : (Int × Int)) (a2 : (Int × Int)) : Option Bool :=
  meet (α := Bool) (fun y0 =>
    some y0) fun j1 =>
   bif !((decide (a0.1 = a1.1)) && (decide (a0.2 = a1.2))) then
    bnd (c_pred_Fits [(a0.1, a0.2), (a1.1, a1.2), (a2.1, a2.2)]) fun r2 =>
    bif r2 then
     bnd (c_pred_Orient (a0.1, a0.2) (a1.1, a1.2) (a2.1, a2.2)) fun r3 =>
     bif decide (r3 = 0) then
      bnd (c_meet_between a0.1 a1.1 a2.1) fun r4 =>
      bif r4 then
       bnd (c_meet_between a0.2 a1.2 a2.2) fun r5 =>
       j1 r5
      else
       j1 false
     else
      j1 false
    else
     j1 false
   else
    j1 false
theorem eq_meet_On (k : Nat) (c_pred_Fits : (List (Int × Int)) → Option Bool) (c_pred_Orient : (Int × Int) → (Int × Int) → (Int × Int) → Option Int) (c_meet_between : Int → Int → Int → Option Bool) (a0 : (Int × Int)) (a1 : (Int × Int)) (a2 : (Int × Int)) : textF [⟨21, [.d (.sl (.pair kI kI))], [.bool], fun x => c_pred_Fits x⟩, ⟨23, [.d (.pair kI kI), .d (.pair kI kI), .d (.pair kI kI)], [kI], fun x => c_pred_Orient (x.1) (x.2.1) (x.2.2)⟩, ⟨25, [.d kI, .d kI, .d kI], [.bool], fun x => c_meet_between (x.1) (x.2.1) (x.2.2)⟩] tb k Try.f13 an_meet_On [.d (.pair kI kI), .d (.pair kI kI), .d (.pair kI kI)] [.bool] (a0, a1, a2) = b_meet_On k c_pred_Fits c_pred_Orient c_meet_between a0 a1 a2 := by kernel_rfl
def g_meet_On (k : Nat) (a0 : (Int × Int)) (a1 : (Int × Int)) (a2 : (Int × Int)) : Option Bool := b_meet_On k (g_pred_Fits k) (g_pred_Orient k) (g_meet_between k) a0 a1 a2
theorem tells_meet_On (k : Nat) : TellsF Try.prog 13 [.d (.pair kI kI), .d (.pair kI kI), .d (.pair kI kI)] [.bool] (fun x => g_meet_On k (x.1) (x.2.1) (x.2.2)) := fun x y h => fun_tells tb_ok mix (es := [⟨21, [.d (.sl (.pair kI kI))], [.bool], fun x => g_pred_Fits k x⟩, ⟨23, [.d (.pair kI kI), .d (.pair kI kI), .d (.pair kI kI)], [kI], fun x => g_pred_Orient k (x.1) (x.2.1) (x.2.2)⟩, ⟨25, [.d kI, .d kI, .d kI], [.bool], fun x => g_meet_between k (x.1) (x.2.1) (x.2.2)⟩]) (EsOk.cons ⟨rfl, tells_pred_Fits k⟩ (EsOk.cons ⟨rfl, tells_pred_Orient k⟩ (EsOk.cons ⟨rfl, tells_meet_between k⟩ (EsOk.nil _)))) Try.func13 (N := k) (an := an_meet_On) (by kernel_rfl) x y ((eq_meet_On k (g_pred_Fits k) (g_pred_Orient k) (g_meet_between k) (x.1) (x.2.1) (x.2.2)).trans h)

def an_meet_Inside : Ann := .node none none .leaf (.node none none (.node (some [(6, .d .bool)]) none .leaf .leaf) .leaf)
def b_meet_Inside (k : Nat) (c_meet_On : (Int × Int) → (Int × Int) → (Int × Int) → Option Bool) (a0 : (Int × Int)) (a1 : (Int × Int)) (a2 : (Int × Int)) : Option Bool :=
  meet (α := Bool) (fun y0 =>
    some y0) fun j1 =>
   bnd (c_meet_On (a0.1, a0.2) (a1.1, a1.2) (a2.1, a2.2)) fun r2 =>
   bif r2 then
    bif !((decide (a2.1 = a0.1)) && (decide (a2.2 = a0.2))) then
     j1 (!((decide (a2.1 = a1.1)) && (decide (a2.2 = a1.2))))
    else
     j1 false
   else
    j1 false
theorem eq_meet_Inside (k : Nat) (c_meet_On : (Int × Int) → (Int × Int) → (Int × Int) → Option Bool) (a0 : (Int × Int)) (a1 : (Int × Int)) (a2 : (Int × Int)) : textF [⟨13, [.d (.pair kI kI), .d (.pair kI kI), .d (.pair kI kI)], [.bool], fun x => c_meet_On (x.1) (x.2.1) (x.2.2)⟩] tb k Try.f15 an_meet_Inside [.d (.pair kI kI), .d (.pair kI kI), .d (.pair kI kI)] [.bool] (a0, a1, a2) = b_meet_Inside k c_meet_On a0 a1 a2 := by kernel_rfl
def g_meet_Inside (k : Nat) (a0 : (Int × Int)) (a1 : (Int × Int)) (a2 : (Int × Int)) : Option Bool := b_meet_Inside k (g_meet_On k) a0 a1 a2
theorem tells_meet_Inside (k : Nat) : TellsF Try.prog 15 [.d (.pair kI kI), .d (.pair kI kI), .d (.pair kI kI)] [.bool] (fun x => g_meet_Inside k (x.1) (x.2.1) (x.2.2)) := fun x y h => fun_tells tb_ok mix (es := [⟨13, [.d (.pair kI kI), .d (.pair kI kI), .d (.pair kI kI)], [.bool], fun x => g_meet_On k (x.1) (x.2.1) (x.2.2)⟩]) (EsOk.cons ⟨rfl, tells_meet_On k⟩ (EsOk.nil _)) Try.func15 (N := k) (an := an_meet_Inside) (by kernel_rfl) x y ((eq_meet_Inside k (g_meet_On k) (x.1) (x.2.1) (x.2.2)).trans h)

def an_meet_Segs : Ann := .node none none .leaf (.node none none (.node none none (.node (some [(4, .box [.d (.pair kI kI)]), (5, .box [.d (.pair kI kI)]), (6, .box [.d (.pair kI kI)]), (7, .box [.d (.pair kI kI)]), (30, .d .bool)]) none .leaf .leaf) .leaf) (.node none none .leaf (.node none none .leaf (.node none none (.node none none .leaf (.node none none (.node none none (.node (some [(10, .d kI), (11, .d kI), (81, .d .bool)]) none .leaf .leaf) (.node none none .leaf (.node none none (.node (some [(10, .d kI), (11, .d kI), (88, .d .bool)]) none .leaf .leaf) .leaf))) .leaf)) .leaf))))
def b_meet_Segs (k : Nat) (c_pred_Fits : (List (Int × Int)) → Option Bool) (c_meet_count : (List Bool) → Option Int) (c_meet_Inside : (Int × Int) → (Int × Int) → (Int × Int) → Option Bool) (c_pred_Orient : (Int × Int) → (Int × Int) → (Int × Int) → Option Int) (a0 : (Int × Int)) (a1 : (Int × Int)) (a2 : (Int × Int)) (a3 : (Int × Int)) : Option (Int × Int) :=
  meet (α := ((Int × Int) × ((Int × Int) × ((Int × Int) × ((Int × Int) × Bool))))) (fun (y0, y1, y2, y3, y4) =>
    bif y4 then
     some (0, 2)
    else
     bnd (c_meet_count [(decide (y0.1 = y2.1)) && (decide (y0.2 = y2.2)), (decide (y0.1 = y3.1)) && (decide (y0.2 = y3.2)), (decide (y1.1 = y2.1)) && (decide (y1.2 = y2.2)), (decide (y1.1 = y3.1)) && (decide (y1.2 = y3.2))]) fun r5 =>
     bnd (c_meet_Inside (y0.1, y0.2) (y1.1, y1.2) (y2.1, y2.2)) fun r6 =>
     bnd (c_meet_Inside (y0.1, y0.2) (y1.1, y1.2) (y3.1, y3.2)) fun r7 =>
     bnd (c_meet_Inside (y2.1, y2.2) (y3.1, y3.2) (y0.1, y0.2)) fun r8 =>
     bnd (c_meet_Inside (y2.1, y2.2) (y3.1, y3.2) (y1.1, y1.2)) fun r9 =>
     bnd (c_meet_count [r6, r7, r8, r9]) fun r10 =>
     bnd (c_pred_Orient (y0.1, y0.2) (y1.1, y1.2) (y2.1, y2.2)) fun r11 =>
     bnd (c_pred_Orient (y0.1, y0.2) (y1.1, y1.2) (y3.1, y3.2)) fun r12 =>
     bnd (c_pred_Orient (y2.1, y2.2) (y3.1, y3.2) (y0.1, y0.2)) fun r13 =>
     bnd (c_pred_Orient (y2.1, y2.2) (y3.1, y3.2) (y1.1, y1.2)) fun r14 =>
     meet (α := (Int × (Int × Bool))) (fun (y15, y16, y17) =>
      bif y17 then
       some (3, 0)
      else
       meet (α := (Int × (Int × Bool))) (fun (y18, y19, y20) =>
        bif y20 then
         some (4, 0)
        else
         bif decide (y18 = 1) then
          some (1, 0)
         else
          bif decide (y19 = 1) then
           some (2, 0)
          else
           some (0, 0)) fun j21 =>
       bif decide (y15 = 2) then
        j21 (y15, y16, true)
       else
        bif decide (y16 > 1) then
         j21 (y15, y16, true)
        else
         bif decide (y15 = 1) then
          j21 (y15, y16, decide (y16 = 1))
         else
          j21 (y15, y16, false)) fun j22 =>
     bif decide ((w64 (r11 * r12)) < 0) then
      j22 (r5, r10, decide ((w64 (r13 * r14)) < 0))
     else
      j22 (r5, r10, false)) fun j23 =>
   bif (decide (a0.1 = a1.1)) && (decide (a0.2 = a1.2)) then
    j23 ((a0.1, a0.2), (a1.1, a1.2), (a2.1, a2.2), (a3.1, a3.2), true)
   else
    bif (decide (a2.1 = a3.1)) && (decide (a2.2 = a3.2)) then
     j23 ((a0.1, a0.2), (a1.1, a1.2), (a2.1, a2.2), (a3.1, a3.2), true)
    else
     bnd (c_pred_Fits [(a0.1, a0.2), (a1.1, a1.2), (a2.1, a2.2), (a3.1, a3.2)]) fun r24 =>
     j23 ((a0.1, a0.2), (a1.1, a1.2), (a2.1, a2.2), (a3.1, a3.2), !r24)
theorem eq_meet_Segs (k : Nat) (c_pred_Fits : (List (Int × Int)) → Option Bool) (c_meet_count : (List Bool) → Option Int) (c_meet_Inside : (Int × Int) → (Int × Int) → (Int × Int) → Option Bool) (c_pred_Orient : (Int × Int) → (Int × Int) → (Int × Int) → Option Int) (a0 : (Int × Int)) (a1 : (Int × Int)) (a2 : (Int × Int)) (a3 : (Int × Int)) : textF [⟨21, [.d (.sl (.pair kI kI))], [.bool], fun x => c_pred_Fits x⟩, ⟨22, [.d (.sl .bool)], [kI], fun x => c_meet_count x⟩, ⟨15, [.d (.pair kI kI), .d (.pair kI kI), .d (.pair kI kI)], [.bool], fun x => c_meet_Inside (x.1) (x.2.1) (x.2.2)⟩, ⟨23, [.d (.pair kI kI), .d (.pair kI kI), .d (.pair kI kI)], [kI], fun x => c_pred_Orient (x.1) (x.2.1) (x.2.2)⟩] tb k Try.f10 an_meet_Segs [.d (.pair kI kI), .d (.pair kI kI), .d (.pair kI kI), .d (.pair kI kI)] [kI, kI] (a0, a1, a2, a3) = b_meet_Segs k c_pred_Fits c_meet_count c_meet_Inside c_pred_Orient a0 a1 a2 a3 := by kernel_rfl
def g_meet_Segs (k : Nat) (a0 : (Int × Int)) (a1 : (Int × Int)) (a2 : (Int × Int)) (a3 : (Int × Int)) : Option (Int × Int) := b_meet_Segs k (g_pred_Fits k) (g_meet_count k) (g_meet_Inside k) (g_pred_Orient k) a0 a1 a2 a3
theorem tells_meet_Segs (k : Nat) : TellsF Try.prog 10 [.d (.pair kI kI), .d (.pair kI kI), .d (.pair kI kI), .d (.pair kI kI)] [kI, kI] (fun x => g_meet_Segs k (x.1) (x.2.1) (x.2.2.1) (x.2.2.2)) := fun x y h => fun_tells tb_ok mix (es := [⟨21, [.d (.sl (.pair kI kI))], [.bool], fun x => g_pred_Fits k x⟩, ⟨22, [.d (.sl .bool)], [kI], fun x => g_meet_count k x⟩, ⟨15, [.d (.pair kI kI), .d (.pair kI kI), .d (.pair kI kI)], [.bool], fun x => g_meet_Inside k (x.1) (x.2.1) (x.2.2)⟩, ⟨23, [.d (.pair kI kI), .d (.pair kI kI), .d (.pair kI kI)], [kI], fun x => g_pred_Orient k (x.1) (x.2.1) (x.2.2)⟩]) (EsOk.cons ⟨rfl, tells_pred_Fits k⟩ (EsOk.cons ⟨rfl, tells_meet_count k⟩ (EsOk.cons ⟨rfl, tells_meet_Inside k⟩ (EsOk.cons ⟨rfl, tells_pred_Orient k⟩ (EsOk.nil _))))) Try.func10 (N := k) (an := an_meet_Segs) (by kernel_rfl) x y ((eq_meet_Segs k (g_pred_Fits k) (g_meet_count k) (g_meet_Inside k) (g_pred_Orient k) (x.1) (x.2.1) (x.2.2.1) (x.2.2.2)).trans h)

def an_parquetref03_Fits : Ann := .node none none .leaf (.node none none (.node (some [(2, .d .bool)]) none .leaf .leaf) .leaf)
def g_parquetref03_Fits (k : Nat) (a0 : (Int × Int)) : Option Bool :=
  meet (α := Bool) (fun y0 =>
    some y0) fun j1 =>
   bif decide (a0.1 ≥ (-4294967296)) then
    bif decide (a0.1 ≤ 4294967296) then
     bif decide (a0.2 ≥ (-4294967296)) then
      j1 (decide (a0.2 ≤ 4294967296))
     else
      j1 false
    else
     j1 false
   else
    j1 false
theorem eq_parquetref03_Fits (k : Nat) (a0 : (Int × Int)) : textF [] tb k Try.f17 an_parquetref03_Fits [.d (.pair kI kI)] [.bool] a0 = g_parquetref03_Fits k a0 := by kernel_rfl
theorem tells_parquetref03_Fits (k : Nat) : TellsF Try.prog 17 [.d (.pair kI kI)] [.bool] (fun x => g_parquetref03_Fits k x) := fun x y h => fun_tells tb_ok mix (es := []) (EsOk.nil _) Try.func17 (N := k) (an := an_parquetref03_Fits) (by kernel_rfl) x y ((eq_parquetref03_Fits k x).trans h)

def an_parquetref01_trim : Ann := .node none none .leaf (.node none none .leaf (.node none none (.node none none (.node none (some [(0, .d .bool), (1, .d (.sl kI)), (4, .box [.d .bool, .row kI 3]), (5, .d kI)]) (.node none none (.node none none (.node (some [(0, .d .bool), (1, .d (.sl kI)), (4, .box [.d .bool, .row kI 3]), (5, .d kI), (17, .d .bool)]) none .leaf .leaf) .leaf) .leaf) .leaf) .leaf) (.node none none (.node (some [(4, .box [.d (.pair .bool (.sl kI))])]) none .leaf .leaf) .leaf)))
def g_parquetref01_trim (k : Nat) (a0 : Bool) (a1 : (List Int)) : Option (Bool × (List Int)) :=
  loopN (α := (Bool × ((List Int) × ((Bool × (List Int)) × Int)))) (fun (x1, x2, x3, x4) next0 =>
    meet (α := (Bool × ((List Int) × ((Bool × (List Int)) × (Int × Bool))))) (fun (y5, y6, y7, y8, y9) =>
     bif y9 then
      next0 (y5, y6, (y7.1, y7.2), w64 (y8 - 1))
     else
      meet (α := (Bool × (List Int))) (fun (y10, y11) =>
       some (y10, y11)) fun j12 =>
      bif y5 then
       gd (decide (0 ≤ y8)) <|
       gd (decide (y8 ≤ (y6.length : Int))) <|
       j12 (decide (y8 > 0), tkL y6 y8)
      else
       gd (decide (0 ≤ y8)) <|
       gd (decide (y8 ≤ (y6.length : Int))) <|
       j12 (false, tkL y6 y8)) fun j13 =>
    bif decide (x4 > 0) then
     gd (inb (w64 (x4 - 1)) x2.length) <|
     j13 (x1, x2, (x3.1, x3.2), x4, decide ((rdD 0 x2 (w64 (x4 - 1))) = 0))
    else
     j13 (x1, x2, (x3.1, x3.2), x4, false)) k (a0, a1, (false, []), (a1.length : Int))
theorem eq_parquetref01_trim (k : Nat) (a0 : Bool) (a1 : (List Int)) : textF [] tb k Try.f36 an_parquetref01_trim [.d .bool, .d (.sl kI)] [.pair .bool (.sl kI)] (a0, a1) = g_parquetref01_trim k a0 a1 := by kernel_rfl
theorem tells_parquetref01_trim (k : Nat) : TellsF Try.prog 36 [.d .bool, .d (.sl kI)] [.pair .bool (.sl kI)] (fun x => g_parquetref01_trim k (x.1) (x.2)) := fun x y h => fun_tells tb_ok mix (es := []) (EsOk.nil _) Try.func36 (N := k) (an := an_parquetref01_trim) (by kernel_rfl) x y ((eq_parquetref01_trim k (x.1) (x.2)).trans h)

def an_parquetref01_Small : Ann := .node none none .leaf (.node none none .leaf (.node none none .leaf (.node none none (.node none none (.node none (some [(0, .d kI), (2, .box [.d .bool, .row kI 3]), (3, .row kI 3), (4, .d kI)]) (.node none none .leaf (.node none none (.node none none .leaf (.node none none (.node none none .leaf (.node (some [(0, .d kI), (2, .box [.d .bool, .row kI 3]), (3, .row kI 3), (4, .d kI), (5, .d kI)]) none .leaf .leaf)) .leaf)) .leaf)) .leaf) .leaf) .leaf)))
def b_parquetref01_Small (k : Nat) (c_parquetref01_trim : Bool → (List Int) → Option (Bool × (List Int))) (a0 : Int) : Option (Bool × (List Int)) :=
  loopN (α := (Int × ((Bool × (List Int)) × ((List Int) × Int)))) (fun (x1, x2, x3, x4) next0 =>
    bif !(decide (x4 = 0)) then
     meet (α := (Int × ((Bool × (List Int)) × ((List Int) × (Int × Int))))) (fun (y5, y6, y7, y8, y9) =>
      gd (few (y7.length + 1)) <|
      next0 (y5, (y6.1, y6.2), y7 ++ [y9], w64 (y8.tdiv 65536))) fun j10 =>
     bif decide ((x4.tmod 65536) < 0) then
      j10 (x1, (x2.1, x2.2), x3, x4, w64 (0 - (x4.tmod 65536)))
     else
      j10 (x1, (x2.1, x2.2), x3, x4, x4.tmod 65536)
    else
     bnd (c_parquetref01_trim (decide (x1 < 0)) x3) fun r11 =>
     some (r11.1, r11.2)) k (a0, (false, []), [], a0)
theorem eq_parquetref01_Small (k : Nat) (c_parquetref01_trim : Bool → (List Int) → Option (Bool × (List Int))) (a0 : Int) : textF [⟨36, [.d .bool, .d (.sl kI)], [.pair .bool (.sl kI)], fun x => c_parquetref01_trim (x.1) (x.2)⟩] tb k Try.f29 an_parquetref01_Small [.d kI] [.pair .bool (.sl kI)] a0 = b_parquetref01_Small k c_parquetref01_trim a0 := by kernel_rfl
def g_parquetref01_Small (k : Nat) (a0 : Int) : Option (Bool × (List Int)) := b_parquetref01_Small k (g_parquetref01_trim k) a0
theorem tells_parquetref01_Small (k : Nat) : TellsF Try.prog 29 [.d kI] [.pair .bool (.sl kI)] (fun x => g_parquetref01_Small k x) := fun x y h => fun_tells tb_ok mix (es := [⟨36, [.d .bool, .d (.sl kI)], [.pair .bool (.sl kI)], fun x => g_parquetref01_trim k (x.1) (x.2)⟩]) (EsOk.cons ⟨rfl, tells_parquetref01_trim k⟩ (EsOk.nil _)) Try.func29 (N := k) (an := an_parquetref01_Small) (by kernel_rfl) x y ((eq_parquetref01_Small k (g_parquetref01_trim k) x).trans h)

def an_parquetref03_num : Ann := .leaf
def b_parquetref03_num (k : Nat) (c_parquetref01_Small : Int → Option (Bool × (List Int))) (a0 : Int) : Option (Bool × (List Int)) :=
  bnd (c_parquetref01_Small a0) fun r0 =>
   some (r0.1, r0.2)
theorem eq_parquetref03_num (k : Nat) (c_parquetref01_Small : Int → Option (Bool × (List Int))) (a0 : Int) : textF [⟨29, [.d kI], [.pair .bool (.sl kI)], fun x => c_parquetref01_Small x⟩] tb k Try.f33 an_parquetref03_num [.d kI] [.pair .bool (.sl kI)] a0 = b_parquetref03_num k c_parquetref01_Small a0 := by kernel_rfl
def g_parquetref03_num (k : Nat) (a0 : Int) : Option (Bool × (List Int)) := b_parquetref03_num k (g_parquetref01_Small k) a0
theorem tells_parquetref03_num (k : Nat) : TellsF Try.prog 33 [.d kI] [.pair .bool (.sl kI)] (fun x => g_parquetref03_num k x) := fun x y h => fun_tells tb_ok mix (es := [⟨29, [.d kI], [.pair .bool (.sl kI)], fun x => g_parquetref01_Small k x⟩]) (EsOk.cons ⟨rfl, tells_parquetref01_Small k⟩ (EsOk.nil _)) Try.func33 (N := k) (an := an_parquetref03_num) (by kernel_rfl) x y ((eq_parquetref03_num k (g_parquetref01_Small k) x).trans h)

def an_parquetref01_digit : Ann := .leaf
def g_parquetref01_digit (k : Nat) (a0 : (List Int)) (a1 : Int) : Option Int :=
  bif decide (a1 < (a0.length : Int)) then
    gd (inb a1 a0.length) <|
    some (rdD 0 a0 a1)
   else
    some 0
theorem eq_parquetref01_digit (k : Nat) (a0 : (List Int)) (a1 : Int) : textF [] tb k Try.f37 an_parquetref01_digit [.d (.sl kI), .d kI] [kI] (a0, a1) = g_parquetref01_digit k a0 a1 := by kernel_rfl
theorem tells_parquetref01_digit (k : Nat) : TellsF Try.prog 37 [.d (.sl kI), .d kI] [kI] (fun x => g_parquetref01_digit k (x.1) (x.2)) := fun x y h => fun_tells tb_ok mix (es := []) (EsOk.nil _) Try.func37 (N := k) (an := an_parquetref01_digit) (by kernel_rfl) x y ((eq_parquetref01_digit k (x.1) (x.2)).trans h)

def an_parquetref01_Num_Times : Ann := .node none none .leaf (.node none none .leaf (.node none none (.node none none .leaf (.node none none (.node none (some [(2, .box [.d (.pair .bool (.sl kI))]), (3, .box [.d (.pair .bool (.sl kI))]), (4, .box [.d .bool, .row kI 3]), (5, .row kI 3), (6, .d kI)]) (.node none none .leaf (.node none none (.node none none (.node none none .leaf (.node none none .leaf (.node none none (.node none (some [(2, .box [.d (.pair .bool (.sl kI))]), (3, .box [.d (.pair .bool (.sl kI))]), (4, .box [.d .bool, .row kI 3]), (5, .row kI 3), (6, .d kI), (7, .d kI), (8, .d kI)]) (.node none none (.node none none (.node (some [(2, .box [.d (.pair .bool (.sl kI))]), (3, .box [.d (.pair .bool (.sl kI))]), (4, .box [.d .bool, .row kI 3]), (5, .row kI 3), (6, .d kI), (7, .d kI), (8, .d kI), (34, .d .bool)]) none .leaf .leaf) .leaf) .leaf) .leaf) .leaf))) .leaf) .leaf)) .leaf) .leaf)) .leaf))
def b_parquetref01_Num_Times (k : Nat) (c_parquetref01_digit : (List Int) → Int → Option Int) (c_parquetref01_trim : Bool → (List Int) → Option (Bool × (List Int))) (a0 : (Bool × (List Int))) (a1 : (Bool × (List Int))) : Option (Bool × (List Int)) :=
  gd (decide (0 ≤ (w64 ((w64 ((a0.2.length : Int) + (a1.2.length : Int))) + 1)))) <|
   gd (fewI (w64 ((w64 ((a0.2.length : Int) + (a1.2.length : Int))) + 1))) <|
   loopN (α := ((Bool × (List Int)) × ((Bool × (List Int)) × ((Bool × (List Int)) × ((List Int) × Int))))) (fun (x1, x2, x3, x4, x5) next0 =>
    bif decide (x5 < (x1.2.length : Int)) then
     loopN (α := ((Bool × (List Int)) × ((Bool × (List Int)) × ((Bool × (List Int)) × ((List Int) × (Int × (Int × Int))))))) (fun (x7, x8, x9, x10, x11, x12, x13) next6 =>
      meet (α := ((Bool × (List Int)) × ((Bool × (List Int)) × ((Bool × (List Int)) × ((List Int) × (Int × (Int × (Int × Bool)))))))) (fun (y14, y15, y16, y17, y18, y19, y20, y21) =>
       bif y21 then
        gd (inb (w64 (y18 + y20)) y17.length) <|
        gd (inb y18 y14.2.length) <|
        bnd (c_parquetref01_digit y15.2 y20) fun r22 =>
        gd (inb (w64 (y18 + y20)) y17.length) <|
        next6 ((y14.1, y14.2), (y15.1, y15.2), (y16.1, y16.2), stL y17 (w64 (y18 + y20)) ((w64 ((w64 ((rdD 0 y17 (w64 (y18 + y20))) + (w64 ((rdD 0 y14.2 y18) * r22)))) + y19)).tmod 65536), y18, w64 ((w64 ((w64 ((rdD 0 y17 (w64 (y18 + y20))) + (w64 ((rdD 0 y14.2 y18) * r22)))) + y19)).tdiv 65536), w64 (y20 + 1))
       else
        next0 ((y14.1, y14.2), (y15.1, y15.2), (y16.1, y16.2), y17, w64 (y18 + 1))) fun j23 =>
      bif decide (x13 < (x8.2.length : Int)) then
       j23 ((x7.1, x7.2), (x8.1, x8.2), (x9.1, x9.2), x10, x11, x12, x13, true)
      else
       j23 ((x7.1, x7.2), (x8.1, x8.2), (x9.1, x9.2), x10, x11, x12, x13, decide (x12 > 0))) k ((x1.1, x1.2), (x2.1, x2.2), (x3.1, x3.2), x4, x5, 0, 0)
    else
     bnd (c_parquetref01_trim (!(x1.1 == x2.1)) x4) fun r24 =>
     some (r24.1, r24.2)) k ((a0.1, a0.2), (a1.1, a1.2), (false, []), rpL (w64 ((w64 ((a0.2.length : Int) + (a1.2.length : Int))) + 1)) 0, 0)
theorem eq_parquetref01_Num_Times (k : Nat) (c_parquetref01_digit : (List Int) → Int → Option Int) (c_parquetref01_trim : Bool → (List Int) → Option (Bool × (List Int))) (a0 : (Bool × (List Int))) (a1 : (Bool × (List Int))) : textF [⟨37, [.d (.sl kI), .d kI], [kI], fun x => c_parquetref01_digit (x.1) (x.2)⟩, ⟨36, [.d .bool, .d (.sl kI)], [.pair .bool (.sl kI)], fun x => c_parquetref01_trim (x.1) (x.2)⟩] tb k Try.f30 an_parquetref01_Num_Times [.d (.pair .bool (.sl kI)), .d (.pair .bool (.sl kI))] [.pair .bool (.sl kI)] (a0, a1) = b_parquetref01_Num_Times k c_parquetref01_digit c_parquetref01_trim a0 a1 := by kernel_rfl
def g_parquetref01_Num_Times (k : Nat) (a0 : (Bool × (List Int))) (a1 : (Bool × (List Int))) : Option (Bool × (List Int)) := b_parquetref01_Num_Times k (g_parquetref01_digit k) (g_parquetref01_trim k) a0 a1
theorem tells_parquetref01_Num_Times (k : Nat) : TellsF Try.prog 30 [.d (.pair .bool (.sl kI)), .d (.pair .bool (.sl kI))] [.pair .bool (.sl kI)] (fun x => g_parquetref01_Num_Times k (x.1) (x.2)) := fun x y h => fun_tells tb_ok mix (es := [⟨37, [.d (.sl kI), .d kI], [kI], fun x => g_parquetref01_digit k (x.1) (x.2)⟩, ⟨36, [.d .bool, .d (.sl kI)], [.pair .bool (.sl kI)], fun x => g_parquetref01_trim k (x.1) (x.2)⟩]) (EsOk.cons ⟨rfl, tells_parquetref01_digit k⟩ (EsOk.cons ⟨rfl, tells_parquetref01_trim k⟩ (EsOk.nil _))) Try.func30 (N := k) (an := an_parquetref01_Num_Times) (by kernel_rfl) x y ((eq_parquetref01_Num_Times k (g_parquetref01_digit k) (g_parquetref01_trim k) (x.1) (x.2)).trans h)

def an_parquetref01_Num_Neg : Ann := .node none none .leaf (.node none none (.node (some [(2, .box [.d (.pair .bool (.sl kI))])]) none .leaf .leaf) .leaf)
def g_parquetref01_Num_Neg (k : Nat) (a0 : (Bool × (List Int))) : Option (Bool × (List Int)) :=
  meet (α := (Bool × (List Int))) (fun (y0, y1) =>
    some (y0, y1)) fun j2 =>
   bif !a0.1 then
    j2 (decide ((a0.2.length : Int) > 0), a0.2)
   else
    j2 (false, a0.2)
theorem eq_parquetref01_Num_Neg (k : Nat) (a0 : (Bool × (List Int))) : textF [] tb k Try.f43 an_parquetref01_Num_Neg [.d (.pair .bool (.sl kI))] [.pair .bool (.sl kI)] a0 = g_parquetref01_Num_Neg k a0 := by kernel_rfl
theorem tells_parquetref01_Num_Neg (k : Nat) : TellsF Try.prog 43 [.d (.pair .bool (.sl kI))] [.pair .bool (.sl kI)] (fun x => g_parquetref01_Num_Neg k x) := fun x y h => fun_tells tb_ok mix (es := []) (EsOk.nil _) Try.func43 (N := k) (an := an_parquetref01_Num_Neg) (by kernel_rfl) x y ((eq_parquetref01_Num_Neg k x).trans h)

def an_parquetref01_size : Ann := .node none none .leaf (.node none none .leaf (.node none none (.node none none .leaf (.node none none (.node none (some [(0, .d (.sl kI)), (1, .d (.sl kI)), (5, .d kI)]) .leaf .leaf) .leaf)) .leaf))
def g_parquetref01_size (k : Nat) (a0 : (List Int)) (a1 : (List Int)) : Option Int :=
  bif !(decide ((a0.length : Int) = (a1.length : Int))) then
    some (w64 ((a0.length : Int) - (a1.length : Int)))
   else
    loopN (α := ((List Int) × ((List Int) × Int))) (fun (x1, x2, x3) next0 =>
     bif decide (x3 ≥ 0) then
      gd (inb x3 x1.length) <|
      gd (inb x3 x2.length) <|
      bif !(decide ((rdD 0 x1 x3) = (rdD 0 x2 x3))) then
       gd (inb x3 x1.length) <|
       gd (inb x3 x2.length) <|
       some (w64 ((rdD 0 x1 x3) - (rdD 0 x2 x3)))
      else
       next0 (x1, x2, w64 (x3 - 1))
     else
      some 0) k (a0, a1, w64 ((a0.length : Int) - 1))
theorem eq_parquetref01_size (k : Nat) (a0 : (List Int)) (a1 : (List Int)) : textF [] tb k Try.f38 an_parquetref01_size [.d (.sl kI), .d (.sl kI)] [kI] (a0, a1) = g_parquetref01_size k a0 a1 := by kernel_rfl
theorem tells_parquetref01_size (k : Nat) : TellsF Try.prog 38 [.d (.sl kI), .d (.sl kI)] [kI] (fun x => g_parquetref01_size k (x.1) (x.2)) := fun x y h => fun_tells tb_ok mix (es := []) (EsOk.nil _) Try.func38 (N := k) (an := an_parquetref01_size) (by kernel_rfl) x y ((eq_parquetref01_size k (x.1) (x.2)).trans h)

def an_parquetref01_Num_Plus : Ann := .node none none .leaf (.node none none .leaf (.node none none .leaf (.node none none (.node none none .leaf (.node none none (.node none none (.node none none .leaf (.node none none (.node none (some [(2, .box [.d (.pair .bool (.sl kI))]), (3, .box [.d (.pair .bool (.sl kI))]), (4, .box [.d .bool, .row kI 3]), (5, .row kI 3), (6, .d kI), (7, .d kI)]) (.node none none (.node none none (.node (some [(2, .box [.d (.pair .bool (.sl kI))]), (3, .box [.d (.pair .bool (.sl kI))]), (4, .box [.d .bool, .row kI 3]), (5, .row kI 3), (6, .d kI), (7, .d kI), (33, .d .bool)]) none .leaf .leaf) .leaf) .leaf) .leaf) .leaf)) .leaf) .leaf)) (.node none none .leaf (.node none none .leaf (.node none none (.node none none .leaf (.node (some [(4, .box [.d .bool, .row kI 3]), (5, .row kI 3), (6, .d kI), (9, .box [.d (.pair .bool (.sl kI))]), (10, .box [.d (.pair .bool (.sl kI))])]) none .leaf .leaf)) (.node none none (.node none none .leaf (.node none none (.node none (some [(4, .box [.d .bool, .row kI 3]), (5, .row kI 3), (6, .d kI), (9, .box [.d (.pair .bool (.sl kI))]), (10, .box [.d (.pair .bool (.sl kI))]), (11, .d kI)]) (.node none none .leaf (.node none none (.node none none (.node none none .leaf (.node none none .leaf (.node none none (.node none none .leaf (.node (some [(4, .box [.d .bool, .row kI 3]), (5, .row kI 3), (6, .d kI), (9, .box [.d (.pair .bool (.sl kI))]), (10, .box [.d (.pair .bool (.sl kI))]), (11, .d kI), (12, .d kI)]) none .leaf .leaf)) .leaf))) .leaf) .leaf)) .leaf) .leaf)) .leaf)))))))
def b_parquetref01_Num_Plus (k : Nat) (c_parquetref01_digit : (List Int) → Int → Option Int) (c_parquetref01_trim : Bool → (List Int) → Option (Bool × (List Int))) (c_parquetref01_size : (List Int) → (List Int) → Option Int) (a0 : (Bool × (List Int))) (a1 : (Bool × (List Int))) : Option (Bool × (List Int)) :=
  bif a0.1 == a1.1 then
    loopN (α := ((Bool × (List Int)) × ((Bool × (List Int)) × ((Bool × (List Int)) × ((List Int) × (Int × Int)))))) (fun (x1, x2, x3, x4, x5, x6) next0 =>
     meet (α := ((Bool × (List Int)) × ((Bool × (List Int)) × ((Bool × (List Int)) × ((List Int) × (Int × (Int × Bool))))))) (fun (y7, y8, y9, y10, y11, y12, y13) =>
      bif y13 then
       bnd (c_parquetref01_digit y7.2 y12) fun r14 =>
       bnd (c_parquetref01_digit y8.2 y12) fun r15 =>
       gd (few (y10.length + 1)) <|
       next0 ((y7.1, y7.2), (y8.1, y8.2), (y9.1, y9.2), y10 ++ [(w64 ((w64 (r14 + r15)) + y11)).tmod 65536], w64 ((w64 ((w64 (r14 + r15)) + y11)).tdiv 65536), w64 (y12 + 1))
      else
       bnd (c_parquetref01_trim y7.1 y10) fun r16 =>
       some (r16.1, r16.2)) fun j17 =>
     bif decide (x6 < (x1.2.length : Int)) then
      j17 ((x1.1, x1.2), (x2.1, x2.2), (x3.1, x3.2), x4, x5, x6, true)
     else
      bif decide (x6 < (x2.2.length : Int)) then
       j17 ((x1.1, x1.2), (x2.1, x2.2), (x3.1, x3.2), x4, x5, x6, true)
      else
       j17 ((x1.1, x1.2), (x2.1, x2.2), (x3.1, x3.2), x4, x5, x6, decide (x5 > 0))) k ((a0.1, a0.2), (a1.1, a1.2), (false, []), [], 0, 0)
   else
    bnd (c_parquetref01_size a0.2 a1.2) fun r18 =>
    meet (α := ((Bool × (List Int)) × ((List Int) × (Int × ((Bool × (List Int)) × (Bool × (List Int))))))) (fun (y19, y20, y21, y22, y23, y24) =>
     loopN (α := ((Bool × (List Int)) × ((List Int) × (Int × ((Bool × (List Int)) × ((Bool × (List Int)) × Int)))))) (fun (x26, x27, x28, x29, x30, x31) next25 =>
      bif decide (x31 < (x29.2.length : Int)) then
       gd (inb x31 x29.2.length) <|
       bnd (c_parquetref01_digit x30.2 x31) fun r32 =>
       meet (α := ((Bool × (List Int)) × ((List Int) × (Int × ((Bool × (List Int)) × ((Bool × (List Int)) × (Int × Int))))))) (fun (y33, y34, y35, y36, y37, y38, y39) =>
        gd (few (y34.length + 1)) <|
        next25 ((y33.1, y33.2), y34 ++ [y39], y35, (y36.1, y36.2), (y37.1, y37.2), w64 (y38 + 1))) fun j40 =>
       bif decide ((w64 ((w64 ((rdD 0 x29.2 x31) - r32)) - x28)) < 0) then
        j40 ((x26.1, x26.2), x27, 1, (x29.1, x29.2), (x30.1, x30.2), x31, w64 ((w64 ((w64 ((rdD 0 x29.2 x31) - r32)) - x28)) + 65536))
       else
        j40 ((x26.1, x26.2), x27, 0, (x29.1, x29.2), (x30.1, x30.2), x31, w64 ((w64 ((rdD 0 x29.2 x31) - r32)) - x28))
      else
       bnd (c_parquetref01_trim x29.1 x27) fun r41 =>
       some (r41.1, r41.2)) k ((y19.1, y19.2), y20, y21, (y22.1, y22.2), (y23, y24), 0)) fun j42 =>
    bif decide (r18 < 0) then
     j42 ((false, []), [], 0, (a1.1, a1.2), a0.1, a0.2)
    else
     j42 ((false, []), [], 0, (a0.1, a0.2), a1.1, a1.2)
theorem eq_parquetref01_Num_Plus (k : Nat) (c_parquetref01_digit : (List Int) → Int → Option Int) (c_parquetref01_trim : Bool → (List Int) → Option (Bool × (List Int))) (c_parquetref01_size : (List Int) → (List Int) → Option Int) (a0 : (Bool × (List Int))) (a1 : (Bool × (List Int))) : textF [⟨37, [.d (.sl kI), .d kI], [kI], fun x => c_parquetref01_digit (x.1) (x.2)⟩, ⟨36, [.d .bool, .d (.sl kI)], [.pair .bool (.sl kI)], fun x => c_parquetref01_trim (x.1) (x.2)⟩, ⟨38, [.d (.sl kI), .d (.sl kI)], [kI], fun x => c_parquetref01_size (x.1) (x.2)⟩] tb k Try.f31 an_parquetref01_Num_Plus [.d (.pair .bool (.sl kI)), .d (.pair .bool (.sl kI))] [.pair .bool (.sl kI)] (a0, a1) = b_parquetref01_Num_Plus k c_parquetref01_digit c_parquetref01_trim c_parquetref01_size a0 a1 := by kernel_rfl
def g_parquetref01_Num_Plus (k : Nat) (a0 : (Bool × (List Int))) (a1 : (Bool × (List Int))) : Option (Bool × (List Int)) := b_parquetref01_Num_Plus k (g_parquetref01_digit k) (g_parquetref01_trim k) (g_parquetref01_size k) a0 a1
theorem tells_parquetref01_Num_Plus (k : Nat) : TellsF Try.prog 31 [.d (.pair .bool (.sl kI)), .d (.pair .bool (.sl kI))] [.pair .bool (.sl kI)] (fun x => g_parquetref01_Num_Plus k (x.1) (x.2)) := fun x y h => fun_tells tb_ok mix (es := [⟨37, [.d (.sl kI), .d kI], [kI], fun x => g_parquetref01_digit k (x.1) (x.2)⟩, ⟨36, [.d .bool, .d (.sl kI)], [.pair .bool (.sl kI)], fun x => g_parquetref01_trim k (x.1) (x.2)⟩, ⟨38, [.d (.sl kI), .d (.sl kI)], [kI], fun x => g_parquetref01_size k (x.1) (x.2)⟩]) (EsOk.cons ⟨rfl, tells_parquetref01_digit k⟩ (EsOk.cons ⟨rfl, tells_parquetref01_trim k⟩ (EsOk.cons ⟨rfl, tells_parquetref01_size k⟩ (EsOk.nil _)))) Try.func31 (N := k) (an := an_parquetref01_Num_Plus) (by kernel_rfl) x y ((eq_parquetref01_Num_Plus k (g_parquetref01_digit k) (g_parquetref01_trim k) (g_parquetref01_size k) (x.1) (x.2)).trans h)

def an_parquetref03_minus : Ann := .leaf
def b_parquetref03_minus (k : Nat) (c_parquetref01_Num_Neg : (Bool × (List Int)) → Option (Bool × (List Int))) (c_parquetref01_Num_Plus : (Bool × (List Int)) → (Bool × (List Int)) → Option (Bool × (List Int))) (a0 : (Bool × (List Int))) (a1 : (Bool × (List Int))) : Option (Bool × (List Int)) :=
  bnd (c_parquetref01_Num_Neg (a1.1, a1.2)) fun r0 =>
   bnd (c_parquetref01_Num_Plus (a0.1, a0.2) (r0.1, r0.2)) fun r1 =>
   some (r1.1, r1.2)
theorem eq_parquetref03_minus (k : Nat) (c_parquetref01_Num_Neg : (Bool × (List Int)) → Option (Bool × (List Int))) (c_parquetref01_Num_Plus : (Bool × (List Int)) → (Bool × (List Int)) → Option (Bool × (List Int))) (a0 : (Bool × (List Int))) (a1 : (Bool × (List Int))) : textF [⟨43, [.d (.pair .bool (.sl kI))], [.pair .bool (.sl kI)], fun x => c_parquetref01_Num_Neg x⟩, ⟨31, [.d (.pair .bool (.sl kI)), .d (.pair .bool (.sl kI))], [.pair .bool (.sl kI)], fun x => c_parquetref01_Num_Plus (x.1) (x.2)⟩] tb k Try.f39 an_parquetref03_minus [.d (.pair .bool (.sl kI)), .d (.pair .bool (.sl kI))] [.pair .bool (.sl kI)] (a0, a1) = b_parquetref03_minus k c_parquetref01_Num_Neg c_parquetref01_Num_Plus a0 a1 := by kernel_rfl
def g_parquetref03_minus (k : Nat) (a0 : (Bool × (List Int))) (a1 : (Bool × (List Int))) : Option (Bool × (List Int)) := b_parquetref03_minus k (g_parquetref01_Num_Neg k) (g_parquetref01_Num_Plus k) a0 a1
theorem tells_parquetref03_minus (k : Nat) : TellsF Try.prog 39 [.d (.pair .bool (.sl kI)), .d (.pair .bool (.sl kI))] [.pair .bool (.sl kI)] (fun x => g_parquetref03_minus k (x.1) (x.2)) := fun x y h => fun_tells tb_ok mix (es := [⟨43, [.d (.pair .bool (.sl kI))], [.pair .bool (.sl kI)], fun x => g_parquetref01_Num_Neg k x⟩, ⟨31, [.d (.pair .bool (.sl kI)), .d (.pair .bool (.sl kI))], [.pair .bool (.sl kI)], fun x => g_parquetref01_Num_Plus k (x.1) (x.2)⟩]) (EsOk.cons ⟨rfl, tells_parquetref01_Num_Neg k⟩ (EsOk.cons ⟨rfl, tells_parquetref01_Num_Plus k⟩ (EsOk.nil _))) Try.func39 (N := k) (an := an_parquetref03_minus) (by kernel_rfl) x y ((eq_parquetref03_minus k (g_parquetref01_Num_Neg k) (g_parquetref01_Num_Plus k) (x.1) (x.2)).trans h)

def an_parquetref03_Det : Ann := .leaf
def b_parquetref03_Det (k : Nat) (c_parquetref01_Num_Times : (Bool × (List Int)) → (Bool × (List Int)) → Option (Bool × (List Int))) (c_parquetref03_minus : (Bool × (List Int)) → (Bool × (List Int)) → Option (Bool × (List Int))) (a0 : (Bool × (List Int))) (a1 : (Bool × (List Int))) (a2 : (Bool × (List Int))) (a3 : (Bool × (List Int))) : Option (Bool × (List Int)) :=
  bnd (c_parquetref01_Num_Times (a0.1, a0.2) (a3.1, a3.2)) fun r0 =>
   bnd (c_parquetref01_Num_Times (a1.1, a1.2) (a2.1, a2.2)) fun r1 =>
   bnd (c_parquetref03_minus (r0.1, r0.2) (r1.1, r1.2)) fun r2 =>
   some (r2.1, r2.2)
theorem eq_parquetref03_Det (k : Nat) (c_parquetref01_Num_Times : (Bool × (List Int)) → (Bool × (List Int)) → Option (Bool × (List Int))) (c_parquetref03_minus : (Bool × (List Int)) → (Bool × (List Int)) → Option (Bool × (List Int))) (a0 : (Bool × (List Int))) (a1 : (Bool × (List Int))) (a2 : (Bool × (List Int))) (a3 : (Bool × (List Int))) : textF [⟨30, [.d (.pair .bool (.sl kI)), .d (.pair .bool (.sl kI))], [.pair .bool (.sl kI)], fun x => c_parquetref01_Num_Times (x.1) (x.2)⟩, ⟨39, [.d (.pair .bool (.sl kI)), .d (.pair .bool (.sl kI))], [.pair .bool (.sl kI)], fun x => c_parquetref03_minus (x.1) (x.2)⟩] tb k Try.f32 an_parquetref03_Det [.d (.pair .bool (.sl kI)), .d (.pair .bool (.sl kI)), .d (.pair .bool (.sl kI)), .d (.pair .bool (.sl kI))] [.pair .bool (.sl kI)] (a0, a1, a2, a3) = b_parquetref03_Det k c_parquetref01_Num_Times c_parquetref03_minus a0 a1 a2 a3 := by kernel_rfl
def g_parquetref03_Det (k : Nat) (a0 : (Bool × (List Int))) (a1 : (Bool × (List Int))) (a2 : (Bool × (List Int))) (a3 : (Bool × (List Int))) : Option (Bool × (List Int)) := b_parquetref03_Det k (g_parquetref01_Num_Times k) (g_parquetref03_minus k) a0 a1 a2 a3
theorem tells_parquetref03_Det (k : Nat) : TellsF Try.prog 32 [.d (.pair .bool (.sl kI)), .d (.pair .bool (.sl kI)), .d (.pair .bool (.sl kI)), .d (.pair .bool (.sl kI))] [.pair .bool (.sl kI)] (fun x => g_parquetref03_Det k (x.1) (x.2.1) (x.2.2.1) (x.2.2.2)) := fun x y h => fun_tells tb_ok mix (es := [⟨30, [.d (.pair .bool (.sl kI)), .d (.pair .bool (.sl kI))], [.pair .bool (.sl kI)], fun x => g_parquetref01_Num_Times k (x.1) (x.2)⟩, ⟨39, [.d (.pair .bool (.sl kI)), .d (.pair .bool (.sl kI))], [.pair .bool (.sl kI)], fun x => g_parquetref03_minus k (x.1) (x.2)⟩]) (EsOk.cons ⟨rfl, tells_parquetref01_Num_Times k⟩ (EsOk.cons ⟨rfl, tells_parquetref03_minus k⟩ (EsOk.nil _))) Try.func32 (N := k) (an := an_parquetref03_Det) (by kernel_rfl) x y ((eq_parquetref03_Det k (g_parquetref01_Num_Times k) (g_parquetref03_minus k) (x.1) (x.2.1) (x.2.2.1) (x.2.2.2)).trans h)

def an_parquetref03_Area : Ann := .leaf
def b_parquetref03_Area (k : Nat) (c_parquetref03_num : Int → Option (Bool × (List Int))) (c_parquetref03_Det : (Bool × (List Int)) → (Bool × (List Int)) → (Bool × (List Int)) → (Bool × (List Int)) → Option (Bool × (List Int))) (c_parquetref01_Num_Plus : (Bool × (List Int)) → (Bool × (List Int)) → Option (Bool × (List Int))) (a0 : (Int × Int)) (a1 : (Int × Int)) (a2 : (Int × Int)) : Option (Bool × (List Int)) :=
  bnd (c_parquetref03_num a0.1) fun r0 =>
   bnd (c_parquetref03_num a0.2) fun r1 =>
   bnd (c_parquetref03_num a1.1) fun r2 =>
   bnd (c_parquetref03_num a1.2) fun r3 =>
   bnd (c_parquetref03_Det (r0.1, r0.2) (r1.1, r1.2) (r2.1, r2.2) (r3.1, r3.2)) fun r4 =>
   bnd (c_parquetref03_num a1.1) fun r5 =>
   bnd (c_parquetref03_num a1.2) fun r6 =>
   bnd (c_parquetref03_num a2.1) fun r7 =>
   bnd (c_parquetref03_num a2.2) fun r8 =>
   bnd (c_parquetref03_Det (r5.1, r5.2) (r6.1, r6.2) (r7.1, r7.2) (r8.1, r8.2)) fun r9 =>
   bnd (c_parquetref01_Num_Plus (r4.1, r4.2) (r9.1, r9.2)) fun r10 =>
   bnd (c_parquetref03_num a2.1) fun r11 =>
   bnd (c_parquetref03_num a2.2) fun r12 =>
   bnd (c_parquetref03_num a0.1) fun r13 =>
   bnd (c_parquetref03_num a0.2) fun r14 =>
   bnd (c_parquetref03_Det (r11.1, r11.2) (r12.1, r12.2) (r13.1, r13.2) (r14.1, r14.2)) fun r15 =>
   bnd (c_parquetref01_Num_Plus (r10.1, r10.2) (r15.1, r15.2)) fun r16 =>
   some (r16.1, r16.2)
theorem eq_parquetref03_Area (k : Nat) (c_parquetref03_num : Int → Option (Bool × (List Int))) (c_parquetref03_Det : (Bool × (List Int)) → (Bool × (List Int)) → (Bool × (List Int)) → (Bool × (List Int)) → Option (Bool × (List Int))) (c_parquetref01_Num_Plus : (Bool × (List Int)) → (Bool × (List Int)) → Option (Bool × (List Int))) (a0 : (Int × Int)) (a1 : (Int × Int)) (a2 : (Int × Int)) : textF [⟨33, [.d kI], [.pair .bool (.sl kI)], fun x => c_parquetref03_num x⟩, ⟨32, [.d (.pair .bool (.sl kI)), .d (.pair .bool (.sl kI)), .d (.pair .bool (.sl kI)), .d (.pair .bool (.sl kI))], [.pair .bool (.sl kI)], fun x => c_parquetref03_Det (x.1) (x.2.1) (x.2.2.1) (x.2.2.2)⟩, ⟨31, [.d (.pair .bool (.sl kI)), .d (.pair .bool (.sl kI))], [.pair .bool (.sl kI)], fun x => c_parquetref01_Num_Plus (x.1) (x.2)⟩] tb k Try.f26 an_parquetref03_Area [.d (.pair kI kI), .d (.pair kI kI), .d (.pair kI kI)] [.pair .bool (.sl kI)] (a0, a1, a2) = b_parquetref03_Area k c_parquetref03_num c_parquetref03_Det c_parquetref01_Num_Plus a0 a1 a2 := by kernel_rfl
def g_parquetref03_Area (k : Nat) (a0 : (Int × Int)) (a1 : (Int × Int)) (a2 : (Int × Int)) : Option (Bool × (List Int)) := b_parquetref03_Area k (g_parquetref03_num k) (g_parquetref03_Det k) (g_parquetref01_Num_Plus k) a0 a1 a2
theorem tells_parquetref03_Area (k : Nat) : TellsF Try.prog 26 [.d (.pair kI kI), .d (.pair kI kI), .d (.pair kI kI)] [.pair .bool (.sl kI)] (fun x => g_parquetref03_Area k (x.1) (x.2.1) (x.2.2)) := fun x y h => fun_tells tb_ok mix (es := [⟨33, [.d kI], [.pair .bool (.sl kI)], fun x => g_parquetref03_num k x⟩, ⟨32, [.d (.pair .bool (.sl kI)), .d (.pair .bool (.sl kI)), .d (.pair .bool (.sl kI)), .d (.pair .bool (.sl kI))], [.pair .bool (.sl kI)], fun x => g_parquetref03_Det k (x.1) (x.2.1) (x.2.2.1) (x.2.2.2)⟩, ⟨31, [.d (.pair .bool (.sl kI)), .d (.pair .bool (.sl kI))], [.pair .bool (.sl kI)], fun x => g_parquetref01_Num_Plus k (x.1) (x.2)⟩]) (EsOk.cons ⟨rfl, tells_parquetref03_num k⟩ (EsOk.cons ⟨rfl, tells_parquetref03_Det k⟩ (EsOk.cons ⟨rfl, tells_parquetref01_Num_Plus k⟩ (EsOk.nil _)))) Try.func26 (N := k) (an := an_parquetref03_Area) (by kernel_rfl) x y ((eq_parquetref03_Area k (g_parquetref03_num k) (g_parquetref03_Det k) (g_parquetref01_Num_Plus k) (x.1) (x.2.1) (x.2.2)).trans h)

def an_parquetref01_Num_Sign : Ann := .leaf
def g_parquetref01_Num_Sign (k : Nat) (a0 : (Bool × (List Int))) : Option Int :=
  bif decide ((a0.2.length : Int) = 0) then
    some 0
   else
    bif a0.1 then
     some (-1)
    else
     some 1
theorem eq_parquetref01_Num_Sign (k : Nat) (a0 : (Bool × (List Int))) : textF [] tb k Try.f27 an_parquetref01_Num_Sign [.d (.pair .bool (.sl kI))] [kI] a0 = g_parquetref01_Num_Sign k a0 := by kernel_rfl
theorem tells_parquetref01_Num_Sign (k : Nat) : TellsF Try.prog 27 [.d (.pair .bool (.sl kI))] [kI] (fun x => g_parquetref01_Num_Sign k x) := fun x y h => fun_tells tb_ok mix (es := []) (EsOk.nil _) Try.func27 (N := k) (an := an_parquetref01_Num_Sign) (by kernel_rfl) x y ((eq_parquetref01_Num_Sign k x).trans h)

def an_parquetref03_Orient : Ann := .node none none .leaf (.node none none (.node none none (.node (some [(3, .box [.d (.pair kI kI)]), (4, .box [.d (.pair kI kI)]), (5, .box [.d (.pair kI kI)]), (19, .d .bool)]) none .leaf .leaf) .leaf) .leaf)
def b_parquetref03_Orient (k : Nat) (c_parquetref03_Fits : (Int × Int) → Option Bool) (c_parquetref03_Area : (Int × Int) → (Int × Int) → (Int × Int) → Option (Bool × (List Int))) (c_parquetref01_Num_Sign : (Bool × (List Int)) → Option Int) (a0 : (Int × Int)) (a1 : (Int × Int)) (a2 : (Int × Int)) : Option Int :=
  meet (α := ((Int × Int) × ((Int × Int) × ((Int × Int) × Bool)))) (fun (y0, y1, y2, y3) =>
    bif y3 then
     some 0
    else
     bnd (c_parquetref03_Area (y0.1, y0.2) (y1.1, y1.2) (y2.1, y2.2)) fun r4 =>
     bnd (c_parquetref01_Num_Sign (r4.1, r4.2)) fun r5 =>
     some r5) fun j6 =>
   bnd (c_parquetref03_Fits (a0.1, a0.2)) fun r7 =>
   bif !r7 then
    j6 ((a0.1, a0.2), (a1.1, a1.2), (a2.1, a2.2), true)
   else
    bnd (c_parquetref03_Fits (a1.1, a1.2)) fun r8 =>
    bif !r8 then
     j6 ((a0.1, a0.2), (a1.1, a1.2), (a2.1, a2.2), true)
    else
     bnd (c_parquetref03_Fits (a2.1, a2.2)) fun r9 =>
     j6 ((a0.1, a0.2), (a1.1, a1.2), (a2.1, a2.2), !r9)
theorem eq_parquetref03_Orient (k : Nat) (c_parquetref03_Fits : (Int × Int) → Option Bool) (c_parquetref03_Area : (Int × Int) → (Int × Int) → (Int × Int) → Option (Bool × (List Int))) (c_parquetref01_Num_Sign : (Bool × (List Int)) → Option Int) (a0 : (Int × Int)) (a1 : (Int × Int)) (a2 : (Int × Int)) : textF [⟨17, [.d (.pair kI kI)], [.bool], fun x => c_parquetref03_Fits x⟩, ⟨26, [.d (.pair kI kI), .d (.pair kI kI), .d (.pair kI kI)], [.pair .bool (.sl kI)], fun x => c_parquetref03_Area (x.1) (x.2.1) (x.2.2)⟩, ⟨27, [.d (.pair .bool (.sl kI))], [kI], fun x => c_parquetref01_Num_Sign x⟩] tb k Try.f19 an_parquetref03_Orient [.d (.pair kI kI), .d (.pair kI kI), .d (.pair kI kI)] [kI] (a0, a1, a2) = b_parquetref03_Orient k c_parquetref03_Fits c_parquetref03_Area c_parquetref01_Num_Sign a0 a1 a2 := by kernel_rfl
def g_parquetref03_Orient (k : Nat) (a0 : (Int × Int)) (a1 : (Int × Int)) (a2 : (Int × Int)) : Option Int := b_parquetref03_Orient k (g_parquetref03_Fits k) (g_parquetref03_Area k) (g_parquetref01_Num_Sign k) a0 a1 a2
theorem tells_parquetref03_Orient (k : Nat) : TellsF Try.prog 19 [.d (.pair kI kI), .d (.pair kI kI), .d (.pair kI kI)] [kI] (fun x => g_parquetref03_Orient k (x.1) (x.2.1) (x.2.2)) := fun x y h => fun_tells tb_ok mix (es := [⟨17, [.d (.pair kI kI)], [.bool], fun x => g_parquetref03_Fits k x⟩, ⟨26, [.d (.pair kI kI), .d (.pair kI kI), .d (.pair kI kI)], [.pair .bool (.sl kI)], fun x => g_parquetref03_Area k (x.1) (x.2.1) (x.2.2)⟩, ⟨27, [.d (.pair .bool (.sl kI))], [kI], fun x => g_parquetref01_Num_Sign k x⟩]) (EsOk.cons ⟨rfl, tells_parquetref03_Fits k⟩ (EsOk.cons ⟨rfl, tells_parquetref03_Area k⟩ (EsOk.cons ⟨rfl, tells_parquetref01_Num_Sign k⟩ (EsOk.nil _)))) Try.func19 (N := k) (an := an_parquetref03_Orient) (by kernel_rfl) x y ((eq_parquetref03_Orient k (g_parquetref03_Fits k) (g_parquetref03_Area k) (g_parquetref01_Num_Sign k) (x.1) (x.2.1) (x.2.2)).trans h)

def an_parquetref04_on : Ann := .node none none .leaf (.node none none .leaf (.node none none (.node (some [(6, .d .bool)]) none .leaf .leaf) .leaf))
def b_parquetref04_on (k : Nat) (c_parquetref01_Small : Int → Option (Bool × (List Int))) (c_parquetref01_Num_Times : (Bool × (List Int)) → (Bool × (List Int)) → Option (Bool × (List Int))) (c_parquetref01_Num_Plus : (Bool × (List Int)) → (Bool × (List Int)) → Option (Bool × (List Int))) (c_parquetref03_Fits : (Int × Int) → Option Bool) (c_parquetref03_Orient : (Int × Int) → (Int × Int) → (Int × Int) → Option Int) (c_parquetref01_Num_Sign : (Bool × (List Int)) → Option Int) (a0 : (Int × Int)) (a1 : (Int × Int)) (a2 : (Int × Int)) : Option Bool :=
  bnd (c_parquetref01_Small (w64 (a2.1 - a0.1))) fun r0 =>
   bnd (c_parquetref01_Small (w64 (a1.1 - a2.1))) fun r1 =>
   bnd (c_parquetref01_Num_Times (r0.1, r0.2) (r1.1, r1.2)) fun r2 =>
   bnd (c_parquetref01_Small (w64 (a2.2 - a0.2))) fun r3 =>
   bnd (c_parquetref01_Small (w64 (a1.2 - a2.2))) fun r4 =>
   bnd (c_parquetref01_Num_Times (r3.1, r3.2) (r4.1, r4.2)) fun r5 =>
   bnd (c_parquetref01_Num_Plus (r2.1, r2.2) (r5.1, r5.2)) fun r6 =>
   meet (α := Bool) (fun y7 =>
    some y7) fun j8 =>
   bif !((decide (a0.1 = a1.1)) && (decide (a0.2 = a1.2))) then
    bnd (c_parquetref03_Fits (a0.1, a0.2)) fun r9 =>
    bif r9 then
     bnd (c_parquetref03_Fits (a1.1, a1.2)) fun r10 =>
     bif r10 then
      bnd (c_parquetref03_Fits (a2.1, a2.2)) fun r11 =>
      bif r11 then
       bnd (c_parquetref03_Orient (a0.1, a0.2) (a1.1, a1.2) (a2.1, a2.2)) fun r12 =>
       bif decide (r12 = 0) then
        bnd (c_parquetref01_Num_Sign (r6.1, r6.2)) fun r13 =>
        j8 (decide (r13 ≥ 0))
       else
        j8 false
      else
       j8 false
     else
      j8 false
    else
     j8 false
   else
    j8 false
theorem eq_parquetref04_on (k : Nat) (c_parquetref01_Small : Int → Option (Bool × (List Int))) (c_parquetref01_Num_Times : (Bool × (List Int)) → (Bool × (List Int)) → Option (Bool × (List Int))) (c_parquetref01_Num_Plus : (Bool × (List Int)) → (Bool × (List Int)) → Option (Bool × (List Int))) (c_parquetref03_Fits : (Int × Int) → Option Bool) (c_parquetref03_Orient : (Int × Int) → (Int × Int) → (Int × Int) → Option Int) (c_parquetref01_Num_Sign : (Bool × (List Int)) → Option Int) (a0 : (Int × Int)) (a1 : (Int × Int)) (a2 : (Int × Int)) : textF [⟨29, [.d kI], [.pair .bool (.sl kI)], fun x => c_parquetref01_Small x⟩, ⟨30, [.d (.pair .bool (.sl kI)), .d (.pair .bool (.sl kI))], [.pair .bool (.sl kI)], fun x => c_parquetref01_Num_Times (x.1) (x.2)⟩, ⟨31, [.d (.pair .bool (.sl kI)), .d (.pair .bool (.sl kI))], [.pair .bool (.sl kI)], fun x => c_parquetref01_Num_Plus (x.1) (x.2)⟩, ⟨17, [.d (.pair kI kI)], [.bool], fun x => c_parquetref03_Fits x⟩, ⟨19, [.d (.pair kI kI), .d (.pair kI kI), .d (.pair kI kI)], [kI], fun x => c_parquetref03_Orient (x.1) (x.2.1) (x.2.2)⟩, ⟨27, [.d (.pair .bool (.sl kI))], [kI], fun x => c_parquetref01_Num_Sign x⟩] tb k Try.f24 an_parquetref04_on [.d (.pair kI kI), .d (.pair kI kI), .d (.pair kI kI)] [.bool] (a0, a1, a2) = b_parquetref04_on k c_parquetref01_Small c_parquetref01_Num_Times c_parquetref01_Num_Plus c_parquetref03_Fits c_parquetref03_Orient c_parquetref01_Num_Sign a0 a1 a2 := by kernel_rfl
def g_parquetref04_on (k : Nat) (a0 : (Int × Int)) (a1 : (Int × Int)) (a2 : (Int × Int)) : Option Bool := b_parquetref04_on k (g_parquetref01_Small k) (g_parquetref01_Num_Times k) (g_parquetref01_Num_Plus k) (g_parquetref03_Fits k) (g_parquetref03_Orient k) (g_parquetref01_Num_Sign k) a0 a1 a2
theorem tells_parquetref04_on (k : Nat) : TellsF Try.prog 24 [.d (.pair kI kI), .d (.pair kI kI), .d (.pair kI kI)] [.bool] (fun x => g_parquetref04_on k (x.1) (x.2.1) (x.2.2)) := fun x y h => fun_tells tb_ok mix (es := [⟨29, [.d kI], [.pair .bool (.sl kI)], fun x => g_parquetref01_Small k x⟩, ⟨30, [.d (.pair .bool (.sl kI)), .d (.pair .bool (.sl kI))], [.pair .bool (.sl kI)], fun x => g_parquetref01_Num_Times k (x.1) (x.2)⟩, ⟨31, [.d (.pair .bool (.sl kI)), .d (.pair .bool (.sl kI))], [.pair .bool (.sl kI)], fun x => g_parquetref01_Num_Plus k (x.1) (x.2)⟩, ⟨17, [.d (.pair kI kI)], [.bool], fun x => g_parquetref03_Fits k x⟩, ⟨19, [.d (.pair kI kI), .d (.pair kI kI), .d (.pair kI kI)], [kI], fun x => g_parquetref03_Orient k (x.1) (x.2.1) (x.2.2)⟩, ⟨27, [.d (.pair .bool (.sl kI))], [kI], fun x => g_parquetref01_Num_Sign k x⟩]) (EsOk.cons ⟨rfl, tells_parquetref01_Small k⟩ (EsOk.cons ⟨rfl, tells_parquetref01_Num_Times k⟩ (EsOk.cons ⟨rfl, tells_parquetref01_Num_Plus k⟩ (EsOk.cons ⟨rfl, tells_parquetref03_Fits k⟩ (EsOk.cons ⟨rfl, tells_parquetref03_Orient k⟩ (EsOk.cons ⟨rfl, tells_parquetref01_Num_Sign k⟩ (EsOk.nil _))))))) Try.func24 (N := k) (an := an_parquetref04_on) (by kernel_rfl) x y ((eq_parquetref04_on k (g_parquetref01_Small k) (g_parquetref01_Num_Times k) (g_parquetref01_Num_Plus k) (g_parquetref03_Fits k) (g_parquetref03_Orient k) (g_parquetref01_Num_Sign k) (x.1) (x.2.1) (x.2.2)).trans h)

def an_parquetref04_Segs : Ann := .node none none .leaf (.node none none (.node none none (.node (some [(4, .box [.d (.pair kI kI)]), (5, .box [.d (.pair kI kI)]), (6, .box [.d (.pair kI kI)]), (7, .box [.d (.pair kI kI)]), (40, .d .bool)]) none .leaf .leaf) .leaf) (.node none none .leaf (.node none none .leaf (.node none none (.node none none (.node (some [(4, .box [.d (.pair kI kI)]), (5, .box [.d (.pair kI kI)]), (6, .box [.d (.pair kI kI)]), (7, .box [.d (.pair kI kI)]), (10, .d kI), (11, .d kI), (54, .d .bool)]) none .leaf .leaf) (.node none none (.node none none .leaf (.node none none (.node none none .leaf (.node (some [(4, .box [.d (.pair kI kI)]), (5, .box [.d (.pair kI kI)]), (6, .box [.d (.pair kI kI)]), (7, .box [.d (.pair kI kI)]), (12, .d kI)]) none .leaf .leaf)) (.node none none (.node none none .leaf (.node (some [(4, .box [.d (.pair kI kI)]), (5, .box [.d (.pair kI kI)]), (6, .box [.d (.pair kI kI)]), (7, .box [.d (.pair kI kI)]), (12, .d kI)]) none .leaf .leaf)) (.node none none (.node none none (.node (some [(5, .box [.d (.pair kI kI)]), (6, .box [.d (.pair kI kI)]), (7, .box [.d (.pair kI kI)]), (12, .d kI), (80, .d .bool)]) none .leaf .leaf) (.node (some [(5, .box [.d (.pair kI kI)]), (6, .box [.d (.pair kI kI)]), (7, .box [.d (.pair kI kI)]), (12, .d kI)]) none .leaf .leaf)) (.node none none (.node none none (.node (some [(12, .d kI), (96, .d .bool)]) none .leaf .leaf) (.node (some [(12, .d kI)]) none .leaf .leaf)) .leaf))))) .leaf)) (.node none none (.node none none (.node (some [(4, .box [.d (.pair kI kI)]), (5, .box [.d (.pair kI kI)]), (6, .box [.d (.pair kI kI)]), (7, .box [.d (.pair kI kI)]), (10, .d kI), (11, .d kI), (120, .d .bool)]) none .leaf .leaf) .leaf) (.node none none (.node none none (.node (some [(4, .box [.d (.pair kI kI)]), (5, .box [.d (.pair kI kI)]), (6, .box [.d (.pair kI kI)]), (7, .box [.d (.pair kI kI)]), (10, .d kI), (11, .d kI), (142, .d .bool)]) none .leaf .leaf) .leaf) (.node none none (.node none none (.node (some [(156, .d .bool)]) none .leaf .leaf) .leaf) .leaf)))))))
def b_parquetref04_Segs (k : Nat) (c_parquetref03_Fits : (Int × Int) → Option Bool) (c_parquetref03_Orient : (Int × Int) → (Int × Int) → (Int × Int) → Option Int) (c_parquetref04_on : (Int × Int) → (Int × Int) → (Int × Int) → Option Bool) (a0 : (Int × Int)) (a1 : (Int × Int)) (a2 : (Int × Int)) (a3 : (Int × Int)) : Option (Int × Int) :=
  meet (α := ((Int × Int) × ((Int × Int) × ((Int × Int) × ((Int × Int) × Bool))))) (fun (y0, y1, y2, y3, y4) =>
    bif y4 then
     some (0, 2)
    else
     bnd (c_parquetref03_Orient (y0.1, y0.2) (y1.1, y1.2) (y2.1, y2.2)) fun r5 =>
     bnd (c_parquetref03_Orient (y0.1, y0.2) (y1.1, y1.2) (y3.1, y3.2)) fun r6 =>
     meet (α := ((Int × Int) × ((Int × Int) × ((Int × Int) × ((Int × Int) × (Int × (Int × Bool))))))) (fun (y7, y8, y9, y10, y11, y12, y13) =>
      bif y13 then
       bnd (c_parquetref04_on (y7.1, y7.2) (y8.1, y8.2) (y9.1, y9.2)) fun r14 =>
       meet (α := ((Int × Int) × ((Int × Int) × ((Int × Int) × ((Int × Int) × Int))))) (fun (y15, y16, y17, y18, y19) =>
        bnd (c_parquetref04_on (y15.1, y15.2) (y16.1, y16.2) (y18.1, y18.2)) fun r20 =>
        meet (α := ((Int × Int) × ((Int × Int) × ((Int × Int) × ((Int × Int) × Int))))) (fun (y21, y22, y23, y24, y25) =>
         meet (α := ((Int × Int) × ((Int × Int) × ((Int × Int) × (Int × Bool))))) (fun (y26, y27, y28, y29, y30) =>
          meet (α := ((Int × Int) × ((Int × Int) × ((Int × Int) × Int)))) (fun (y31, y32, y33, y34) =>
           meet (α := (Int × Bool)) (fun (y35, y36) =>
            meet (α := Int) (fun y37 =>
             bif decide (y37 ≥ 2) then
              some (4, 0)
             else
              bif decide (y37 = 1) then
               some (1, 0)
              else
               some (0, 0)) fun j38 =>
            bif y36 then
             j38 (w64 (y35 + 1))
            else
             j38 y35) fun j39 =>
           bnd (c_parquetref04_on (y32.1, y32.2) (y33.1, y33.2) (y31.1, y31.2)) fun r40 =>
           bif r40 then
            bif !((decide (y31.1 = y32.1)) && (decide (y31.2 = y32.2))) then
             j39 (y34, !((decide (y31.1 = y33.1)) && (decide (y31.2 = y33.2))))
            else
             j39 (y34, false)
           else
            j39 (y34, false)) fun j41 =>
          bif y30 then
           j41 ((y26.1, y26.2), (y27.1, y27.2), (y28.1, y28.2), w64 (y29 + 1))
          else
           j41 ((y26.1, y26.2), (y27.1, y27.2), (y28.1, y28.2), y29)) fun j42 =>
         bnd (c_parquetref04_on (y23.1, y23.2) (y24.1, y24.2) (y21.1, y21.2)) fun r43 =>
         bif r43 then
          bif !((decide (y21.1 = y23.1)) && (decide (y21.2 = y23.2))) then
           j42 ((y22.1, y22.2), (y23.1, y23.2), (y24.1, y24.2), y25, !((decide (y21.1 = y24.1)) && (decide (y21.2 = y24.2))))
          else
           j42 ((y22.1, y22.2), (y23.1, y23.2), (y24.1, y24.2), y25, false)
         else
          j42 ((y22.1, y22.2), (y23.1, y23.2), (y24.1, y24.2), y25, false)) fun j44 =>
        bif r20 then
         j44 ((y15.1, y15.2), (y16.1, y16.2), (y17.1, y17.2), (y18.1, y18.2), w64 (y19 + 1))
        else
         j44 ((y15.1, y15.2), (y16.1, y16.2), (y17.1, y17.2), (y18.1, y18.2), y19)) fun j45 =>
       bif r14 then
        j45 ((y7.1, y7.2), (y8.1, y8.2), (y9.1, y9.2), (y10.1, y10.2), 1)
       else
        j45 ((y7.1, y7.2), (y8.1, y8.2), (y9.1, y9.2), (y10.1, y10.2), 0)
      else
       meet (α := ((Int × Int) × ((Int × Int) × ((Int × Int) × ((Int × Int) × (Int × (Int × Bool))))))) (fun (y46, y47, y48, y49, y50, y51, y52) =>
        bif y52 then
         some (1, 0)
        else
         meet (α := ((Int × Int) × ((Int × Int) × ((Int × Int) × ((Int × Int) × (Int × (Int × Bool))))))) (fun (y53, y54, y55, y56, y57, y58, y59) =>
          bif y59 then
           some (2, 0)
          else
           meet (α := Bool) (fun y60 =>
            bif y60 then
             some (3, 0)
            else
             some (0, 0)) fun j61 =>
           bif !(decide (y57 = y58)) then
            bnd (c_parquetref03_Orient (y55.1, y55.2) (y56.1, y56.2) (y53.1, y53.2)) fun r62 =>
            bnd (c_parquetref03_Orient (y55.1, y55.2) (y56.1, y56.2) (y54.1, y54.2)) fun r63 =>
            j61 (!(decide (r62 = r63)))
           else
            j61 false) fun j64 =>
         bnd (c_parquetref04_on (y46.1, y46.2) (y47.1, y47.2) (y48.1, y48.2)) fun r65 =>
         bif r65 then
          j64 ((y46.1, y46.2), (y47.1, y47.2), (y48.1, y48.2), (y49.1, y49.2), y50, y51, true)
         else
          bnd (c_parquetref04_on (y46.1, y46.2) (y47.1, y47.2) (y49.1, y49.2)) fun r66 =>
          bif r66 then
           j64 ((y46.1, y46.2), (y47.1, y47.2), (y48.1, y48.2), (y49.1, y49.2), y50, y51, true)
          else
           bnd (c_parquetref04_on (y48.1, y48.2) (y49.1, y49.2) (y46.1, y46.2)) fun r67 =>
           bif r67 then
            j64 ((y46.1, y46.2), (y47.1, y47.2), (y48.1, y48.2), (y49.1, y49.2), y50, y51, true)
           else
            bnd (c_parquetref04_on (y48.1, y48.2) (y49.1, y49.2) (y47.1, y47.2)) fun r68 =>
            j64 ((y46.1, y46.2), (y47.1, y47.2), (y48.1, y48.2), (y49.1, y49.2), y50, y51, r68)) fun j69 =>
       bif (decide (y7.1 = y9.1)) && (decide (y7.2 = y9.2)) then
        j69 ((y7.1, y7.2), (y8.1, y8.2), (y9.1, y9.2), (y10.1, y10.2), y11, y12, true)
       else
        bif (decide (y7.1 = y10.1)) && (decide (y7.2 = y10.2)) then
         j69 ((y7.1, y7.2), (y8.1, y8.2), (y9.1, y9.2), (y10.1, y10.2), y11, y12, true)
        else
         bif (decide (y8.1 = y9.1)) && (decide (y8.2 = y9.2)) then
          j69 ((y7.1, y7.2), (y8.1, y8.2), (y9.1, y9.2), (y10.1, y10.2), y11, y12, true)
         else
          j69 ((y7.1, y7.2), (y8.1, y8.2), (y9.1, y9.2), (y10.1, y10.2), y11, y12, (decide (y8.1 = y10.1)) && (decide (y8.2 = y10.2)))) fun j70 =>
     bif decide (r5 = 0) then
      j70 ((y0.1, y0.2), (y1.1, y1.2), (y2.1, y2.2), (y3.1, y3.2), r5, r6, decide (r6 = 0))
     else
      j70 ((y0.1, y0.2), (y1.1, y1.2), (y2.1, y2.2), (y3.1, y3.2), r5, r6, false)) fun j71 =>
   bif (decide (a0.1 = a1.1)) && (decide (a0.2 = a1.2)) then
    j71 ((a0.1, a0.2), (a1.1, a1.2), (a2.1, a2.2), (a3.1, a3.2), true)
   else
    bif (decide (a2.1 = a3.1)) && (decide (a2.2 = a3.2)) then
     j71 ((a0.1, a0.2), (a1.1, a1.2), (a2.1, a2.2), (a3.1, a3.2), true)
    else
     bnd (c_parquetref03_Fits (a0.1, a0.2)) fun r72 =>
     bif !r72 then
      j71 ((a0.1, a0.2), (a1.1, a1.2), (a2.1, a2.2), (a3.1, a3.2), true)
     else
      bnd (c_parquetref03_Fits (a1.1, a1.2)) fun r73 =>
      bif !r73 then
       j71 ((a0.1, a0.2), (a1.1, a1.2), (a2.1, a2.2), (a3.1, a3.2), true)
      else
       bnd (c_parquetref03_Fits (a2.1, a2.2)) fun r74 =>
       bif !r74 then
        j71 ((a0.1, a0.2), (a1.1, a1.2), (a2.1, a2.2), (a3.1, a3.2), true)
       else
        bnd (c_parquetref03_Fits (a3.1, a3.2)) fun r75 =>
        j71 ((a0.1, a0.2), (a1.1, a1.2), (a2.1, a2.2), (a3.1, a3.2), !r75)
theorem eq_parquetref04_Segs (k : Nat) (c_parquetref03_Fits : (Int × Int) → Option Bool) (c_parquetref03_Orient : (Int × Int) → (Int × Int) → (Int × Int) → Option Int) (c_parquetref04_on : (Int × Int) → (Int × Int) → (Int × Int) → Option Bool) (a0 : (Int × Int)) (a1 : (Int × Int)) (a2 : (Int × Int)) (a3 : (Int × Int)) : textF [⟨17, [.d (.pair kI kI)], [.bool], fun x => c_parquetref03_Fits x⟩, ⟨19, [.d (.pair kI kI), .d (.pair kI kI), .d (.pair kI kI)], [kI], fun x => c_parquetref03_Orient (x.1) (x.2.1) (x.2.2)⟩, ⟨24, [.d (.pair kI kI), .d (.pair kI kI), .d (.pair kI kI)], [.bool], fun x => c_parquetref04_on (x.1) (x.2.1) (x.2.2)⟩] tb k Try.f11 an_parquetref04_Segs [.d (.pair kI kI), .d (.pair kI kI), .d (.pair kI kI), .d (.pair kI kI)] [kI, kI] (a0, a1, a2, a3) = b_parquetref04_Segs k c_parquetref03_Fits c_parquetref03_Orient c_parquetref04_on a0 a1 a2 a3 := by kernel_rfl
def g_parquetref04_Segs (k : Nat) (a0 : (Int × Int)) (a1 : (Int × Int)) (a2 : (Int × Int)) (a3 : (Int × Int)) : Option (Int × Int) := b_parquetref04_Segs k (g_parquetref03_Fits k) (g_parquetref03_Orient k) (g_parquetref04_on k) a0 a1 a2 a3
theorem tells_parquetref04_Segs (k : Nat) : TellsF Try.prog 11 [.d (.pair kI kI), .d (.pair kI kI), .d (.pair kI kI), .d (.pair kI kI)] [kI, kI] (fun x => g_parquetref04_Segs k (x.1) (x.2.1) (x.2.2.1) (x.2.2.2)) := fun x y h => fun_tells tb_ok mix (es := [⟨17, [.d (.pair kI kI)], [.bool], fun x => g_parquetref03_Fits k x⟩, ⟨19, [.d (.pair kI kI), .d (.pair kI kI), .d (.pair kI kI)], [kI], fun x => g_parquetref03_Orient k (x.1) (x.2.1) (x.2.2)⟩, ⟨24, [.d (.pair kI kI), .d (.pair kI kI), .d (.pair kI kI)], [.bool], fun x => g_parquetref04_on k (x.1) (x.2.1) (x.2.2)⟩]) (EsOk.cons ⟨rfl, tells_parquetref03_Fits k⟩ (EsOk.cons ⟨rfl, tells_parquetref03_Orient k⟩ (EsOk.cons ⟨rfl, tells_parquetref04_on k⟩ (EsOk.nil _)))) Try.func11 (N := k) (an := an_parquetref04_Segs) (by kernel_rfl) x y ((eq_parquetref04_Segs k (g_parquetref03_Fits k) (g_parquetref03_Orient k) (g_parquetref04_on k) (x.1) (x.2.1) (x.2.2.1) (x.2.2.2)).trans h)

end Go.Proofs.Ytebokfdiamepcaa.AM
