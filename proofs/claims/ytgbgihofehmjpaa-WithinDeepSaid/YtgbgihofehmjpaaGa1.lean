/- The functions, by their texts: written by a program. -/
import Derived.Test.YtgbgihofehmjpaaGa0
set_option linter.unusedVariables false
set_option maxRecDepth 100000
namespace Go.Proofs.Ytgbgihofehmjpaa.AM
open Go.RowKit Go.Proofs
def an_wide_Cmp : Ann := .node none none .leaf (.node none none .leaf (.node none none (.node none none (.node (some [(2, .box [.d (.pair .bool (.pair (.int .u64) (.pair (.int .u64) (.pair (.int .u64) (.int .u64)))))]), (3, .box [.d (.pair .bool (.pair (.int .u64) (.pair (.int .u64) (.pair (.int .u64) (.int .u64)))))]), (5, .d kI), (6, .d kI), (17, .d .bool)]) none .leaf .leaf) .leaf) .leaf))
def b_wide_Cmp (k : Nat) (c_wide_Sign : (Bool × (Int × (Int × (Int × Int)))) → Option Int) (c_cmp_Compare_int : Int → Int → Option Int) (c_wide_size : (Int × (Int × (Int × Int))) → (Int × (Int × (Int × Int))) → Option Int) (a0 : (Bool × (Int × (Int × (Int × Int))))) (a1 : (Bool × (Int × (Int × (Int × Int))))) : Option Int :=
  bnd (c_wide_Sign (a0.1, a0.2.1, a0.2.2.1, a0.2.2.2.1, a0.2.2.2.2)) fun r0 =>
   bnd (c_wide_Sign (a1.1, a1.2.1, a1.2.2.1, a1.2.2.2.1, a1.2.2.2.2)) fun r1 =>
   meet (α := ((Bool × (Int × (Int × (Int × Int)))) × ((Bool × (Int × (Int × (Int × Int)))) × (Int × (Int × Bool))))) (fun (y2, y3, y4, y5, y6) =>
    bif y6 then
     bnd (c_cmp_Compare_int y4 y5) fun r7 =>
     some r7
    else
     bnd (c_wide_size (y2.2.1, y2.2.2.1, y2.2.2.2.1, y2.2.2.2.2) (y3.2.1, y3.2.2.1, y3.2.2.2.1, y3.2.2.2.2)) fun r8 =>
     some (w64 (y4 * r8))) fun j9 =>
   bif !(decide (r0 = r1)) then
    j9 ((a0.1, a0.2.1, a0.2.2.1, a0.2.2.2.1, a0.2.2.2.2), (a1.1, a1.2.1, a1.2.2.1, a1.2.2.2.1, a1.2.2.2.2), r0, r1, true)
   else
    j9 ((a0.1, a0.2.1, a0.2.2.1, a0.2.2.2.1, a0.2.2.2.2), (a1.1, a1.2.1, a1.2.2.1, a1.2.2.2.1, a1.2.2.2.2), r0, r1, decide (r0 = 0))
theorem eq_wide_Cmp (k : Nat) (c_wide_Sign : (Bool × (Int × (Int × (Int × Int)))) → Option Int) (c_cmp_Compare_int : Int → Int → Option Int) (c_wide_size : (Int × (Int × (Int × Int))) → (Int × (Int × (Int × Int))) → Option Int) (a0 : (Bool × (Int × (Int × (Int × Int))))) (a1 : (Bool × (Int × (Int × (Int × Int))))) : textF [⟨63, [.d (.pair .bool (.pair (.int .u64) (.pair (.int .u64) (.pair (.int .u64) (.int .u64)))))], [kI], fun x => c_wide_Sign x⟩, ⟨64, [.d kI, .d kI], [kI], fun x => c_cmp_Compare_int (x.1) (x.2)⟩, ⟨65, [.d (.pair (.int .u64) (.pair (.int .u64) (.pair (.int .u64) (.int .u64)))), .d (.pair (.int .u64) (.pair (.int .u64) (.pair (.int .u64) (.int .u64))))], [kI], fun x => c_wide_size (x.1) (x.2)⟩] tb k Try.f61 an_wide_Cmp [.d (.pair .bool (.pair (.int .u64) (.pair (.int .u64) (.pair (.int .u64) (.int .u64))))), .d (.pair .bool (.pair (.int .u64) (.pair (.int .u64) (.pair (.int .u64) (.int .u64)))))] [kI] (a0, a1) = b_wide_Cmp k c_wide_Sign c_cmp_Compare_int c_wide_size a0 a1 := by kernel_rfl
def g_wide_Cmp (k : Nat) (a0 : (Bool × (Int × (Int × (Int × Int))))) (a1 : (Bool × (Int × (Int × (Int × Int))))) : Option Int := b_wide_Cmp k (g_wide_Sign k) (g_cmp_Compare_int k) (g_wide_size k) a0 a1
theorem tells_wide_Cmp (k : Nat) : TellsF Try.prog 61 [.d (.pair .bool (.pair (.int .u64) (.pair (.int .u64) (.pair (.int .u64) (.int .u64))))), .d (.pair .bool (.pair (.int .u64) (.pair (.int .u64) (.pair (.int .u64) (.int .u64)))))] [kI] (fun x => g_wide_Cmp k (x.1) (x.2)) := fun x y h => fun_tells tb_ok mix (es := [⟨63, [.d (.pair .bool (.pair (.int .u64) (.pair (.int .u64) (.pair (.int .u64) (.int .u64)))))], [kI], fun x => g_wide_Sign k x⟩, ⟨64, [.d kI, .d kI], [kI], fun x => g_cmp_Compare_int k (x.1) (x.2)⟩, ⟨65, [.d (.pair (.int .u64) (.pair (.int .u64) (.pair (.int .u64) (.int .u64)))), .d (.pair (.int .u64) (.pair (.int .u64) (.pair (.int .u64) (.int .u64))))], [kI], fun x => g_wide_size k (x.1) (x.2)⟩]) (EsOk.cons ⟨rfl, tells_wide_Sign k⟩ (EsOk.cons ⟨rfl, tells_cmp_Compare_int k⟩ (EsOk.cons ⟨rfl, tells_wide_size k⟩ (EsOk.nil _)))) Try.func61 (N := k) (an := an_wide_Cmp) (by kernel_rfl) x y ((eq_wide_Cmp k (g_wide_Sign k) (g_cmp_Compare_int k) (g_wide_size k) (x.1) (x.2)).trans h)

def an_pred_cross : Ann := .leaf
def b_pred_cross (k : Nat) (c_pred_product : Int → Int → Option (Bool × (Int × (Int × (Int × Int))))) (c_wide_Cmp : (Bool × (Int × (Int × (Int × Int)))) → (Bool × (Int × (Int × (Int × Int)))) → Option Int) (a0 : Int) (a1 : Int) (a2 : Int) (a3 : Int) : Option Int :=
  bnd (c_pred_product a0 a1) fun r0 =>
   bnd (c_pred_product a2 a3) fun r1 =>
   bnd (c_wide_Cmp (r0.1, r0.2.1, r0.2.2.1, r0.2.2.2.1, r0.2.2.2.2) (r1.1, r1.2.1, r1.2.2.1, r1.2.2.2.1, r1.2.2.2.2)) fun r2 =>
   some r2
theorem eq_pred_cross (k : Nat) (c_pred_product : Int → Int → Option (Bool × (Int × (Int × (Int × Int))))) (c_wide_Cmp : (Bool × (Int × (Int × (Int × Int)))) → (Bool × (Int × (Int × (Int × Int)))) → Option Int) (a0 : Int) (a1 : Int) (a2 : Int) (a3 : Int) : textF [⟨60, [.d kI, .d kI], [.pair .bool (.pair (.int .u64) (.pair (.int .u64) (.pair (.int .u64) (.int .u64))))], fun x => c_pred_product (x.1) (x.2)⟩, ⟨61, [.d (.pair .bool (.pair (.int .u64) (.pair (.int .u64) (.pair (.int .u64) (.int .u64))))), .d (.pair .bool (.pair (.int .u64) (.pair (.int .u64) (.pair (.int .u64) (.int .u64)))))], [kI], fun x => c_wide_Cmp (x.1) (x.2)⟩] tb k Try.f57 an_pred_cross [.d kI, .d kI, .d kI, .d kI] [kI] (a0, a1, a2, a3) = b_pred_cross k c_pred_product c_wide_Cmp a0 a1 a2 a3 := by kernel_rfl
def g_pred_cross (k : Nat) (a0 : Int) (a1 : Int) (a2 : Int) (a3 : Int) : Option Int := b_pred_cross k (g_pred_product k) (g_wide_Cmp k) a0 a1 a2 a3
theorem tells_pred_cross (k : Nat) : TellsF Try.prog 57 [.d kI, .d kI, .d kI, .d kI] [kI] (fun x => g_pred_cross k (x.1) (x.2.1) (x.2.2.1) (x.2.2.2)) := fun x y h => fun_tells tb_ok mix (es := [⟨60, [.d kI, .d kI], [.pair .bool (.pair (.int .u64) (.pair (.int .u64) (.pair (.int .u64) (.int .u64))))], fun x => g_pred_product k (x.1) (x.2)⟩, ⟨61, [.d (.pair .bool (.pair (.int .u64) (.pair (.int .u64) (.pair (.int .u64) (.int .u64))))), .d (.pair .bool (.pair (.int .u64) (.pair (.int .u64) (.pair (.int .u64) (.int .u64)))))], [kI], fun x => g_wide_Cmp k (x.1) (x.2)⟩]) (EsOk.cons ⟨rfl, tells_pred_product k⟩ (EsOk.cons ⟨rfl, tells_wide_Cmp k⟩ (EsOk.nil _))) Try.func57 (N := k) (an := an_pred_cross) (by kernel_rfl) x y ((eq_pred_cross k (g_pred_product k) (g_wide_Cmp k) (x.1) (x.2.1) (x.2.2.1) (x.2.2.2)).trans h)

def an_pred_orient : Ann := .leaf
def b_pred_orient (k : Nat) (c_pred_small : (List Int) → Option Bool) (c_pred_cross : Int → Int → Int → Int → Option Int) (a0 : (Int × Int)) (a1 : (Int × Int)) (a2 : (Int × Int)) : Option Int :=
  bnd (c_pred_small [w64 (a1.1 - a0.1), w64 (a2.2 - a0.2), w64 (a1.2 - a0.2), w64 (a2.1 - a0.1)]) fun r0 =>
   bif r0 then
    bif decide ((w64 ((w64 ((w64 (a1.1 - a0.1)) * (w64 (a2.2 - a0.2)))) - (w64 ((w64 (a1.2 - a0.2)) * (w64 (a2.1 - a0.1)))))) > 0) then
     some 1
    else
     bif decide ((w64 ((w64 ((w64 (a1.1 - a0.1)) * (w64 (a2.2 - a0.2)))) - (w64 ((w64 (a1.2 - a0.2)) * (w64 (a2.1 - a0.1)))))) < 0) then
      some (-1)
     else
      some 0
   else
    bnd (c_pred_cross (w64 (a1.1 - a0.1)) (w64 (a2.2 - a0.2)) (w64 (a1.2 - a0.2)) (w64 (a2.1 - a0.1))) fun r1 =>
    some r1
theorem eq_pred_orient (k : Nat) (c_pred_small : (List Int) → Option Bool) (c_pred_cross : Int → Int → Int → Int → Option Int) (a0 : (Int × Int)) (a1 : (Int × Int)) (a2 : (Int × Int)) : textF [⟨56, [.d (.sl kI)], [.bool], fun x => c_pred_small x⟩, ⟨57, [.d kI, .d kI, .d kI, .d kI], [kI], fun x => c_pred_cross (x.1) (x.2.1) (x.2.2.1) (x.2.2.2)⟩] tb k Try.f53 an_pred_orient [.d (.pair kI kI), .d (.pair kI kI), .d (.pair kI kI)] [kI] (a0, a1, a2) = b_pred_orient k c_pred_small c_pred_cross a0 a1 a2 := by kernel_rfl
def g_pred_orient (k : Nat) (a0 : (Int × Int)) (a1 : (Int × Int)) (a2 : (Int × Int)) : Option Int := b_pred_orient k (g_pred_small k) (g_pred_cross k) a0 a1 a2
theorem tells_pred_orient (k : Nat) : TellsF Try.prog 53 [.d (.pair kI kI), .d (.pair kI kI), .d (.pair kI kI)] [kI] (fun x => g_pred_orient k (x.1) (x.2.1) (x.2.2)) := fun x y h => fun_tells tb_ok mix (es := [⟨56, [.d (.sl kI)], [.bool], fun x => g_pred_small k x⟩, ⟨57, [.d kI, .d kI, .d kI, .d kI], [kI], fun x => g_pred_cross k (x.1) (x.2.1) (x.2.2.1) (x.2.2.2)⟩]) (EsOk.cons ⟨rfl, tells_pred_small k⟩ (EsOk.cons ⟨rfl, tells_pred_cross k⟩ (EsOk.nil _))) Try.func53 (N := k) (an := an_pred_orient) (by kernel_rfl) x y ((eq_pred_orient k (g_pred_small k) (g_pred_cross k) (x.1) (x.2.1) (x.2.2)).trans h)

def an_pred_Orient : Ann := .leaf
def b_pred_Orient (k : Nat) (c_pred_Fits : (List (Int × Int)) → Option Bool) (c_pred_orient : (Int × Int) → (Int × Int) → (Int × Int) → Option Int) (a0 : (Int × Int)) (a1 : (Int × Int)) (a2 : (Int × Int)) : Option Int :=
  bnd (c_pred_Fits [(a0.1, a0.2), (a1.1, a1.2), (a2.1, a2.2)]) fun r0 =>
   bif !r0 then
    some 0
   else
    bnd (c_pred_orient (a0.1, a0.2) (a1.1, a1.2) (a2.1, a2.2)) fun r1 =>
    some r1
theorem eq_pred_Orient (k : Nat) (c_pred_Fits : (List (Int × Int)) → Option Bool) (c_pred_orient : (Int × Int) → (Int × Int) → (Int × Int) → Option Int) (a0 : (Int × Int)) (a1 : (Int × Int)) (a2 : (Int × Int)) : textF [⟨27, [.d (.sl (.pair kI kI))], [.bool], fun x => c_pred_Fits x⟩, ⟨53, [.d (.pair kI kI), .d (.pair kI kI), .d (.pair kI kI)], [kI], fun x => c_pred_orient (x.1) (x.2.1) (x.2.2)⟩] tb k Try.f46 an_pred_Orient [.d (.pair kI kI), .d (.pair kI kI), .d (.pair kI kI)] [kI] (a0, a1, a2) = b_pred_Orient k c_pred_Fits c_pred_orient a0 a1 a2 := by kernel_rfl
def g_pred_Orient (k : Nat) (a0 : (Int × Int)) (a1 : (Int × Int)) (a2 : (Int × Int)) : Option Int := b_pred_Orient k (g_pred_Fits k) (g_pred_orient k) a0 a1 a2
theorem tells_pred_Orient (k : Nat) : TellsF Try.prog 46 [.d (.pair kI kI), .d (.pair kI kI), .d (.pair kI kI)] [kI] (fun x => g_pred_Orient k (x.1) (x.2.1) (x.2.2)) := fun x y h => fun_tells tb_ok mix (es := [⟨27, [.d (.sl (.pair kI kI))], [.bool], fun x => g_pred_Fits k x⟩, ⟨53, [.d (.pair kI kI), .d (.pair kI kI), .d (.pair kI kI)], [kI], fun x => g_pred_orient k (x.1) (x.2.1) (x.2.2)⟩]) (EsOk.cons ⟨rfl, tells_pred_Fits k⟩ (EsOk.cons ⟨rfl, tells_pred_orient k⟩ (EsOk.nil _))) Try.func46 (N := k) (an := an_pred_Orient) (by kernel_rfl) x y ((eq_pred_Orient k (g_pred_Fits k) (g_pred_orient k) (x.1) (x.2.1) (x.2.2)).trans h)

def an_meet_between : Ann := .node none none .leaf (.node none none (.node (some [(6, .d .bool)]) none .leaf .leaf) .leaf)
def g_meet_between (k : Nat) (a0 : Int) (a1 : Int) (a2 : Int) : Option Bool :=
  meet (α := Bool) (fun y0 =>
    some y0) fun j1 =>
   bif decide ((mnI a0 a1) ≤ a2) then
    j1 (decide (a2 ≤ (mxI a0 a1)))
   else
    j1 false
theorem eq_meet_between (k : Nat) (a0 : Int) (a1 : Int) (a2 : Int) : textF [] tb k Try.f47 an_meet_between [.d kI, .d kI, .d kI] [.bool] (a0, a1, a2) = g_meet_between k a0 a1 a2 := by kernel_rfl
theorem tells_meet_between (k : Nat) : TellsF Try.prog 47 [.d kI, .d kI, .d kI] [.bool] (fun x => g_meet_between k (x.1) (x.2.1) (x.2.2)) := fun x y h => fun_tells tb_ok mix (es := []) (EsOk.nil _) Try.func47 (N := k) (an := an_meet_between) (by kernel_rfl) x y ((eq_meet_between k (x.1) (x.2.1) (x.2.2)).trans h)

def an_meet_On : Ann := .node none none .leaf (.node none none (.node (some [(6, .d .bool)]) none .leaf .leaf) .leaf)
def b_meet_On (k : Nat) (c_pred_Fits : (List (Int × Int)) → Option Bool) (c_pred_Orient : (Int × Int) → (Int × Int) → (Int × Int) → Option Int) (c_meet_between : Int → Int → Int → Option Bool) (a0 : (Int × Int)) (a1 : (Int × Int)) (a2 : (Int × Int)) : Option Bool :=
  meet (α := Bool) (fun y0 =>
    some y0) fun j1 =>
   bif !((decide (a0.1 = a1.1)) && (decide (a0.2 = a1.2))) then
    bnd (c_pred_Fits [(a0.1, a0.2), (a1.1, a1.2), (a2.1, a2.2)]) fun r2 =>
    bif r2 then
     bnd (c_pred_Orient (a0.1, a0.2) (a1.1, a1.2) (a2.1, a2.2)) fun r3 =>
     bif decide (r3 = 0) then
      bnd (c_meet_between a0.1 a1.1 a2.1) fun r4 =>
      bif r4 then
       bnd (c_meet_between a0.2 a1.2 a2.2) fun r5 =>
       j1 r5
      else
       j1 false
     else
      j1 false
    else
     j1 false
   else
    j1 false
theorem eq_meet_On (k : Nat) (c_pred_Fits : (List (Int × Int)) → Option Bool) (c_pred_Orient : (Int × Int) → (Int × Int) → (Int × Int) → Option Int) (c_meet_between : Int → Int → Int → Option Bool) (a0 : (Int × Int)) (a1 : (Int × Int)) (a2 : (Int × Int)) : textF [⟨27, [.d (.sl (.pair kI kI))], [.bool], fun x => c_pred_Fits x⟩, ⟨46, [.d (.pair kI kI), .d (.pair kI kI), .d (.pair kI kI)], [kI], fun x => c_pred_Orient (x.1) (x.2.1) (x.2.2)⟩, ⟨47, [.d kI, .d kI, .d kI], [.bool], fun x => c_meet_between (x.1) (x.2.1) (x.2.2)⟩] tb k Try.f35 an_meet_On [.d (.pair kI kI), .d (.pair kI kI), .d (.pair kI kI)] [.bool] (a0, a1, a2) = b_meet_On k c_pred_Fits c_pred_Orient c_meet_between a0 a1 a2 := by kernel_rfl
def g_meet_On (k : Nat) (a0 : (Int × Int)) (a1 : (Int × Int)) (a2 : (Int × Int)) : Option Bool := b_meet_On k (g_pred_Fits k) (g_pred_Orient k) (g_meet_between k) a0 a1 a2
theorem tells_meet_On (k : Nat) : TellsF Try.prog 35 [.d (.pair kI kI), .d (.pair kI kI), .d (.pair kI kI)] [.bool] (fun x => g_meet_On k (x.1) (x.2.1) (x.2.2)) := fun x y h => fun_tells tb_ok mix (es := [⟨27, [.d (.sl (.pair kI kI))], [.bool], fun x => g_pred_Fits k x⟩, ⟨46, [.d (.pair kI kI), .d (.pair kI kI), .d (.pair kI kI)], [kI], fun x => g_pred_Orient k (x.1) (x.2.1) (x.2.2)⟩, ⟨47, [.d kI, .d kI, .d kI], [.bool], fun x => g_meet_between k (x.1) (x.2.1) (x.2.2)⟩]) (EsOk.cons ⟨rfl, tells_pred_Fits k⟩ (EsOk.cons ⟨rfl, tells_pred_Orient k⟩ (EsOk.cons ⟨rfl, tells_meet_between k⟩ (EsOk.nil _)))) Try.func35 (N := k) (an := an_meet_On) (by kernel_rfl) x y ((eq_meet_On k (g_pred_Fits k) (g_pred_Orient k) (g_meet_between k) (x.1) (x.2.1) (x.2.2)).trans h)

def an_within_right : Ann := .node none none .leaf (.node none none (.node none none .leaf (.node (some [(3, .box [.d (.pair kI kI)]), (4, .box [.d (.pair kI kI)]), (5, .box [.d (.pair kI kI)])]) none .leaf .leaf)) (.node none none (.node (some [(6, .d .bool)]) none .leaf .leaf) .leaf))
def b_within_right (k : Nat) (c_pred_Orient : (Int × Int) → (Int × Int) → (Int × Int) → Option Int) (a0 : (Int × Int)) (a1 : (Int × Int)) (a2 : (Int × Int)) : Option Bool :=
  meet (α := ((Int × Int) × ((Int × Int) × (Int × Int)))) (fun (y0, y1, y2, y3) =>
    meet (α := Bool) (fun y4 =>
     some y4) fun j5 =>
    bif decide (y0.2 ≤ y3) then
     bif decide (y3 < y1.2) then
      bnd (c_pred_Orient (y0.1, y0.2) (y1.1, y1.2) (y2, y3)) fun r6 =>
      j5 (decide (r6 > 0))
     else
      j5 false
    else
     j5 false) fun j7 =>
   bif decide (a0.2 > a1.2) then
    j7 ((a1.1, a1.2), (a0.1, a0.2), a2.1, a2.2)
   else
    j7 ((a0.1, a0.2), (a1.1, a1.2), a2.1, a2.2)
theorem eq_within_right (k : Nat) (c_pred_Orient : (Int × Int) → (Int × Int) → (Int × Int) → Option Int) (a0 : (Int × Int)) (a1 : (Int × Int)) (a2 : (Int × Int)) : textF [⟨46, [.d (.pair kI kI), .d (.pair kI kI), .d (.pair kI kI)], [kI], fun x => c_pred_Orient (x.1) (x.2.1) (x.2.2)⟩] tb k Try.f36 an_within_right [.d (.pair kI kI), .d (.pair kI kI), .d (.pair kI kI)] [.bool] (a0, a1, a2) = b_within_right k c_pred_Orient a0 a1 a2 := by kernel_rfl
def g_within_right (k : Nat) (a0 : (Int × Int)) (a1 : (Int × Int)) (a2 : (Int × Int)) : Option Bool := b_within_right k (g_pred_Orient k) a0 a1 a2
theorem tells_within_right (k : Nat) : TellsF Try.prog 36 [.d (.pair kI kI), .d (.pair kI kI), .d (.pair kI kI)] [.bool] (fun x => g_within_right k (x.1) (x.2.1) (x.2.2)) := fun x y h => fun_tells tb_ok mix (es := [⟨46, [.d (.pair kI kI), .d (.pair kI kI), .d (.pair kI kI)], [kI], fun x => g_pred_Orient k (x.1) (x.2.1) (x.2.2)⟩]) (EsOk.cons ⟨rfl, tells_pred_Orient k⟩ (EsOk.nil _)) Try.func36 (N := k) (an := an_within_right) (by kernel_rfl) x y ((eq_within_right k (g_pred_Orient k) (x.1) (x.2.1) (x.2.2)).trans h)

def an_within_where : Ann := .node none none .leaf (.node none none .leaf (.node none none (.node none none .leaf (.node none none (.node none (some [(3, .box [.d (.pair kI kI)]), (5, .d kI), (8, .d (.sl (.pair (.pair kI kI) (.pair kI kI)))), (9, .d kI), (10, .d kI)]) (.node none none .leaf (.node none none .leaf (.node none none (.node none none (.node none none .leaf (.node none none (.node none none .leaf (.node none none .leaf (.node none none .leaf (.node (some [(3, .box [.d (.pair kI kI)]), (5, .d kI), (8, .d (.sl (.pair (.pair kI kI) (.pair kI kI)))), (9, .d kI), (10, .d kI)]) none .leaf .leaf)))) .leaf)) .leaf) .leaf))) .leaf) .leaf)) .leaf))
def b_within_where (k : Nat) (c_meet_On : (Int × Int) → (Int × Int) → (Int × Int) → Option Bool) (c_within_right : (Int × Int) → (Int × Int) → (Int × Int) → Option Bool) (a0 : (List ((Int × Int) × (Int × Int)))) (a1 : (Int × Int)) : Option Int :=
  loopN (α := ((Int × Int) × (Int × ((List ((Int × Int) × (Int × Int))) × (Int × Int))))) (fun (x1, x2, x3, x4, x5) next0 =>
    bif decide (x5 < x4) then
     gd (inb x5 x3.length) <|
     bnd (c_meet_On ((rdD ((0, 0), 0, 0) x3 x5).1.1, (rdD ((0, 0), 0, 0) x3 x5).1.2) ((rdD ((0, 0), 0, 0) x3 x5).2.1, (rdD ((0, 0), 0, 0) x3 x5).2.2) (x1.1, x1.2)) fun r6 =>
     bif r6 then
      some 0
     else
      bnd (c_within_right ((rdD ((0, 0), 0, 0) x3 x5).1.1, (rdD ((0, 0), 0, 0) x3 x5).1.2) ((rdD ((0, 0), 0, 0) x3 x5).2.1, (rdD ((0, 0), 0, 0) x3 x5).2.2) (x1.1, x1.2)) fun r7 =>
      meet (α := ((Int × Int) × (Int × ((List ((Int × Int) × (Int × Int))) × (Int × Int))))) (fun (y8, y9, y10, y11, y12) =>
       next0 ((y8.1, y8.2), y9, y10, y11, w64 (y12 + 1))) fun j13 =>
      bif r7 then
       j13 ((x1.1, x1.2), w64 (0 - x2), x3, x4, x5)
      else
       j13 ((x1.1, x1.2), x2, x3, x4, x5)
    else
     some x2) k ((a1.1, a1.2), (-1), a0, (a0.length : Int), 0)
theorem eq_within_where (k : Nat) (c_meet_On : (Int × Int) → (Int × Int) → (Int × Int) → Option Bool) (c_within_right : (Int × Int) → (Int × Int) → (Int × Int) → Option Bool) (a0 : (List ((Int × Int) × (Int × Int)))) (a1 : (Int × Int)) : textF [⟨35, [.d (.pair kI kI), .d (.pair kI kI), .d (.pair kI kI)], [.bool], fun x => c_meet_On (x.1) (x.2.1) (x.2.2)⟩, ⟨36, [.d (.pair kI kI), .d (.pair kI kI), .d (.pair kI kI)], [.bool], fun x => c_within_right (x.1) (x.2.1) (x.2.2)⟩] tb k Try.f28 an_within_where [.d (.sl (.pair (.pair kI kI) (.pair kI kI))), .d (.pair kI kI)] [kI] (a0, a1) = b_within_where k c_meet_On c_within_right a0 a1 := by kernel_rfl
def g_within_where (k : Nat) (a0 : (List ((Int × Int) × (Int × Int)))) (a1 : (Int × Int)) : Option Int := b_within_where k (g_meet_On k) (g_within_right k) a0 a1
theorem tells_within_where (k : Nat) : TellsF Try.prog 28 [.d (.sl (.pair (.pair kI kI) (.pair kI kI))), .d (.pair kI kI)] [kI] (fun x => g_within_where k (x.1) (x.2)) := fun x y h => fun_tells tb_ok mix (es := [⟨35, [.d (.pair kI kI), .d (.pair kI kI), .d (.pair kI kI)], [.bool], fun x => g_meet_On k (x.1) (x.2.1) (x.2.2)⟩, ⟨36, [.d (.pair kI kI), .d (.pair kI kI), .d (.pair kI kI)], [.bool], fun x => g_within_right k (x.1) (x.2.1) (x.2.2)⟩]) (EsOk.cons ⟨rfl, tells_meet_On k⟩ (EsOk.cons ⟨rfl, tells_within_right k⟩ (EsOk.nil _))) Try.func28 (N := k) (an := an_within_where) (by kernel_rfl) x y ((eq_within_where k (g_meet_On k) (g_within_right k) (x.1) (x.2)).trans h)

def an_within_At : Ann := .node none none .leaf (.node none none .leaf (.node none none (.node none none (.node (some [(5, .box [.d (.pair kI kI)]), (8, .d (.sl (.pair (.pair kI kI) (.pair kI kI)))), (23, .d .bool)]) none .leaf .leaf) .leaf) .leaf))
def b_within_At (k : Nat) (c_within_fine : (List (Int × Int)) → (List (Int × Int)) → (Unit × Unit) → Option ((List ((Int × Int) × (Int × Int))) × Bool)) (c_pred_Fits : (List (Int × Int)) → Option Bool) (c_within_where : (List ((Int × Int) × (Int × Int))) → (Int × Int) → Option Int) (a0 : (List (Int × Int))) (a1 : (List (Int × Int))) (a2 : (Int × Int)) : Option (Int × Int) :=
  bnd (c_within_fine a0 a1 ((), ())) fun r0 =>
   meet (α := ((Int × Int) × ((List ((Int × Int) × (Int × Int))) × Bool))) (fun (y1, y2, y3) =>
    bif y3 then
     some (0, 2)
    else
     bnd (c_within_where y2 (y1.1, y1.2)) fun r4 =>
     some (r4, 0)) fun j5 =>
   bif !r0.2 then
    j5 ((a2.1, a2.2), r0.1, true)
   else
    bnd (c_pred_Fits [(a2.1, a2.2)]) fun r6 =>
    j5 ((a2.1, a2.2), r0.1, !r6)
theorem eq_within_At (k : Nat) (c_within_fine : (List (Int × Int)) → (List (Int × Int)) → (Unit × Unit) → Option ((List ((Int × Int) × (Int × Int))) × Bool)) (c_pred_Fits : (List (Int × Int)) → Option Bool) (c_within_where : (List ((Int × Int) × (Int × Int))) → (Int × Int) → Option Int) (a0 : (List (Int × Int))) (a1 : (List (Int × Int))) (a2 : (Int × Int)) : textF [⟨25, [.d (.sl (.pair kI kI)), .d (.sl (.pair kI kI)), .fn 26 [] []], [.sl (.pair (.pair kI kI) (.pair kI kI)), .bool], fun x => c_within_fine (x.1) (x.2.1) (x.2.2)⟩, ⟨27, [.d (.sl (.pair kI kI))], [.bool], fun x => c_pred_Fits x⟩, ⟨28, [.d (.sl (.pair (.pair kI kI) (.pair kI kI))), .d (.pair kI kI)], [kI], fun x => c_within_where (x.1) (x.2)⟩] tb k Try.f12 an_within_At [.d (.sl (.pair kI kI)), .d (.sl (.pair kI kI)), .d (.pair kI kI)] [kI, kI] (a0, a1, a2) = b_within_At k c_within_fine c_pred_Fits c_within_where a0 a1 a2 := by kernel_rfl
def g_within_At (k : Nat) (a0 : (List (Int × Int))) (a1 : (List (Int × Int))) (a2 : (Int × Int)) : Option (Int × Int) := b_within_At k (g_within_fine k) (g_pred_Fits k) (g_within_where k) a0 a1 a2
theorem tells_within_At (k : Nat) : TellsF Try.prog 12 [.d (.sl (.pair kI kI)), .d (.sl (.pair kI kI)), .d (.pair kI kI)] [kI, kI] (fun x => g_within_At k (x.1) (x.2.1) (x.2.2)) := fun x y h => fun_tells tb_ok mix (es := [⟨25, [.d (.sl (.pair kI kI)), .d (.sl (.pair kI kI)), .fn 26 [] []], [.sl (.pair (.pair kI kI) (.pair kI kI)), .bool], fun x => g_within_fine k (x.1) (x.2.1) (x.2.2)⟩, ⟨27, [.d (.sl (.pair kI kI))], [.bool], fun x => g_pred_Fits k x⟩, ⟨28, [.d (.sl (.pair (.pair kI kI) (.pair kI kI))), .d (.pair kI kI)], [kI], fun x => g_within_where k (x.1) (x.2)⟩]) (EsOk.cons ⟨rfl, tells_within_fine k⟩ (EsOk.cons ⟨rfl, tells_pred_Fits k⟩ (EsOk.cons ⟨rfl, tells_within_where k⟩ (EsOk.nil _)))) Try.func12 (N := k) (an := an_within_At) (by kernel_rfl) x y ((eq_within_At k (g_within_fine k) (g_pred_Fits k) (g_within_where k) (x.1) (x.2.1) (x.2.2)).trans h)

def an_within_grid_at : Ann := .leaf
def g_within_grid_at (k : Nat) (a0 : Int) (a1 : (Int × Int)) : Option (Int × Int) :=
  some (w64 (a0 * a1.1), w64 (a0 * a1.2))
theorem eq_within_grid_at (k : Nat) (a0 : Int) (a1 : (Int × Int)) : textF [] tb k Try.f40 an_within_grid_at [.d kI, .d (.pair kI kI)] [.pair kI kI] (a0, a1) = g_within_grid_at k a0 a1 := by kernel_rfl
theorem tells_within_grid_at (k : Nat) : TellsF Try.prog 40 [.d kI, .d (.pair kI kI)] [.pair kI kI] (fun x => g_within_grid_at k (x.1) (x.2)) := fun x y h => fun_tells tb_ok mix (es := []) (EsOk.nil _) Try.func40 (N := k) (an := an_within_grid_at) (by kernel_rfl) x y ((eq_within_grid_at k (x.1) (x.2)).trans h)

def an_within_fine_2 : Ann := .node none none .leaf (.node none none .leaf (.node none none (.node none none .leaf (.node none none (.node none (some [(0, .d (.sl (.pair kI kI))), (2, .fn 40 [(.d kI)] []), (8, .row (.pair (.pair kI kI) (.pair kI kI)) 70), (13, .d (.sl (.pair kI kI))), (14, .d kI), (15, .d kI)]) (.node none none .leaf (.node none none .leaf (.node none none (.node none none (.node none none .leaf (.node none none (.node none none (.node (some [(0, .d (.sl (.pair kI kI))), (2, .fn 40 [(.d kI)] []), (8, .row (.pair (.pair kI kI) (.pair kI kI)) 70), (10, .box [.d (.pair kI kI)]), (13, .d (.sl (.pair kI kI))), (14, .d kI), (15, .d kI), (68, .d .bool)]) none .leaf .leaf) .leaf) .leaf)) .leaf) .leaf))) .leaf) .leaf)) .leaf))
def b_within_fine_2 (k : Nat) (c_pred_Fits : (List (Int × Int)) → Option Bool) (c_within_grid_at : Int → (Int × Int) → Option (Int × Int)) (a0 : (List (Int × Int))) (a1 : (List (Int × Int))) (a2 : (Int × Unit)) : Option ((List ((Int × Int) × (Int × Int))) × Bool) :=
  loopN (α := ((List (Int × Int)) × ((Int × PUnit) × ((List ((Int × Int) × (Int × Int))) × ((List (Int × Int)) × (Int × Int)))))) (fun (x1, x2, x3, x4, x5, x6) next0 =>
    bif decide (x6 < x5) then
     gd (inb x6 x4.length) <|
     meet (α := ((List (Int × Int)) × ((Int × PUnit) × ((List ((Int × Int) × (Int × Int))) × ((Int × Int) × ((List (Int × Int)) × (Int × (Int × Bool)))))))) (fun (y7, y8, y9, y10, y11, y12, y13, y14) =>
      bif y14 then
       some ([], false)
      else
       gd (inb y10.1 y7.length) <|
       bnd (c_within_grid_at y8.1 ((rdD (0, 0) y7 y10.1).1, (rdD (0, 0) y7 y10.1).2)) fun r15 =>
       gd (inb y10.2 y7.length) <|
       bnd (c_within_grid_at y8.1 ((rdD (0, 0) y7 y10.2).1, (rdD (0, 0) y7 y10.2).2)) fun r16 =>
       bnd (c_pred_Fits [(r15.1, r15.2), (r16.1, r16.2)]) fun r17 =>
       bif !r17 then
        some ([], false)
       else
        gd (few (y9.length + 1)) <|
        next0 (y7, (y8.1, ()), y9 ++ [((r15.1, r15.2), r16.1, r16.2)], y11, y12, w64 (y13 + 1))) fun j18 =>
     bif decide ((rdD (0, 0) x4 x6).1 < 0) then
      j18 (x1, (x2.1, ()), x3, ((rdD (0, 0) x4 x6).1, (rdD (0, 0) x4 x6).2), x4, x5, x6, true)
     else
      bif decide ((rdD (0, 0) x4 x6).1 ≥ (x1.length : Int)) then
       j18 (x1, (x2.1, ()), x3, ((rdD (0, 0) x4 x6).1, (rdD (0, 0) x4 x6).2), x4, x5, x6, true)
      else
       bif decide ((rdD (0, 0) x4 x6).2 < 0) then
        j18 (x1, (x2.1, ()), x3, ((rdD (0, 0) x4 x6).1, (rdD (0, 0) x4 x6).2), x4, x5, x6, true)
       else
        bif decide ((rdD (0, 0) x4 x6).2 ≥ (x1.length : Int)) then
         j18 (x1, (x2.1, ()), x3, ((rdD (0, 0) x4 x6).1, (rdD (0, 0) x4 x6).2), x4, x5, x6, true)
        else
         gd (inb (rdD (0, 0) x4 x6).1 x1.length) <|
         gd (inb (rdD (0, 0) x4 x6).2 x1.length) <|
         bif (decide ((rdD (0, 0) x1 (rdD (0, 0) x4 x6).1).1 = (rdD (0, 0) x1 (rdD (0, 0) x4 x6).2).1)) && (decide ((rdD (0, 0) x1 (rdD (0, 0) x4 x6).1).2 = (rdD (0, 0) x1 (rdD (0, 0) x4 x6).2).2)) then
          j18 (x1, (x2.1, ()), x3, ((rdD (0, 0) x4 x6).1, (rdD (0, 0) x4 x6).2), x4, x5, x6, true)
         else
          gd (inb (rdD (0, 0) x4 x6).1 x1.length) <|
          gd (inb (rdD (0, 0) x4 x6).2 x1.length) <|
          bnd (c_pred_Fits [((rdD (0, 0) x1 (rdD (0, 0) x4 x6).1).1, (rdD (0, 0) x1 (rdD (0, 0) x4 x6).1).2), ((rdD (0, 0) x1 (rdD (0, 0) x4 x6).2).1, (rdD (0, 0) x1 (rdD (0, 0) x4 x6).2).2)]) fun r19 =>
          j18 (x1, (x2.1, ()), x3, ((rdD (0, 0) x4 x6).1, (rdD (0, 0) x4 x6).2), x4, x5, x6, !r19)
    else
     some (x3, true)) k (a0, (a2.1, ()), [], a1, (a1.length : Int), 0)
theorem eq_within_fine_2 (k : Nat) (c_pred_Fits : (List (Int × Int)) → Option Bool) (c_within_grid_at : Int → (Int × Int) → Option (Int × Int)) (a0 : (List (Int × Int))) (a1 : (List (Int × Int))) (a2 : (Int × Unit)) : textF [⟨27, [.d (.sl (.pair kI kI))], [.bool], fun x => c_pred_Fits x⟩, ⟨40, [.d kI, .d (.pair kI kI)], [.pair kI kI], fun x => c_within_grid_at (x.1) (x.2)⟩] tb k Try.f25 an_within_fine_2 [.d (.sl (.pair kI kI)), .d (.sl (.pair kI kI)), .fn 40 [(.d kI)] []] [.sl (.pair (.pair kI kI) (.pair kI kI)), .bool] (a0, a1, a2) = b_within_fine_2 k c_pred_Fits c_within_grid_at a0 a1 a2 := by kernel_rfl
def g_within_fine_2 (k : Nat) (a0 : (List (Int × Int))) (a1 : (List (Int × Int))) (a2 : (Int × Unit)) : Option ((List ((Int × Int) × (Int × Int))) × Bool) := b_within_fine_2 k (g_pred_Fits k) (g_within_grid_at k) a0 a1 a2
theorem tells_within_fine_2 (k : Nat) : TellsF Try.prog 25 [.d (.sl (.pair kI kI)), .d (.sl (.pair kI kI)), .fn 40 [(.d kI)] []] [.sl (.pair (.pair kI kI) (.pair kI kI)), .bool] (fun x => g_within_fine_2 k (x.1) (x.2.1) (x.2.2)) := fun x y h => fun_tells tb_ok mix (es := [⟨27, [.d (.sl (.pair kI kI))], [.bool], fun x => g_pred_Fits k x⟩, ⟨40, [.d kI, .d (.pair kI kI)], [.pair kI kI], fun x => g_within_grid_at k (x.1) (x.2)⟩]) (EsOk.cons ⟨rfl, tells_pred_Fits k⟩ (EsOk.cons ⟨rfl, tells_within_grid_at k⟩ (EsOk.nil _))) Try.func25 (N := k) (an := an_within_fine_2) (by kernel_rfl) x y ((eq_within_fine_2 k (g_pred_Fits k) (g_within_grid_at k) (x.1) (x.2.1) (x.2.2)).trans h)

def an_within_middle : Ann := .node none none .leaf (.node none none .leaf (.node none none .leaf (.node none none (.node none none .leaf (.node none none (.node none (some [(0, .d (.sl (.pair kI kI))), (1, .d (.sl (.pair kI kI))), (8, .d kI), (9, .box [.d (.pair kI kI)]), (16, .d (.sl kI)), (17, .d kI), (18, .d kI)]) (.node none none .leaf (.node none none .leaf (.node none none (.node none none (.node none none .leaf (.node none none (.node none none (.node (some [(0, .d (.sl (.pair kI kI))), (1, .d (.sl (.pair kI kI))), (8, .d kI), (9, .box [.d (.pair kI kI)]), (11, .d kI), (16, .d (.sl kI)), (17, .d kI), (18, .d kI), (38, .d .bool)]) none .leaf .leaf) .leaf) .leaf)) .leaf) .leaf))) .leaf) .leaf)) (.node none none .leaf (.node none none (.node none none (.node (some [(9, .box [.d (.pair kI kI)]), (12, .d (.sl (.pair (.pair kI kI) (.pair kI kI)))), (72, .d .bool)]) none .leaf .leaf) .leaf) .leaf)))))
def b_within_middle (k : Nat) (c_pred_Fits : (List (Int × Int)) → Option Bool) (c_within_fine_2 : (List (Int × Int)) → (List (Int × Int)) → (Int × Unit) → Option ((List ((Int × Int) × (Int × Int))) × Bool)) (c_within_where : (List ((Int × Int) × (Int × Int))) → (Int × Int) → Option Int) (a0 : (List (Int × Int))) (a1 : (List (Int × Int))) (a2 : (List Int)) : Option (Int × Int) :=
  loopN (α := ((List (Int × Int)) × ((List (Int × Int)) × (Int × ((Int × Int) × ((List Int) × (Int × Int))))))) (fun (x1, x2, x3, x4, x5, x6, x7) next0 =>
    bif decide (x7 < x6) then
     gd (inb x7 x5.length) <|
     meet (α := ((List (Int × Int)) × ((List (Int × Int)) × (Int × ((Int × Int) × (Int × ((List Int) × (Int × (Int × Bool))))))))) (fun (y8, y9, y10, y11, y12, y13, y14, y15, y16) =>
      bif y16 then
       some (0, 2)
      else
       gd (inb y12 y8.length) <|
       gd (inb y12 y8.length) <|
       next0 (y8, y9, y10, (w64 (y11.1 + (rdD (0, 0) y8 y12).1), w64 (y11.2 + (rdD (0, 0) y8 y12).2)), y13, y14, w64 (y15 + 1))) fun j17 =>
     bif decide ((rdD 0 x5 x7) < 0) then
      j17 (x1, x2, x3, (x4.1, x4.2), rdD 0 x5 x7, x5, x6, x7, true)
     else
      bif decide ((rdD 0 x5 x7) ≥ (x1.length : Int)) then
       j17 (x1, x2, x3, (x4.1, x4.2), rdD 0 x5 x7, x5, x6, x7, true)
      else
       gd (inb (rdD 0 x5 x7) x1.length) <|
       bnd (c_pred_Fits [((rdD (0, 0) x1 (rdD 0 x5 x7)).1, (rdD (0, 0) x1 (rdD 0 x5 x7)).2)]) fun r18 =>
       j17 (x1, x2, x3, (x4.1, x4.2), rdD 0 x5 x7, x5, x6, x7, !r18)
    else
     bnd (c_within_fine_2 x1 x2 (x3, ())) fun r19 =>
     meet (α := ((Int × Int) × ((List ((Int × Int) × (Int × Int))) × Bool))) (fun (y20, y21, y22) =>
      bif y22 then
       some (0, 2)
      else
       bnd (c_within_where y21 (y20.1, y20.2)) fun r23 =>
       some (r23, 0)) fun j24 =>
     bif !r19.2 then
      j24 ((x4.1, x4.2), r19.1, true)
     else
      bnd (c_pred_Fits [(x4.1, x4.2)]) fun r25 =>
      j24 ((x4.1, x4.2), r19.1, !r25)) k (a0, a1, (a2.length : Int), (0, 0), a2, (a2.length : Int), 0)
theorem eq_within_middle (k : Nat) (c_pred_Fits : (List (Int × Int)) → Option Bool) (c_within_fine_2 : (List (Int × Int)) → (List (Int × Int)) → (Int × Unit) → Option ((List ((Int × Int) × (Int × Int))) × Bool)) (c_within_where : (List ((Int × Int) × (Int × Int))) → (Int × Int) → Option Int) (a0 : (List (Int × Int))) (a1 : (List (Int × Int))) (a2 : (List Int)) : textF [⟨27, [.d (.sl (.pair kI kI))], [.bool], fun x => c_pred_Fits x⟩, ⟨25, [.d (.sl (.pair kI kI)), .d (.sl (.pair kI kI)), .fn 40 [(.d kI)] []], [.sl (.pair (.pair kI kI) (.pair kI kI)), .bool], fun x => c_within_fine_2 (x.1) (x.2.1) (x.2.2)⟩, ⟨28, [.d (.sl (.pair (.pair kI kI) (.pair kI kI))), .d (.pair kI kI)], [kI], fun x => c_within_where (x.1) (x.2)⟩] tb k Try.f31 an_within_middle [.d (.sl (.pair kI kI)), .d (.sl (.pair kI kI)), .d (.sl kI)] [kI, kI] (a0, a1, a2) = b_within_middle k c_pred_Fits c_within_fine_2 c_within_where a0 a1 a2 := by kernel_rfl
def g_within_middle (k : Nat) (a0 : (List (Int × Int))) (a1 : (List (Int × Int))) (a2 : (List Int)) : Option (Int × Int) := b_within_middle k (g_pred_Fits k) (g_within_fine_2 k) (g_within_where k) a0 a1 a2
theorem tells_within_middle (k : Nat) : TellsF Try.prog 31 [.d (.sl (.pair kI kI)), .d (.sl (.pair kI kI)), .d (.sl kI)] [kI, kI] (fun x => g_within_middle k (x.1) (x.2.1) (x.2.2)) := fun x y h => fun_tells tb_ok mix (es := [⟨27, [.d (.sl (.pair kI kI))], [.bool], fun x => g_pred_Fits k x⟩, ⟨25, [.d (.sl (.pair kI kI)), .d (.sl (.pair kI kI)), .fn 40 [(.d kI)] []], [.sl (.pair (.pair kI kI) (.pair kI kI)), .bool], fun x => g_within_fine_2 k (x.1) (x.2.1) (x.2.2)⟩, ⟨28, [.d (.sl (.pair (.pair kI kI) (.pair kI kI))), .d (.pair kI kI)], [kI], fun x => g_within_where k (x.1) (x.2)⟩]) (EsOk.cons ⟨rfl, tells_pred_Fits k⟩ (EsOk.cons ⟨rfl, tells_within_fine_2 k⟩ (EsOk.cons ⟨rfl, tells_within_where k⟩ (EsOk.nil _)))) Try.func31 (N := k) (an := an_within_middle) (by kernel_rfl) x y ((eq_within_middle k (g_pred_Fits k) (g_within_fine_2 k) (g_within_where k) (x.1) (x.2.1) (x.2.2)).trans h)

def an_within_Halfway : Ann := .leaf
def b_within_Halfway (k : Nat) (c_within_middle : (List (Int × Int)) → (List (Int × Int)) → (List Int) → Option (Int × Int)) (a0 : (List (Int × Int))) (a1 : (List (Int × Int))) (a2 : Int) (a3 : Int) : Option (Int × Int) :=
  bnd (c_within_middle a0 a1 [a2, a3]) fun r0 =>
   some (r0.1, r0.2)
theorem eq_within_Halfway (k : Nat) (c_within_middle : (List (Int × Int)) → (List (Int × Int)) → (List Int) → Option (Int × Int)) (a0 : (List (Int × Int))) (a1 : (List (Int × Int))) (a2 : Int) (a3 : Int) : textF [⟨31, [.d (.sl (.pair kI kI)), .d (.sl (.pair kI kI)), .d (.sl kI)], [kI, kI], fun x => c_within_middle (x.1) (x.2.1) (x.2.2)⟩] tb k Try.f14 an_within_Halfway [.d (.sl (.pair kI kI)), .d (.sl (.pair kI kI)), .d kI, .d kI] [kI, kI] (a0, a1, a2, a3) = b_within_Halfway k c_within_middle a0 a1 a2 a3 := by kernel_rfl
def g_within_Halfway (k : Nat) (a0 : (List (Int × Int))) (a1 : (List (Int × Int))) (a2 : Int) (a3 : Int) : Option (Int × Int) := b_within_Halfway k (g_within_middle k) a0 a1 a2 a3
theorem tells_within_Halfway (k : Nat) : TellsF Try.prog 14 [.d (.sl (.pair kI kI)), .d (.sl (.pair kI kI)), .d kI, .d kI] [kI, kI] (fun x => g_within_Halfway k (x.1) (x.2.1) (x.2.2.1) (x.2.2.2)) := fun x y h => fun_tells tb_ok mix (es := [⟨31, [.d (.sl (.pair kI kI)), .d (.sl (.pair kI kI)), .d (.sl kI)], [kI, kI], fun x => g_within_middle k (x.1) (x.2.1) (x.2.2)⟩]) (EsOk.cons ⟨rfl, tells_within_middle k⟩ (EsOk.nil _)) Try.func14 (N := k) (an := an_within_Halfway) (by kernel_rfl) x y ((eq_within_Halfway k (g_within_middle k) (x.1) (x.2.1) (x.2.2.1) (x.2.2.2)).trans h)

def an_within_Third : Ann := .leaf
def b_within_Third (k : Nat) (c_within_middle : (List (Int × Int)) → (List (Int × Int)) → (List Int) → Option (Int × Int)) (a0 : (List (Int × Int))) (a1 : (List (Int × Int))) (a2 : Int) (a3 : Int) (a4 : Int) : Option (Int × Int) :=
  bnd (c_within_middle a0 a1 [a2, a3, a4]) fun r0 =>
   some (r0.1, r0.2)
theorem eq_within_Third (k : Nat) (c_within_middle : (List (Int × Int)) → (List (Int × Int)) → (List Int) → Option (Int × Int)) (a0 : (List (Int × Int))) (a1 : (List (Int × Int))) (a2 : Int) (a3 : Int) (a4 : Int) : textF [⟨31, [.d (.sl (.pair kI kI)), .d (.sl (.pair kI kI)), .d (.sl kI)], [kI, kI], fun x => c_within_middle (x.1) (x.2.1) (x.2.2)⟩] tb k Try.f16 an_within_Third [.d (.sl (.pair kI kI)), .d (.sl (.pair kI kI)), .d kI, .d kI, .d kI] [kI, kI] (a0, a1, a2, a3, a4) = b_within_Third k c_within_middle a0 a1 a2 a3 a4 := by kernel_rfl
def g_within_Third (k : Nat) (a0 : (List (Int × Int))) (a1 : (List (Int × Int))) (a2 : Int) (a3 : Int) (a4 : Int) : Option (Int × Int) := b_within_Third k (g_within_middle k) a0 a1 a2 a3 a4
theorem tells_within_Third (k : Nat) : TellsF Try.prog 16 [.d (.sl (.pair kI kI)), .d (.sl (.pair kI kI)), .d kI, .d kI, .d kI] [kI, kI] (fun x => g_within_Third k (x.1) (x.2.1) (x.2.2.1) (x.2.2.2.1) (x.2.2.2.2)) := fun x y h => fun_tells tb_ok mix (es := [⟨31, [.d (.sl (.pair kI kI)), .d (.sl (.pair kI kI)), .d (.sl kI)], [kI, kI], fun x => g_within_middle k (x.1) (x.2.1) (x.2.2)⟩]) (EsOk.cons ⟨rfl, tells_within_middle k⟩ (EsOk.nil _)) Try.func16 (N := k) (an := an_within_Third) (by kernel_rfl) x y ((eq_within_Third k (g_within_middle k) (x.1) (x.2.1) (x.2.2.1) (x.2.2.2.1) (x.2.2.2.2)).trans h)

def an_parquetlaw09_known : Ann := .node none none .leaf (.node none none .leaf (.node none none .leaf (.node none none .leaf (.node none none .leaf (.node none none .leaf (.node none none .leaf (.node none none .leaf (.node none none .leaf (.node none none (.node (some [(0, .d .bool)]) none .leaf .leaf) .leaf)))))))))
def b_parquetlaw09_known (k : Nat) (c_parquetlaw09_square : Option ((List (Int × Int)) × (List (Int × Int)))) (c_within_At : (List (Int × Int)) → (List (Int × Int)) → (Int × Int) → Option (Int × Int)) (c_within_Halfway : (List (Int × Int)) → (List (Int × Int)) → Int → Int → Option (Int × Int)) (c_within_Third : (List (Int × Int)) → (List (Int × Int)) → Int → Int → Int → Option (Int × Int)) : Option Bool :=
  bnd (c_parquetlaw09_square) fun r0 =>
   bnd (c_within_At r0.1 r0.2 (1, 1)) fun r1 =>
   bnd (c_within_At r0.1 r0.2 (4, 2)) fun r2 =>
   bnd (c_within_At r0.1 r0.2 (5, 2)) fun r3 =>
   bnd (c_within_Halfway r0.1 r0.2 0 2) fun r4 =>
   bnd (c_within_Halfway r0.1 r0.2 0 1) fun r5 =>
   bnd (c_within_Third r0.1 r0.2 0 1 2) fun r6 =>
   bnd (c_within_At r0.1 [(0, 4)] (0, 0)) fun r7 =>
   meet (α := Bool) (fun y8 =>
    some y8) fun j9 =>
   bif decide (r1.2 = 0) then
    bif decide (r1.1 = 1) then
     bif decide (r2.1 = 0) then
      bif decide (r3.1 = (-1)) then
       bif decide (r4.1 = 1) then
        bif decide (r4.2 = 0) then
         bif decide (r5.1 = 0) then
          bif decide (r6.1 = 1) then
           bif decide (r6.2 = 0) then
            j9 (decide (r7.2 = 2))
           else
            j9 false
          else
           j9 false
         else
          j9 false
        else
         j9 false
       else
        j9 false
      else
       j9 false
     else
      j9 false
    else
     j9 false
   else
    j9 false
theorem eq_parquetlaw09_known (k : Nat) (c_parquetlaw09_square : Option ((List (Int × Int)) × (List (Int × Int)))) (c_within_At : (List (Int × Int)) → (List (Int × Int)) → (Int × Int) → Option (Int × Int)) (c_within_Halfway : (List (Int × Int)) → (List (Int × Int)) → Int → Int → Option (Int × Int)) (c_within_Third : (List (Int × Int)) → (List (Int × Int)) → Int → Int → Int → Option (Int × Int)) : textF [⟨24, [], [.sl (.pair kI kI), .sl (.pair kI kI)], fun x => c_parquetlaw09_square⟩, ⟨12, [.d (.sl (.pair kI kI)), .d (.sl (.pair kI kI)), .d (.pair kI kI)], [kI, kI], fun x => c_within_At (x.1) (x.2.1) (x.2.2)⟩, ⟨14, [.d (.sl (.pair kI kI)), .d (.sl (.pair kI kI)), .d kI, .d kI], [kI, kI], fun x => c_within_Halfway (x.1) (x.2.1) (x.2.2.1) (x.2.2.2)⟩, ⟨16, [.d (.sl (.pair kI kI)), .d (.sl (.pair kI kI)), .d kI, .d kI, .d kI], [kI, kI], fun x => c_within_Third (x.1) (x.2.1) (x.2.2.1) (x.2.2.2.1) (x.2.2.2.2)⟩] tb k Try.f11 an_parquetlaw09_known [] [.bool] () = b_parquetlaw09_known k c_parquetlaw09_square c_within_At c_within_Halfway c_within_Third := by kernel_rfl
def g_parquetlaw09_known (k : Nat) : Option Bool := b_parquetlaw09_known k (g_parquetlaw09_square k) (g_within_At k) (g_within_Halfway k) (g_within_Third k)
theorem tells_parquetlaw09_known (k : Nat) : TellsF Try.prog 11 [] [.bool] (fun x => g_parquetlaw09_known k) := fun x y h => fun_tells tb_ok mix (es := [⟨24, [], [.sl (.pair kI kI), .sl (.pair kI kI)], fun x => g_parquetlaw09_square k⟩, ⟨12, [.d (.sl (.pair kI kI)), .d (.sl (.pair kI kI)), .d (.pair kI kI)], [kI, kI], fun x => g_within_At k (x.1) (x.2.1) (x.2.2)⟩, ⟨14, [.d (.sl (.pair kI kI)), .d (.sl (.pair kI kI)), .d kI, .d kI], [kI, kI], fun x => g_within_Halfway k (x.1) (x.2.1) (x.2.2.1) (x.2.2.2)⟩, ⟨16, [.d (.sl (.pair kI kI)), .d (.sl (.pair kI kI)), .d kI, .d kI, .d kI], [kI, kI], fun x => g_within_Third k (x.1) (x.2.1) (x.2.2.1) (x.2.2.2.1) (x.2.2.2.2)⟩]) (EsOk.cons ⟨rfl, tells_parquetlaw09_square k⟩ (EsOk.cons ⟨rfl, tells_within_At k⟩ (EsOk.cons ⟨rfl, tells_within_Halfway k⟩ (EsOk.cons ⟨rfl, tells_within_Third k⟩ (EsOk.nil _))))) Try.func11 (N := k) (an := an_parquetlaw09_known) (by kernel_rfl) x y ((eq_parquetlaw09_known k (g_parquetlaw09_square k) (g_within_At k) (g_within_Halfway k) (g_within_Third k)).trans h)

def an_parquetref03_Fits : Ann := .node none none .leaf (.node none none (.node (some [(2, .d .bool)]) none .leaf .leaf) .leaf)
def g_parquetref03_Fits (k : Nat) (a0 : (Int × Int)) : Option Bool :=
  meet (α := Bool) (fun y0 =>
    some y0) fun j1 =>
   bif decide (a0.1 ≥ (-4294967296)) then
    bif decide (a0.1 ≤ 4294967296) then
     bif decide (a0.2 ≥ (-4294967296)) then
      j1 (decide (a0.2 ≤ 4294967296))
     else
      j1 false
    else
     j1 false
   else
    j1 false
theorem eq_parquetref03_Fits (k : Nat) (a0 : (Int × Int)) : textF [] tb k Try.f19 an_parquetref03_Fits [.d (.pair kI kI)] [.bool] a0 = g_parquetref03_Fits k a0 := by kernel_rfl
theorem tells_parquetref03_Fits (k : Nat) : TellsF Try.prog 19 [.d (.pair kI kI)] [.bool] (fun x => g_parquetref03_Fits k x) := fun x y h => fun_tells tb_ok mix (es := []) (EsOk.nil _) Try.func19 (N := k) (an := an_parquetref03_Fits) (by kernel_rfl) x y ((eq_parquetref03_Fits k x).trans h)

def an_parquetref09_times : Ann := .leaf
def g_parquetref09_times (k : Nat) (a0 : (Int × Int)) (a1 : Int) : Option (Int × Int) :=
  some (w64 (a1 * a0.1), w64 (a1 * a0.2))
theorem eq_parquetref09_times (k : Nat) (a0 : (Int × Int)) (a1 : Int) : textF [] tb k Try.f37 an_parquetref09_times [.d (.pair kI kI), .d kI] [.pair kI kI] (a0, a1) = g_parquetref09_times k a0 a1 := by kernel_rfl
theorem tells_parquetref09_times (k : Nat) : TellsF Try.prog 37 [.d (.pair kI kI), .d kI] [.pair kI kI] (fun x => g_parquetref09_times k (x.1) (x.2)) := fun x y h => fun_tells tb_ok mix (es := []) (EsOk.nil _) Try.func37 (N := k) (an := an_parquetref09_times) (by kernel_rfl) x y ((eq_parquetref09_times k (x.1) (x.2)).trans h)

def an_parquetref09_Check : Ann := .node none none .leaf (.node none none (.node none none .leaf (.node none none (.node none (some [(0, .d (.sl (.pair kI kI))), (1, .d (.sl (.pair kI kI))), (2, .d kI), (7, .d kI)]) (.node none none .leaf (.node none none (.node none none (.node none none .leaf (.node none none (.node none none (.node (some [(0, .d (.sl (.pair kI kI))), (1, .d (.sl (.pair kI kI))), (2, .d kI), (7, .d kI), (8, .box [.d (.pair kI kI)]), (53, .d .bool)]) none .leaf .leaf) .leaf) (.node none none (.node (some [(0, .d (.sl (.pair kI kI))), (1, .d (.sl (.pair kI kI))), (2, .d kI), (7, .d kI), (91, .d .bool)]) none .leaf .leaf) .leaf))) .leaf) .leaf)) .leaf) .leaf)) .leaf)
def b_parquetref09_Check (k : Nat) (c_parquetref03_Fits : (Int × Int) → Option Bool) (c_parquetref09_times : (Int × Int) → Int → Option (Int × Int)) (a0 : (List (Int × Int))) (a1 : (List (Int × Int))) (a2 : Int) : Option Bool :=
  loopN (α := ((List (Int × Int)) × ((List (Int × Int)) × (Int × Int)))) (fun (x1, x2, x3, x4) next0 =>
    bif decide (x4 < (x2.length : Int)) then
     gd (inb x4 x2.length) <|
     meet (α := ((List (Int × Int)) × ((List (Int × Int)) × (Int × (Int × ((Int × Int) × Bool)))))) (fun (y5, y6, y7, y8, y9, y10) =>
      bif y10 then
       some false
      else
       meet (α := ((List (Int × Int)) × ((List (Int × Int)) × (Int × (Int × Bool))))) (fun (y11, y12, y13, y14, y15) =>
        bif y15 then
         some false
        else
         next0 (y11, y12, y13, w64 (y14 + 1))) fun j16 =>
       gd (inb y9.1 y5.length) <|
       bnd (c_parquetref03_Fits ((rdD (0, 0) y5 y9.1).1, (rdD (0, 0) y5 y9.1).2)) fun r17 =>
       bif !r17 then
        j16 (y5, y6, y7, y8, true)
       else
        gd (inb y9.2 y5.length) <|
        bnd (c_parquetref03_Fits ((rdD (0, 0) y5 y9.2).1, (rdD (0, 0) y5 y9.2).2)) fun r18 =>
        bif !r18 then
         j16 (y5, y6, y7, y8, true)
        else
         gd (inb y9.1 y5.length) <|
         bnd (c_parquetref09_times ((rdD (0, 0) y5 y9.1).1, (rdD (0, 0) y5 y9.1).2) y7) fun r19 =>
         bnd (c_parquetref03_Fits (r19.1, r19.2)) fun r20 =>
         bif !r20 then
          j16 (y5, y6, y7, y8, true)
         else
          gd (inb y9.2 y5.length) <|
          bnd (c_parquetref09_times ((rdD (0, 0) y5 y9.2).1, (rdD (0, 0) y5 y9.2).2) y7) fun r21 =>
          bnd (c_parquetref03_Fits (r21.1, r21.2)) fun r22 =>
          j16 (y5, y6, y7, y8, !r22)) fun j23 =>
     bif decide ((rdD (0, 0) x2 x4).1 < 0) then
      j23 (x1, x2, x3, x4, ((rdD (0, 0) x2 x4).1, (rdD (0, 0) x2 x4).2), true)
     else
      bif decide ((rdD (0, 0) x2 x4).2 < 0) then
       j23 (x1, x2, x3, x4, ((rdD (0, 0) x2 x4).1, (rdD (0, 0) x2 x4).2), true)
      else
       bif decide ((rdD (0, 0) x2 x4).1 ≥ (x1.length : Int)) then
        j23 (x1, x2, x3, x4, ((rdD (0, 0) x2 x4).1, (rdD (0, 0) x2 x4).2), true)
       else
        bif decide ((rdD (0, 0) x2 x4).2 ≥ (x1.length : Int)) then
         j23 (x1, x2, x3, x4, ((rdD (0, 0) x2 x4).1, (rdD (0, 0) x2 x4).2), true)
        else
         gd (inb (rdD (0, 0) x2 x4).1 x1.length) <|
         gd (inb (rdD (0, 0) x2 x4).2 x1.length) <|
         j23 (x1, x2, x3, x4, ((rdD (0, 0) x2 x4).1, (rdD (0, 0) x2 x4).2), (decide ((rdD (0, 0) x1 (rdD (0, 0) x2 x4).1).1 = (rdD (0, 0) x1 (rdD (0, 0) x2 x4).2).1)) && (decide ((rdD (0, 0) x1 (rdD (0, 0) x2 x4).1).2 = (rdD (0, 0) x1 (rdD (0, 0) x2 x4).2).2)))
    else
     some true) k (a0, a1, a2, 0)
theorem eq_parquetref09_Check (k : Nat) (c_parquetref03_Fits : (Int × Int) → Option Bool) (c_parquetref09_times : (Int × Int) → Int → Option (Int × Int)) (a0 : (List (Int × Int))) (a1 : (List (Int × Int))) (a2 : Int) : textF [⟨19, [.d (.pair kI kI)], [.bool], fun x => c_parquetref03_Fits x⟩, ⟨37, [.d (.pair kI kI), .d kI], [.pair kI kI], fun x => c_parquetref09_times (x.1) (x.2)⟩] tb k Try.f29 an_parquetref09_Check [.d (.sl (.pair kI kI)), .d (.sl (.pair kI kI)), .d kI] [.bool] (a0, a1, a2) = b_parquetref09_Check k c_parquetref03_Fits c_parquetref09_times a0 a1 a2 := by kernel_rfl
def g_parquetref09_Check (k : Nat) (a0 : (List (Int × Int))) (a1 : (List (Int × Int))) (a2 : Int) : Option Bool := b_parquetref09_Check k (g_parquetref03_Fits k) (g_parquetref09_times k) a0 a1 a2
theorem tells_parquetref09_Check (k : Nat) : TellsF Try.prog 29 [.d (.sl (.pair kI kI)), .d (.sl (.pair kI kI)), .d kI] [.bool] (fun x => g_parquetref09_Check k (x.1) (x.2.1) (x.2.2)) := fun x y h => fun_tells tb_ok mix (es := [⟨19, [.d (.pair kI kI)], [.bool], fun x => g_parquetref03_Fits k x⟩, ⟨37, [.d (.pair kI kI), .d kI], [.pair kI kI], fun x => g_parquetref09_times k (x.1) (x.2)⟩]) (EsOk.cons ⟨rfl, tells_parquetref03_Fits k⟩ (EsOk.cons ⟨rfl, tells_parquetref09_times k⟩ (EsOk.nil _))) Try.func29 (N := k) (an := an_parquetref09_Check) (by kernel_rfl) x y ((eq_parquetref09_Check k (g_parquetref03_Fits k) (g_parquetref09_times k) (x.1) (x.2.1) (x.2.2)).trans h)

def an_parquetref01_trim : Ann := .node none none .leaf (.node none none .leaf (.node none none (.node none none (.node none (some [(0, .d .bool), (1, .d (.sl kI)), (4, .box [.d .bool, .row kI 3]), (5, .d kI)]) (.node none none (.node none none (.node (some [(0, .d .bool), (1, .d (.sl kI)), (4, .box [.d .bool, .row kI 3]), (5, .d kI), (17, .d .bool)]) none .leaf .leaf) .leaf) .leaf) .leaf) .leaf) (.node none none (.node (some [(4, .box [.d (.pair .bool (.sl kI))])]) none .leaf .leaf) .leaf)))
def g_parquetref01_trim (k : Nat) (a0 : Bool) (a1 : (List Int)) : Option (Bool × (List Int)) :=
  loopN (α := (Bool × ((List Int) × ((Bool × (List Int)) × Int)))) (fun (x1, x2, x3, x4) next0 =>
    meet (α := (Bool × ((List Int) × ((Bool × (List Int)) × (Int × Bool))))) (fun (y5, y6, y7, y8, y9) =>
     bif y9 then
      next0 (y5, y6, (y7.1, y7.2), w64 (y8 - 1))
     else
      meet (α := (Bool × (List Int))) (fun (y10, y11) =>
       some (y10, y11)) fun j12 =>
      bif y5 then
       gd (decide (0 ≤ y8)) <|
       gd (decide (y8 ≤ (y6.length : Int))) <|
       j12 (decide (y8 > 0), tkL y6 y8)
      else
       gd (decide (0 ≤ y8)) <|
       gd (decide (y8 ≤ (y6.length : Int))) <|
       j12 (false, tkL y6 y8)) fun j13 =>
    bif decide (x4 > 0) then
     gd (inb (w64 (x4 - 1)) x2.length) <|
     j13 (x1, x2, (x3.1, x3.2), x4, decide ((rdD 0 x2 (w64 (x4 - 1))) = 0))
    else
     j13 (x1, x2, (x3.1, x3.2), x4, false)) k (a0, a1, (false, []), (a1.length : Int))
theorem eq_parquetref01_trim (k : Nat) (a0 : Bool) (a1 : (List Int)) : textF [] tb k Try.f49 an_parquetref01_trim [.d .bool, .d (.sl kI)] [.pair .bool (.sl kI)] (a0, a1) = g_parquetref01_trim k a0 a1 := by kernel_rfl
theorem tells_parquetref01_trim (k : Nat) : TellsF Try.prog 49 [.d .bool, .d (.sl kI)] [.pair .bool (.sl kI)] (fun x => g_parquetref01_trim k (x.1) (x.2)) := fun x y h => fun_tells tb_ok mix (es := []) (EsOk.nil _) Try.func49 (N := k) (an := an_parquetref01_trim) (by kernel_rfl) x y ((eq_parquetref01_trim k (x.1) (x.2)).trans h)

def an_parquetref01_Small : Ann := .node none none .leaf (.node none none .leaf (.node none none .leaf (.node none none (.node none none (.node none (some [(0, .d kI), (2, .box [.d .bool, .row kI 3]), (3, .row kI 3), (4, .d kI)]) (.node none none .leaf (.node none none (.node none none .leaf (.node none none (.node none none .leaf (.node (some [(0, .d kI), (2, .box [.d .bool, .row kI 3]), (3, .row kI 3), (4, .d kI), (5, .d kI)]) none .leaf .leaf)) .leaf)) .leaf)) .leaf) .leaf) .leaf)))
def b_parquetref01_Small (k : Nat) (c_parquetref01_trim : Bool → (List Int) → Option (Bool × (List Int))) (a0 : Int) : Option (Bool × (List Int)) :=
  loopN (α := (Int × ((Bool × (List Int)) × ((List Int) × Int)))) (fun (x1, x2, x3, x4) next0 =>
    bif !(decide (x4 = 0)) then
     meet (α := (Int × ((Bool × (List Int)) × ((List Int) × (Int × Int))))) (fun (y5, y6, y7, y8, y9) =>
      gd (few (y7.length + 1)) <|
      next0 (y5, (y6.1, y6.2), y7 ++ [y9], w64 (y8.tdiv 65536))) fun j10 =>
     bif decide ((x4.tmod 65536) < 0) then
      j10 (x1, (x2.1, x2.2), x3, x4, w64 (0 - (x4.tmod 65536)))
     else
      j10 (x1, (x2.1, x2.2), x3, x4, x4.tmod 65536)
    else
     bnd (c_parquetref01_trim (decide (x1 < 0)) x3) fun r11 =>
     some (r11.1, r11.2)) k (a0, (false, []), [], a0)
theorem eq_parquetref01_Small (k : Nat) (c_parquetref01_trim : Bool → (List Int) → Option (Bool × (List Int))) (a0 : Int) : textF [⟨49, [.d .bool, .d (.sl kI)], [.pair .bool (.sl kI)], fun x => c_parquetref01_trim (x.1) (x.2)⟩] tb k Try.f41 an_parquetref01_Small [.d kI] [.pair .bool (.sl kI)] a0 = b_parquetref01_Small k c_parquetref01_trim a0 := by kernel_rfl
def g_parquetref01_Small (k : Nat) (a0 : Int) : Option (Bool × (List Int)) := b_parquetref01_Small k (g_parquetref01_trim k) a0
theorem tells_parquetref01_Small (k : Nat) : TellsF Try.prog 41 [.d kI] [.pair .bool (.sl kI)] (fun x => g_parquetref01_Small k x) := fun x y h => fun_tells tb_ok mix (es := [⟨49, [.d .bool, .d (.sl kI)], [.pair .bool (.sl kI)], fun x => g_parquetref01_trim k (x.1) (x.2)⟩]) (EsOk.cons ⟨rfl, tells_parquetref01_trim k⟩ (EsOk.nil _)) Try.func41 (N := k) (an := an_parquetref01_Small) (by kernel_rfl) x y ((eq_parquetref01_Small k (g_parquetref01_trim k) x).trans h)

def an_parquetref01_digit : Ann := .leaf
def g_parquetref01_digit (k : Nat) (a0 : (List Int)) (a1 : Int) : Option Int :=
  bif decide (a1 < (a0.length : Int)) then
    gd (inb a1 a0.length) <|
    some (rdD 0 a0 a1)
   else
    some 0
theorem eq_parquetref01_digit (k : Nat) (a0 : (List Int)) (a1 : Int) : textF [] tb k Try.f50 an_parquetref01_digit [.d (.sl kI), .d kI] [kI] (a0, a1) = g_parquetref01_digit k a0 a1 := by kernel_rfl
theorem tells_parquetref01_digit (k : Nat) : TellsF Try.prog 50 [.d (.sl kI), .d kI] [kI] (fun x => g_parquetref01_digit k (x.1) (x.2)) := fun x y h => fun_tells tb_ok mix (es := []) (EsOk.nil _) Try.func50 (N := k) (an := an_parquetref01_digit) (by kernel_rfl) x y ((eq_parquetref01_digit k (x.1) (x.2)).trans h)

def an_parquetref01_Num_Times : Ann := .node none none .leaf (.node none none .leaf (.node none none (.node none none .leaf (.node none none (.node none (some [(2, .box [.d (.pair .bool (.sl kI))]), (3, .box [.d (.pair .bool (.sl kI))]), (4, .box [.d .bool, .row kI 3]), (5, .row kI 3), (6, .d kI)]) (.node none none .leaf (.node none none (.node none none (.node none none .leaf (.node none none .leaf (.node none none (.node none (some [(2, .box [.d (.pair .bool (.sl kI))]), (3, .box [.d (.pair .bool (.sl kI))]), (4, .box [.d .bool, .row kI 3]), (5, .row kI 3), (6, .d kI), (7, .d kI), (8, .d kI)]) (.node none none (.node none none (.node (some [(2, .box [.d (.pair .bool (.sl kI))]), (3, .box [.d (.pair .bool (.sl kI))]), (4, .box [.d .bool, .row kI 3]), (5, .row kI 3), (6, .d kI), (7, .d kI), (8, .d kI), (34, .d .bool)]) none .leaf .leaf) .leaf) .leaf) .leaf) .leaf))) .leaf) .leaf)) .leaf) .leaf)) .leaf))
def b_parquetref01_Num_Times (k : Nat) (c_parquetref01_digit : (List Int) → Int → Option Int) (c_parquetref01_trim : Bool → (List Int) → Option (Bool × (List Int))) (a0 : (Bool × (List Int))) (a1 : (Bool × (List Int))) : Option (Bool × (List Int)) :=
  gd (decide (0 ≤ (w64 ((w64 ((a0.2.length : Int) + (a1.2.length : Int))) + 1)))) <|
   gd (fewI (w64 ((w64 ((a0.2.length : Int) + (a1.2.length : Int))) + 1))) <|
   loopN (α := ((Bool × (List Int)) × ((Bool × (List Int)) × ((Bool × (List Int)) × ((List Int) × Int))))) (fun (x1, x2, x3, x4, x5) next0 =>
    bif decide (x5 < (x1.2.length : Int)) then
     loopN (α := ((Bool × (List Int)) × ((Bool × (List Int)) × ((Bool × (List Int)) × ((List Int) × (Int × (Int × Int))))))) (fun (x7, x8, x9, x10, x11, x12, x13) next6 =>
      meet (α := ((Bool × (List Int)) × ((Bool × (List Int)) × ((Bool × (List Int)) × ((List Int) × (Int × (Int × (Int × Bool)))))))) (fun (y14, y15, y16, y17, y18, y19, y20, y21) =>
       bif y21 then
        gd (inb (w64 (y18 + y20)) y17.length) <|
        gd (inb y18 y14.2.length) <|
        bnd (c_parquetref01_digit y15.2 y20) fun r22 =>
        gd (inb (w64 (y18 + y20)) y17.length) <|
        next6 ((y14.1, y14.2), (y15.1, y15.2), (y16.1, y16.2), stL y17 (w64 (y18 + y20)) ((w64 ((w64 ((rdD 0 y17 (w64 (y18 + y20))) + (w64 ((rdD 0 y14.2 y18) * r22)))) + y19)).tmod 65536), y18, w64 ((w64 ((w64 ((rdD 0 y17 (w64 (y18 + y20))) + (w64 ((rdD 0 y14.2 y18) * r22)))) + y19)).tdiv 65536), w64 (y20 + 1))
       else
        next0 ((y14.1, y14.2), (y15.1, y15.2), (y16.1, y16.2), y17, w64 (y18 + 1))) fun j23 =>
      bif decide (x13 < (x8.2.length : Int)) then
       j23 ((x7.1, x7.2), (x8.1, x8.2), (x9.1, x9.2), x10, x11, x12, x13, true)
      else
       j23 ((x7.1, x7.2), (x8.1, x8.2), (x9.1, x9.2), x10, x11, x12, x13, decide (x12 > 0))) k ((x1.1, x1.2), (x2.1, x2.2), (x3.1, x3.2), x4, x5, 0, 0)
    else
     bnd (c_parquetref01_trim (!(x1.1 == x2.1)) x4) fun r24 =>
     some (r24.1, r24.2)) k ((a0.1, a0.2), (a1.1, a1.2), (false, []), rpL (w64 ((w64 ((a0.2.length : Int) + (a1.2.length : Int))) + 1)) 0, 0)
theorem eq_parquetref01_Num_Times (k : Nat) (c_parquetref01_digit : (List Int) → Int → Option Int) (c_parquetref01_trim : Bool → (List Int) → Option (Bool × (List Int))) (a0 : (Bool × (List Int))) (a1 : (Bool × (List Int))) : textF [⟨50, [.d (.sl kI), .d kI], [kI], fun x => c_parquetref01_digit (x.1) (x.2)⟩, ⟨49, [.d .bool, .d (.sl kI)], [.pair .bool (.sl kI)], fun x => c_parquetref01_trim (x.1) (x.2)⟩] tb k Try.f42 an_parquetref01_Num_Times [.d (.pair .bool (.sl kI)), .d (.pair .bool (.sl kI))] [.pair .bool (.sl kI)] (a0, a1) = b_parquetref01_Num_Times k c_parquetref01_digit c_parquetref01_trim a0 a1 := by kernel_rfl
def g_parquetref01_Num_Times (k : Nat) (a0 : (Bool × (List Int))) (a1 : (Bool × (List Int))) : Option (Bool × (List Int)) := b_parquetref01_Num_Times k (g_parquetref01_digit k) (g_parquetref01_trim k) a0 a1
theorem tells_parquetref01_Num_Times (k : Nat) : TellsF Try.prog 42 [.d (.pair .bool (.sl kI)), .d (.pair .bool (.sl kI))] [.pair .bool (.sl kI)] (fun x => g_parquetref01_Num_Times k (x.1) (x.2)) := fun x y h => fun_tells tb_ok mix (es := [⟨50, [.d (.sl kI), .d kI], [kI], fun x => g_parquetref01_digit k (x.1) (x.2)⟩, ⟨49, [.d .bool, .d (.sl kI)], [.pair .bool (.sl kI)], fun x => g_parquetref01_trim k (x.1) (x.2)⟩]) (EsOk.cons ⟨rfl, tells_parquetref01_digit k⟩ (EsOk.cons ⟨rfl, tells_parquetref01_trim k⟩ (EsOk.nil _))) Try.func42 (N := k) (an := an_parquetref01_Num_Times) (by kernel_rfl) x y ((eq_parquetref01_Num_Times k (g_parquetref01_digit k) (g_parquetref01_trim k) (x.1) (x.2)).trans h)

def an_parquetref01_size : Ann := .node none none .leaf (.node none none .leaf (.node none none (.node none none .leaf (.node none none (.node none (some [(0, .d (.sl kI)), (1, .d (.sl kI)), (5, .d kI)]) .leaf .leaf) .leaf)) .leaf))
def g_parquetref01_size (k : Nat) (a0 : (List Int)) (a1 : (List Int)) : Option Int :=
  bif !(decide ((a0.length : Int) = (a1.length : Int))) then
    some (w64 ((a0.length : Int) - (a1.length : Int)))
   else
    loopN (α := ((List Int) × ((List Int) × Int))) (fun (x1, x2, x3) next0 =>
     bif decide (x3 ≥ 0) then
      gd (inb x3 x1.length) <|
      gd (inb x3 x2.length) <|
      bif !(decide ((rdD 0 x1 x3) = (rdD 0 x2 x3))) then
       gd (inb x3 x1.length) <|
       gd (inb x3 x2.length) <|
       some (w64 ((rdD 0 x1 x3) - (rdD 0 x2 x3)))
      else
       next0 (x1, x2, w64 (x3 - 1))
     else
      some 0) k (a0, a1, w64 ((a0.length : Int) - 1))
theorem eq_parquetref01_size (k : Nat) (a0 : (List Int)) (a1 : (List Int)) : textF [] tb k Try.f51 an_parquetref01_size [.d (.sl kI), .d (.sl kI)] [kI] (a0, a1) = g_parquetref01_size k a0 a1 := by kernel_rfl
theorem tells_parquetref01_size (k : Nat) : TellsF Try.prog 51 [.d (.sl kI), .d (.sl kI)] [kI] (fun x => g_parquetref01_size k (x.1) (x.2)) := fun x y h => fun_tells tb_ok mix (es := []) (EsOk.nil _) Try.func51 (N := k) (an := an_parquetref01_size) (by kernel_rfl) x y ((eq_parquetref01_size k (x.1) (x.2)).trans h)

def an_parquetref01_Num_Plus : Ann := .node none none .leaf (.node none none .leaf (.node none none .leaf (.node none none (.node none none .leaf (.node none none (.node none none (.node none none .leaf (.node none none (.node none (some [(2, .box [.d (.pair .bool (.sl kI))]), (3, .box [.d (.pair .bool (.sl kI))]), (4, .box [.d .bool, .row kI 3]), (5, .row kI 3), (6, .d kI), (7, .d kI)]) (.node none none (.node none none (.node (some [(2, .box [.d (.pair .bool (.sl kI))]), (3, .box [.d (.pair .bool (.sl kI))]), (4, .box [.d .bool, .row kI 3]), (5, .row kI 3), (6, .d kI), (7, .d kI), (33, .d .bool)]) none .leaf .leaf) .leaf) .leaf) .leaf) .leaf)) .leaf) .leaf)) (.node none none .leaf (.node none none .leaf (.node none none (.node none none .leaf (.node (some [(4, .box [.d .bool, .row kI 3]), (5, .row kI 3), (6, .d kI), (9, .box [.d (.pair .bool (.sl kI))]), (10, .box [.d (.pair .bool (.sl kI))])]) none .leaf .leaf)) (.node none none (.node none none .leaf (.node none none (.node none (some [(4, .box [.d .bool, .row kI 3]), (5, .row kI 3), (6, .d kI), (9, .box [.d (.pair .bool (.sl kI))]), (10, .box [.d (.pair .bool (.sl kI))]), (11, .d kI)]) (.node none none .leaf (.node none none (.node none none (.node none none .leaf (.node none none .leaf (.node none none (.node none none .leaf (.node (some [(4, .box [.d .bool, .row kI 3]), (5, .row kI 3), (6, .d kI), (9, .box [.d (.pair .bool (.sl kI))]), (10, .box [.d (.pair .bool (.sl kI))]), (11, .d kI), (12, .d kI)]) none .leaf .leaf)) .leaf))) .leaf) .leaf)) .leaf) .leaf)) .leaf)))))))
def b_parquetref01_Num_Plus (k : Nat) (c_parquetref01_digit : (List Int) → Int → Option Int) (c_parquetref01_trim : Bool → (List Int) → Option (Bool × (List Int))) (c_parquetref01_size : (List Int) → (List Int) → Option Int) (a0 : (Bool × (List Int))) (a1 : (Bool × (List Int))) : Option (Bool × (List Int)) :=
  bif a0.1 == a1.1 then
    loopN (α := ((Bool × (List Int)) × ((Bool × (List Int)) × ((Bool × (List Int)) × ((List Int) × (Int × Int)))))) (fun (x1, x2, x3, x4, x5, x6) next0 =>
     meet (α := ((Bool × (List Int)) × ((Bool × (List Int)) × ((Bool × (List Int)) × ((List Int) × (Int × (Int × Bool))))))) (fun (y7, y8, y9, y10, y11, y12, y13) =>
      bif y13 then
       bnd (c_parquetref01_digit y7.2 y12) fun r14 =>
       bnd (c_parquetref01_digit y8.2 y12) fun r15 =>
       gd (few (y10.length + 1)) <|
       next0 ((y7.1, y7.2), (y8.1, y8.2), (y9.1, y9.2), y10 ++ [(w64 ((w64 (r14 + r15)) + y11)).tmod 65536], w64 ((w64 ((w64 (r14 + r15)) + y11)).tdiv 65536), w64 (y12 + 1))
      else
       bnd (c_parquetref01_trim y7.1 y10) fun r16 =>
       some (r16.1, r16.2)) fun j17 =>
     bif decide (x6 < (x1.2.length : Int)) then
      j17 ((x1.1, x1.2), (x2.1, x2.2), (x3.1, x3.2), x4, x5, x6, true)
     else
      bif decide (x6 < (x2.2.length : Int)) then
       j17 ((x1.1, x1.2), (x2.1, x2.2), (x3.1, x3.2), x4, x5, x6, true)
      else
       j17 ((x1.1, x1.2), (x2.1, x2.2), (x3.1, x3.2), x4, x5, x6, decide (x5 > 0))) k ((a0.1, a0.2), (a1.1, a1.2), (false, []), [], 0, 0)
   else
    bnd (c_parquetref01_size a0.2 a1.2) fun r18 =>
    meet (α := ((Bool × (List Int)) × ((List Int) × (Int × ((Bool × (List Int)) × (Bool × (List Int))))))) (fun (y19, y20, y21, y22, y23, y24) =>
     loopN (α := ((Bool × (List Int)) × ((List Int) × (Int × ((Bool × (List Int)) × ((Bool × (List Int)) × Int)))))) (fun (x26, x27, x28, x29, x30, x31) next25 =>
      bif decide (x31 < (x29.2.length : Int)) then
       gd (inb x31 x29.2.length) <|
       bnd (c_parquetref01_digit x30.2 x31) fun r32 =>
       meet (α := ((Bool × (List Int)) × ((List Int) × (Int × ((Bool × (List Int)) × ((Bool × (List Int)) × (Int × Int))))))) (fun (y33, y34, y35, y36, y37, y38, y39) =>
        gd (few (y34.length + 1)) <|
        next25 ((y33.1, y33.2), y34 ++ [y39], y35, (y36.1, y36.2), (y37.1, y37.2), w64 (y38 + 1))) fun j40 =>
       bif decide ((w64 ((w64 ((rdD 0 x29.2 x31) - r32)) - x28)) < 0) then
        j40 ((x26.1, x26.2), x27, 1, (x29.1, x29.2), (x30.1, x30.2), x31, w64 ((w64 ((w64 ((rdD 0 x29.2 x31) - r32)) - x28)) + 65536))
       else
        j40 ((x26.1, x26.2), x27, 0, (x29.1, x29.2), (x30.1, x30.2), x31, w64 ((w64 ((rdD 0 x29.2 x31) - r32)) - x28))
      else
       bnd (c_parquetref01_trim x29.1 x27) fun r41 =>
       some (r41.1, r41.2)) k ((y19.1, y19.2), y20, y21, (y22.1, y22.2), (y23, y24), 0)) fun j42 =>
    bif decide (r18 < 0) then
     j42 ((false, []), [], 0, (a1.1, a1.2), a0.1, a0.2)
    else
     j42 ((false, []), [], 0, (a0.1, a0.2), a1.1, a1.2)
theorem eq_parquetref01_Num_Plus (k : Nat) (c_parquetref01_digit : (List Int) → Int → Option Int) (c_parquetref01_trim : Bool → (List Int) → Option (Bool × (List Int))) (c_parquetref01_size : (List Int) → (List Int) → Option Int) (a0 : (Bool × (List Int))) (a1 : (Bool × (List Int))) : textF [⟨50, [.d (.sl kI), .d kI], [kI], fun x => c_parquetref01_digit (x.1) (x.2)⟩, ⟨49, [.d .bool, .d (.sl kI)], [.pair .bool (.sl kI)], fun x => c_parquetref01_trim (x.1) (x.2)⟩, ⟨51, [.d (.sl kI), .d (.sl kI)], [kI], fun x => c_parquetref01_size (x.1) (x.2)⟩] tb k Try.f43 an_parquetref01_Num_Plus [.d (.pair .bool (.sl kI)), .d (.pair .bool (.sl kI))] [.pair .bool (.sl kI)] (a0, a1) = b_parquetref01_Num_Plus k c_parquetref01_digit c_parquetref01_trim c_parquetref01_size a0 a1 := by kernel_rfl
def g_parquetref01_Num_Plus (k : Nat) (a0 : (Bool × (List Int))) (a1 : (Bool × (List Int))) : Option (Bool × (List Int)) := b_parquetref01_Num_Plus k (g_parquetref01_digit k) (g_parquetref01_trim k) (g_parquetref01_size k) a0 a1
theorem tells_parquetref01_Num_Plus (k : Nat) : TellsF Try.prog 43 [.d (.pair .bool (.sl kI)), .d (.pair .bool (.sl kI))] [.pair .bool (.sl kI)] (fun x => g_parquetref01_Num_Plus k (x.1) (x.2)) := fun x y h => fun_tells tb_ok mix (es := [⟨50, [.d (.sl kI), .d kI], [kI], fun x => g_parquetref01_digit k (x.1) (x.2)⟩, ⟨49, [.d .bool, .d (.sl kI)], [.pair .bool (.sl kI)], fun x => g_parquetref01_trim k (x.1) (x.2)⟩, ⟨51, [.d (.sl kI), .d (.sl kI)], [kI], fun x => g_parquetref01_size k (x.1) (x.2)⟩]) (EsOk.cons ⟨rfl, tells_parquetref01_digit k⟩ (EsOk.cons ⟨rfl, tells_parquetref01_trim k⟩ (EsOk.cons ⟨rfl, tells_parquetref01_size k⟩ (EsOk.nil _)))) Try.func43 (N := k) (an := an_parquetref01_Num_Plus) (by kernel_rfl) x y ((eq_parquetref01_Num_Plus k (g_parquetref01_digit k) (g_parquetref01_trim k) (g_parquetref01_size k) (x.1) (x.2)).trans h)

end Go.Proofs.Ytgbgihofehmjpaa.AM
