/- The functions, by their texts: written by a program. -/
import Derived.Test.YtpkkcjmblocjdaaGreatGa2
import Derived.Test.YtpkkcjmblocjdaaGreatCln
set_option linter.unusedVariables false
set_option maxRecDepth 100000
namespace Go.Proofs.YtpkkcjmblocjdaaGreat.AM
open Go.RowKit Go.Proofs
noncomputable section
def an_wide_Cmp : Ann := .node none none .leaf (.node none none .leaf (.node none none (.node none none (.node (some [(2, .box [.d (.pair .bool (.pair (.int .u64) (.pair (.int .u64) (.pair (.int .u64) (.int .u64)))))]), (3, .box [.d (.pair .bool (.pair (.int .u64) (.pair (.int .u64) (.pair (.int .u64) (.int .u64)))))]), (5, .d kI), (6, .d kI), (17, .d .bool)]) none .leaf .leaf) .leaf) .leaf))
def b_wide_Cmp (k : Nat) (c_wide_Sign : (Bool × (Int × (Int × PPt))) → Option Int) (c_cmp_Compare_int : Int → Int → Option Int) (c_wide_size : (Int × (Int × PPt)) → (Int × (Int × PPt)) → Option Int) (a0 : (Bool × (Int × (Int × PPt)))) (a1 : (Bool × (Int × (Int × PPt)))) : Option Int :=
 bnd (c_wide_Sign (a0.1, a0.2.1, a0.2.2.1, a0.2.2.2.1, a0.2.2.2.2)) fun r0 =>
 bnd (c_wide_Sign (a1.1, a1.2.1, a1.2.2.1, a1.2.2.2.1, a1.2.2.2.2)) fun r1 =>
 meet (α := ((Bool × (Int × (Int × PPt))) × ((Bool × (Int × (Int × PPt))) × (Int × (Int × Bool))))) (fun (y2, y3, y4, y5, y6) =>
 bif y6 then
 bnd (c_cmp_Compare_int y4 y5) fun r7 =>
 some r7
 else
 bnd (c_wide_size (y2.2.1, y2.2.2.1, y2.2.2.2.1, y2.2.2.2.2) (y3.2.1, y3.2.2.1, y3.2.2.2.1, y3.2.2.2.2)) fun r8 =>
 some (w64 (y4 * r8))) fun j9 =>
 bif !(decide (r0 = r1)) then
 j9 ((a0.1, a0.2.1, a0.2.2.1, a0.2.2.2.1, a0.2.2.2.2), (a1.1, a1.2.1, a1.2.2.1, a1.2.2.2.1, a1.2.2.2.2), r0, r1, true)
 else
 j9 ((a0.1, a0.2.1, a0.2.2.1, a0.2.2.2.1, a0.2.2.2.2), (a1.1, a1.2.1, a1.2.2.1, a1.2.2.2.1, a1.2.2.2.2), r0, r1, decide (r0 = 0))
theorem eq_wide_Cmp (k : Nat) (c_wide_Sign : (Bool × (Int × (Int × PPt))) → Option Int) (c_cmp_Compare_int : Int → Int → Option Int) (c_wide_size : (Int × (Int × PPt)) → (Int × (Int × PPt)) → Option Int) (a0 : (Bool × (Int × (Int × PPt)))) (a1 : (Bool × (Int × (Int × PPt)))) : textF [⟨177, [.d (.pair .bool (.pair (.int .u64) (.pair (.int .u64) (.pair (.int .u64) (.int .u64)))))], [kI], fun x => c_wide_Sign x, none⟩, ⟨90, [.d kI, .d kI], [kI], fun x => c_cmp_Compare_int (x.1) (x.2), none⟩, ⟨178, [.d (.pair (.int .u64) (.pair (.int .u64) (.pair (.int .u64) (.int .u64)))), .d (.pair (.int .u64) (.pair (.int .u64) (.pair (.int .u64) (.int .u64))))], [kI], fun x => c_wide_size (x.1) (x.2), none⟩] tb k Tryz.f166 an_wide_Cmp [.d (.pair .bool (.pair (.int .u64) (.pair (.int .u64) (.pair (.int .u64) (.int .u64))))), .d (.pair .bool (.pair (.int .u64) (.pair (.int .u64) (.pair (.int .u64) (.int .u64)))))] [kI] (a0, a1) = b_wide_Cmp k c_wide_Sign c_cmp_Compare_int c_wide_size a0 a1 := by kernel_rfl
def g_wide_Cmp (k : Nat) (a0 : (Bool × (Int × (Int × PPt)))) (a1 : (Bool × (Int × (Int × PPt)))) : Option Int := b_wide_Cmp k (g_wide_Sign k) (g_cmp_Compare_int k) (g_wide_size k) a0 a1
theorem tells_wide_Cmp (k : Nat) : TellsF Tryz.prog 166 [.d (.pair .bool (.pair (.int .u64) (.pair (.int .u64) (.pair (.int .u64) (.int .u64))))), .d (.pair .bool (.pair (.int .u64) (.pair (.int .u64) (.pair (.int .u64) (.int .u64)))))] [kI] (fun x => g_wide_Cmp k (x.1) (x.2)) := fun x y h => fun_tells tb_ok mix (EsOk.cons (EntryOk.of rfl (tells_wide_Sign k)) (EsOk.cons (EntryOk.of rfl (tells_cmp_Compare_int k)) (EsOk.cons (EntryOk.of rfl (tells_wide_size k)) (EsOk.nil _)))) Tryz.func166 (N := k) (an := an_wide_Cmp) (by kernel_rfl) x y ((eq_wide_Cmp k (g_wide_Sign k) (g_cmp_Compare_int k) (g_wide_size k) (x.1) (x.2)).trans h)

def an_pred_cross : Ann := .leaf
def b_pred_cross (k : Nat) (c_pred_product : Int → Int → Option (Bool × (Int × (Int × PPt)))) (c_wide_Cmp : (Bool × (Int × (Int × PPt))) → (Bool × (Int × (Int × PPt))) → Option Int) (a0 : Int) (a1 : Int) (a2 : Int) (a3 : Int) : Option Int :=
 bnd (c_pred_product a0 a1) fun r0 =>
 bnd (c_pred_product a2 a3) fun r1 =>
 bnd (c_wide_Cmp (r0.1, r0.2.1, r0.2.2.1, r0.2.2.2.1, r0.2.2.2.2) (r1.1, r1.2.1, r1.2.2.1, r1.2.2.2.1, r1.2.2.2.2)) fun r2 =>
 some r2
theorem eq_pred_cross (k : Nat) (c_pred_product : Int → Int → Option (Bool × (Int × (Int × PPt)))) (c_wide_Cmp : (Bool × (Int × (Int × PPt))) → (Bool × (Int × (Int × PPt))) → Option Int) (a0 : Int) (a1 : Int) (a2 : Int) (a3 : Int) : textF [⟨165, [.d kI, .d kI], [.pair .bool (.pair (.int .u64) (.pair (.int .u64) (.pair (.int .u64) (.int .u64))))], fun x => c_pred_product (x.1) (x.2), none⟩, ⟨166, [.d (.pair .bool (.pair (.int .u64) (.pair (.int .u64) (.pair (.int .u64) (.int .u64))))), .d (.pair .bool (.pair (.int .u64) (.pair (.int .u64) (.pair (.int .u64) (.int .u64)))))], [kI], fun x => c_wide_Cmp (x.1) (x.2), none⟩] tb k Tryz.f145 an_pred_cross [.d kI, .d kI, .d kI, .d kI] [kI] (a0, a1, a2, a3) = b_pred_cross k c_pred_product c_wide_Cmp a0 a1 a2 a3 := by kernel_rfl
def g_pred_cross (k : Nat) (a0 : Int) (a1 : Int) (a2 : Int) (a3 : Int) : Option Int := b_pred_cross k (g_pred_product k) (g_wide_Cmp k) a0 a1 a2 a3
theorem tells_pred_cross (k : Nat) : TellsF Tryz.prog 145 [.d kI, .d kI, .d kI, .d kI] [kI] (fun x => g_pred_cross k (x.1) (x.2.1) (x.2.2.1) (x.2.2.2)) := fun x y h => fun_tells tb_ok mix (EsOk.cons (EntryOk.of rfl (tells_pred_product k)) (EsOk.cons (EntryOk.of rfl (tells_wide_Cmp k)) (EsOk.nil _))) Tryz.func145 (N := k) (an := an_pred_cross) (by kernel_rfl) x y ((eq_pred_cross k (g_pred_product k) (g_wide_Cmp k) (x.1) (x.2.1) (x.2.2.1) (x.2.2.2)).trans h)

def an_pred_orient : Ann := .leaf
def b_pred_orient (k : Nat) (c_pred_small : (List Int) → Option Bool) (c_pred_cross : Int → Int → Int → Int → Option Int) (a0 : PPt) (a1 : PPt) (a2 : PPt) : Option Int :=
 bnd (c_pred_small [w64 (a1.1 - a0.1), w64 (a2.2 - a0.2), w64 (a1.2 - a0.2), w64 (a2.1 - a0.1)]) fun r0 =>
 bif r0 then
 bif decide ((w64 ((w64 ((w64 (a1.1 - a0.1)) * (w64 (a2.2 - a0.2)))) - (w64 ((w64 (a1.2 - a0.2)) * (w64 (a2.1 - a0.1)))))) > 0) then
 some 1
 else
 bif decide ((w64 ((w64 ((w64 (a1.1 - a0.1)) * (w64 (a2.2 - a0.2)))) - (w64 ((w64 (a1.2 - a0.2)) * (w64 (a2.1 - a0.1)))))) < 0) then
 some (-1)
 else
 some 0
 else
 bnd (c_pred_cross (w64 (a1.1 - a0.1)) (w64 (a2.2 - a0.2)) (w64 (a1.2 - a0.2)) (w64 (a2.1 - a0.1))) fun r1 =>
 some r1
theorem eq_pred_orient (k : Nat) (c_pred_small : (List Int) → Option Bool) (c_pred_cross : Int → Int → Int → Int → Option Int) (a0 : PPt) (a1 : PPt) (a2 : PPt) : textF [⟨144, [.d (.sl kI)], [.bool], fun x => c_pred_small x, none⟩, ⟨145, [.d kI, .d kI, .d kI, .d kI], [kI], fun x => c_pred_cross (x.1) (x.2.1) (x.2.2.1) (x.2.2.2), none⟩] tb k Tryz.f109 an_pred_orient [.d kPP, .d kPP, .d kPP] [kI] (a0, a1, a2) = b_pred_orient k c_pred_small c_pred_cross a0 a1 a2 := by kernel_rfl
def g_pred_orient (k : Nat) (a0 : PPt) (a1 : PPt) (a2 : PPt) : Option Int := b_pred_orient k (g_pred_small k) (g_pred_cross k) a0 a1 a2
theorem tells_pred_orient (k : Nat) : TellsF Tryz.prog 109 [.d kPP, .d kPP, .d kPP] [kI] (fun x => g_pred_orient k (x.1) (x.2.1) (x.2.2)) := fun x y h => fun_tells tb_ok mix (EsOk.cons (EntryOk.of rfl (tells_pred_small k)) (EsOk.cons (EntryOk.of rfl (tells_pred_cross k)) (EsOk.nil _))) Tryz.func109 (N := k) (an := an_pred_orient) (by kernel_rfl) x y ((eq_pred_orient k (g_pred_small k) (g_pred_cross k) (x.1) (x.2.1) (x.2.2)).trans h)

def an_pred_Orient : Ann := .leaf
def b_pred_Orient (k : Nat) (c_pred_Fits : LPt → Option Bool) (c_pred_orient : PPt → PPt → PPt → Option Int) (a0 : PPt) (a1 : PPt) (a2 : PPt) : Option Int :=
 bnd (c_pred_Fits [(a0.1, a0.2), (a1.1, a1.2), (a2.1, a2.2)]) fun r0 =>
 bif !r0 then
 some 0
 else
 bnd (c_pred_orient (a0.1, a0.2) (a1.1, a1.2) (a2.1, a2.2)) fun r1 =>
 some r1
theorem eq_pred_Orient (k : Nat) (c_pred_Fits : LPt → Option Bool) (c_pred_orient : PPt → PPt → PPt → Option Int) (a0 : PPt) (a1 : PPt) (a2 : PPt) : textF [⟨108, [.d kLP], [.bool], fun x => c_pred_Fits x, none⟩, ⟨109, [.d kPP, .d kPP, .d kPP], [kI], fun x => c_pred_orient (x.1) (x.2.1) (x.2.2), none⟩] tb k Tryz.f81 an_pred_Orient [.d kPP, .d kPP, .d kPP] [kI] (a0, a1, a2) = b_pred_Orient k c_pred_Fits c_pred_orient a0 a1 a2 := by kernel_rfl
def g_pred_Orient (k : Nat) (a0 : PPt) (a1 : PPt) (a2 : PPt) : Option Int := b_pred_Orient k (g_pred_Fits k) (g_pred_orient k) a0 a1 a2
theorem tells_pred_Orient (k : Nat) : TellsF Tryz.prog 81 [.d kPP, .d kPP, .d kPP] [kI] (fun x => g_pred_Orient k (x.1) (x.2.1) (x.2.2)) := fun x y h => fun_tells tb_ok mix (EsOk.cons (EntryOk.of rfl (tells_pred_Fits k)) (EsOk.cons (EntryOk.of rfl (tells_pred_orient k)) (EsOk.nil _))) Tryz.func81 (N := k) (an := an_pred_Orient) (by kernel_rfl) x y ((eq_pred_Orient k (g_pred_Fits k) (g_pred_orient k) (x.1) (x.2.1) (x.2.2)).trans h)

def an_meet_between : Ann := .node none none .leaf (.node none none (.node (some [(6, .d .bool)]) none .leaf .leaf) .leaf)
def g_meet_between (k : Nat) (a0 : Int) (a1 : Int) (a2 : Int) : Option Bool :=
 meet (α := Bool) (fun y0 =>
 some y0) fun j1 =>
 bif decide ((mnI a0 a1) ≤ a2) then
 j1 (decide (a2 ≤ (mxI a0 a1)))
 else
 j1 false
theorem eq_meet_between (k : Nat) (a0 : Int) (a1 : Int) (a2 : Int) : textF [] tb k Tryz.f154 an_meet_between [.d kI, .d kI, .d kI] [.bool] (a0, a1, a2) = g_meet_between k a0 a1 a2 := by kernel_rfl
theorem tells_meet_between (k : Nat) : TellsF Tryz.prog 154 [.d kI, .d kI, .d kI] [.bool] (fun x => g_meet_between k (x.1) (x.2.1) (x.2.2)) := fun x y h => fun_tells tb_ok mix (EsOk.nil _) Tryz.func154 (N := k) (an := an_meet_between) (by kernel_rfl) x y ((eq_meet_between k (x.1) (x.2.1) (x.2.2)).trans h)

def an_meet_On : Ann := .node none none .leaf (.node none none (.node (some [(6, .d .bool)]) none .leaf .leaf) .leaf)
def b_meet_On (k : Nat) (c_pred_Fits : LPt → Option Bool) (c_pred_Orient : PPt → PPt → PPt → Option Int) (c_meet_between : Int → Int → Int → Option Bool) (a0 : PPt) (a1 : PPt) (a2 : PPt) : Option Bool :=
 meet (α := Bool) (fun y0 =>
 some y0) fun j1 =>
 bif !((decide (a0.1 = a1.1)) && (decide (a0.2 = a1.2))) then
 bnd (c_pred_Fits [(a0.1, a0.2), (a1.1, a1.2), (a2.1, a2.2)]) fun r2 =>
 bif r2 then
 bnd (c_pred_Orient (a0.1, a0.2) (a1.1, a1.2) (a2.1, a2.2)) fun r3 =>
 bif decide (r3 = 0) then
 bnd (c_meet_between a0.1 a1.1 a2.1) fun r4 =>
 bif r4 then
 bnd (c_meet_between a0.2 a1.2 a2.2) fun r5 =>
 j1 r5
 else
 j1 false
 else
 j1 false
 else
 j1 false
 else
 j1 false
theorem eq_meet_On (k : Nat) (c_pred_Fits : LPt → Option Bool) (c_pred_Orient : PPt → PPt → PPt → Option Int) (c_meet_between : Int → Int → Int → Option Bool) (a0 : PPt) (a1 : PPt) (a2 : PPt) : textF [⟨108, [.d kLP], [.bool], fun x => c_pred_Fits x, none⟩, ⟨81, [.d kPP, .d kPP, .d kPP], [kI], fun x => c_pred_Orient (x.1) (x.2.1) (x.2.2), none⟩, ⟨154, [.d kI, .d kI, .d kI], [.bool], fun x => c_meet_between (x.1) (x.2.1) (x.2.2), none⟩] tb k Tryz.f119 an_meet_On [.d kPP, .d kPP, .d kPP] [.bool] (a0, a1, a2) = b_meet_On k c_pred_Fits c_pred_Orient c_meet_between a0 a1 a2 := by kernel_rfl
def g_meet_On (k : Nat) (a0 : PPt) (a1 : PPt) (a2 : PPt) : Option Bool := b_meet_On k (g_pred_Fits k) (g_pred_Orient k) (g_meet_between k) a0 a1 a2
theorem tells_meet_On (k : Nat) : TellsF Tryz.prog 119 [.d kPP, .d kPP, .d kPP] [.bool] (fun x => g_meet_On k (x.1) (x.2.1) (x.2.2)) := fun x y h => fun_tells tb_ok mix (EsOk.cons (EntryOk.of rfl (tells_pred_Fits k)) (EsOk.cons (EntryOk.of rfl (tells_pred_Orient k)) (EsOk.cons (EntryOk.of rfl (tells_meet_between k)) (EsOk.nil _)))) Tryz.func119 (N := k) (an := an_meet_On) (by kernel_rfl) x y ((eq_meet_On k (g_pred_Fits k) (g_pred_Orient k) (g_meet_between k) (x.1) (x.2.1) (x.2.2)).trans h)

def an_meet_Inside : Ann := .node none none .leaf (.node none none (.node (some [(6, .d .bool)]) none .leaf .leaf) .leaf)
def b_meet_Inside (k : Nat) (c_meet_On : PPt → PPt → PPt → Option Bool) (a0 : PPt) (a1 : PPt) (a2 : PPt) : Option Bool :=
 meet (α := Bool) (fun y0 =>
 some y0) fun j1 =>
 bnd (c_meet_On (a0.1, a0.2) (a1.1, a1.2) (a2.1, a2.2)) fun r2 =>
 bif r2 then
 bif !((decide (a2.1 = a0.1)) && (decide (a2.2 = a0.2))) then
 j1 (!((decide (a2.1 = a1.1)) && (decide (a2.2 = a1.2))))
 else
 j1 false
 else
 j1 false
theorem eq_meet_Inside (k : Nat) (c_meet_On : PPt → PPt → PPt → Option Bool) (a0 : PPt) (a1 : PPt) (a2 : PPt) : textF [⟨119, [.d kPP, .d kPP, .d kPP], [.bool], fun x => c_meet_On (x.1) (x.2.1) (x.2.2), none⟩] tb k Tryz.f84 an_meet_Inside [.d kPP, .d kPP, .d kPP] [.bool] (a0, a1, a2) = b_meet_Inside k c_meet_On a0 a1 a2 := by kernel_rfl
def g_meet_Inside (k : Nat) (a0 : PPt) (a1 : PPt) (a2 : PPt) : Option Bool := b_meet_Inside k (g_meet_On k) a0 a1 a2
theorem tells_meet_Inside (k : Nat) : TellsF Tryz.prog 84 [.d kPP, .d kPP, .d kPP] [.bool] (fun x => g_meet_Inside k (x.1) (x.2.1) (x.2.2)) := fun x y h => fun_tells tb_ok mix (EsOk.cons (EntryOk.of rfl (tells_meet_On k)) (EsOk.nil _)) Tryz.func84 (N := k) (an := an_meet_Inside) (by kernel_rfl) x y ((eq_meet_Inside k (g_meet_On k) (x.1) (x.2.1) (x.2.2)).trans h)

def an_meet_Segs : Ann := .node none none .leaf (.node none none (.node none none (.node (some [(4, .box [.d kPP]), (5, .box [.d kPP]), (6, .box [.d kPP]), (7, .box [.d kPP]), (30, .d .bool)]) none .leaf .leaf) .leaf) (.node none none .leaf (.node none none .leaf (.node none none (.node none none .leaf (.node none none (.node none none (.node (some [(10, .d kI), (11, .d kI), (81, .d .bool)]) none .leaf .leaf) (.node none none .leaf (.node none none (.node (some [(10, .d kI), (11, .d kI), (88, .d .bool)]) none .leaf .leaf) .leaf))) .leaf)) .leaf))))
def b_meet_Segs (k : Nat) (c_pred_Fits : LPt → Option Bool) (c_meet_count : (List Bool) → Option Int) (c_meet_Inside : PPt → PPt → PPt → Option Bool) (c_pred_Orient : PPt → PPt → PPt → Option Int) (a0 : PPt) (a1 : PPt) (a2 : PPt) (a3 : PPt) : Option PPt :=
 meet (α := (PPt × (PPt × (PPt × (PPt × Bool))))) (fun (y0, y1, y2, y3, y4) =>
 bif y4 then
 some (0, 2)
 else
 bnd (c_meet_count [(decide (y0.1 = y2.1)) && (decide (y0.2 = y2.2)), (decide (y0.1 = y3.1)) && (decide (y0.2 = y3.2)), (decide (y1.1 = y2.1)) && (decide (y1.2 = y2.2)), (decide (y1.1 = y3.1)) && (decide (y1.2 = y3.2))]) fun r5 =>
 bnd (c_meet_Inside (y0.1, y0.2) (y1.1, y1.2) (y2.1, y2.2)) fun r6 =>
 bnd (c_meet_Inside (y0.1, y0.2) (y1.1, y1.2) (y3.1, y3.2)) fun r7 =>
 bnd (c_meet_Inside (y2.1, y2.2) (y3.1, y3.2) (y0.1, y0.2)) fun r8 =>
 bnd (c_meet_Inside (y2.1, y2.2) (y3.1, y3.2) (y1.1, y1.2)) fun r9 =>
 bnd (c_meet_count [r6, r7, r8, r9]) fun r10 =>
 bnd (c_pred_Orient (y0.1, y0.2) (y1.1, y1.2) (y2.1, y2.2)) fun r11 =>
 bnd (c_pred_Orient (y0.1, y0.2) (y1.1, y1.2) (y3.1, y3.2)) fun r12 =>
 bnd (c_pred_Orient (y2.1, y2.2) (y3.1, y3.2) (y0.1, y0.2)) fun r13 =>
 bnd (c_pred_Orient (y2.1, y2.2) (y3.1, y3.2) (y1.1, y1.2)) fun r14 =>
 meet (α := (Int × (Int × Bool))) (fun (y15, y16, y17) =>
 bif y17 then
 some (3, 0)
 else
 meet (α := (Int × (Int × Bool))) (fun (y18, y19, y20) =>
 bif y20 then
 some (4, 0)
 else
 bif decide (y18 = 1) then
 some (1, 0)
 else
 bif decide (y19 = 1) then
 some (2, 0)
 else
 some (0, 0)) fun j21 =>
 bif decide (y15 = 2) then
 j21 (y15, y16, true)
 else
 bif decide (y16 > 1) then
 j21 (y15, y16, true)
 else
 bif decide (y15 = 1) then
 j21 (y15, y16, decide (y16 = 1))
 else
 j21 (y15, y16, false)) fun j22 =>
 bif decide ((w64 (r11 * r12)) < 0) then
 j22 (r5, r10, decide ((w64 (r13 * r14)) < 0))
 else
 j22 (r5, r10, false)) fun j23 =>
 bif (decide (a0.1 = a1.1)) && (decide (a0.2 = a1.2)) then
 j23 ((a0.1, a0.2), (a1.1, a1.2), (a2.1, a2.2), (a3.1, a3.2), true)
 else
 bif (decide (a2.1 = a3.1)) && (decide (a2.2 = a3.2)) then
 j23 ((a0.1, a0.2), (a1.1, a1.2), (a2.1, a2.2), (a3.1, a3.2), true)
 else
 bnd (c_pred_Fits [(a0.1, a0.2), (a1.1, a1.2), (a2.1, a2.2), (a3.1, a3.2)]) fun r24 =>
 j23 ((a0.1, a0.2), (a1.1, a1.2), (a2.1, a2.2), (a3.1, a3.2), !r24)
theorem eq_meet_Segs (k : Nat) (c_pred_Fits : LPt → Option Bool) (c_meet_count : (List Bool) → Option Int) (c_meet_Inside : PPt → PPt → PPt → Option Bool) (c_pred_Orient : PPt → PPt → PPt → Option Int) (a0 : PPt) (a1 : PPt) (a2 : PPt) (a3 : PPt) : textF [⟨108, [.d kLP], [.bool], fun x => c_pred_Fits x, none⟩, ⟨120, [.d (.sl .bool)], [kI], fun x => c_meet_count x, none⟩, ⟨84, [.d kPP, .d kPP, .d kPP], [.bool], fun x => c_meet_Inside (x.1) (x.2.1) (x.2.2), none⟩, ⟨81, [.d kPP, .d kPP, .d kPP], [kI], fun x => c_pred_Orient (x.1) (x.2.1) (x.2.2), none⟩] tb k Tryz.f85 an_meet_Segs [.d kPP, .d kPP, .d kPP, .d kPP] [kI, kI] (a0, a1, a2, a3) = b_meet_Segs k c_pred_Fits c_meet_count c_meet_Inside c_pred_Orient a0 a1 a2 a3 := by kernel_rfl
def g_meet_Segs (k : Nat) (a0 : PPt) (a1 : PPt) (a2 : PPt) (a3 : PPt) : Option PPt := b_meet_Segs k (g_pred_Fits k) (g_meet_count k) (g_meet_Inside k) (g_pred_Orient k) a0 a1 a2 a3
theorem tells_meet_Segs (k : Nat) : TellsF Tryz.prog 85 [.d kPP, .d kPP, .d kPP, .d kPP] [kI, kI] (fun x => g_meet_Segs k (x.1) (x.2.1) (x.2.2.1) (x.2.2.2)) := fun x y h => fun_tells tb_ok mix (EsOk.cons (EntryOk.of rfl (tells_pred_Fits k)) (EsOk.cons (EntryOk.of rfl (tells_meet_count k)) (EsOk.cons (EntryOk.of rfl (tells_meet_Inside k)) (EsOk.cons (EntryOk.of rfl (tells_pred_Orient k)) (EsOk.nil _))))) Tryz.func85 (N := k) (an := an_meet_Segs) (by kernel_rfl) x y ((eq_meet_Segs k (g_pred_Fits k) (g_meet_count k) (g_meet_Inside k) (g_pred_Orient k) (x.1) (x.2.1) (x.2.2.1) (x.2.2.2)).trans h)

def an_meet_First : Ann := .node none none .leaf (.node none none (.node none none .leaf (.node none none (.node none (some [(0, .d (.sl (.pair kPP kPP))), (12, .d (.sl (.pair kPP kPP))), (13, .d kI), (14, .d kI)]) (.node none none .leaf (.node none none .leaf (.node none none (.node none none (.node none none .leaf (.node none none (.node (some [(0, .d (.sl (.pair kPP kPP))), (12, .d (.sl (.pair kPP kPP))), (13, .d kI), (14, .d kI), (29, .d .bool)]) none .leaf .leaf) .leaf)) .leaf) .leaf))) .leaf) .leaf)) (.node none none (.node none none .leaf (.node none none (.node none (some [(0, .d (.sl (.pair kPP kPP))), (31, .d (.sl (.pair kPP kPP))), (32, .d kI), (33, .d kI)]) (.node none none .leaf (.node none none .leaf (.node none none (.node none none (.node none none .leaf (.node none none .leaf (.node none none (.node none (some [(0, .d (.sl (.pair kPP kPP))), (7, .d kI), (8, .box [.d (.pair kPP kPP)]), (9, .d kI), (31, .d (.sl (.pair kPP kPP))), (32, .d kI), (33, .d kI)]) .leaf .leaf) .leaf))) .leaf) .leaf))) .leaf) .leaf)) .leaf))
def b_meet_First (k : Nat) (c_pred_Fits : LPt → Option Bool) (c_meet_Segs : PPt → PPt → PPt → PPt → Option PPt) (a0 : (List (PPt × PPt))) : Option (Int × Int × Bool) :=
 loopN (α := ((List (PPt × PPt)) × ((List (PPt × PPt)) × PPt))) (fun (x1, x2, x3, x4) next0 =>
 bif decide (x4 < x3) then
 gd (inb x4 x2.length) <|
 meet (α := ((List (PPt × PPt)) × ((List (PPt × PPt)) × (Int × (Int × Bool))))) (fun (y5, y6, y7, y8, y9) =>
 bif y9 then
 some (0, 0, false)
 else
 next0 (y5, y6, y7, w64 (y8 + 1))) fun j10 =>
 bnd (c_pred_Fits [((rdD ((0, 0), 0, 0) x2 x4).1.1, (rdD ((0, 0), 0, 0) x2 x4).1.2), ((rdD ((0, 0), 0, 0) x2 x4).2.1, (rdD ((0, 0), 0, 0) x2 x4).2.2)]) fun r11 =>
 bif !r11 then
 j10 (x1, x2, x3, x4, true)
 else
 j10 (x1, x2, x3, x4, (decide ((rdD ((0, 0), 0, 0) x2 x4).1.1 = (rdD ((0, 0), 0, 0) x2 x4).1.1)) && ((decide ((rdD ((0, 0), 0, 0) x2 x4).1.2 = (rdD ((0, 0), 0, 0) x2 x4).1.2)) && ((decide ((rdD ((0, 0), 0, 0) x2 x4).2.1 = (rdD ((0, 0), 0, 0) x2 x4).1.1)) && (decide ((rdD ((0, 0), 0, 0) x2 x4).2.2 = (rdD ((0, 0), 0, 0) x2 x4).1.2)))))
 else
 loopN (α := ((List (PPt × PPt)) × ((List (PPt × PPt)) × PPt))) (fun (x13, x14, x15, x16) next12 =>
 bif decide (x16 < x15) then
 gd (inb x16 x14.length) <|
 loopN (α := ((List (PPt × PPt)) × (Int × ((PPt × PPt) × (Int × ((List (PPt × PPt)) × PPt)))))) (fun (x18, x19, x20, x21, x22, x23, x24) next17 =>
 bif decide (x21 < (x18.length : Int)) then
 gd (inb x21 x18.length) <|
 gd (inb x21 x18.length) <|
 bnd (c_meet_Segs (x20.1.1, x20.1.2) (x20.2.1, x20.2.2) ((rdD ((0, 0), 0, 0) x18 x21).1.1, (rdD ((0, 0), 0, 0) x18 x21).1.2) ((rdD ((0, 0), 0, 0) x18 x21).2.1, (rdD ((0, 0), 0, 0) x18 x21).2.2)) fun r25 =>
 bif decide (r25.1 > 1) then
 some (x19, x21, true)
 else
 next17 (x18, x19, ((x20.1.1, x20.1.2), x20.2.1, x20.2.2), w64 (x21 + 1), x22, x23, x24)
 else
 next12 (x18, x22, x23, w64 (x24 + 1))) k (x13, x16, (((rdD ((0, 0), 0, 0) x14 x16).1.1, (rdD ((0, 0), 0, 0) x14 x16).1.2), (rdD ((0, 0), 0, 0) x14 x16).2.1, (rdD ((0, 0), 0, 0) x14 x16).2.2), w64 (x16 + 1), x14, x15, x16)
 else
 some (0, 0, false)) k (x1, x1, (x1.length : Int), 0)) k (a0, a0, (a0.length : Int), 0)
theorem eq_meet_First (k : Nat) (c_pred_Fits : LPt → Option Bool) (c_meet_Segs : PPt → PPt → PPt → PPt → Option PPt) (a0 : (List (PPt × PPt))) : textF [⟨108, [.d kLP], [.bool], fun x => c_pred_Fits x, none⟩, ⟨85, [.d kPP, .d kPP, .d kPP, .d kPP], [kI, kI], fun x => c_meet_Segs (x.1) (x.2.1) (x.2.2.1) (x.2.2.2), none⟩] tb k Tryz.f150 an_meet_First [.d (.sl (.pair kPP kPP))] [kI, kI, .bool] a0 = b_meet_First k c_pred_Fits c_meet_Segs a0 := by kernel_rfl
def g_meet_First (k : Nat) (a0 : (List (PPt × PPt))) : Option (Int × Int × Bool) := b_meet_First k (g_pred_Fits k) (g_meet_Segs k) a0
theorem tells_meet_First (k : Nat) : TellsF Tryz.prog 150 [.d (.sl (.pair kPP kPP))] [kI, kI, .bool] (fun x => g_meet_First k x) := fun x y h => fun_tells tb_ok mix (EsOk.cons (EntryOk.of rfl (tells_pred_Fits k)) (EsOk.cons (EntryOk.of rfl (tells_meet_Segs k)) (EsOk.nil _))) Tryz.func150 (N := k) (an := an_meet_First) (by kernel_rfl) x y ((eq_meet_First k (g_pred_Fits k) (g_meet_Segs k) x).trans h)

def an_valid_meets : Ann := .node none none .leaf (.node none none .leaf (.node none none (.node none none .leaf (.node none none (.node none (some [(1, .box [.d kPl]), (2, .box [.d (.pair kI kPP)]), (3, .row (.pair kPP kPP) 177), (10, .d kLP), (11, .d kI), (12, .d kI)]) .leaf .leaf) .leaf)) .leaf))
def b_valid_meets (k : Nat) (c_valid_all : TPl → Option LPt) (c_valid_ends : TPl → PPt → Option (PPt × PPt)) (c_meet_First : (List (PPt × PPt)) → Option (Int × Int × Bool)) (a0 : TPl) : Option (Int × PPt) :=
 bnd (c_valid_all (a0.1, a0.2.1, a0.2.2)) fun r0 =>
 loopN (α := (TPl × ((Int × PPt) × ((List (PPt × PPt)) × (LPt × PPt))))) (fun (x2, x3, x4, x5, x6, x7) next1 =>
 bif decide (x7 < x6) then
 gd (inb x7 x5.length) <|
 bnd (c_valid_ends (x2.1, x2.2.1, x2.2.2) ((rdD (0, 0) x5 x7).1, (rdD (0, 0) x5 x7).2)) fun r8 =>
 gd (few (x4.length + 1)) <|
 next1 ((x2.1, x2.2.1, x2.2.2), (x3.1, x3.2.1, x3.2.2), x4 ++ [((r8.1.1, r8.1.2), r8.2.1, r8.2.2)], x5, x6, w64 (x7 + 1))
 else
 bnd (c_meet_First x4) fun r9 =>
 bif r9.2.2 then
 some (3, r9.1, r9.2.1)
 else
 some (0, 0, 0)) k ((a0.1, a0.2.1, a0.2.2), (0, 0, 0), [], r0, (r0.length : Int), 0)
theorem eq_valid_meets (k : Nat) (c_valid_all : TPl → Option LPt) (c_valid_ends : TPl → PPt → Option (PPt × PPt)) (c_meet_First : (List (PPt × PPt)) → Option (Int × Int × Bool)) (a0 : TPl) : textF [⟨148, [.d kPl], [.sl kPP], fun x => c_valid_all x, none⟩, ⟨149, [.d kPl, .d kPP], [.pair kPP kPP], fun x => c_valid_ends (x.1) (x.2), none⟩, ⟨150, [.d (.sl (.pair kPP kPP))], [kI, kI, .bool], fun x => c_meet_First x, none⟩] tb k Tryz.f113 an_valid_meets [.d kPl] [.pair kI kPP] a0 = b_valid_meets k c_valid_all c_valid_ends c_meet_First a0 := by kernel_rfl
def g_valid_meets (k : Nat) (a0 : TPl) : Option (Int × PPt) := b_valid_meets k (g_valid_all k) (g_valid_ends k) (g_meet_First k) a0
theorem tells_valid_meets (k : Nat) : TellsF Tryz.prog 113 [.d kPl] [.pair kI kPP] (fun x => g_valid_meets k x) := fun x y h => fun_tells tb_ok mix (EsOk.cons (EntryOk.of rfl (tells_valid_all k)) (EsOk.cons (EntryOk.of rfl (tells_valid_ends k)) (EsOk.cons (EntryOk.of rfl (tells_meet_First k)) (EsOk.nil _)))) Tryz.func113 (N := k) (an := an_valid_meets) (by kernel_rfl) x y ((eq_valid_meets k (g_valid_all k) (g_valid_ends k) (g_meet_First k) x).trans h)

def an_valid_inside : Ann := .node none none .leaf (.node none none (.node none none .leaf (.node none none (.node none (some [(1, .box [.d kPl]), (2, .box [.d (.pair kI kPP)]), (9, .d kLP), (10, .d kI), (11, .d kI)]) (.node none none .leaf (.node none none .leaf (.node none none (.node none none (.node none none .leaf (.node none none .leaf (.node none none (.node none (some [(1, .box [.d kPl]), (2, .box [.d (.pair kI kPP)]), (3, .d kI), (4, .box [.d kPP]), (9, .d kLP), (10, .d kI), (11, .d kI), (17, .d kLP), (18, .d kI), (19, .d kI)]) .leaf .leaf) .leaf))) .leaf) .leaf))) .leaf) .leaf)) .leaf)
def b_valid_inside (k : Nat) (c_valid_all : TPl → Option LPt) (c_valid_ends : TPl → PPt → Option (PPt × PPt)) (c_meet_Inside : PPt → PPt → PPt → Option Bool) (a0 : TPl) : Option (Int × PPt) :=
 loopN (α := (TPl × ((Int × PPt) × (LPt × PPt)))) (fun (x1, x2, x3, x4, x5) next0 =>
 bif decide (x5 < x4) then
 gd (inb x5 x3.length) <|
 bnd (c_valid_all (x1.1, x1.2.1, x1.2.2)) fun r6 =>
 loopN (α := (TPl × ((Int × PPt) × (Int × (PPt × (LPt × (Int × (Int × (LPt × PPt))))))))) (fun (x8, x9, x10, x11, x12, x13, x14, x15, x16, x17) next7 =>
 bif decide (x17 < x16) then
 gd (inb x17 x15.length) <|
 bnd (c_valid_ends (x8.1, x8.2.1, x8.2.2) ((rdD (0, 0) x15 x17).1, (rdD (0, 0) x15 x17).2)) fun r18 =>
 bnd (c_meet_Inside (r18.1.1, r18.1.2) (r18.2.1, r18.2.2) (x11.1, x11.2)) fun r19 =>
 bif r19 then
 some (4, x10, x17)
 else
 next7 ((x8.1, x8.2.1, x8.2.2), (x9.1, x9.2.1, x9.2.2), x10, (x11.1, x11.2), x12, x13, x14, x15, x16, w64 (x17 + 1))
 else
 next0 ((x8.1, x8.2.1, x8.2.2), (x9.1, x9.2.1, x9.2.2), x12, x13, w64 (x14 + 1))) k ((x1.1, x1.2.1, x1.2.2), (x2.1, x2.2.1, x2.2.2), x5, ((rdD (0, 0) x3 x5).1, (rdD (0, 0) x3 x5).2), x3, x4, x5, r6, (r6.length : Int), 0)
 else
 some (0, 0, 0)) k ((a0.1, a0.2.1, a0.2.2), (0, 0, 0), a0.1, (a0.1.length : Int), 0)
theorem eq_valid_inside (k : Nat) (c_valid_all : TPl → Option LPt) (c_valid_ends : TPl → PPt → Option (PPt × PPt)) (c_meet_Inside : PPt → PPt → PPt → Option Bool) (a0 : TPl) : textF [⟨148, [.d kPl], [.sl kPP], fun x => c_valid_all x, none⟩, ⟨149, [.d kPl, .d kPP], [.pair kPP kPP], fun x => c_valid_ends (x.1) (x.2), none⟩, ⟨84, [.d kPP, .d kPP, .d kPP], [.bool], fun x => c_meet_Inside (x.1) (x.2.1) (x.2.2), none⟩] tb k Tryz.f114 an_valid_inside [.d kPl] [.pair kI kPP] a0 = b_valid_inside k c_valid_all c_valid_ends c_meet_Inside a0 := by kernel_rfl
def g_valid_inside (k : Nat) (a0 : TPl) : Option (Int × PPt) := b_valid_inside k (g_valid_all k) (g_valid_ends k) (g_meet_Inside k) a0
theorem tells_valid_inside (k : Nat) : TellsF Tryz.prog 114 [.d kPl] [.pair kI kPP] (fun x => g_valid_inside k x) := fun x y h => fun_tells tb_ok mix (EsOk.cons (EntryOk.of rfl (tells_valid_all k)) (EsOk.cons (EntryOk.of rfl (tells_valid_ends k)) (EsOk.cons (EntryOk.of rfl (tells_meet_Inside k)) (EsOk.nil _)))) Tryz.func114 (N := k) (an := an_valid_inside) (by kernel_rfl) x y ((eq_valid_inside k (g_valid_all k) (g_valid_ends k) (g_meet_Inside k) x).trans h)

def an_rings_Degrees : Ann := .node none none .leaf (.node none none (.node none none (.node (some [(0, .d kI), (1, .d kLP), (14, .d .bool)]) none .leaf .leaf) .leaf) (.node none none .leaf (.node none none (.node none none .leaf (.node none none (.node none (some [(0, .d kI), (6, .row kI 3), (17, .d kLP), (18, .d kI), (19, .d kI)]) (.node none none .leaf (.node none none .leaf (.node none none (.node none none (.node none none .leaf (.node none none (.node none none (.node (some [(0, .d kI), (6, .row kI 3), (8, .box [.d kPP]), (17, .d kLP), (18, .d kI), (19, .d kI), (49, .d .bool)]) none .leaf .leaf) .leaf) .leaf)) .leaf) .leaf))) .leaf) .leaf)) .leaf)))
def g_rings_Degrees (k : Nat) (a0 : Int) (a1 : LPt) : Option ((List Int) × Int) :=
 meet (α := (Int × (LPt × Bool))) (fun (y0, y1, y2) =>
 bif y2 then
 some ([], 2)
 else
 gd (decide (0 ≤ y0)) <|
 gd (fewI y0) <|
 loopN (α := (Int × ((List Int) × (LPt × PPt)))) (fun (x4, x5, x6, x7, x8) next3 =>
 bif decide (x8 < x7) then
 gd (inb x8 x6.length) <|
 meet (α := (Int × ((List Int) × (PPt × (LPt × (Int × (Int × Bool))))))) (fun (y9, y10, y11, y12, y13, y14, y15) =>
 bif y15 then
 some ([], 2)
 else
 gd (inb y11.1 y10.length) <|
 gd (inb y11.1 y10.length) <|
 gd (inb y11.2 y10.length) <|
 gd (inb y11.2 y10.length) <|
 next3 (y9, stL (stL y10 y11.1 (w64 ((rdD 0 y10 y11.1) + 1))) y11.2 (w64 ((rdD 0 (stL y10 y11.1 (w64 ((rdD 0 y10 y11.1) + 1))) y11.2) + 1)), y12, y13, w64 (y14 + 1))) fun j16 =>
 bif decide ((rdD (0, 0) x6 x8).1 < 0) then
 j16 (x4, x5, ((rdD (0, 0) x6 x8).1, (rdD (0, 0) x6 x8).2), x6, x7, x8, true)
 else
 bif decide ((rdD (0, 0) x6 x8).1 ≥ x4) then
 j16 (x4, x5, ((rdD (0, 0) x6 x8).1, (rdD (0, 0) x6 x8).2), x6, x7, x8, true)
 else
 bif decide ((rdD (0, 0) x6 x8).2 < 0) then
 j16 (x4, x5, ((rdD (0, 0) x6 x8).1, (rdD (0, 0) x6 x8).2), x6, x7, x8, true)
 else
 bif decide ((rdD (0, 0) x6 x8).2 ≥ x4) then
 j16 (x4, x5, ((rdD (0, 0) x6 x8).1, (rdD (0, 0) x6 x8).2), x6, x7, x8, true)
 else
 j16 (x4, x5, ((rdD (0, 0) x6 x8).1, (rdD (0, 0) x6 x8).2), x6, x7, x8, decide ((rdD (0, 0) x6 x8).1 = (rdD (0, 0) x6 x8).2))
 else
 some (x5, 0)) k (y0, rpL y0 0, y1, (y1.length : Int), 0)) fun j17 =>
 bif decide (a0 < 0) then
 j17 (a0, a1, true)
 else
 j17 (a0, a1, decide (a0 > 1048576))
theorem eq_rings_Degrees (k : Nat) (a0 : Int) (a1 : LPt) : textF [] tb k Tryz.f152 an_rings_Degrees [.d kI, .d kLP] [.sl kI, kI] (a0, a1) = g_rings_Degrees k a0 a1 := by kernel_rfl
theorem tells_rings_Degrees (k : Nat) : TellsF Tryz.prog 152 [.d kI, .d kLP] [.sl kI, kI] (fun x => g_rings_Degrees k (x.1) (x.2)) := fun x y h => fun_tells tb_ok mix (EsOk.nil _) Tryz.func152 (N := k) (an := an_rings_Degrees) (by kernel_rfl) x y ((eq_rings_Degrees k (x.1) (x.2)).trans h)

def an_rings_twice : Ann := .node none none .leaf (.node none none .leaf (.node none none (.node none none .leaf (.node none none (.node none (some [(3, .mp kPP .bool), (7, .d kLP), (8, .d kI), (9, .d kI)]) .leaf .leaf) .leaf)) .leaf))
def g_rings_twice (k : Nat) (a0 : LPt) : Option Int :=
 loopN (α := ((List (PPt × Bool)) × (LPt × PPt))) (fun (x1, x2, x3, x4) next0 =>
 bif decide (x4 < x3) then
 gd (inb x4 x2.length) <|
 bif toT Bool (lkM (.pair (.int .i64) (.int .i64)) .bool x1 (mnI (rdD (0, 0) x2 x4).1 (rdD (0, 0) x2 x4).2, mxI (rdD (0, 0) x2 x4).1 (rdD (0, 0) x2 x4).2)) then
 some x4
 else
 gd (!(hsM (.pair (.int .i64) (.int .i64)) .bool x1 (mnI (rdD (0, 0) x2 x4).1 (rdD (0, 0) x2 x4).2, mxI (rdD (0, 0) x2 x4).1 (rdD (0, 0) x2 x4).2))) <|
 next0 (adM (.pair (.int .i64) (.int .i64)) .bool x1 (mnI (rdD (0, 0) x2 x4).1 (rdD (0, 0) x2 x4).2, mxI (rdD (0, 0) x2 x4).1 (rdD (0, 0) x2 x4).2) true, x2, x3, w64 (x4 + 1))
 else
 some (-1)) k ([], a0, (a0.length : Int), 0)
theorem eq_rings_twice (k : Nat) (a0 : LPt) : textF [] tb k Tryz.f168 an_rings_twice [.d kLP] [kI] a0 = g_rings_twice k a0 := by kernel_rfl
theorem tells_rings_twice (k : Nat) : TellsF Tryz.prog 168 [.d kLP] [kI] (fun x => g_rings_twice k x) := fun x y h => fun_tells tb_ok mix (EsOk.nil _) Tryz.func168 (N := k) (an := an_rings_twice) (by kernel_rfl) x y ((eq_rings_twice k x).trans h)

def an_rings_Rings_1 : Ann := .node none none .leaf (.node none none (.node (some [(2, .d .bool)]) none .leaf .leaf) .leaf)
def g_rings_Rings_1 (k : Nat) (a0 : Int) : Option Bool :=
 meet (α := Bool) (fun y0 =>
 some y0) fun j1 =>
 bif !(decide (a0 = 0)) then
 j1 (!(decide (a0 = 2)))
 else
 j1 false
theorem eq_rings_Rings_1 (k : Nat) (a0 : Int) : textF [] tb k Tryz.f170 an_rings_Rings_1 [.d kI] [.bool] a0 = g_rings_Rings_1 k a0 := by kernel_rfl
theorem tells_rings_Rings_1 (k : Nat) : TellsF Tryz.prog 170 [.d kI] [.bool] (fun x => g_rings_Rings_1 k x) := fun x y h => fun_tells tb_ok mix (EsOk.nil _) Tryz.func170 (N := k) (an := an_rings_Rings_1) (by kernel_rfl) x y ((eq_rings_Rings_1 k x).trans h)

def an_slices_IndexFunc_int_int : Ann := .node none none .leaf (.node none none (.node none none .leaf (.node none none (.node none (some [(0, .d (.sl kI)), (1, .fn 170 [] []), (7, .d kI), (8, .d kI)]) .leaf .leaf) .leaf)) .leaf)
def b_slices_IndexFunc_int_int (k : Nat) (c_rings_Rings_1 : Int → Option Bool) (a0 : (List Int)) (a1 : (Unit × Unit)) : Option Int :=
 loopN (α := ((List Int) × ((Unit × Unit) × PPt))) (fun (x1, x2, x3, x4) next0 =>
 bif decide (x4 < x3) then
 gd (inb x4 x1.length) <|
 bnd (c_rings_Rings_1 (rdD 0 x1 x4)) fun r5 =>
 bif r5 then
 some x4
 else
 next0 (x1, ((), ()), x3, w64 (x4 + 1))
 else
 some (-1)) k (a0, ((), ()), (a0.length : Int), 0)
theorem eq_slices_IndexFunc_int_int (k : Nat) (c_rings_Rings_1 : Int → Option Bool) (a0 : (List Int)) (a1 : (Unit × Unit)) : textF [⟨170, [.d kI], [.bool], fun x => c_rings_Rings_1 x, none⟩] tb k Tryz.f169 an_slices_IndexFunc_int_int [.d (.sl kI), .fn 170 [] []] [kI] (a0, a1) = b_slices_IndexFunc_int_int k c_rings_Rings_1 a0 a1 := by kernel_rfl
def g_slices_IndexFunc_int_int (k : Nat) (a0 : (List Int)) (a1 : (Unit × Unit)) : Option Int := b_slices_IndexFunc_int_int k (g_rings_Rings_1 k) a0 a1
theorem tells_slices_IndexFunc_int_int (k : Nat) : TellsF Tryz.prog 169 [.d (.sl kI), .fn 170 [] []] [kI] (fun x => g_slices_IndexFunc_int_int k (x.1) (x.2)) := fun x y h => fun_tells tb_ok mix (EsOk.cons (EntryOk.of rfl (tells_rings_Rings_1 k)) (EsOk.nil _)) Tryz.func169 (N := k) (an := an_slices_IndexFunc_int_int) (by kernel_rfl) x y ((eq_slices_IndexFunc_int_int k (g_rings_Rings_1 k) (x.1) (x.2)).trans h)

def an_rings_next_other : Ann := .leaf
def g_rings_next_other (k : Nat) (a0 : PPt) (a1 : Int) : Option Int :=
 bif decide (a0.1 = a1) then
 some a0.2
 else
 some a0.1
theorem eq_rings_next_other (k : Nat) (a0 : PPt) (a1 : Int) : textF [] tb k Tryz.f172 an_rings_next_other [.d kPP, .d kI] [kI] (a0, a1) = g_rings_next_other k a0 a1 := by kernel_rfl
theorem tells_rings_next_other (k : Nat) : TellsF Tryz.prog 172 [.d kPP, .d kI] [kI] (fun x => g_rings_next_other k (x.1) (x.2)) := fun x y h => fun_tells tb_ok mix (EsOk.nil _) Tryz.func172 (N := k) (an := an_rings_next_other) (by kernel_rfl) x y ((eq_rings_next_other k (x.1) (x.2)).trans h)

def an_rings_Rings : Ann := .node none none .leaf (.node none none .leaf (.node none none .leaf (.node none none .leaf (.node none none .leaf (.node none none .leaf (.node none none (.node none none .leaf (.node none none (.node none (some [(0, .d kI), (1, .d kLP), (7, .d (.sl kI)), (11, .row kPP 205), (45, .d kI), (46, .d kI)]) .leaf .leaf) .leaf)) (.node none none (.node none none .leaf (.node none none (.node none (some [(0, .d kI), (7, .d (.sl kI)), (11, .row kPP 205), (54, .d kLP), (55, .d kI), (56, .d kI)]) (.node none none .leaf (.node none none .leaf (.node none none (.node none none (.node none none .leaf (.node none none (.node (some [(0, .d kI), (7, .d (.sl kI)), (11, .row kPP 205), (14, .box [.d kPP]), (54, .d kLP), (55, .d kI), (56, .d kI)]) none .leaf .leaf) (.node (some [(0, .d kI), (7, .d (.sl kI)), (11, .row kPP 205), (54, .d kLP), (55, .d kI), (56, .d kI)]) none .leaf .leaf))) .leaf) .leaf))) .leaf) .leaf)) (.node none none .leaf (.node none none .leaf (.node none none (.node none none .leaf (.node none none (.node none (some [(7, .d (.sl kI)), (11, .row kPP 205), (15, .row .bool 4), (16, .row (.sl kI) 49), (78, .d kI), (79, .d kI)]) (.node none none .leaf (.node none none .leaf (.node none none (.node (some [(7, .d (.sl kI)), (11, .row kPP 205), (15, .row .bool 4), (16, .row (.sl kI) 49), (78, .d kI), (79, .d kI)]) none (.node none none .leaf (.node none none (.node none none (.node (some [(7, .d (.sl kI)), (11, .row kPP 205), (15, .row .bool 4), (16, .row (.sl kI) 49), (17, .d kI), (78, .d kI), (79, .d kI), (92, .d .bool)]) none .leaf .leaf) .leaf) (.node none none .leaf (.node none none .leaf (.node none none (.node none none (.node none (some [(7, .d (.sl kI)), (11, .row kPP 205), (15, .row .bool 4), (16, .row (.sl kI) 49), (17, .d kI), (18, .row kI 3), (19, .d kI), (20, .d kI), (78, .d kI), (79, .d kI)]) .leaf .leaf) .leaf) (.node none none (.node none none .leaf (.node none none (.node none (some [(7, .d (.sl kI)), (11, .row kPP 205), (15, .row .bool 4), (16, .row (.sl kI) 49), (18, .d (.sl kI)), (78, .d kI), (79, .d kI), (121, .d (.sl kI)), (122, .d kI), (123, .d kI)]) .leaf .leaf) .leaf)) .leaf)))))) .leaf) .leaf))) .leaf) .leaf)) .leaf))))))))))
def b_rings_Rings (k : Nat) (c_rings_Degrees : Int → LPt → Option ((List Int) × Int)) (c_rings_twice : LPt → Option Int) (c_slices_IndexFunc_int_int : (List Int) → (Unit × Unit) → Option Int) (c_rings_next_other : PPt → Int → Option Int) (a0 : Int) (a1 : LPt) : Option ((List (List Int)) × Int × Int) :=
 bnd (c_rings_Degrees a0 a1) fun r0 =>
 bif !(decide (r0.2 = 0)) then
 some ([], 0, r0.2)
 else
 bnd (c_rings_twice a1) fun r1 =>
 bif decide (r1 ≥ 0) then
 some ([], r1, 80)
 else
 bnd (c_slices_IndexFunc_int_int r0.1 ((), ())) fun r2 =>
 bif decide (r2 ≥ 0) then
 some ([], r2, 81)
 else
 gd (decide (0 ≤ a0)) <|
 gd (fewI a0) <|
 loopN (α := (Int × (LPt × ((List Int) × (LPt × PPt))))) (fun (x4, x5, x6, x7, x8, x9) next3 =>
 bif decide (x9 < x8) then
 gd (inb x9 x7.length) <|
 next3 (x4, x5, x6, stL x7 x9 ((-1), (-1)), x8, w64 (x9 + 1))
 else
 loopN (α := (Int × ((List Int) × (LPt × (LPt × PPt))))) (fun (x11, x12, x13, x14, x15, x16) next10 =>
 bif decide (x16 < x15) then
 gd (inb x16 x14.length) <|
 meet (α := (Int × ((List Int) × (LPt × (PPt × (LPt × PPt)))))) (fun (y17, y18, y19, y20, y21, y22, y23) =>
 meet (α := (Int × ((List Int) × (LPt × (LPt × PPt))))) (fun (y24, y25, y26, y27, y28, y29) =>
 next10 (y24, y25, y26, y27, y28, w64 (y29 + 1))) fun j30 =>
 gd (inb y20.2 y19.length) <|
 bif decide ((rdD (0, 0) y19 y20.2).1 < 0) then
 j30 (y17, y18, stL y19 y20.2 (y20.1, (rdD (0, 0) y19 y20.2).2), y21, y22, y23)
 else
 j30 (y17, y18, stL y19 y20.2 ((rdD (0, 0) y19 y20.2).1, y20.1), y21, y22, y23)) fun j31 =>
 gd (inb (rdD (0, 0) x14 x16).1 x13.length) <|
 bif decide ((rdD (0, 0) x13 (rdD (0, 0) x14 x16).1).1 < 0) then
 j31 (x11, x12, stL x13 (rdD (0, 0) x14 x16).1 ((rdD (0, 0) x14 x16).2, (rdD (0, 0) x13 (rdD (0, 0) x14 x16).1).2), ((rdD (0, 0) x14 x16).1, (rdD (0, 0) x14 x16).2), x14, x15, x16)
 else
 j31 (x11, x12, stL x13 (rdD (0, 0) x14 x16).1 ((rdD (0, 0) x13 (rdD (0, 0) x14 x16).1).1, (rdD (0, 0) x14 x16).2), ((rdD (0, 0) x14 x16).1, (rdD (0, 0) x14 x16).2), x14, x15, x16)
 else
 gd (decide (0 ≤ x11)) <|
 gd (fewI x11) <|
 loopN (α := ((List Int) × (LPt × ((List Bool) × ((List (List Int)) × PPt))))) (fun (x33, x34, x35, x36, x37, x38) next32 =>
 bif decide (x38 < x37) then
 meet (α := ((List Int) × (LPt × ((List Bool) × ((List (List Int)) × PPt))))) (fun (y39, y40, y41, y42, y43, y44) =>
 next32 (y39, y40, y41, y42, y43, w64 (y44 + 1))) fun j45 =>
 meet (α := ((List Int) × (LPt × ((List Bool) × ((List (List Int)) × (Int × (Int × (Int × Bool)))))))) (fun (y46, y47, y48, y49, y50, y51, y52, y53) =>
 bif y53 then
 j45 (y46, y47, y48, y49, y51, y52)
 else
 gd (inb y50 y47.length) <|
 gd (inb y50 y47.length) <|
 loopN (α := ((List Int) × (LPt × ((List Bool) × ((List (List Int)) × (Int × ((List Int) × (Int × (Int × PPt))))))))) (fun (x55, x56, x57, x58, x59, x60, x61, x62, x63, x64) next54 =>
 bif !(decide (x62 = x59)) then
 gd (few (x60.length + 1)) <|
 gd (inb x62 x56.length) <|
 bnd (c_rings_next_other ((rdD (0, 0) x56 x62).1, (rdD (0, 0) x56 x62).2) x61) fun r65 =>
 next54 (x55, x56, x57, x58, x59, x60 ++ [x62], x62, r65, x63, x64)
 else
 loopN (α := ((List Int) × (LPt × ((List Bool) × ((List (List Int)) × ((List Int) × (Int × (Int × ((List Int) × PPt))))))))) (fun (x67, x68, x69, x70, x71, x72, x73, x74, x75, x76) next66 =>
 bif decide (x76 < x75) then
 gd (inb x76 x74.length) <|
 gd (inb (rdD 0 x74 x76) x69.length) <|
 next66 (x67, x68, stL x69 (rdD 0 x74 x76) true, x70, x71, x72, x73, x74, x75, w64 (x76 + 1))
 else
 gd (few (x70.length + 1)) <|
 j45 (x67, x68, x69, x70 ++ [x71], x72, x73)) k (x55, x56, x57, x58, x60, x63, x64, x60, (x60.length : Int), 0)) k (y46, y47, y48, y49, y50, [y50], y50, mnI (rdD (0, 0) y47 y50).1 (rdD (0, 0) y47 y50).2, y51, y52)) fun j77 =>
 gd (inb x38 x33.length) <|
 bif decide ((rdD 0 x33 x38) = 0) then
 j77 (x33, x34, x35, x36, x38, x37, x38, true)
 else
 gd (inb x38 x35.length) <|
 j77 (x33, x34, x35, x36, x38, x37, x38, rdD false x35 x38)
 else
 some (x36, 0, 0)) k (x12, x13, rpL x11 false, [], (x13.length : Int), 0)) k (x4, x6, x7, x5, (x5.length : Int), 0)) k (a0, a1, r0.1, rpL a0 (0, 0), ((rpL a0 (0, 0) : List PPt).length : Int), 0)
theorem eq_rings_Rings (k : Nat) (c_rings_Degrees : Int → LPt → Option ((List Int) × Int)) (c_rings_twice : LPt → Option Int) (c_slices_IndexFunc_int_int : (List Int) → (Unit × Unit) → Option Int) (c_rings_next_other : PPt → Int → Option Int) (a0 : Int) (a1 : LPt) : textF [⟨171, [], [], fun _ => none, some (.code tb Tryz.f171)⟩, ⟨152, [.d kI, .d kLP], [.sl kI, kI], fun x => c_rings_Degrees (x.1) (x.2), none⟩, ⟨168, [.d kLP], [kI], fun x => c_rings_twice x, none⟩, ⟨169, [.d (.sl kI), .fn 170 [] []], [kI], fun x => c_slices_IndexFunc_int_int (x.1) (x.2), none⟩, ⟨172, [.d kPP, .d kI], [kI], fun x => c_rings_next_other (x.1) (x.2), none⟩] tb k Tryz.f151 an_rings_Rings [.d kI, .d kLP] [.sl (.sl kI), kI, kI] (a0, a1) = b_rings_Rings k c_rings_Degrees c_rings_twice c_slices_IndexFunc_int_int c_rings_next_other a0 a1 := by kernel_rfl
def g_rings_Rings (k : Nat) (a0 : Int) (a1 : LPt) : Option ((List (List Int)) × Int × Int) := b_rings_Rings k (g_rings_Degrees k) (g_rings_twice k) (g_slices_IndexFunc_int_int k) (g_rings_next_other k) a0 a1
theorem tells_rings_Rings (k : Nat) : TellsF Tryz.prog 151 [.d kI, .d kLP] [.sl (.sl kI), kI, kI] (fun x => g_rings_Rings k (x.1) (x.2)) := fun x y h => fun_tells tb_ok mix (EsOk.cons (EntryOk.go tb_ok mix Tryz.func171 (by kernel_rfl)) (EsOk.cons (EntryOk.of rfl (tells_rings_Degrees k)) (EsOk.cons (EntryOk.of rfl (tells_rings_twice k)) (EsOk.cons (EntryOk.of rfl (tells_slices_IndexFunc_int_int k)) (EsOk.cons (EntryOk.of rfl (tells_rings_next_other k)) (EsOk.nil _)))))) Tryz.func151 (N := k) (an := an_rings_Rings) (by kernel_rfl) x y ((eq_rings_Rings k (g_rings_Degrees k) (g_rings_twice k) (g_slices_IndexFunc_int_int k) (g_rings_next_other k) (x.1) (x.2)).trans h)

def an_valid_ring : Ann := .leaf
def b_valid_ring (k : Nat) (c_rings_Rings : Int → LPt → Option ((List (List Int)) × Int × Int)) (a0 : TPl) : Option (Int × PPt) :=
 bnd (c_rings_Rings (a0.1.length : Int) a0.2.1) fun r0 =>
 bif !(decide (r0.2.2 = 0)) then
 some (5, r0.2.1, 0)
 else
 bif decide ((a0.2.1.length : Int) = 0) then
 some (6, 0, 0)
 else
 some (0, 0, 0)
theorem eq_valid_ring (k : Nat) (c_rings_Rings : Int → LPt → Option ((List (List Int)) × Int × Int)) (a0 : TPl) : textF [⟨151, [.d kI, .d kLP], [.sl (.sl kI), kI, kI], fun x => c_rings_Rings (x.1) (x.2), none⟩] tb k Tryz.f115 an_valid_ring [.d kPl] [.pair kI kPP] a0 = b_valid_ring k c_rings_Rings a0 := by kernel_rfl
def g_valid_ring (k : Nat) (a0 : TPl) : Option (Int × PPt) := b_valid_ring k (g_rings_Rings k) a0
theorem tells_valid_ring (k : Nat) : TellsF Tryz.prog 115 [.d kPl] [.pair kI kPP] (fun x => g_valid_ring k x) := fun x y h => fun_tells tb_ok mix (EsOk.cons (EntryOk.of rfl (tells_rings_Rings k)) (EsOk.nil _)) Tryz.func115 (N := k) (an := an_valid_ring) (by kernel_rfl) x y ((eq_valid_ring k (g_rings_Rings k) x).trans h)

def an_within_grid_at : Ann := .leaf
def g_within_grid_at (k : Nat) (a0 : Int) (a1 : PPt) : Option PPt :=
 some (w64 (a0 * a1.1), w64 (a0 * a1.2))
theorem eq_within_grid_at (k : Nat) (a0 : Int) (a1 : PPt) : textF [] tb k Tryz.f133 an_within_grid_at [.d kI, .d kPP] [.pair kI kI] (a0, a1) = g_within_grid_at k a0 a1 := by kernel_rfl
theorem tells_within_grid_at (k : Nat) : TellsF Tryz.prog 133 [.d kI, .d kPP] [.pair kI kI] (fun x => g_within_grid_at k (x.1) (x.2)) := fun x y h => fun_tells tb_ok mix (EsOk.nil _) Tryz.func133 (N := k) (an := an_within_grid_at) (by kernel_rfl) x y ((eq_within_grid_at k (x.1) (x.2)).trans h)

def an_within_fine : Ann := .node none none .leaf (.node none none .leaf (.node none none (.node none none .leaf (.node none none (.node none (some [(0, .d kLP), (2, .fn 133 [(.d kI)] []), (8, .row (.pair kPP kPP) 177), (13, .d kLP), (14, .d kI), (15, .d kI)]) (.node none none .leaf (.node none none .leaf (.node none none (.node none none (.node none none .leaf (.node none none (.node none none (.node (some [(0, .d kLP), (2, .fn 133 [(.d kI)] []), (8, .row (.pair kPP kPP) 177), (10, .box [.d kPP]), (13, .d kLP), (14, .d kI), (15, .d kI), (68, .d .bool)]) none .leaf .leaf) .leaf) .leaf)) .leaf) .leaf))) .leaf) .leaf)) .leaf))
def b_within_fine (k : Nat) (c_pred_Fits : LPt → Option Bool) (c_within_grid_at : Int → PPt → Option PPt) (a0 : LPt) (a1 : LPt) (a2 : (Int × Unit)) : Option ((List (PPt × PPt)) × Bool) :=
 loopN (α := (LPt × ((Int × Unit) × ((List (PPt × PPt)) × (LPt × PPt))))) (fun (x1, x2, x3, x4, x5, x6) next0 =>
 bif decide (x6 < x5) then
 gd (inb x6 x4.length) <|
 meet (α := (LPt × ((Int × Unit) × ((List (PPt × PPt)) × (PPt × (LPt × (Int × (Int × Bool)))))))) (fun (y7, y8, y9, y10, y11, y12, y13, y14) =>
 bif y14 then
 some ([], false)
 else
 gd (inb y10.1 y7.length) <|
 bnd (c_within_grid_at y8.1 ((rdD (0, 0) y7 y10.1).1, (rdD (0, 0) y7 y10.1).2)) fun r15 =>
 gd (inb y10.2 y7.length) <|
 bnd (c_within_grid_at y8.1 ((rdD (0, 0) y7 y10.2).1, (rdD (0, 0) y7 y10.2).2)) fun r16 =>
 bnd (c_pred_Fits [(r15.1, r15.2), (r16.1, r16.2)]) fun r17 =>
 bif !r17 then
 some ([], false)
 else
 gd (few (y9.length + 1)) <|
 next0 (y7, (y8.1, ()), y9 ++ [((r15.1, r15.2), r16.1, r16.2)], y11, y12, w64 (y13 + 1))) fun j18 =>
 bif decide ((rdD (0, 0) x4 x6).1 < 0) then
 j18 (x1, (x2.1, ()), x3, ((rdD (0, 0) x4 x6).1, (rdD (0, 0) x4 x6).2), x4, x5, x6, true)
 else
 bif decide ((rdD (0, 0) x4 x6).1 ≥ (x1.length : Int)) then
 j18 (x1, (x2.1, ()), x3, ((rdD (0, 0) x4 x6).1, (rdD (0, 0) x4 x6).2), x4, x5, x6, true)
 else
 bif decide ((rdD (0, 0) x4 x6).2 < 0) then
 j18 (x1, (x2.1, ()), x3, ((rdD (0, 0) x4 x6).1, (rdD (0, 0) x4 x6).2), x4, x5, x6, true)
 else
 bif decide ((rdD (0, 0) x4 x6).2 ≥ (x1.length : Int)) then
 j18 (x1, (x2.1, ()), x3, ((rdD (0, 0) x4 x6).1, (rdD (0, 0) x4 x6).2), x4, x5, x6, true)
 else
 gd (inb (rdD (0, 0) x4 x6).1 x1.length) <|
 gd (inb (rdD (0, 0) x4 x6).2 x1.length) <|
 bif (decide ((rdD (0, 0) x1 (rdD (0, 0) x4 x6).1).1 = (rdD (0, 0) x1 (rdD (0, 0) x4 x6).2).1)) && (decide ((rdD (0, 0) x1 (rdD (0, 0) x4 x6).1).2 = (rdD (0, 0) x1 (rdD (0, 0) x4 x6).2).2)) then
 j18 (x1, (x2.1, ()), x3, ((rdD (0, 0) x4 x6).1, (rdD (0, 0) x4 x6).2), x4, x5, x6, true)
 else
 gd (inb (rdD (0, 0) x4 x6).1 x1.length) <|
 gd (inb (rdD (0, 0) x4 x6).2 x1.length) <|
 bnd (c_pred_Fits [((rdD (0, 0) x1 (rdD (0, 0) x4 x6).1).1, (rdD (0, 0) x1 (rdD (0, 0) x4 x6).1).2), ((rdD (0, 0) x1 (rdD (0, 0) x4 x6).2).1, (rdD (0, 0) x1 (rdD (0, 0) x4 x6).2).2)]) fun r19 =>
 j18 (x1, (x2.1, ()), x3, ((rdD (0, 0) x4 x6).1, (rdD (0, 0) x4 x6).2), x4, x5, x6, !r19)
 else
 some (x3, true)) k (a0, (a2.1, ()), [], a1, (a1.length : Int), 0)
theorem eq_within_fine (k : Nat) (c_pred_Fits : LPt → Option Bool) (c_within_grid_at : Int → PPt → Option PPt) (a0 : LPt) (a1 : LPt) (a2 : (Int × Unit)) : textF [⟨108, [.d kLP], [.bool], fun x => c_pred_Fits x, none⟩, ⟨133, [.d kI, .d kPP], [.pair kI kI], fun x => c_within_grid_at (x.1) (x.2), none⟩] tb k Tryz.f132 an_within_fine [.d kLP, .d kLP, .fn 133 [(.d kI)] []] [.sl (.pair kPP kPP), .bool] (a0, a1, a2) = b_within_fine k c_pred_Fits c_within_grid_at a0 a1 a2 := by kernel_rfl
def g_within_fine (k : Nat) (a0 : LPt) (a1 : LPt) (a2 : (Int × Unit)) : Option ((List (PPt × PPt)) × Bool) := b_within_fine k (g_pred_Fits k) (g_within_grid_at k) a0 a1 a2
theorem tells_within_fine (k : Nat) : TellsF Tryz.prog 132 [.d kLP, .d kLP, .fn 133 [(.d kI)] []] [.sl (.pair kPP kPP), .bool] (fun x => g_within_fine k (x.1) (x.2.1) (x.2.2)) := fun x y h => fun_tells tb_ok mix (EsOk.cons (EntryOk.of rfl (tells_pred_Fits k)) (EsOk.cons (EntryOk.of rfl (tells_within_grid_at k)) (EsOk.nil _))) Tryz.func132 (N := k) (an := an_within_fine) (by kernel_rfl) x y ((eq_within_fine k (g_pred_Fits k) (g_within_grid_at k) (x.1) (x.2.1) (x.2.2)).trans h)

def an_within_right : Ann := .node none none .leaf (.node none none (.node none none .leaf (.node (some [(3, .box [.d kPP]), (4, .box [.d kPP]), (5, .box [.d kPP])]) none .leaf .leaf)) (.node none none (.node (some [(6, .d .bool)]) none .leaf .leaf) .leaf))
def b_within_right (k : Nat) (c_pred_Orient : PPt → PPt → PPt → Option Int) (a0 : PPt) (a1 : PPt) (a2 : PPt) : Option Bool :=
 meet (α := (PPt × (PPt × PPt))) (fun (y0, y1, y2, y3) =>
 meet (α := Bool) (fun y4 =>
 some y4) fun j5 =>
 bif decide (y0.2 ≤ y3) then
 bif decide (y3 < y1.2) then
 bnd (c_pred_Orient (y0.1, y0.2) (y1.1, y1.2) (y2, y3)) fun r6 =>
 j5 (decide (r6 > 0))
 else
 j5 false
 else
 j5 false) fun j7 =>
 bif decide (a0.2 > a1.2) then
 j7 ((a1.1, a1.2), (a0.1, a0.2), a2.1, a2.2)
 else
 j7 ((a0.1, a0.2), (a1.1, a1.2), a2.1, a2.2)
theorem eq_within_right (k : Nat) (c_pred_Orient : PPt → PPt → PPt → Option Int) (a0 : PPt) (a1 : PPt) (a2 : PPt) : textF [⟨81, [.d kPP, .d kPP, .d kPP], [kI], fun x => c_pred_Orient (x.1) (x.2.1) (x.2.2), none⟩] tb k Tryz.f160 an_within_right [.d kPP, .d kPP, .d kPP] [.bool] (a0, a1, a2) = b_within_right k c_pred_Orient a0 a1 a2 := by kernel_rfl
def g_within_right (k : Nat) (a0 : PPt) (a1 : PPt) (a2 : PPt) : Option Bool := b_within_right k (g_pred_Orient k) a0 a1 a2
theorem tells_within_right (k : Nat) : TellsF Tryz.prog 160 [.d kPP, .d kPP, .d kPP] [.bool] (fun x => g_within_right k (x.1) (x.2.1) (x.2.2)) := fun x y h => fun_tells tb_ok mix (EsOk.cons (EntryOk.of rfl (tells_pred_Orient k)) (EsOk.nil _)) Tryz.func160 (N := k) (an := an_within_right) (by kernel_rfl) x y ((eq_within_right k (g_pred_Orient k) (x.1) (x.2.1) (x.2.2)).trans h)

def an_within_where : Ann := .node none none .leaf (.node none none .leaf (.node none none (.node none none .leaf (.node none none (.node none (some [(3, .box [.d kPP]), (5, .d kI), (8, .d (.sl (.pair kPP kPP))), (9, .d kI), (10, .d kI)]) (.node none none .leaf (.node none none .leaf (.node none none (.node none none (.node none none .leaf (.node none none (.node none none .leaf (.node none none .leaf (.node none none .leaf (.node (some [(3, .box [.d kPP]), (5, .d kI), (8, .d (.sl (.pair kPP kPP))), (9, .d kI), (10, .d kI)]) none .leaf .leaf)))) .leaf)) .leaf) .leaf))) .leaf) .leaf)) .leaf))
def b_within_where (k : Nat) (c_meet_On : PPt → PPt → PPt → Option Bool) (c_within_right : PPt → PPt → PPt → Option Bool) (a0 : (List (PPt × PPt))) (a1 : PPt) : Option Int :=
 loopN (α := (PPt × (Int × ((List (PPt × PPt)) × PPt)))) (fun (x1, x2, x3, x4, x5) next0 =>
 bif decide (x5 < x4) then
 gd (inb x5 x3.length) <|
 bnd (c_meet_On ((rdD ((0, 0), 0, 0) x3 x5).1.1, (rdD ((0, 0), 0, 0) x3 x5).1.2) ((rdD ((0, 0), 0, 0) x3 x5).2.1, (rdD ((0, 0), 0, 0) x3 x5).2.2) (x1.1, x1.2)) fun r6 =>
 bif r6 then
 some 0
 else
 bnd (c_within_right ((rdD ((0, 0), 0, 0) x3 x5).1.1, (rdD ((0, 0), 0, 0) x3 x5).1.2) ((rdD ((0, 0), 0, 0) x3 x5).2.1, (rdD ((0, 0), 0, 0) x3 x5).2.2) (x1.1, x1.2)) fun r7 =>
 meet (α := (PPt × (Int × ((List (PPt × PPt)) × PPt)))) (fun (y8, y9, y10, y11, y12) =>
 next0 ((y8.1, y8.2), y9, y10, y11, w64 (y12 + 1))) fun j13 =>
 bif r7 then
 j13 ((x1.1, x1.2), w64 (0 - x2), x3, x4, x5)
 else
 j13 ((x1.1, x1.2), x2, x3, x4, x5)
 else
 some x2) k ((a1.1, a1.2), (-1), a0, (a0.length : Int), 0)
theorem eq_within_where (k : Nat) (c_meet_On : PPt → PPt → PPt → Option Bool) (c_within_right : PPt → PPt → PPt → Option Bool) (a0 : (List (PPt × PPt))) (a1 : PPt) : textF [⟨119, [.d kPP, .d kPP, .d kPP], [.bool], fun x => c_meet_On (x.1) (x.2.1) (x.2.2), none⟩, ⟨160, [.d kPP, .d kPP, .d kPP], [.bool], fun x => c_within_right (x.1) (x.2.1) (x.2.2), none⟩] tb k Tryz.f134 an_within_where [.d (.sl (.pair kPP kPP)), .d kPP] [kI] (a0, a1) = b_within_where k c_meet_On c_within_right a0 a1 := by kernel_rfl
def g_within_where (k : Nat) (a0 : (List (PPt × PPt))) (a1 : PPt) : Option Int := b_within_where k (g_meet_On k) (g_within_right k) a0 a1
theorem tells_within_where (k : Nat) : TellsF Tryz.prog 134 [.d (.sl (.pair kPP kPP)), .d kPP] [kI] (fun x => g_within_where k (x.1) (x.2)) := fun x y h => fun_tells tb_ok mix (EsOk.cons (EntryOk.of rfl (tells_meet_On k)) (EsOk.cons (EntryOk.of rfl (tells_within_right k)) (EsOk.nil _))) Tryz.func134 (N := k) (an := an_within_where) (by kernel_rfl) x y ((eq_within_where k (g_meet_On k) (g_within_right k) (x.1) (x.2)).trans h)

end
end Go.Proofs.YtpkkcjmblocjdaaGreat.AM
