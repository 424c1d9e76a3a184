/- The functions, by their texts: written by a program. -/
import Derived.Test.YtpkkcjmblocjdaaGreatGa6
import Derived.Test.YtpkkcjmblocjdaaGreatCln
set_option linter.unusedVariables false
set_option maxRecDepth 100000
namespace Go.Proofs.YtpkkcjmblocjdaaGreat.AM
open Go.RowKit Go.Proofs
noncomputable section
def an_parquetref09_times : Ann := .leaf
def g_parquetref09_times (k : Nat) (a0 : PPt) (a1 : Int) : Option PPt :=
 some (w64 (a1 * a0.1), w64 (a1 * a0.2))
theorem eq_parquetref09_times (k : Nat) (a0 : PPt) (a1 : Int) : textF [] tb k Tryz.f105 an_parquetref09_times [.d kPP, .d kI] [.pair kI kI] (a0, a1) = g_parquetref09_times k a0 a1 := by kernel_rfl
theorem tells_parquetref09_times (k : Nat) : TellsF Tryz.prog 105 [.d kPP, .d kI] [.pair kI kI] (fun x => g_parquetref09_times k (x.1) (x.2)) := fun x y h => fun_tells tb_ok mix (EsOk.nil _) Tryz.func105 (N := k) (an := an_parquetref09_times) (by kernel_rfl) x y ((eq_parquetref09_times k (x.1) (x.2)).trans h)

def an_parquetref09_Check : Ann := .node none none .leaf (.node none none (.node none none .leaf (.node none none (.node none (some [(0, .d kLP), (1, .d kLP), (2, .d kI), (7, .d kI)]) (.node none none .leaf (.node none none (.node none none (.node none none .leaf (.node none none (.node none none (.node (some [(0, .d kLP), (1, .d kLP), (2, .d kI), (7, .d kI), (8, .box [.d kPP]), (53, .d .bool)]) none .leaf .leaf) .leaf) (.node none none (.node (some [(0, .d kLP), (1, .d kLP), (2, .d kI), (7, .d kI), (91, .d .bool)]) none .leaf .leaf) .leaf))) .leaf) .leaf)) .leaf) .leaf)) .leaf)
def b_parquetref09_Check (k : Nat) (c_parquetref03_Fits : PPt → Option Bool) (c_parquetref09_times : PPt → Int → Option PPt) (a0 : LPt) (a1 : LPt) (a2 : Int) : Option Bool :=
 loopN (α := (LPt × (LPt × PPt))) (fun (x1, x2, x3, x4) next0 =>
 bif decide (x4 < (x2.length : Int)) then
 gd (inb x4 x2.length) <|
 meet (α := (LPt × (LPt × (Int × (Int × (PPt × Bool)))))) (fun (y5, y6, y7, y8, y9, y10) =>
 bif y10 then
 some false
 else
 meet (α := (LPt × (LPt × (Int × (Int × Bool))))) (fun (y11, y12, y13, y14, y15) =>
 bif y15 then
 some false
 else
 next0 (y11, y12, y13, w64 (y14 + 1))) fun j16 =>
 gd (inb y9.1 y5.length) <|
 bnd (c_parquetref03_Fits ((rdD (0, 0) y5 y9.1).1, (rdD (0, 0) y5 y9.1).2)) fun r17 =>
 bif !r17 then
 j16 (y5, y6, y7, y8, true)
 else
 gd (inb y9.2 y5.length) <|
 bnd (c_parquetref03_Fits ((rdD (0, 0) y5 y9.2).1, (rdD (0, 0) y5 y9.2).2)) fun r18 =>
 bif !r18 then
 j16 (y5, y6, y7, y8, true)
 else
 gd (inb y9.1 y5.length) <|
 bnd (c_parquetref09_times ((rdD (0, 0) y5 y9.1).1, (rdD (0, 0) y5 y9.1).2) y7) fun r19 =>
 bnd (c_parquetref03_Fits (r19.1, r19.2)) fun r20 =>
 bif !r20 then
 j16 (y5, y6, y7, y8, true)
 else
 gd (inb y9.2 y5.length) <|
 bnd (c_parquetref09_times ((rdD (0, 0) y5 y9.2).1, (rdD (0, 0) y5 y9.2).2) y7) fun r21 =>
 bnd (c_parquetref03_Fits (r21.1, r21.2)) fun r22 =>
 j16 (y5, y6, y7, y8, !r22)) fun j23 =>
 bif decide ((rdD (0, 0) x2 x4).1 < 0) then
 j23 (x1, x2, x3, x4, ((rdD (0, 0) x2 x4).1, (rdD (0, 0) x2 x4).2), true)
 else
 bif decide ((rdD (0, 0) x2 x4).2 < 0) then
 j23 (x1, x2, x3, x4, ((rdD (0, 0) x2 x4).1, (rdD (0, 0) x2 x4).2), true)
 else
 bif decide ((rdD (0, 0) x2 x4).1 ≥ (x1.length : Int)) then
 j23 (x1, x2, x3, x4, ((rdD (0, 0) x2 x4).1, (rdD (0, 0) x2 x4).2), true)
 else
 bif decide ((rdD (0, 0) x2 x4).2 ≥ (x1.length : Int)) then
 j23 (x1, x2, x3, x4, ((rdD (0, 0) x2 x4).1, (rdD (0, 0) x2 x4).2), true)
 else
 gd (inb (rdD (0, 0) x2 x4).1 x1.length) <|
 gd (inb (rdD (0, 0) x2 x4).2 x1.length) <|
 j23 (x1, x2, x3, x4, ((rdD (0, 0) x2 x4).1, (rdD (0, 0) x2 x4).2), (decide ((rdD (0, 0) x1 (rdD (0, 0) x2 x4).1).1 = (rdD (0, 0) x1 (rdD (0, 0) x2 x4).2).1)) && (decide ((rdD (0, 0) x1 (rdD (0, 0) x2 x4).1).2 = (rdD (0, 0) x1 (rdD (0, 0) x2 x4).2).2)))
 else
 some true) k (a0, a1, a2, 0)
theorem eq_parquetref09_Check (k : Nat) (c_parquetref03_Fits : PPt → Option Bool) (c_parquetref09_times : PPt → Int → Option PPt) (a0 : LPt) (a1 : LPt) (a2 : Int) : textF [⟨72, [.d kPP], [.bool], fun x => c_parquetref03_Fits x, none⟩, ⟨105, [.d kPP, .d kI], [.pair kI kI], fun x => c_parquetref09_times (x.1) (x.2), none⟩] tb k Tryz.f79 an_parquetref09_Check [.d kLP, .d kLP, .d kI] [.bool] (a0, a1, a2) = b_parquetref09_Check k c_parquetref03_Fits c_parquetref09_times a0 a1 a2 := by kernel_rfl
def g_parquetref09_Check (k : Nat) (a0 : LPt) (a1 : LPt) (a2 : Int) : Option Bool := b_parquetref09_Check k (g_parquetref03_Fits k) (g_parquetref09_times k) a0 a1 a2
theorem tells_parquetref09_Check (k : Nat) : TellsF Tryz.prog 79 [.d kLP, .d kLP, .d kI] [.bool] (fun x => g_parquetref09_Check k (x.1) (x.2.1) (x.2.2)) := fun x y h => fun_tells tb_ok mix (EsOk.cons (EntryOk.of rfl (tells_parquetref03_Fits k)) (EsOk.cons (EntryOk.of rfl (tells_parquetref09_times k)) (EsOk.nil _))) Tryz.func79 (N := k) (an := an_parquetref09_Check) (by kernel_rfl) x y ((eq_parquetref09_Check k (g_parquetref03_Fits k) (g_parquetref09_times k) (x.1) (x.2.1) (x.2.2)).trans h)

def an_parquetref04_On : Ann := .leaf
def b_parquetref04_On (k : Nat) (c_parquetref04_on : PPt → PPt → PPt → Option Bool) (a0 : PPt) (a1 : PPt) (a2 : PPt) : Option Bool :=
 bnd (c_parquetref04_on (a0.1, a0.2) (a1.1, a1.2) (a2.1, a2.2)) fun r0 =>
 some r0
theorem eq_parquetref04_On (k : Nat) (c_parquetref04_on : PPt → PPt → PPt → Option Bool) (a0 : PPt) (a1 : PPt) (a2 : PPt) : textF [⟨74, [.d kPP, .d kPP, .d kPP], [.bool], fun x => c_parquetref04_on (x.1) (x.2.1) (x.2.2), none⟩] tb k Tryz.f106 an_parquetref04_On [.d kPP, .d kPP, .d kPP] [.bool] (a0, a1, a2) = b_parquetref04_On k c_parquetref04_on a0 a1 a2 := by kernel_rfl
def g_parquetref04_On (k : Nat) (a0 : PPt) (a1 : PPt) (a2 : PPt) : Option Bool := b_parquetref04_On k (g_parquetref04_on k) a0 a1 a2
theorem tells_parquetref04_On (k : Nat) : TellsF Tryz.prog 106 [.d kPP, .d kPP, .d kPP] [.bool] (fun x => g_parquetref04_On k (x.1) (x.2.1) (x.2.2)) := fun x y h => fun_tells tb_ok mix (EsOk.cons (EntryOk.of rfl (tells_parquetref04_on k)) (EsOk.nil _)) Tryz.func106 (N := k) (an := an_parquetref04_On) (by kernel_rfl) x y ((eq_parquetref04_On k (g_parquetref04_on k) (x.1) (x.2.1) (x.2.2)).trans h)

def an_parquetref09_farther : Ann := .leaf
def b_parquetref09_farther (k : Nat) (c_parquetref01_Small : Int → Option (Bool × (List Int))) (c_parquetref01_Num_Times : (Bool × (List Int)) → (Bool × (List Int)) → Option (Bool × (List Int))) (c_parquetref01_Num_Plus : (Bool × (List Int)) → (Bool × (List Int)) → Option (Bool × (List Int))) (c_parquetref01_Num_Neg : (Bool × (List Int)) → Option (Bool × (List Int))) (c_parquetref01_Num_Sign : (Bool × (List Int)) → Option Int) (a0 : PPt) (a1 : PPt) (a2 : PPt) : Option Bool :=
 bnd (c_parquetref01_Small (w64 (a1.2 - a0.2))) fun r0 =>
 bnd (c_parquetref01_Small a0.1) fun r1 =>
 bnd (c_parquetref01_Num_Times (r1.1, r1.2) (r0.1, r0.2)) fun r2 =>
 bnd (c_parquetref01_Small (w64 (a1.1 - a0.1))) fun r3 =>
 bnd (c_parquetref01_Small (w64 (a2.2 - a0.2))) fun r4 =>
 bnd (c_parquetref01_Num_Times (r3.1, r3.2) (r4.1, r4.2)) fun r5 =>
 bnd (c_parquetref01_Num_Plus (r2.1, r2.2) (r5.1, r5.2)) fun r6 =>
 bnd (c_parquetref01_Small a2.1) fun r7 =>
 bnd (c_parquetref01_Num_Times (r7.1, r7.2) (r0.1, r0.2)) fun r8 =>
 bnd (c_parquetref01_Num_Neg (r8.1, r8.2)) fun r9 =>
 bnd (c_parquetref01_Num_Plus (r6.1, r6.2) (r9.1, r9.2)) fun r10 =>
 bnd (c_parquetref01_Num_Sign (r10.1, r10.2)) fun r11 =>
 bnd (c_parquetref01_Num_Sign (r0.1, r0.2)) fun r12 =>
 some (decide ((w64 (r11 * r12)) > 0))
theorem eq_parquetref09_farther (k : Nat) (c_parquetref01_Small : Int → Option (Bool × (List Int))) (c_parquetref01_Num_Times : (Bool × (List Int)) → (Bool × (List Int)) → Option (Bool × (List Int))) (c_parquetref01_Num_Plus : (Bool × (List Int)) → (Bool × (List Int)) → Option (Bool × (List Int))) (c_parquetref01_Num_Neg : (Bool × (List Int)) → Option (Bool × (List Int))) (c_parquetref01_Num_Sign : (Bool × (List Int)) → Option Int) (a0 : PPt) (a1 : PPt) (a2 : PPt) : textF [⟨102, [.d kI], [.pair .bool (.sl kI)], fun x => c_parquetref01_Small x, none⟩, ⟨103, [.d (.pair .bool (.sl kI)), .d (.pair .bool (.sl kI))], [.pair .bool (.sl kI)], fun x => c_parquetref01_Num_Times (x.1) (x.2), none⟩, ⟨64, [.d (.pair .bool (.sl kI)), .d (.pair .bool (.sl kI))], [.pair .bool (.sl kI)], fun x => c_parquetref01_Num_Plus (x.1) (x.2), none⟩, ⟨66, [.d (.pair .bool (.sl kI))], [.pair .bool (.sl kI)], fun x => c_parquetref01_Num_Neg x, none⟩, ⟨67, [.d (.pair .bool (.sl kI))], [kI], fun x => c_parquetref01_Num_Sign x, none⟩] tb k Tryz.f107 an_parquetref09_farther [.d kPP, .d kPP, .d kPP] [.bool] (a0, a1, a2) = b_parquetref09_farther k c_parquetref01_Small c_parquetref01_Num_Times c_parquetref01_Num_Plus c_parquetref01_Num_Neg c_parquetref01_Num_Sign a0 a1 a2 := by kernel_rfl
def g_parquetref09_farther (k : Nat) (a0 : PPt) (a1 : PPt) (a2 : PPt) : Option Bool := b_parquetref09_farther k (g_parquetref01_Small k) (g_parquetref01_Num_Times k) (g_parquetref01_Num_Plus k) (g_parquetref01_Num_Neg k) (g_parquetref01_Num_Sign k) a0 a1 a2
theorem tells_parquetref09_farther (k : Nat) : TellsF Tryz.prog 107 [.d kPP, .d kPP, .d kPP] [.bool] (fun x => g_parquetref09_farther k (x.1) (x.2.1) (x.2.2)) := fun x y h => fun_tells tb_ok mix (EsOk.cons (EntryOk.of rfl (tells_parquetref01_Small k)) (EsOk.cons (EntryOk.of rfl (tells_parquetref01_Num_Times k)) (EsOk.cons (EntryOk.of rfl (tells_parquetref01_Num_Plus k)) (EsOk.cons (EntryOk.of rfl (tells_parquetref01_Num_Neg k)) (EsOk.cons (EntryOk.of rfl (tells_parquetref01_Num_Sign k)) (EsOk.nil _)))))) Tryz.func107 (N := k) (an := an_parquetref09_farther) (by kernel_rfl) x y ((eq_parquetref09_farther k (g_parquetref01_Small k) (g_parquetref01_Num_Times k) (g_parquetref01_Num_Plus k) (g_parquetref01_Num_Neg k) (g_parquetref01_Num_Sign k) (x.1) (x.2.1) (x.2.2)).trans h)

def an_parquetref09_Where : Ann := .node none none .leaf (.node none none .leaf (.node none none (.node none none .leaf (.node none none (.node none (some [(0, .d kLP), (1, .d kLP), (2, .d kI), (7, .box [.d kPP]), (9, .d kI), (10, .d kI)]) (.node none none .leaf (.node none none (.node none none (.node none none .leaf (.node none none .leaf (.node none none .leaf (.node none none (.node (some [(0, .d kLP), (1, .d kLP), (2, .d kI), (7, .box [.d kPP]), (9, .d kI), (10, .d kI), (59, .d .bool)]) none .leaf .leaf) (.node (some [(0, .d kLP), (1, .d kLP), (2, .d kI), (7, .box [.d kPP]), (9, .d kI), (10, .d kI)]) none .leaf .leaf))))) .leaf) .leaf)) .leaf) .leaf)) .leaf))
def b_parquetref09_Where (k : Nat) (c_parquetref09_times : PPt → Int → Option PPt) (c_parquetref04_On : PPt → PPt → PPt → Option Bool) (c_parquetref09_farther : PPt → PPt → PPt → Option Bool) (a0 : LPt) (a1 : LPt) (a2 : Int) (a3 : PPt) : Option Int :=
 loopN (α := (LPt × (LPt × (Int × (PPt × PPt))))) (fun (x1, x2, x3, x4, x5, x6) next0 =>
 bif decide (x6 < (x2.length : Int)) then
 gd (inb x6 x2.length) <|
 gd (inb (rdD (0, 0) x2 x6).1 x1.length) <|
 bnd (c_parquetref09_times ((rdD (0, 0) x1 (rdD (0, 0) x2 x6).1).1, (rdD (0, 0) x1 (rdD (0, 0) x2 x6).1).2) x3) fun r7 =>
 gd (inb x6 x2.length) <|
 gd (inb (rdD (0, 0) x2 x6).2 x1.length) <|
 bnd (c_parquetref09_times ((rdD (0, 0) x1 (rdD (0, 0) x2 x6).2).1, (rdD (0, 0) x1 (rdD (0, 0) x2 x6).2).2) x3) fun r8 =>
 bnd (c_parquetref04_On (r7.1, r7.2) (r8.1, r8.2) (x4.1, x4.2)) fun r9 =>
 bif r9 then
 some 0
 else
 meet (α := (LPt × (LPt × (Int × (PPt × (Int × (Int × Bool))))))) (fun (y10, y11, y12, y13, y14, y15, y16) =>
 meet (α := (LPt × (LPt × (Int × (PPt × PPt))))) (fun (y17, y18, y19, y20, y21, y22) =>
 next0 (y17, y18, y19, (y20.1, y20.2), y21, w64 (y22 + 1))) fun j23 =>
 bif y16 then
 j23 (y10, y11, y12, (y13.1, y13.2), w64 (y14 + 1), y15)
 else
 j23 (y10, y11, y12, (y13.1, y13.2), y14, y15)) fun j24 =>
 bif !((decide (r7.2 > x4.2)) == (decide (r8.2 > x4.2))) then
 bnd (c_parquetref09_farther (r7.1, r7.2) (r8.1, r8.2) (x4.1, x4.2)) fun r25 =>
 j24 (x1, x2, x3, (x4.1, x4.2), x5, x6, r25)
 else
 j24 (x1, x2, x3, (x4.1, x4.2), x5, x6, false)
 else
 bif decide ((x5.tmod 2) = 1) then
 some 1
 else
 some (-1)) k (a0, a1, a2, (a3.1, a3.2), 0, 0)
theorem eq_parquetref09_Where (k : Nat) (c_parquetref09_times : PPt → Int → Option PPt) (c_parquetref04_On : PPt → PPt → PPt → Option Bool) (c_parquetref09_farther : PPt → PPt → PPt → Option Bool) (a0 : LPt) (a1 : LPt) (a2 : Int) (a3 : PPt) : textF [⟨105, [.d kPP, .d kI], [.pair kI kI], fun x => c_parquetref09_times (x.1) (x.2), none⟩, ⟨106, [.d kPP, .d kPP, .d kPP], [.bool], fun x => c_parquetref04_On (x.1) (x.2.1) (x.2.2), none⟩, ⟨107, [.d kPP, .d kPP, .d kPP], [.bool], fun x => c_parquetref09_farther (x.1) (x.2.1) (x.2.2), none⟩] tb k Tryz.f80 an_parquetref09_Where [.d kLP, .d kLP, .d kI, .d kPP] [kI] (a0, a1, a2, a3) = b_parquetref09_Where k c_parquetref09_times c_parquetref04_On c_parquetref09_farther a0 a1 a2 a3 := by kernel_rfl
def g_parquetref09_Where (k : Nat) (a0 : LPt) (a1 : LPt) (a2 : Int) (a3 : PPt) : Option Int := b_parquetref09_Where k (g_parquetref09_times k) (g_parquetref04_On k) (g_parquetref09_farther k) a0 a1 a2 a3
theorem tells_parquetref09_Where (k : Nat) : TellsF Tryz.prog 80 [.d kLP, .d kLP, .d kI, .d kPP] [kI] (fun x => g_parquetref09_Where k (x.1) (x.2.1) (x.2.2.1) (x.2.2.2)) := fun x y h => fun_tells tb_ok mix (EsOk.cons (EntryOk.of rfl (tells_parquetref09_times k)) (EsOk.cons (EntryOk.of rfl (tells_parquetref04_On k)) (EsOk.cons (EntryOk.of rfl (tells_parquetref09_farther k)) (EsOk.nil _)))) Tryz.func80 (N := k) (an := an_parquetref09_Where) (by kernel_rfl) x y ((eq_parquetref09_Where k (g_parquetref09_times k) (g_parquetref04_On k) (g_parquetref09_farther k) (x.1) (x.2.1) (x.2.2.1) (x.2.2.2)).trans h)

def an_parquetref09_Middle : Ann := .node none none .leaf (.node none none .leaf (.node none none (.node none none .leaf (.node none none (.node none (some [(0, .d kLP), (1, .d kLP), (2, .d (.sl kI)), (8, .box [.d kPP]), (9, .d kI)]) (.node none none .leaf (.node none none (.node none none (.node none none (.node none none (.node (some [(0, .d kLP), (1, .d kLP), (2, .d (.sl kI)), (8, .box [.d kPP]), (9, .d kI), (41, .d .bool)]) none .leaf .leaf) .leaf) .leaf) .leaf) .leaf)) .leaf) .leaf)) (.node none none (.node none none (.node (some [(0, .d kLP), (1, .d kLP), (2, .d (.sl kI)), (8, .box [.d kPP]), (76, .d .bool)]) none .leaf .leaf) .leaf) .leaf)))
def b_parquetref09_Middle (k : Nat) (c_parquetref03_Fits : PPt → Option Bool) (c_parquetref09_Check : LPt → LPt → Int → Option Bool) (c_parquetref09_Where : LPt → LPt → Int → PPt → Option Int) (a0 : LPt) (a1 : LPt) (a2 : (List Int)) : Option PPt :=
 loopN (α := (LPt × (LPt × ((List Int) × (PPt × Int))))) (fun (x1, x2, x3, x4, x5) next0 =>
 bif decide (x5 < (x3.length : Int)) then
 meet (α := (LPt × (LPt × ((List Int) × (PPt × (Int × Bool)))))) (fun (y6, y7, y8, y9, y10, y11) =>
 bif y11 then
 some (0, 2)
 else
 gd (inb y10 y8.length) <|
 gd (inb (rdD 0 y8 y10) y6.length) <|
 gd (inb y10 y8.length) <|
 gd (inb (rdD 0 y8 y10) y6.length) <|
 next0 (y6, y7, y8, (w64 (y9.1 + (rdD (0, 0) y6 (rdD 0 y8 y10)).1), w64 (y9.2 + (rdD (0, 0) y6 (rdD 0 y8 y10)).2)), w64 (y10 + 1))) fun j12 =>
 gd (inb x5 x3.length) <|
 bif decide ((rdD 0 x3 x5) < 0) then
 j12 (x1, x2, x3, (x4.1, x4.2), x5, true)
 else
 gd (inb x5 x3.length) <|
 bif decide ((rdD 0 x3 x5) ≥ (x1.length : Int)) then
 j12 (x1, x2, x3, (x4.1, x4.2), x5, true)
 else
 gd (inb x5 x3.length) <|
 gd (inb (rdD 0 x3 x5) x1.length) <|
 bnd (c_parquetref03_Fits ((rdD (0, 0) x1 (rdD 0 x3 x5)).1, (rdD (0, 0) x1 (rdD 0 x3 x5)).2)) fun r13 =>
 j12 (x1, x2, x3, (x4.1, x4.2), x5, !r13)
 else
 meet (α := (LPt × (LPt × ((List Int) × (PPt × Bool))))) (fun (y14, y15, y16, y17, y18) =>
 bif y18 then
 some (0, 2)
 else
 bnd (c_parquetref09_Where y14 y15 (y16.length : Int) (y17.1, y17.2)) fun r19 =>
 some (r19, 0)) fun j20 =>
 bnd (c_parquetref09_Check x1 x2 (x3.length : Int)) fun r21 =>
 bif !r21 then
 j20 (x1, x2, x3, (x4.1, x4.2), true)
 else
 bnd (c_parquetref03_Fits (x4.1, x4.2)) fun r22 =>
 j20 (x1, x2, x3, (x4.1, x4.2), !r22)) k (a0, a1, a2, (0, 0), 0)
theorem eq_parquetref09_Middle (k : Nat) (c_parquetref03_Fits : PPt → Option Bool) (c_parquetref09_Check : LPt → LPt → Int → Option Bool) (c_parquetref09_Where : LPt → LPt → Int → PPt → Option Int) (a0 : LPt) (a1 : LPt) (a2 : (List Int)) : textF [⟨72, [.d kPP], [.bool], fun x => c_parquetref03_Fits x, none⟩, ⟨79, [.d kLP, .d kLP, .d kI], [.bool], fun x => c_parquetref09_Check (x.1) (x.2.1) (x.2.2), none⟩, ⟨80, [.d kLP, .d kLP, .d kI, .d kPP], [kI], fun x => c_parquetref09_Where (x.1) (x.2.1) (x.2.2.1) (x.2.2.2), none⟩] tb k Tryz.f37 an_parquetref09_Middle [.d kLP, .d kLP, .d (.sl kI)] [kI, kI] (a0, a1, a2) = b_parquetref09_Middle k c_parquetref03_Fits c_parquetref09_Check c_parquetref09_Where a0 a1 a2 := by kernel_rfl
def g_parquetref09_Middle (k : Nat) (a0 : LPt) (a1 : LPt) (a2 : (List Int)) : Option PPt := b_parquetref09_Middle k (g_parquetref03_Fits k) (g_parquetref09_Check k) (g_parquetref09_Where k) a0 a1 a2
theorem tells_parquetref09_Middle (k : Nat) : TellsF Tryz.prog 37 [.d kLP, .d kLP, .d (.sl kI)] [kI, kI] (fun x => g_parquetref09_Middle k (x.1) (x.2.1) (x.2.2)) := fun x y h => fun_tells tb_ok mix (EsOk.cons (EntryOk.of rfl (tells_parquetref03_Fits k)) (EsOk.cons (EntryOk.of rfl (tells_parquetref09_Check k)) (EsOk.cons (EntryOk.of rfl (tells_parquetref09_Where k)) (EsOk.nil _)))) Tryz.func37 (N := k) (an := an_parquetref09_Middle) (by kernel_rfl) x y ((eq_parquetref09_Middle k (g_parquetref03_Fits k) (g_parquetref09_Check k) (g_parquetref09_Where k) (x.1) (x.2.1) (x.2.2)).trans h)

def an_parquetref10_loops : Ann := .node none none .leaf (.node none none (.node none none .leaf (.node none none (.node none (some [(1, .box [.d kPl]), (2, .box [.d (.pair kI kPP)]), (3, .d kI)]) (.node none none .leaf (.node none none (.node none none (.node none none .leaf (.node none none (.node none none .leaf (.node none none (.node none (some [(1, .box [.d kPl]), (2, .box [.d (.pair kI kPP)]), (3, .d kI), (4, .d kI), (5, .d kI)]) (.node none none .leaf (.node none none (.node none none (.node none none (.node (some [(1, .box [.d kPl]), (2, .box [.d (.pair kI kPP)]), (3, .d kI), (4, .d kI), (5, .d kI), (44, .d .bool)]) none .leaf .leaf) (.node (some [(1, .box [.d kPl]), (2, .box [.d (.pair kI kPP)]), (3, .d kI), (4, .d kI), (5, .d kI)]) none .leaf .leaf)) .leaf) .leaf)) .leaf) .leaf)) (.node none none (.node (some [(1, .box [.d kPl]), (2, .box [.d (.pair kI kPP)]), (3, .d kI), (52, .d .bool)]) none .leaf .leaf) .leaf))) .leaf) .leaf)) .leaf) .leaf)) (.node none none .leaf (.node none none (.node none none .leaf (.node none none (.node none (some [(1, .box [.d kPl]), (2, .box [.d (.pair kI kPP)]), (6, .d kI)]) .leaf .leaf) .leaf)) (.node none none .leaf (.node none none (.node none none .leaf (.node none none (.node none (some [(1, .box [.d kPl]), (2, .box [.d (.pair kI kPP)]), (9, .d kLP), (10, .d kI)]) (.node none none .leaf (.node none none (.node none none (.node none none .leaf (.node none none (.node none none .leaf (.node none none (.node none (some [(1, .box [.d kPl]), (2, .box [.d (.pair kI kPP)]), (9, .d kLP), (10, .d kI), (11, .d .bool), (12, .d kI)]) (.node none none .leaf (.node none none (.node none none (.node (some [(1, .box [.d kPl]), (2, .box [.d (.pair kI kPP)]), (9, .d kLP), (10, .d kI), (11, .d .bool), (12, .d kI)]) none .leaf .leaf) .leaf) .leaf)) .leaf) .leaf)) (.node none none (.node (some [(1, .box [.d kPl]), (2, .box [.d (.pair kI kPP)]), (9, .d kLP), (10, .d kI), (140, .d .bool)]) none .leaf .leaf) .leaf))) .leaf) .leaf)) .leaf) .leaf)) .leaf)))))
def b_parquetref10_loops (k : Nat) (c_parquetref09_Middle : LPt → LPt → (List Int) → Option PPt) (c_parquetref10_All : TPl → Option LPt) (c_parquetref09_Where : LPt → LPt → Int → PPt → Option Int) (a0 : TPl) : Option (Int × PPt) :=
 loopN (α := (TPl × ((Int × PPt) × Int))) (fun (x1, x2, x3) next0 =>
 bif decide (x3 < (x1.1.length : Int)) then
 loopN (α := (TPl × ((Int × PPt) × (Int × PPt)))) (fun (x5, x6, x7, x8, x9) next4 =>
 bif decide (x9 < (x5.2.1.length : Int)) then
 meet (α := (TPl × ((Int × PPt) × (Int × (Int × (Int × Bool)))))) (fun (y10, y11, y12, y13, y14, y15) =>
 meet (α := (TPl × ((Int × PPt) × (Int × PPt)))) (fun (y16, y17, y18, y19, y20) =>
 next4 ((y16.1, y16.2.1, y16.2.2), (y17.1, y17.2.1, y17.2.2), y18, y19, w64 (y20 + 1))) fun j21 =>
 bif y15 then
 j21 ((y10.1, y10.2.1, y10.2.2), (y11.1, y11.2.1, y11.2.2), y12, w64 (y13 + 1), y14)
 else
 j21 ((y10.1, y10.2.1, y10.2.2), (y11.1, y11.2.1, y11.2.2), y12, y13, y14)) fun j22 =>
 gd (inb x9 x5.2.1.length) <|
 bif decide ((rdD (0, 0) x5.2.1 x9).1 = x7) then
 j22 ((x5.1, x5.2.1, x5.2.2), (x6.1, x6.2.1, x6.2.2), x7, x8, x9, true)
 else
 gd (inb x9 x5.2.1.length) <|
 j22 ((x5.1, x5.2.1, x5.2.2), (x6.1, x6.2.1, x6.2.2), x7, x8, x9, decide ((rdD (0, 0) x5.2.1 x9).2 = x7))
 else
 meet (α := (TPl × ((Int × PPt) × (Int × Bool)))) (fun (y23, y24, y25, y26) =>
 bif y26 then
 some (5, y25, 0)
 else
 next0 ((y23.1, y23.2.1, y23.2.2), (y24.1, y24.2.1, y24.2.2), w64 (y25 + 1))) fun j27 =>
 bif !(decide (x8 = 0)) then
 j27 ((x5.1, x5.2.1, x5.2.2), (x6.1, x6.2.1, x6.2.2), x7, !(decide (x8 = 2)))
 else
 j27 ((x5.1, x5.2.1, x5.2.2), (x6.1, x6.2.1, x6.2.2), x7, false)) k ((x1.1, x1.2.1, x1.2.2), (x2.1, x2.2.1, x2.2.2), x3, 0, 0)
 else
 bif decide ((x1.2.1.length : Int) = 0) then
 some (6, 0, 0)
 else
 loopN (α := (TPl × ((Int × PPt) × Int))) (fun (x29, x30, x31) next28 =>
 bif decide (x31 < (x29.2.2.length : Int)) then
 gd (inb x31 x29.2.2.length) <|
 gd (inb x31 x29.2.2.length) <|
 bnd (c_parquetref09_Middle x29.1 x29.2.1 [(rdD (0, 0) x29.2.2 x31).1, (rdD (0, 0) x29.2.2 x31).2]) fun r32 =>
 bif !(decide (r32.1 = 1)) then
 some (7, x31, 0)
 else
 next28 ((x29.1, x29.2.1, x29.2.2), (x30.1, x30.2.1, x30.2.2), w64 (x31 + 1))
 else
 bnd (c_parquetref10_All (x29.1, x29.2.1, x29.2.2)) fun r33 =>
 loopN (α := (TPl × ((Int × PPt) × (LPt × Int)))) (fun (x35, x36, x37, x38) next34 =>
 bif decide (x38 < (x35.1.length : Int)) then
 loopN (α := (TPl × ((Int × PPt) × (LPt × (Int × (Bool × Int)))))) (fun (x40, x41, x42, x43, x44, x45) next39 =>
 bif decide (x45 < (x42.length : Int)) then
 meet (α := (TPl × ((Int × PPt) × (LPt × (Int × (Bool × Int)))))) (fun (y46, y47, y48, y49, y50, y51) =>
 next39 ((y46.1, y46.2.1, y46.2.2), (y47.1, y47.2.1, y47.2.2), y48, y49, y50, w64 (y51 + 1))) fun j52 =>
 bif x44 then
 j52 ((x40.1, x40.2.1, x40.2.2), (x41.1, x41.2.1, x41.2.2), x42, x43, true, x45)
 else
 gd (inb x45 x42.length) <|
 bif decide ((rdD (0, 0) x42 x45).1 = x43) then
 j52 ((x40.1, x40.2.1, x40.2.2), (x41.1, x41.2.1, x41.2.2), x42, x43, true, x45)
 else
 gd (inb x45 x42.length) <|
 j52 ((x40.1, x40.2.1, x40.2.2), (x41.1, x41.2.1, x41.2.2), x42, x43, decide ((rdD (0, 0) x42 x45).2 = x43), x45)
 else
 meet (α := (TPl × ((Int × PPt) × (LPt × (Int × Bool))))) (fun (y53, y54, y55, y56, y57) =>
 bif y57 then
 some (8, y56, 0)
 else
 next34 ((y53.1, y53.2.1, y53.2.2), (y54.1, y54.2.1, y54.2.2), y55, w64 (y56 + 1))) fun j58 =>
 bif !x44 then
 gd (inb x43 x40.1.length) <|
 bnd (c_parquetref09_Where x40.1 x40.2.1 1 ((rdD (0, 0) x40.1 x43).1, (rdD (0, 0) x40.1 x43).2)) fun r59 =>
 j58 ((x40.1, x40.2.1, x40.2.2), (x41.1, x41.2.1, x41.2.2), x42, x43, !(decide (r59 = 1)))
 else
 j58 ((x40.1, x40.2.1, x40.2.2), (x41.1, x41.2.1, x41.2.2), x42, x43, false)) k ((x35.1, x35.2.1, x35.2.2), (x36.1, x36.2.1, x36.2.2), x37, x38, false, 0)
 else
 some (0, 0, 0)) k ((x29.1, x29.2.1, x29.2.2), (x30.1, x30.2.1, x30.2.2), r33, 0)) k ((x1.1, x1.2.1, x1.2.2), (x2.1, x2.2.1, x2.2.2), 0)) k ((a0.1, a0.2.1, a0.2.2), (0, 0, 0), 0)
theorem eq_parquetref10_loops (k : Nat) (c_parquetref09_Middle : LPt → LPt → (List Int) → Option PPt) (c_parquetref10_All : TPl → Option LPt) (c_parquetref09_Where : LPt → LPt → Int → PPt → Option Int) (a0 : TPl) : textF [⟨37, [.d kLP, .d kLP, .d (.sl kI)], [kI, kI], fun x => c_parquetref09_Middle (x.1) (x.2.1) (x.2.2), none⟩, ⟨27, [.d kPl], [.sl kPP], fun x => c_parquetref10_All x, none⟩, ⟨80, [.d kLP, .d kLP, .d kI, .d kPP], [kI], fun x => c_parquetref09_Where (x.1) (x.2.1) (x.2.2.1) (x.2.2.2), none⟩] tb k Tryz.f96 an_parquetref10_loops [.d kPl] [.pair kI kPP] a0 = b_parquetref10_loops k c_parquetref09_Middle c_parquetref10_All c_parquetref09_Where a0 := by kernel_rfl
def g_parquetref10_loops (k : Nat) (a0 : TPl) : Option (Int × PPt) := b_parquetref10_loops k (g_parquetref09_Middle k) (g_parquetref10_All k) (g_parquetref09_Where k) a0
theorem tells_parquetref10_loops (k : Nat) : TellsF Tryz.prog 96 [.d kPl] [.pair kI kPP] (fun x => g_parquetref10_loops k x) := fun x y h => fun_tells tb_ok mix (EsOk.cons (EntryOk.of rfl (tells_parquetref09_Middle k)) (EsOk.cons (EntryOk.of rfl (tells_parquetref10_All k)) (EsOk.cons (EntryOk.of rfl (tells_parquetref09_Where k)) (EsOk.nil _)))) Tryz.func96 (N := k) (an := an_parquetref10_loops) (by kernel_rfl) x y ((eq_parquetref10_loops k (g_parquetref09_Middle k) (g_parquetref10_All k) (g_parquetref09_Where k) x).trans h)

def an_parquetref10_First : Ann := .node none none .leaf (.node none none .leaf (.node none none .leaf (.node none none .leaf (.node none none (.node none none .leaf (.node (some [(2, .box [.d (.pair kI kPP)]), (5, .box [.d (.pair kI kPP)])]) none .leaf .leaf)) .leaf))))
def b_parquetref10_First (k : Nat) (c_parquetref05_Check : TPl → Option Int) (c_parquetref10_pairs : TPl → Option (Int × PPt)) (c_parquetref10_loops : TPl → Option (Int × PPt)) (a0 : TPl) : Option ((Int × PPt) × Int) :=
 bnd (c_parquetref05_Check (a0.1, a0.2.1, a0.2.2)) fun r0 =>
 bif !(decide (r0 = 0)) then
 some ((0, 0, 0), 2)
 else
 bnd (c_parquetref10_pairs (a0.1, a0.2.1, a0.2.2)) fun r1 =>
 meet (α := ((Int × PPt) × (Int × PPt))) (fun (y2, y3, y4, y5) =>
 some ((y3, y4, y5), 0)) fun j6 =>
 bif decide (r1.1 = 0) then
 bnd (c_parquetref10_loops (a0.1, a0.2.1, a0.2.2)) fun r7 =>
 j6 ((0, 0, 0), r7.1, r7.2.1, r7.2.2)
 else
 j6 ((0, 0, 0), r1.1, r1.2.1, r1.2.2)
theorem eq_parquetref10_First (k : Nat) (c_parquetref05_Check : TPl → Option Int) (c_parquetref10_pairs : TPl → Option (Int × PPt)) (c_parquetref10_loops : TPl → Option (Int × PPt)) (a0 : TPl) : textF [⟨94, [.d kPl], [kI], fun x => c_parquetref05_Check x, none⟩, ⟨95, [.d kPl], [.pair kI kPP], fun x => c_parquetref10_pairs x, none⟩, ⟨96, [.d kPl], [.pair kI kPP], fun x => c_parquetref10_loops x, none⟩] tb k Tryz.f59 an_parquetref10_First [.d kPl] [.pair kI kPP, kI] a0 = b_parquetref10_First k c_parquetref05_Check c_parquetref10_pairs c_parquetref10_loops a0 := by kernel_rfl
def g_parquetref10_First (k : Nat) (a0 : TPl) : Option ((Int × PPt) × Int) := b_parquetref10_First k (g_parquetref05_Check k) (g_parquetref10_pairs k) (g_parquetref10_loops k) a0
theorem tells_parquetref10_First (k : Nat) : TellsF Tryz.prog 59 [.d kPl] [.pair kI kPP, kI] (fun x => g_parquetref10_First k x) := fun x y h => fun_tells tb_ok mix (EsOk.cons (EntryOk.of rfl (tells_parquetref05_Check k)) (EsOk.cons (EntryOk.of rfl (tells_parquetref10_pairs k)) (EsOk.cons (EntryOk.of rfl (tells_parquetref10_loops k)) (EsOk.nil _)))) Tryz.func59 (N := k) (an := an_parquetref10_First) (by kernel_rfl) x y ((eq_parquetref10_First k (g_parquetref05_Check k) (g_parquetref10_pairs k) (g_parquetref10_loops k) x).trans h)

def an_parquetref10_Right : Ann := .node none none .leaf (.node none none .leaf (.node none none (.node (some [(2, .d .bool)]) none .leaf .leaf) .leaf))
def b_parquetref10_Right (k : Nat) (c_parquetref10_First : TPl → Option ((Int × PPt) × Int)) (a0 : TPl) : Option Bool :=
 bnd (c_parquetref10_First (a0.1, a0.2.1, a0.2.2)) fun r0 =>
 meet (α := Bool) (fun y1 =>
 some y1) fun j2 =>
 bif decide (r0.2 = 0) then
 j2 (decide (r0.1.1 = 0))
 else
 j2 false
theorem eq_parquetref10_Right (k : Nat) (c_parquetref10_First : TPl → Option ((Int × PPt) × Int)) (a0 : TPl) : textF [⟨59, [.d kPl], [.pair kI kPP, kI], fun x => c_parquetref10_First x, none⟩] tb k Tryz.f20 an_parquetref10_Right [.d kPl] [.bool] a0 = b_parquetref10_Right k c_parquetref10_First a0 := by kernel_rfl
def g_parquetref10_Right (k : Nat) (a0 : TPl) : Option Bool := b_parquetref10_Right k (g_parquetref10_First k) a0
theorem tells_parquetref10_Right (k : Nat) : TellsF Tryz.prog 20 [.d kPl] [.bool] (fun x => g_parquetref10_Right k x) := fun x y h => fun_tells tb_ok mix (EsOk.cons (EntryOk.of rfl (tells_parquetref10_First k)) (EsOk.nil _)) Tryz.func20 (N := k) (an := an_parquetref10_Right) (by kernel_rfl) x y ((eq_parquetref10_Right k (g_parquetref10_First k) x).trans h)

def an_parquetref12_Lay : Ann := .node none none .leaf (.node none none (.node none none .leaf (.node (some [(0, .d kLP), (3, .box [.d kPP])]) none .leaf .leaf)) (.node none none .leaf (.node none none .leaf (.node none none (.node none none (.node none (some [(0, .d kLP), (3, .box [.d kPP]), (5, .row kPP 60), (6, .d kI)]) (.node none none (.node none none (.node (some [(0, .d kLP), (3, .box [.d kPP]), (5, .row kPP 60), (6, .d kI), (50, .d .bool)]) none .leaf .leaf) .leaf) .leaf) .leaf) .leaf) (.node none none (.node none none (.node (some [(0, .d kLP), (3, .box [.d kPP]), (5, .row kPP 60), (6, .d kI), (71, .d .bool)]) none .leaf .leaf) (.node (some [(0, .d kLP), (3, .box [.d kPP]), (5, .row kPP 60), (6, .d kI)]) none .leaf .leaf)) .leaf)))))
def g_parquetref12_Lay (k : Nat) (a0 : LPt) (a1 : PPt) : Option LPt :=
 meet (α := (LPt × PPt)) (fun (y0, y1, y2) =>
 loopN (α := (LPt × (PPt × (LPt × Int)))) (fun (x4, x5, x6, x7) next3 =>
 meet (α := (LPt × (PPt × (LPt × (Int × Bool))))) (fun (y8, y9, y10, y11, y12) =>
 bif y12 then
 gd (inb y11 y8.length) <|
 gd (few (y10.length + 1)) <|
 next3 (y8, (y9.1, y9.2), y10 ++ [((rdD (0, 0) y8 y11).1, (rdD (0, 0) y8 y11).2)], w64 (y11 + 1))
 else
 meet (α := (LPt × (PPt × (LPt × (Int × Bool))))) (fun (y13, y14, y15, y16, y17) =>
 meet (α := (LPt × (PPt × (LPt × Int)))) (fun (y18, y19, y20, y21) =>
 gd (few (y20.length + 1)) <|
 gd (decide (0 ≤ y21)) <|
 gd (decide (y21 ≤ (y18.length : Int))) <|
 gd (few ((y20 ++ [(y19.1, y19.2)]).length + (dpL y18 y21).length)) <|
 some ((y20 ++ [(y19.1, y19.2)]) ++ (dpL y18 y21))) fun j22 =>
 bif y17 then
 j22 (y13, (y14.1, y14.2), y15, w64 (y16 + 1))
 else
 j22 (y13, (y14.1, y14.2), y15, y16)) fun j23 =>
 bif decide (y11 < (y8.length : Int)) then
 gd (inb y11 y8.length) <|
 j23 (y8, (y9.1, y9.2), y10, y11, (decide ((rdD (0, 0) y8 y11).1 = y9.1)) && (decide ((rdD (0, 0) y8 y11).2 = y9.2)))
 else
 j23 (y8, (y9.1, y9.2), y10, y11, false)) fun j24 =>
 bif decide (x7 < (x4.length : Int)) then
 gd (inb x7 x4.length) <|
 bif decide ((rdD (0, 0) x4 x7).1 < x5.1) then
 j24 (x4, (x5.1, x5.2), x6, x7, true)
 else
 gd (inb x7 x4.length) <|
 bif decide ((rdD (0, 0) x4 x7).1 = x5.1) then
 gd (inb x7 x4.length) <|
 j24 (x4, (x5.1, x5.2), x6, x7, decide ((rdD (0, 0) x4 x7).2 < x5.2))
 else
 j24 (x4, (x5.1, x5.2), x6, x7, false)
 else
 j24 (x4, (x5.1, x5.2), x6, x7, false)) k (y0, (y1, y2), [], 0)) fun j25 =>
 bif decide (a1.1 > a1.2) then
 j25 (a0, a1.2, a1.1)
 else
 j25 (a0, a1.1, a1.2)
theorem eq_parquetref12_Lay (k : Nat) (a0 : LPt) (a1 : PPt) : textF [] tb k Tryz.f52 an_parquetref12_Lay [.d kLP, .d kPP] [.sl kPP] (a0, a1) = g_parquetref12_Lay k a0 a1 := by kernel_rfl
theorem tells_parquetref12_Lay (k : Nat) : TellsF Tryz.prog 52 [.d kLP, .d kPP] [.sl kPP] (fun x => g_parquetref12_Lay k (x.1) (x.2)) := fun x y h => fun_tells tb_ok mix (EsOk.nil _) Tryz.func52 (N := k) (an := an_parquetref12_Lay) (by kernel_rfl) x y ((eq_parquetref12_Lay k (x.1) (x.2)).trans h)

def an_parquetref12_segs : Ann := .node none none .leaf (.node none none .leaf (.node none none .leaf (.node none none (.node none none .leaf (.node none none (.node none (some [(3, .d kLP), (4, .d kLP), (5, .d kI)]) .leaf .leaf) .leaf)) .leaf)))
def b_parquetref12_segs (k : Nat) (c_parquetref10_All : TPl → Option LPt) (c_parquetref12_Lay : LPt → PPt → Option LPt) (a0 : TPl) : Option LPt :=
 bnd (c_parquetref10_All (a0.1, a0.2.1, a0.2.2)) fun r0 =>
 loopN (α := (LPt × (LPt × Int))) (fun (x2, x3, x4) next1 =>
 bif decide (x4 < (x3.length : Int)) then
 gd (inb x4 x3.length) <|
 bnd (c_parquetref12_Lay x2 ((rdD (0, 0) x3 x4).1, (rdD (0, 0) x3 x4).2)) fun r5 =>
 next1 (r5, x3, w64 (x4 + 1))
 else
 some x2) k ([], r0, 0)
theorem eq_parquetref12_segs (k : Nat) (c_parquetref10_All : TPl → Option LPt) (c_parquetref12_Lay : LPt → PPt → Option LPt) (a0 : TPl) : textF [⟨27, [.d kPl], [.sl kPP], fun x => c_parquetref10_All x, none⟩, ⟨52, [.d kLP, .d kPP], [.sl kPP], fun x => c_parquetref12_Lay (x.1) (x.2), none⟩] tb k Tryz.f50 an_parquetref12_segs [.d kPl] [.sl kPP] a0 = b_parquetref12_segs k c_parquetref10_All c_parquetref12_Lay a0 := by kernel_rfl
def g_parquetref12_segs (k : Nat) (a0 : TPl) : Option LPt := b_parquetref12_segs k (g_parquetref10_All k) (g_parquetref12_Lay k) a0
theorem tells_parquetref12_segs (k : Nat) : TellsF Tryz.prog 50 [.d kPl] [.sl kPP] (fun x => g_parquetref12_segs k x) := fun x y h => fun_tells tb_ok mix (EsOk.cons (EntryOk.of rfl (tells_parquetref10_All k)) (EsOk.cons (EntryOk.of rfl (tells_parquetref12_Lay k)) (EsOk.nil _))) Tryz.func50 (N := k) (an := an_parquetref12_segs) (by kernel_rfl) x y ((eq_parquetref12_segs k (g_parquetref10_All k) (g_parquetref12_Lay k) x).trans h)

def an_parquetref12_goes : Ann := .node none none .leaf (.node none none .leaf (.node none none (.node none none .leaf (.node none none (.node none (some [(1, .d kLP), (2, .d kI), (3, .d kI), (4, .box [.d kPl]), (9, .d kI)]) .leaf .leaf) .leaf)) (.node none none (.node none none .leaf (.node none none (.node none (some [(1, .d kLP), (2, .d kI), (3, .d kI), (4, .box [.d kPl]), (10, .d kI)]) (.node none none .leaf (.node none none (.node none none (.node none none .leaf (.node none none (.node (some [(1, .d kLP), (2, .d kI), (3, .d kI), (4, .box [.d kPl]), (10, .d kI), (85, .d .bool)]) none .leaf .leaf) .leaf)) .leaf) .leaf)) .leaf) .leaf)) .leaf)))
def b_parquetref12_goes (k : Nat) (c_parquetref12_Has : LPt → Int → Int → Option Bool) (c_parquetref04_Inside : PPt → PPt → PPt → Option Bool) (c_parquetref04_Segs : PPt → PPt → PPt → PPt → Option PPt) (c_parquetref09_Middle : LPt → LPt → (List Int) → Option PPt) (a0 : TPl) (a1 : LPt) (a2 : Int) (a3 : Int) : Option Bool :=
 bnd (c_parquetref12_Has a1 a2 a3) fun r0 =>
 bif r0 then
 some false
 else
 loopN (α := (LPt × (Int × (Int × (TPl × Int))))) (fun (x2, x3, x4, x5, x6) next1 =>
 bif decide (x6 < (x5.1.length : Int)) then
 gd (inb x3 x5.1.length) <|
 gd (inb x4 x5.1.length) <|
 gd (inb x6 x5.1.length) <|
 bnd (c_parquetref04_Inside ((rdD (0, 0) x5.1 x3).1, (rdD (0, 0) x5.1 x3).2) ((rdD (0, 0) x5.1 x4).1, (rdD (0, 0) x5.1 x4).2) ((rdD (0, 0) x5.1 x6).1, (rdD (0, 0) x5.1 x6).2)) fun r7 =>
 bif r7 then
 some false
 else
 next1 (x2, x3, x4, (x5.1, x5.2.1, x5.2.2), w64 (x6 + 1))
 else
 loopN (α := (LPt × (Int × (Int × (TPl × Int))))) (fun (x9, x10, x11, x12, x13) next8 =>
 bif decide (x13 < (x9.length : Int)) then
 gd (inb x10 x12.1.length) <|
 gd (inb x11 x12.1.length) <|
 gd (inb x13 x9.length) <|
 gd (inb (rdD (0, 0) x9 x13).1 x12.1.length) <|
 gd (inb x13 x9.length) <|
 gd (inb (rdD (0, 0) x9 x13).2 x12.1.length) <|
 bnd (c_parquetref04_Segs ((rdD (0, 0) x12.1 x10).1, (rdD (0, 0) x12.1 x10).2) ((rdD (0, 0) x12.1 x11).1, (rdD (0, 0) x12.1 x11).2) ((rdD (0, 0) x12.1 (rdD (0, 0) x9 x13).1).1, (rdD (0, 0) x12.1 (rdD (0, 0) x9 x13).1).2) ((rdD (0, 0) x12.1 (rdD (0, 0) x9 x13).2).1, (rdD (0, 0) x12.1 (rdD (0, 0) x9 x13).2).2)) fun r14 =>
 meet (α := (LPt × (Int × (Int × (TPl × (Int × Bool)))))) (fun (y15, y16, y17, y18, y19, y20) =>
 bif y20 then
 some false
 else
 next8 (y15, y16, y17, (y18.1, y18.2.1, y18.2.2), w64 (y19 + 1))) fun j21 =>
 bif !(decide (r14.1 = 0)) then
 j21 (x9, x10, x11, (x12.1, x12.2.1, x12.2.2), x13, !(decide (r14.1 = 1)))
 else
 j21 (x9, x10, x11, (x12.1, x12.2.1, x12.2.2), x13, false)
 else
 bnd (c_parquetref09_Middle x12.1 x12.2.1 [x10, x11]) fun r22 =>
 some (decide (r22.1 = 1))) k (x2, x3, x4, (x5.1, x5.2.1, x5.2.2), 0)) k (a1, a2, a3, (a0.1, a0.2.1, a0.2.2), 0)
theorem eq_parquetref12_goes (k : Nat) (c_parquetref12_Has : LPt → Int → Int → Option Bool) (c_parquetref04_Inside : PPt → PPt → PPt → Option Bool) (c_parquetref04_Segs : PPt → PPt → PPt → PPt → Option PPt) (c_parquetref09_Middle : LPt → LPt → (List Int) → Option PPt) (a0 : TPl) (a1 : LPt) (a2 : Int) (a3 : Int) : textF [⟨28, [.d kLP, .d kI, .d kI], [.bool], fun x => c_parquetref12_Has (x.1) (x.2.1) (x.2.2), none⟩, ⟨38, [.d kPP, .d kPP, .d kPP], [.bool], fun x => c_parquetref04_Inside (x.1) (x.2.1) (x.2.2), none⟩, ⟨32, [.d kPP, .d kPP, .d kPP, .d kPP], [kI, kI], fun x => c_parquetref04_Segs (x.1) (x.2.1) (x.2.2.1) (x.2.2.2), none⟩, ⟨37, [.d kLP, .d kLP, .d (.sl kI)], [kI, kI], fun x => c_parquetref09_Middle (x.1) (x.2.1) (x.2.2), none⟩] tb k Tryz.f51 an_parquetref12_goes [.d kPl, .d kLP, .d kI, .d kI] [.bool] (a0, a1, a2, a3) = b_parquetref12_goes k c_parquetref12_Has c_parquetref04_Inside c_parquetref04_Segs c_parquetref09_Middle a0 a1 a2 a3 := by kernel_rfl
def g_parquetref12_goes (k : Nat) (a0 : TPl) (a1 : LPt) (a2 : Int) (a3 : Int) : Option Bool := b_parquetref12_goes k (g_parquetref12_Has k) (g_parquetref04_Inside k) (g_parquetref04_Segs k) (g_parquetref09_Middle k) a0 a1 a2 a3
theorem tells_parquetref12_goes (k : Nat) : TellsF Tryz.prog 51 [.d kPl, .d kLP, .d kI, .d kI] [.bool] (fun x => g_parquetref12_goes k (x.1) (x.2.1) (x.2.2.1) (x.2.2.2)) := fun x y h => fun_tells tb_ok mix (EsOk.cons (EntryOk.of rfl (tells_parquetref12_Has k)) (EsOk.cons (EntryOk.of rfl (tells_parquetref04_Inside k)) (EsOk.cons (EntryOk.of rfl (tells_parquetref04_Segs k)) (EsOk.cons (EntryOk.of rfl (tells_parquetref09_Middle k)) (EsOk.nil _))))) Tryz.func51 (N := k) (an := an_parquetref12_goes) (by kernel_rfl) x y ((eq_parquetref12_goes k (g_parquetref12_Has k) (g_parquetref04_Inside k) (g_parquetref04_Segs k) (g_parquetref09_Middle k) (x.1) (x.2.1) (x.2.2.1) (x.2.2.2)).trans h)

def an_parquetref12_Edges : Ann := .node none none .leaf (.node none none .leaf (.node none none .leaf (.node none none (.node none none .leaf (.node none none (.node none (some [(1, .box [.d kPl]), (4, .d kLP), (5, .d kI)]) (.node none none .leaf (.node none none (.node none none (.node none none .leaf (.node none none (.node none (some [(1, .box [.d kPl]), (4, .d kLP), (5, .d kI), (6, .d kI)]) (.node none none .leaf (.node none none (.node none none (.node none none .leaf (.node (some [(1, .box [.d kPl]), (4, .d kLP), (5, .d kI), (6, .d kI)]) none .leaf .leaf)) .leaf) .leaf)) .leaf) .leaf)) .leaf) .leaf)) .leaf) .leaf)) .leaf)))
def b_parquetref12_Edges (k : Nat) (c_parquetref10_Right : TPl → Option Bool) (c_parquetref12_segs : TPl → Option LPt) (c_parquetref12_goes : TPl → LPt → Int → Int → Option Bool) (c_parquetref12_Lay : LPt → PPt → Option LPt) (a0 : TPl) : Option (LPt × Int) :=
 bnd (c_parquetref10_Right (a0.1, a0.2.1, a0.2.2)) fun r0 =>
 bif !r0 then
 some ([], 2)
 else
 bnd (c_parquetref12_segs (a0.1, a0.2.1, a0.2.2)) fun r1 =>
 loopN (α := (TPl × (LPt × Int))) (fun (x3, x4, x5) next2 =>
 bif decide (x5 < (x3.1.length : Int)) then
 loopN (α := (TPl × (LPt × PPt))) (fun (x7, x8, x9, x10) next6 =>
 bif decide (x10 < (x7.1.length : Int)) then
 bnd (c_parquetref12_goes (x7.1, x7.2.1, x7.2.2) x8 x9 x10) fun r11 =>
 meet (α := (TPl × (LPt × PPt))) (fun (y12, y13, y14, y15) =>
 next6 ((y12.1, y12.2.1, y12.2.2), y13, y14, w64 (y15 + 1))) fun j16 =>
 bif r11 then
 bnd (c_parquetref12_Lay x8 (x9, x10)) fun r17 =>
 j16 ((x7.1, x7.2.1, x7.2.2), r17, x9, x10)
 else
 j16 ((x7.1, x7.2.1, x7.2.2), x8, x9, x10)
 else
 next2 ((x7.1, x7.2.1, x7.2.2), x8, w64 (x9 + 1))) k ((x3.1, x3.2.1, x3.2.2), x4, x5, w64 (x5 + 1))
 else
 some (x4, 0)) k ((a0.1, a0.2.1, a0.2.2), r1, 0)
theorem eq_parquetref12_Edges (k : Nat) (c_parquetref10_Right : TPl → Option Bool) (c_parquetref12_segs : TPl → Option LPt) (c_parquetref12_goes : TPl → LPt → Int → Int → Option Bool) (c_parquetref12_Lay : LPt → PPt → Option LPt) (a0 : TPl) : textF [⟨20, [.d kPl], [.bool], fun x => c_parquetref10_Right x, none⟩, ⟨50, [.d kPl], [.sl kPP], fun x => c_parquetref12_segs x, none⟩, ⟨51, [.d kPl, .d kLP, .d kI, .d kI], [.bool], fun x => c_parquetref12_goes (x.1) (x.2.1) (x.2.2.1) (x.2.2.2), none⟩, ⟨52, [.d kLP, .d kPP], [.sl kPP], fun x => c_parquetref12_Lay (x.1) (x.2), none⟩] tb k Tryz.f14 an_parquetref12_Edges [.d kPl] [.sl kPP, kI] a0 = b_parquetref12_Edges k c_parquetref10_Right c_parquetref12_segs c_parquetref12_goes c_parquetref12_Lay a0 := by kernel_rfl
def g_parquetref12_Edges (k : Nat) (a0 : TPl) : Option (LPt × Int) := b_parquetref12_Edges k (g_parquetref10_Right k) (g_parquetref12_segs k) (g_parquetref12_goes k) (g_parquetref12_Lay k) a0
theorem tells_parquetref12_Edges (k : Nat) : TellsF Tryz.prog 14 [.d kPl] [.sl kPP, kI] (fun x => g_parquetref12_Edges k x) := fun x y h => fun_tells tb_ok mix (EsOk.cons (EntryOk.of rfl (tells_parquetref10_Right k)) (EsOk.cons (EntryOk.of rfl (tells_parquetref12_segs k)) (EsOk.cons (EntryOk.of rfl (tells_parquetref12_goes k)) (EsOk.cons (EntryOk.of rfl (tells_parquetref12_Lay k)) (EsOk.nil _))))) Tryz.func14 (N := k) (an := an_parquetref12_Edges) (by kernel_rfl) x y ((eq_parquetref12_Edges k (g_parquetref10_Right k) (g_parquetref12_segs k) (g_parquetref12_goes k) (g_parquetref12_Lay k) x).trans h)

def an_parquetref12_In : Ann := .node none none .leaf (.node none none (.node (some [(6, .d .bool)]) none .leaf .leaf) .leaf)
def b_parquetref12_In (k : Nat) (c_parquetref03_Orient : PPt → PPt → PPt → Option Int) (a0 : LPt) (a1 : (Int × PPt)) (a2 : PPt) : Option Bool :=
 meet (α := Bool) (fun y0 =>
 some y0) fun j1 =>
 gd (inb a1.1 a0.length) <|
 gd (inb a1.2.1 a0.length) <|
 bnd (c_parquetref03_Orient ((rdD (0, 0) a0 a1.1).1, (rdD (0, 0) a0 a1.1).2) ((rdD (0, 0) a0 a1.2.1).1, (rdD (0, 0) a0 a1.2.1).2) (a2.1, a2.2)) fun r2 =>
 bif !(decide (r2 = (-1))) then
 gd (inb a1.2.1 a0.length) <|
 gd (inb a1.2.2 a0.length) <|
 bnd (c_parquetref03_Orient ((rdD (0, 0) a0 a1.2.1).1, (rdD (0, 0) a0 a1.2.1).2) ((rdD (0, 0) a0 a1.2.2).1, (rdD (0, 0) a0 a1.2.2).2) (a2.1, a2.2)) fun r3 =>
 bif !(decide (r3 = (-1))) then
 gd (inb a1.2.2 a0.length) <|
 gd (inb a1.1 a0.length) <|
 bnd (c_parquetref03_Orient ((rdD (0, 0) a0 a1.2.2).1, (rdD (0, 0) a0 a1.2.2).2) ((rdD (0, 0) a0 a1.1).1, (rdD (0, 0) a0 a1.1).2) (a2.1, a2.2)) fun r4 =>
 j1 (!(decide (r4 = (-1))))
 else
 j1 false
 else
 j1 false
theorem eq_parquetref12_In (k : Nat) (c_parquetref03_Orient : PPt → PPt → PPt → Option Int) (a0 : LPt) (a1 : (Int × PPt)) (a2 : PPt) : textF [⟨73, [.d kPP, .d kPP, .d kPP], [kI], fun x => c_parquetref03_Orient (x.1) (x.2.1) (x.2.2), none⟩] tb k Tryz.f33 an_parquetref12_In [.d kLP, .d (.pair kI kPP), .d kPP] [.bool] (a0, a1, a2) = b_parquetref12_In k c_parquetref03_Orient a0 a1 a2 := by kernel_rfl
def g_parquetref12_In (k : Nat) (a0 : LPt) (a1 : (Int × PPt)) (a2 : PPt) : Option Bool := b_parquetref12_In k (g_parquetref03_Orient k) a0 a1 a2
theorem tells_parquetref12_In (k : Nat) : TellsF Tryz.prog 33 [.d kLP, .d (.pair kI kPP), .d kPP] [.bool] (fun x => g_parquetref12_In k (x.1) (x.2.1) (x.2.2)) := fun x y h => fun_tells tb_ok mix (EsOk.cons (EntryOk.of rfl (tells_parquetref03_Orient k)) (EsOk.nil _)) Tryz.func33 (N := k) (an := an_parquetref12_In) (by kernel_rfl) x y ((eq_parquetref12_In k (g_parquetref03_Orient k) (x.1) (x.2.1) (x.2.2)).trans h)

def an_parquetref12_Put : Ann := .node none none .leaf (.node none none .leaf (.node none none .leaf (.node none none (.node none none (.node none (some [(0, .d (.sl (.pair kI kPP))), (3, .box [.d (.pair kI kPP)]), (5, .row (.pair kI kPP) 56), (6, .d kI)]) (.node none none (.node none none (.node (some [(0, .d (.sl (.pair kI kPP))), (3, .box [.d (.pair kI kPP)]), (5, .row (.pair kI kPP) 56), (6, .d kI), (18, .d .bool)]) none .leaf .leaf) .leaf) .leaf) .leaf) .leaf) .leaf)))
def b_parquetref12_Put (k : Nat) (c_parquetref12_before : (Int × PPt) → (Int × PPt) → Option Bool) (a0 : LTr) (a1 : (Int × PPt)) : Option LTr :=
 loopN (α := (LTr × ((Int × PPt) × (LTr × Int)))) (fun (x1, x2, x3, x4) next0 =>
 meet (α := (LTr × ((Int × PPt) × (LTr × (Int × Bool))))) (fun (y5, y6, y7, y8, y9) =>
 bif y9 then
 gd (inb y8 y5.length) <|
 gd (few (y7.length + 1)) <|
 next0 (y5, (y6.1, y6.2.1, y6.2.2), y7 ++ [((rdD (0, 0, 0) y5 y8).1, (rdD (0, 0, 0) y5 y8).2.1, (rdD (0, 0, 0) y5 y8).2.2)], w64 (y8 + 1))
 else
 gd (few (y7.length + 1)) <|
 gd (decide (0 ≤ y8)) <|
 gd (decide (y8 ≤ (y5.length : Int))) <|
 gd (few ((y7 ++ [(y6.1, y6.2.1, y6.2.2)]).length + (dpL y5 y8).length)) <|
 some ((y7 ++ [(y6.1, y6.2.1, y6.2.2)]) ++ (dpL y5 y8))) fun j10 =>
 bif decide (x4 < (x1.length : Int)) then
 gd (inb x4 x1.length) <|
 bnd (c_parquetref12_before ((rdD (0, 0, 0) x1 x4).1, (rdD (0, 0, 0) x1 x4).2.1, (rdD (0, 0, 0) x1 x4).2.2) (x2.1, x2.2.1, x2.2.2)) fun r11 =>
 j10 (x1, (x2.1, x2.2.1, x2.2.2), x3, x4, r11)
 else
 j10 (x1, (x2.1, x2.2.1, x2.2.2), x3, x4, false)) k (a0, (a1.1, a1.2.1, a1.2.2), [], 0)
theorem eq_parquetref12_Put (k : Nat) (c_parquetref12_before : (Int × PPt) → (Int × PPt) → Option Bool) (a0 : LTr) (a1 : (Int × PPt)) : textF [⟨62, [.d (.pair kI kPP), .d (.pair kI kPP)], [.bool], fun x => c_parquetref12_before (x.1) (x.2), none⟩] tb k Tryz.f58 an_parquetref12_Put [.d (.sl (.pair kI kPP)), .d (.pair kI kPP)] [.sl (.pair kI kPP)] (a0, a1) = b_parquetref12_Put k c_parquetref12_before a0 a1 := by kernel_rfl
def g_parquetref12_Put (k : Nat) (a0 : LTr) (a1 : (Int × PPt)) : Option LTr := b_parquetref12_Put k (g_parquetref12_before k) a0 a1
theorem tells_parquetref12_Put (k : Nat) : TellsF Tryz.prog 58 [.d (.sl (.pair kI kPP)), .d (.pair kI kPP)] [.sl (.pair kI kPP)] (fun x => g_parquetref12_Put k (x.1) (x.2)) := fun x y h => fun_tells tb_ok mix (EsOk.cons (EntryOk.of rfl (tells_parquetref12_before k)) (EsOk.nil _)) Tryz.func58 (N := k) (an := an_parquetref12_Put) (by kernel_rfl) x y ((eq_parquetref12_Put k (g_parquetref12_before k) (x.1) (x.2)).trans h)

def an_parquetref12_Make : Ann := .node none none .leaf (.node none none .leaf (.node none none .leaf (.node none none .leaf (.node none none .leaf (.node none none (.node none none .leaf (.node none none (.node none (some [(1, .box [.d kPl]), (2, .box [.row kPP 44, .row (.pair kI kPP) 56, .row kPP 60]), (4, .d kLP), (6, .box [.row kPP 44, .d (.sl (.pair kI kPP)), .d kLP]), (7, .d kI)]) (.node none none .leaf (.node none none (.node none none (.node none none .leaf (.node none none (.node none (some [(1, .box [.d kPl]), (2, .box [.row kPP 44, .row (.pair kI kPP) 56, .row kPP 60]), (4, .d kLP), (6, .box [.row kPP 44, .d (.sl (.pair kI kPP)), .d kLP]), (7, .d kI), (8, .d kI)]) (.node none none .leaf (.node none none (.node none none (.node none none .leaf (.node none none (.node none (some [(1, .box [.d kPl]), (2, .box [.row kPP 44, .row (.pair kI kPP) 56, .row kPP 60]), (4, .d kLP), (6, .box [.row kPP 44, .d (.sl (.pair kI kPP)), .d kLP]), (7, .d kI), (8, .d kI), (9, .d kI)]) (.node none none (.node none none (.node (some [(1, .box [.d kPl]), (2, .box [.row kPP 44, .row (.pair kI kPP) 56, .row kPP 60]), (4, .d kLP), (6, .box [.row kPP 44, .d (.sl (.pair kI kPP)), .d kLP]), (7, .d kI), (8, .d kI), (9, .d kI), (61, .d .bool)]) none .leaf .leaf) .leaf) (.node none none (.node none none (.node none none .leaf (.node none none .leaf (.node none none (.node (some [(1, .box [.d kPl]), (2, .box [.row kPP 44, .row (.pair kI kPP) 56, .row kPP 60]), (4, .d kLP), (6, .box [.row kPP 44, .d (.sl (.pair kI kPP)), .d kLP]), (7, .d kI), (8, .d kI), (9, .d kI), (10, .box [.d (.pair kI kPP)]), (11, .d .bool)]) none .leaf .leaf) (.node none none (.node none none .leaf (.node none none (.node none (some [(1, .box [.d kPl]), (2, .box [.row kPP 44, .row (.pair kI kPP) 56, .row kPP 60]), (4, .d kLP), (6, .box [.row kPP 44, .d (.sl (.pair kI kPP)), .d kLP]), (7, .d kI), (8, .d kI), (9, .d kI), (10, .box [.d (.pair kI kPP)]), (11, .d .bool), (14, .d kI)]) (.node none none (.node none none (.node (some [(1, .box [.d kPl]), (2, .box [.row kPP 44, .row (.pair kI kPP) 56, .row kPP 60]), (4, .d kLP), (6, .box [.row kPP 44, .d (.sl (.pair kI kPP)), .d kLP]), (7, .d kI), (8, .d kI), (9, .d kI), (10, .box [.d (.pair kI kPP)]), (11, .d .bool), (14, .d kI), (109, .d .bool)]) none .leaf .leaf) .leaf) (.node none none (.node none none (.node (some [(1, .box [.d kPl]), (2, .box [.row kPP 44, .row (.pair kI kPP) 56, .row kPP 60]), (4, .d kLP), (6, .box [.row kPP 44, .d (.sl (.pair kI kPP)), .d kLP]), (7, .d kI), (8, .d kI), (9, .d kI), (10, .box [.d (.pair kI kPP)]), (11, .d .bool), (14, .d kI)]) none .leaf .leaf) .leaf) .leaf)) .leaf) .leaf)) (.node none none .leaf (.node (some [(1, .box [.d kPl]), (2, .box [.row kPP 44, .row (.pair kI kPP) 56, .row kPP 60]), (4, .d kLP), (6, .box [.row kPP 44, .d (.sl (.pair kI kPP)), .d kLP]), (7, .d kI), (8, .d kI), (9, .d kI)]) none .leaf .leaf)))))) .leaf) .leaf)) .leaf) .leaf)) .leaf) .leaf)) .leaf) .leaf)) .leaf) .leaf)) .leaf) .leaf)) .leaf)))))
def b_parquetref12_Make (k : Nat) (c_parquetref12_Edges : TPl → Option (LPt × Int)) (c_parquetref12_segs : TPl → Option LPt) (c_parquetref12_Has : LPt → Int → Int → Option Bool) (c_parquetref12_Tri : LPt → Int → Int → Int → Option ((Int × PPt) × Bool)) (c_parquetref09_Middle : LPt → LPt → (List Int) → Option PPt) (c_parquetref12_In : LPt → (Int × PPt) → PPt → Option Bool) (c_parquetref12_Put : LTr → (Int × PPt) → Option LTr) (a0 : TPl) : Option (TMs × Int) :=
 bnd (c_parquetref12_Edges (a0.1, a0.2.1, a0.2.2)) fun r0 =>
 bif !(decide (r0.2 = 0)) then
 some (([], [], []), r0.2)
 else
 bnd (c_parquetref12_segs (a0.1, a0.2.1, a0.2.2)) fun r1 =>
 gd (few a0.1.length) <|
 loopN (α := (TPl × (TMs × (LPt × (TMs × Int))))) (fun (x3, x4, x5, x6, x7) next2 =>
 bif decide (x7 < (x3.1.length : Int)) then
 loopN (α := (TPl × (TMs × (LPt × (TMs × PPt))))) (fun (x9, x10, x11, x12, x13, x14) next8 =>
 bif decide (x14 < (x9.1.length : Int)) then
 loopN (α := (TPl × (TMs × (LPt × (TMs × (Int × PPt)))))) (fun (x16, x17, x18, x19, x20, x21, x22) next15 =>
 meet (α := (TPl × (TMs × (LPt × (TMs × (Int × (Int × (Int × Bool)))))))) (fun (y23, y24, y25, y26, y27, y28, y29, y30) =>
 bif y30 then
 bnd (c_parquetref12_Tri y23.1 y27 y28 y29) fun r31 =>
 bnd (c_parquetref09_Middle y23.1 y23.2.1 [y27, y28, y29]) fun r32 =>
 meet (α := (TPl × (TMs × (LPt × (TMs × (Int × (Int × (Int × ((Int × PPt) × Bool))))))))) (fun (y33, y34, y35, y36, y37, y38, y39, y40, y41) =>
 loopN (α := (TPl × (TMs × (LPt × (TMs × (Int × (Int × (Int × ((Int × PPt) × (Bool × Int)))))))))) (fun (x43, x44, x45, x46, x47, x48, x49, x50, x51, x52) next42 =>
 meet (α := (TPl × (TMs × (LPt × (TMs × (Int × (Int × (Int × ((Int × PPt) × (Bool × (Int × Bool))))))))))) (fun (y53, y54, y55, y56, y57, y58, y59, y60, y61, y62, y63) =>
 bif y63 then
 meet (α := (TPl × (TMs × (LPt × (TMs × (Int × (Int × (Int × ((Int × PPt) × (Bool × Int)))))))))) (fun (y64, y65, y66, y67, y68, y69, y70, y71, y72, y73) =>
 next42 ((y64.1, y64.2.1, y64.2.2), (y65.1, y65.2.1, y65.2.2), y66, (y67.1, y67.2.1, y67.2.2), y68, y69, y70, (y71.1, y71.2.1, y71.2.2), y72, w64 (y73 + 1))) fun j74 =>
 bif decide (y62 = y57) then
 j74 ((y53.1, y53.2.1, y53.2.2), (y54.1, y54.2.1, y54.2.2), y55, (y56.1, y56.2.1, y56.2.2), y57, y58, y59, (y60.1, y60.2.1, y60.2.2), true, y62)
 else
 bif decide (y62 = y58) then
 j74 ((y53.1, y53.2.1, y53.2.2), (y54.1, y54.2.1, y54.2.2), y55, (y56.1, y56.2.1, y56.2.2), y57, y58, y59, (y60.1, y60.2.1, y60.2.2), true, y62)
 else
 bif decide (y62 = y59) then
 j74 ((y53.1, y53.2.1, y53.2.2), (y54.1, y54.2.1, y54.2.2), y55, (y56.1, y56.2.1, y56.2.2), y57, y58, y59, (y60.1, y60.2.1, y60.2.2), true, y62)
 else
 gd (inb y62 y53.1.length) <|
 bnd (c_parquetref12_In y53.1 (y60.1, y60.2.1, y60.2.2) ((rdD (0, 0) y53.1 y62).1, (rdD (0, 0) y53.1 y62).2)) fun r75 =>
 j74 ((y53.1, y53.2.1, y53.2.2), (y54.1, y54.2.1, y54.2.2), y55, (y56.1, y56.2.1, y56.2.2), y57, y58, y59, (y60.1, y60.2.1, y60.2.2), !r75, y62)
 else
 meet (α := (TPl × (TMs × (LPt × (TMs × (Int × PPt)))))) (fun (y76, y77, y78, y79, y80, y81, y82) =>
 next15 ((y76.1, y76.2.1, y76.2.2), (y77.1, y77.2.1, y77.2.2), y78, (y79.1, y79.2.1, y79.2.2), y80, y81, w64 (y82 + 1))) fun j83 =>
 bif y61 then
 bnd (c_parquetref12_Put y56.2.1 (y60.1, y60.2.1, y60.2.2)) fun r84 =>
 j83 ((y53.1, y53.2.1, y53.2.2), (y54.1, y54.2.1, y54.2.2), y55, (y56.1, r84, y56.2.2), y57, y58, y59)
 else
 j83 ((y53.1, y53.2.1, y53.2.2), (y54.1, y54.2.1, y54.2.2), y55, (y56.1, y56.2.1, y56.2.2), y57, y58, y59)) fun j85 =>
 bif decide (x52 < (x43.1.length : Int)) then
 j85 ((x43.1, x43.2.1, x43.2.2), (x44.1, x44.2.1, x44.2.2), x45, (x46.1, x46.2.1, x46.2.2), x47, x48, x49, (x50.1, x50.2.1, x50.2.2), x51, x52, x51)
 else
 j85 ((x43.1, x43.2.1, x43.2.2), (x44.1, x44.2.1, x44.2.2), x45, (x46.1, x46.2.1, x46.2.2), x47, x48, x49, (x50.1, x50.2.1, x50.2.2), x51, x52, false)) k ((y33.1, y33.2.1, y33.2.2), (y34.1, y34.2.1, y34.2.2), y35, (y36.1, y36.2.1, y36.2.2), y37, y38, y39, (y40.1, y40.2.1, y40.2.2), y41, 0)) fun j86 =>
 bif r31.2 then
 bif decide (r32.1 = 1) then
 bnd (c_parquetref12_Has y25 y27 y29) fun r87 =>
 bif r87 then
 bnd (c_parquetref12_Has y25 y28 y29) fun r88 =>
 j86 ((y23.1, y23.2.1, y23.2.2), (y24.1, y24.2.1, y24.2.2), y25, (y26.1, y26.2.1, y26.2.2), y27, y28, y29, (r31.1.1, r31.1.2.1, r31.1.2.2), r88)
 else
 j86 ((y23.1, y23.2.1, y23.2.2), (y24.1, y24.2.1, y24.2.2), y25, (y26.1, y26.2.1, y26.2.2), y27, y28, y29, (r31.1.1, r31.1.2.1, r31.1.2.2), false)
 else
 j86 ((y23.1, y23.2.1, y23.2.2), (y24.1, y24.2.1, y24.2.2), y25, (y26.1, y26.2.1, y26.2.2), y27, y28, y29, (r31.1.1, r31.1.2.1, r31.1.2.2), false)
 else
 j86 ((y23.1, y23.2.1, y23.2.2), (y24.1, y24.2.1, y24.2.2), y25, (y26.1, y26.2.1, y26.2.2), y27, y28, y29, (r31.1.1, r31.1.2.1, r31.1.2.2), false)
 else
 next8 ((y23.1, y23.2.1, y23.2.2), (y24.1, y24.2.1, y24.2.2), y25, (y26.1, y26.2.1, y26.2.2), y27, w64 (y28 + 1))) fun j89 =>
 bif decide (x22 < (x16.1.length : Int)) then
 bnd (c_parquetref12_Has x18 x20 x21) fun r90 =>
 j89 ((x16.1, x16.2.1, x16.2.2), (x17.1, x17.2.1, x17.2.2), x18, (x19.1, x19.2.1, x19.2.2), x20, x21, x22, r90)
 else
 j89 ((x16.1, x16.2.1, x16.2.2), (x17.1, x17.2.1, x17.2.2), x18, (x19.1, x19.2.1, x19.2.2), x20, x21, x22, false)) k ((x9.1, x9.2.1, x9.2.2), (x10.1, x10.2.1, x10.2.2), x11, (x12.1, x12.2.1, x12.2.2), x13, x14, w64 (x14 + 1))
 else
 next2 ((x9.1, x9.2.1, x9.2.2), (x10.1, x10.2.1, x10.2.2), x11, (x12.1, x12.2.1, x12.2.2), w64 (x13 + 1))) k ((x3.1, x3.2.1, x3.2.2), (x4.1, x4.2.1, x4.2.2), x5, (x6.1, x6.2.1, x6.2.2), x7, w64 (x7 + 1))
 else
 some ((x6.1, x6.2.1, x6.2.2), 0)) k ((a0.1, a0.2.1, a0.2.2), ([], [], []), r0.1, (a0.1, [], r1), 0)
theorem eq_parquetref12_Make (k : Nat) (c_parquetref12_Edges : TPl → Option (LPt × Int)) (c_parquetref12_segs : TPl → Option LPt) (c_parquetref12_Has : LPt → Int → Int → Option Bool) (c_parquetref12_Tri : LPt → Int → Int → Int → Option ((Int × PPt) × Bool)) (c_parquetref09_Middle : LPt → LPt → (List Int) → Option PPt) (c_parquetref12_In : LPt → (Int × PPt) → PPt → Option Bool) (c_parquetref12_Put : LTr → (Int × PPt) → Option LTr) (a0 : TPl) : textF [⟨14, [.d kPl], [.sl kPP, kI], fun x => c_parquetref12_Edges x, none⟩, ⟨50, [.d kPl], [.sl kPP], fun x => c_parquetref12_segs x, none⟩, ⟨28, [.d kLP, .d kI, .d kI], [.bool], fun x => c_parquetref12_Has (x.1) (x.2.1) (x.2.2), none⟩, ⟨41, [.d kLP, .d kI, .d kI, .d kI], [.pair kI kPP, .bool], fun x => c_parquetref12_Tri (x.1) (x.2.1) (x.2.2.1) (x.2.2.2), none⟩, ⟨37, [.d kLP, .d kLP, .d (.sl kI)], [kI, kI], fun x => c_parquetref09_Middle (x.1) (x.2.1) (x.2.2), none⟩, ⟨33, [.d kLP, .d (.pair kI kPP), .d kPP], [.bool], fun x => c_parquetref12_In (x.1) (x.2.1) (x.2.2), none⟩, ⟨58, [.d (.sl (.pair kI kPP)), .d (.pair kI kPP)], [.sl (.pair kI kPP)], fun x => c_parquetref12_Put (x.1) (x.2), none⟩] tb k Tryz.f16 an_parquetref12_Make [.d kPl] [.pair kLP (.pair (.sl (.pair kI kPP)) kLP), kI] a0 = b_parquetref12_Make k c_parquetref12_Edges c_parquetref12_segs c_parquetref12_Has c_parquetref12_Tri c_parquetref09_Middle c_parquetref12_In c_parquetref12_Put a0 := by kernel_rfl
def g_parquetref12_Make (k : Nat) (a0 : TPl) : Option (TMs × Int) := b_parquetref12_Make k (g_parquetref12_Edges k) (g_parquetref12_segs k) (g_parquetref12_Has k) (g_parquetref12_Tri k) (g_parquetref09_Middle k) (g_parquetref12_In k) (g_parquetref12_Put k) a0
theorem tells_parquetref12_Make (k : Nat) : TellsF Tryz.prog 16 [.d kPl] [.pair kLP (.pair (.sl (.pair kI kPP)) kLP), kI] (fun x => g_parquetref12_Make k x) := fun x y h => fun_tells tb_ok mix (EsOk.cons (EntryOk.of rfl (tells_parquetref12_Edges k)) (EsOk.cons (EntryOk.of rfl (tells_parquetref12_segs k)) (EsOk.cons (EntryOk.of rfl (tells_parquetref12_Has k)) (EsOk.cons (EntryOk.of rfl (tells_parquetref12_Tri k)) (EsOk.cons (EntryOk.of rfl (tells_parquetref09_Middle k)) (EsOk.cons (EntryOk.of rfl (tells_parquetref12_In k)) (EsOk.cons (EntryOk.of rfl (tells_parquetref12_Put k)) (EsOk.nil _)))))))) Tryz.func16 (N := k) (an := an_parquetref12_Make) (by kernel_rfl) x y ((eq_parquetref12_Make k (g_parquetref12_Edges k) (g_parquetref12_segs k) (g_parquetref12_Has k) (g_parquetref12_Tri k) (g_parquetref09_Middle k) (g_parquetref12_In k) (g_parquetref12_Put k) x).trans h)

end
end Go.Proofs.YtpkkcjmblocjdaaGreat.AM
