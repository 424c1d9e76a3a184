/- The functions, by their texts: written by a program. -/
import Derived.Test.YtpkkcjmblocjdaaGreatGa5
import Derived.Test.YtpkkcjmblocjdaaGreatCln
set_option linter.unusedVariables false
set_option maxRecDepth 100000
namespace Go.Proofs.YtpkkcjmblocjdaaGreat.AM
open Go.RowKit Go.Proofs
noncomputable section
def an_parquetref12_before : Ann := .leaf
def g_parquetref12_before (k : Nat) (a0 : (Int × PPt)) (a1 : (Int × PPt)) : Option Bool :=
 bif !(decide (a0.1 = a1.1)) then
 some (decide (a0.1 < a1.1))
 else
 bif !(decide (a0.2.1 = a1.2.1)) then
 some (decide (a0.2.1 < a1.2.1))
 else
 some (decide (a0.2.2 < a1.2.2))
theorem eq_parquetref12_before (k : Nat) (a0 : (Int × PPt)) (a1 : (Int × PPt)) : textF [] tb k Tryz.f62 an_parquetref12_before [.d (.pair kI kPP), .d (.pair kI kPP)] [.bool] (a0, a1) = g_parquetref12_before k a0 a1 := by kernel_rfl
theorem tells_parquetref12_before (k : Nat) : TellsF Tryz.prog 62 [.d (.pair kI kPP), .d (.pair kI kPP)] [.bool] (fun x => g_parquetref12_before k (x.1) (x.2)) := fun x y h => fun_tells tb_ok mix (EsOk.nil _) Tryz.func62 (N := k) (an := an_parquetref12_before) (by kernel_rfl) x y ((eq_parquetref12_before k (x.1) (x.2)).trans h)

def an_parquetref12_Has : Ann := .node none none .leaf (.node none none (.node none none .leaf (.node none none (.node none (some [(0, .d kLP), (1, .d kI), (2, .d kI), (7, .d kI)]) (.node none none .leaf (.node none none (.node none none (.node none none (.node (some [(0, .d kLP), (1, .d kI), (2, .d kI), (7, .d kI), (47, .d .bool)]) none .leaf .leaf) .leaf) .leaf) .leaf)) .leaf) .leaf)) .leaf)
def g_parquetref12_Has (k : Nat) (a0 : LPt) (a1 : Int) (a2 : Int) : Option Bool :=
 loopN (α := (LPt × (Int × PPt))) (fun (x1, x2, x3, x4) next0 =>
 bif decide (x4 < (x1.length : Int)) then
 meet (α := (LPt × (Int × (Int × (Int × Bool))))) (fun (y5, y6, y7, y8, y9) =>
 bif y9 then
 some true
 else
 next0 (y5, y6, y7, w64 (y8 + 1))) fun j10 =>
 gd (inb x4 x1.length) <|
 bif decide ((rdD (0, 0) x1 x4).1 = x2) then
 gd (inb x4 x1.length) <|
 bif decide ((rdD (0, 0) x1 x4).2 = x3) then
 j10 (x1, x2, x3, x4, true)
 else
 gd (inb x4 x1.length) <|
 bif decide ((rdD (0, 0) x1 x4).1 = x3) then
 gd (inb x4 x1.length) <|
 j10 (x1, x2, x3, x4, decide ((rdD (0, 0) x1 x4).2 = x2))
 else
 j10 (x1, x2, x3, x4, false)
 else
 gd (inb x4 x1.length) <|
 bif decide ((rdD (0, 0) x1 x4).1 = x3) then
 gd (inb x4 x1.length) <|
 j10 (x1, x2, x3, x4, decide ((rdD (0, 0) x1 x4).2 = x2))
 else
 j10 (x1, x2, x3, x4, false)
 else
 some false) k (a0, a1, a2, 0)
theorem eq_parquetref12_Has (k : Nat) (a0 : LPt) (a1 : Int) (a2 : Int) : textF [] tb k Tryz.f28 an_parquetref12_Has [.d kLP, .d kI, .d kI] [.bool] (a0, a1, a2) = g_parquetref12_Has k a0 a1 a2 := by kernel_rfl
theorem tells_parquetref12_Has (k : Nat) : TellsF Tryz.prog 28 [.d kLP, .d kI, .d kI] [.bool] (fun x => g_parquetref12_Has k (x.1) (x.2.1) (x.2.2)) := fun x y h => fun_tells tb_ok mix (EsOk.nil _) Tryz.func28 (N := k) (an := an_parquetref12_Has) (by kernel_rfl) x y ((eq_parquetref12_Has k (x.1) (x.2.1) (x.2.2)).trans h)

def an_parquetref05_SamePoints : Ann := .node none none .leaf (.node none none .leaf (.node none none (.node none none .leaf (.node none none (.node none (some [(0, .d kLP), (1, .d kLP), (5, .d kI)]) .leaf .leaf) .leaf)) .leaf))
def g_parquetref05_SamePoints (k : Nat) (a0 : LPt) (a1 : LPt) : Option Bool :=
 bif !(decide ((a0.length : Int) = (a1.length : Int))) then
 some false
 else
 loopN (α := (LPt × (LPt × Int))) (fun (x1, x2, x3) next0 =>
 bif decide (x3 < (x1.length : Int)) then
 gd (inb x3 x1.length) <|
 gd (inb x3 x2.length) <|
 bif !((decide ((rdD (0, 0) x1 x3).1 = (rdD (0, 0) x2 x3).1)) && (decide ((rdD (0, 0) x1 x3).2 = (rdD (0, 0) x2 x3).2))) then
 some false
 else
 next0 (x1, x2, w64 (x3 + 1))
 else
 some true) k (a0, a1, 0)
theorem eq_parquetref05_SamePoints (k : Nat) (a0 : LPt) (a1 : LPt) : textF [] tb k Tryz.f23 an_parquetref05_SamePoints [.d kLP, .d kLP] [.bool] (a0, a1) = g_parquetref05_SamePoints k a0 a1 := by kernel_rfl
theorem tells_parquetref05_SamePoints (k : Nat) : TellsF Tryz.prog 23 [.d kLP, .d kLP] [.bool] (fun x => g_parquetref05_SamePoints k (x.1) (x.2)) := fun x y h => fun_tells tb_ok mix (EsOk.nil _) Tryz.func23 (N := k) (an := an_parquetref05_SamePoints) (by kernel_rfl) x y ((eq_parquetref05_SamePoints k (x.1) (x.2)).trans h)

def an_parquetref12_Same : Ann := .node none none .leaf (.node none none (.node (some [(4, .d .bool)]) none .leaf .leaf) .leaf)
def b_parquetref12_Same (k : Nat) (c_parquetref05_SamePoints : LPt → LPt → Option Bool) (c_parquetref12_SameTris : LTr → LTr → Option Bool) (c_parquetref05_SameSegs : LPt → LPt → Option Bool) (a0 : TMs) (a1 : TMs) : Option Bool :=
 meet (α := Bool) (fun y0 =>
 some y0) fun j1 =>
 bnd (c_parquetref05_SamePoints a0.1 a1.1) fun r2 =>
 bif r2 then
 bnd (c_parquetref12_SameTris a0.2.1 a1.2.1) fun r3 =>
 bif r3 then
 bnd (c_parquetref05_SameSegs a0.2.2 a1.2.2) fun r4 =>
 j1 r4
 else
 j1 false
 else
 j1 false
theorem eq_parquetref12_Same (k : Nat) (c_parquetref05_SamePoints : LPt → LPt → Option Bool) (c_parquetref12_SameTris : LTr → LTr → Option Bool) (c_parquetref05_SameSegs : LPt → LPt → Option Bool) (a0 : TMs) (a1 : TMs) : textF [⟨23, [.d kLP, .d kLP], [.bool], fun x => c_parquetref05_SamePoints (x.1) (x.2), none⟩, ⟨44, [.d (.sl (.pair kI kPP)), .d (.sl (.pair kI kPP))], [.bool], fun x => c_parquetref12_SameTris (x.1) (x.2), none⟩, ⟨17, [.d kLP, .d kLP], [.bool], fun x => c_parquetref05_SameSegs (x.1) (x.2), none⟩] tb k Tryz.f18 an_parquetref12_Same [.d (.pair kLP (.pair (.sl (.pair kI kPP)) kLP)), .d (.pair kLP (.pair (.sl (.pair kI kPP)) kLP))] [.bool] (a0, a1) = b_parquetref12_Same k c_parquetref05_SamePoints c_parquetref12_SameTris c_parquetref05_SameSegs a0 a1 := by kernel_rfl
def g_parquetref12_Same (k : Nat) (a0 : TMs) (a1 : TMs) : Option Bool := b_parquetref12_Same k (g_parquetref05_SamePoints k) (g_parquetref12_SameTris k) (g_parquetref05_SameSegs k) a0 a1
theorem tells_parquetref12_Same (k : Nat) : TellsF Tryz.prog 18 [.d (.pair kLP (.pair (.sl (.pair kI kPP)) kLP)), .d (.pair kLP (.pair (.sl (.pair kI kPP)) kLP))] [.bool] (fun x => g_parquetref12_Same k (x.1) (x.2)) := fun x y h => fun_tells tb_ok mix (EsOk.cons (EntryOk.of rfl (tells_parquetref05_SamePoints k)) (EsOk.cons (EntryOk.of rfl (tells_parquetref12_SameTris k)) (EsOk.cons (EntryOk.of rfl (tells_parquetref05_SameSegs k)) (EsOk.nil _)))) Tryz.func18 (N := k) (an := an_parquetref12_Same) (by kernel_rfl) x y ((eq_parquetref12_Same k (g_parquetref05_SamePoints k) (g_parquetref12_SameTris k) (g_parquetref05_SameSegs k) (x.1) (x.2)).trans h)

def an_parquetlaw12_many : Ann := .node none none .leaf (.node none none (.node (some [(2, .d .bool)]) none .leaf .leaf) .leaf)
def g_parquetlaw12_many (k : Nat) (a0 : TPl) : Option Bool :=
 meet (α := Bool) (fun y0 =>
 some y0) fun j1 =>
 bif decide ((a0.1.length : Int) > 24) then
 bif decide ((a0.1.length : Int) ≤ 200) then
 j1 true
 else
 bif decide ((a0.2.1.length : Int) > 60) then
 bif decide ((a0.2.1.length : Int) ≤ 400) then
 j1 true
 else
 bif decide ((a0.2.2.length : Int) > 60) then
 bif decide ((a0.2.2.length : Int) ≤ 400) then
 j1 true
 else
 bif decide ((a0.1.length : Int) > 300) then
 j1 true
 else
 bif decide ((a0.2.1.length : Int) > 500) then
 j1 true
 else
 j1 (decide ((a0.2.2.length : Int) > 500))
 else
 bif decide ((a0.1.length : Int) > 300) then
 j1 true
 else
 bif decide ((a0.2.1.length : Int) > 500) then
 j1 true
 else
 j1 (decide ((a0.2.2.length : Int) > 500))
 else
 bif decide ((a0.2.2.length : Int) > 60) then
 bif decide ((a0.2.2.length : Int) ≤ 400) then
 j1 true
 else
 bif decide ((a0.1.length : Int) > 300) then
 j1 true
 else
 bif decide ((a0.2.1.length : Int) > 500) then
 j1 true
 else
 j1 (decide ((a0.2.2.length : Int) > 500))
 else
 bif decide ((a0.1.length : Int) > 300) then
 j1 true
 else
 bif decide ((a0.2.1.length : Int) > 500) then
 j1 true
 else
 j1 (decide ((a0.2.2.length : Int) > 500))
 else
 bif decide ((a0.2.1.length : Int) > 60) then
 bif decide ((a0.2.1.length : Int) ≤ 400) then
 j1 true
 else
 bif decide ((a0.2.2.length : Int) > 60) then
 bif decide ((a0.2.2.length : Int) ≤ 400) then
 j1 true
 else
 bif decide ((a0.1.length : Int) > 300) then
 j1 true
 else
 bif decide ((a0.2.1.length : Int) > 500) then
 j1 true
 else
 j1 (decide ((a0.2.2.length : Int) > 500))
 else
 bif decide ((a0.1.length : Int) > 300) then
 j1 true
 else
 bif decide ((a0.2.1.length : Int) > 500) then
 j1 true
 else
 j1 (decide ((a0.2.2.length : Int) > 500))
 else
 bif decide ((a0.2.2.length : Int) > 60) then
 bif decide ((a0.2.2.length : Int) ≤ 400) then
 j1 true
 else
 bif decide ((a0.1.length : Int) > 300) then
 j1 true
 else
 bif decide ((a0.2.1.length : Int) > 500) then
 j1 true
 else
 j1 (decide ((a0.2.2.length : Int) > 500))
 else
 bif decide ((a0.1.length : Int) > 300) then
 j1 true
 else
 bif decide ((a0.2.1.length : Int) > 500) then
 j1 true
 else
 j1 (decide ((a0.2.2.length : Int) > 500))
theorem eq_parquetlaw12_many (k : Nat) (a0 : TPl) : textF [] tb k Tryz.f10 an_parquetlaw12_many [.d kPl] [.bool] a0 = g_parquetlaw12_many k a0 := by kernel_rfl
theorem tells_parquetlaw12_many (k : Nat) : TellsF Tryz.prog 10 [.d kPl] [.bool] (fun x => g_parquetlaw12_many k x) := fun x y h => fun_tells tb_ok mix (EsOk.nil _) Tryz.func10 (N := k) (an := an_parquetlaw12_many) (by kernel_rfl) x y ((eq_parquetlaw12_many k x).trans h)

def an_parquetref05_Check : Ann := .node none none .leaf (.node none none .leaf (.node none none (.node none none (.node (some [(1, .box [.d kPl]), (3, .d kI), (23, .d .bool)]) none .leaf .leaf) .leaf) (.node none none (.node none none .leaf (.node none none (.node none (some [(1, .box [.d kPl]), (3, .d kI), (4, .d kI)]) (.node none none .leaf (.node none none (.node none none (.node none none (.node (some [(1, .box [.d kPl]), (3, .d kI), (4, .d kI), (62, .d .bool)]) none .leaf .leaf) .leaf) .leaf) .leaf)) .leaf) .leaf)) (.node none none (.node none none .leaf (.node none none (.node none (some [(1, .box [.d kPl]), (3, .d kI), (5, .d kI)]) (.node none none .leaf (.node none none (.node none none (.node none none .leaf (.node none none (.node none none .leaf (.node (some [(1, .box [.d kPl]), (3, .d kI), (5, .d kI), (6, .box [.d kPP])]) none .leaf .leaf)) (.node none none (.node (some [(1, .box [.d kPl]), (3, .d kI), (5, .d kI), (113, .d .bool)]) none .leaf .leaf) .leaf))) .leaf) .leaf)) .leaf) .leaf)) .leaf))))
def g_parquetref05_Check (k : Nat) (a0 : TPl) : Option Int :=
 meet (α := (TPl × (Int × Bool))) (fun (y0, y1, y2) =>
 bif y2 then
 some 2
 else
 loopN (α := (TPl × PPt)) (fun (x4, x5, x6) next3 =>
 bif decide (x6 < x5) then
 meet (α := (TPl × (Int × (Int × Bool)))) (fun (y7, y8, y9, y10) =>
 bif y10 then
 some 2
 else
 next3 ((y7.1, y7.2.1, y7.2.2), y8, w64 (y9 + 1))) fun j11 =>
 gd (inb x6 x4.1.length) <|
 bif decide ((rdD (0, 0) x4.1 x6).1 > 1048576) then
 j11 ((x4.1, x4.2.1, x4.2.2), x5, x6, true)
 else
 gd (inb x6 x4.1.length) <|
 bif decide ((rdD (0, 0) x4.1 x6).1 < (-1048576)) then
 j11 ((x4.1, x4.2.1, x4.2.2), x5, x6, true)
 else
 gd (inb x6 x4.1.length) <|
 bif decide ((rdD (0, 0) x4.1 x6).2 > 1048576) then
 j11 ((x4.1, x4.2.1, x4.2.2), x5, x6, true)
 else
 gd (inb x6 x4.1.length) <|
 j11 ((x4.1, x4.2.1, x4.2.2), x5, x6, decide ((rdD (0, 0) x4.1 x6).2 < (-1048576)))
 else
 loopN (α := (TPl × PPt)) (fun (x13, x14, x15) next12 =>
 bif decide (x15 < (w64 ((x13.2.1.length : Int) + (x13.2.2.length : Int)))) then
 meet (α := (TPl × (Int × (Int × PPt)))) (fun (y16, y17, y18, y19, y20) =>
 meet (α := (TPl × (Int × (Int × Bool)))) (fun (y21, y22, y23, y24) =>
 bif y24 then
 some 2
 else
 next12 ((y21.1, y21.2.1, y21.2.2), y22, w64 (y23 + 1))) fun j25 =>
 bif decide (y19 < 0) then
 j25 ((y16.1, y16.2.1, y16.2.2), y17, y18, true)
 else
 bif decide (y19 ≥ y17) then
 j25 ((y16.1, y16.2.1, y16.2.2), y17, y18, true)
 else
 bif decide (y20 < 0) then
 j25 ((y16.1, y16.2.1, y16.2.2), y17, y18, true)
 else
 j25 ((y16.1, y16.2.1, y16.2.2), y17, y18, decide (y20 ≥ y17))) fun j26 =>
 bif decide (x15 < (x13.2.1.length : Int)) then
 gd (inb x15 x13.2.1.length) <|
 j26 ((x13.1, x13.2.1, x13.2.2), x14, x15, (rdD (0, 0) x13.2.1 x15).1, (rdD (0, 0) x13.2.1 x15).2)
 else
 gd (inb (w64 (x15 - (x13.2.1.length : Int))) x13.2.2.length) <|
 j26 ((x13.1, x13.2.1, x13.2.2), x14, x15, (rdD (0, 0) x13.2.2 (w64 (x15 - (x13.2.1.length : Int)))).1, (rdD (0, 0) x13.2.2 (w64 (x15 - (x13.2.1.length : Int)))).2)
 else
 some 0) k ((x4.1, x4.2.1, x4.2.2), x5, 0)) k ((y0.1, y0.2.1, y0.2.2), y1, 0)) fun j27 =>
 bif decide ((a0.1.length : Int) > 200) then
 j27 ((a0.1, a0.2.1, a0.2.2), (a0.1.length : Int), true)
 else
 bif decide ((a0.2.1.length : Int) > 400) then
 j27 ((a0.1, a0.2.1, a0.2.2), (a0.1.length : Int), true)
 else
 j27 ((a0.1, a0.2.1, a0.2.2), (a0.1.length : Int), decide ((a0.2.2.length : Int) > 400))
theorem eq_parquetref05_Check (k : Nat) (a0 : TPl) : textF [] tb k Tryz.f94 an_parquetref05_Check [.d kPl] [kI] a0 = g_parquetref05_Check k a0 := by kernel_rfl
theorem tells_parquetref05_Check (k : Nat) : TellsF Tryz.prog 94 [.d kPl] [kI] (fun x => g_parquetref05_Check k x) := fun x y h => fun_tells tb_ok mix (EsOk.nil _) Tryz.func94 (N := k) (an := an_parquetref05_Check) (by kernel_rfl) x y ((eq_parquetref05_Check k x).trans h)

def an_parquetref10_All : Ann := .leaf
def g_parquetref10_All (k : Nat) (a0 : TPl) : Option LPt :=
 gd (few a0.2.1.length) <|
 gd (few (a0.2.1.length + a0.2.2.length)) <|
 some (a0.2.1 ++ a0.2.2)
theorem eq_parquetref10_All (k : Nat) (a0 : TPl) : textF [] tb k Tryz.f27 an_parquetref10_All [.d kPl] [.sl kPP] a0 = g_parquetref10_All k a0 := by kernel_rfl
theorem tells_parquetref10_All (k : Nat) : TellsF Tryz.prog 27 [.d kPl] [.sl kPP] (fun x => g_parquetref10_All k x) := fun x y h => fun_tells tb_ok mix (EsOk.nil _) Tryz.func27 (N := k) (an := an_parquetref10_All) (by kernel_rfl) x y ((eq_parquetref10_All k x).trans h)

def an_parquetref04_on : Ann := .node none none .leaf (.node none none .leaf (.node none none (.node (some [(6, .d .bool)]) none .leaf .leaf) .leaf))
def b_parquetref04_on (k : Nat) (c_parquetref01_Small : Int → Option (Bool × (List Int))) (c_parquetref01_Num_Times : (Bool × (List Int)) → (Bool × (List Int)) → Option (Bool × (List Int))) (c_parquetref01_Num_Plus : (Bool × (List Int)) → (Bool × (List Int)) → Option (Bool × (List Int))) (c_parquetref03_Fits : PPt → Option Bool) (c_parquetref03_Orient : PPt → PPt → PPt → Option Int) (c_parquetref01_Num_Sign : (Bool × (List Int)) → Option Int) (a0 : PPt) (a1 : PPt) (a2 : PPt) : Option Bool :=
 bnd (c_parquetref01_Small (w64 (a2.1 - a0.1))) fun r0 =>
 bnd (c_parquetref01_Small (w64 (a1.1 - a2.1))) fun r1 =>
 bnd (c_parquetref01_Num_Times (r0.1, r0.2) (r1.1, r1.2)) fun r2 =>
 bnd (c_parquetref01_Small (w64 (a2.2 - a0.2))) fun r3 =>
 bnd (c_parquetref01_Small (w64 (a1.2 - a2.2))) fun r4 =>
 bnd (c_parquetref01_Num_Times (r3.1, r3.2) (r4.1, r4.2)) fun r5 =>
 bnd (c_parquetref01_Num_Plus (r2.1, r2.2) (r5.1, r5.2)) fun r6 =>
 meet (α := Bool) (fun y7 =>
 some y7) fun j8 =>
 bif !((decide (a0.1 = a1.1)) && (decide (a0.2 = a1.2))) then
 bnd (c_parquetref03_Fits (a0.1, a0.2)) fun r9 =>
 bif r9 then
 bnd (c_parquetref03_Fits (a1.1, a1.2)) fun r10 =>
 bif r10 then
 bnd (c_parquetref03_Fits (a2.1, a2.2)) fun r11 =>
 bif r11 then
 bnd (c_parquetref03_Orient (a0.1, a0.2) (a1.1, a1.2) (a2.1, a2.2)) fun r12 =>
 bif decide (r12 = 0) then
 bnd (c_parquetref01_Num_Sign (r6.1, r6.2)) fun r13 =>
 j8 (decide (r13 ≥ 0))
 else
 j8 false
 else
 j8 false
 else
 j8 false
 else
 j8 false
 else
 j8 false
theorem eq_parquetref04_on (k : Nat) (c_parquetref01_Small : Int → Option (Bool × (List Int))) (c_parquetref01_Num_Times : (Bool × (List Int)) → (Bool × (List Int)) → Option (Bool × (List Int))) (c_parquetref01_Num_Plus : (Bool × (List Int)) → (Bool × (List Int)) → Option (Bool × (List Int))) (c_parquetref03_Fits : PPt → Option Bool) (c_parquetref03_Orient : PPt → PPt → PPt → Option Int) (c_parquetref01_Num_Sign : (Bool × (List Int)) → Option Int) (a0 : PPt) (a1 : PPt) (a2 : PPt) : textF [⟨102, [.d kI], [.pair .bool (.sl kI)], fun x => c_parquetref01_Small x, none⟩, ⟨103, [.d (.pair .bool (.sl kI)), .d (.pair .bool (.sl kI))], [.pair .bool (.sl kI)], fun x => c_parquetref01_Num_Times (x.1) (x.2), none⟩, ⟨64, [.d (.pair .bool (.sl kI)), .d (.pair .bool (.sl kI))], [.pair .bool (.sl kI)], fun x => c_parquetref01_Num_Plus (x.1) (x.2), none⟩, ⟨72, [.d kPP], [.bool], fun x => c_parquetref03_Fits x, none⟩, ⟨73, [.d kPP, .d kPP, .d kPP], [kI], fun x => c_parquetref03_Orient (x.1) (x.2.1) (x.2.2), none⟩, ⟨67, [.d (.pair .bool (.sl kI))], [kI], fun x => c_parquetref01_Num_Sign x, none⟩] tb k Tryz.f74 an_parquetref04_on [.d kPP, .d kPP, .d kPP] [.bool] (a0, a1, a2) = b_parquetref04_on k c_parquetref01_Small c_parquetref01_Num_Times c_parquetref01_Num_Plus c_parquetref03_Fits c_parquetref03_Orient c_parquetref01_Num_Sign a0 a1 a2 := by kernel_rfl
def g_parquetref04_on (k : Nat) (a0 : PPt) (a1 : PPt) (a2 : PPt) : Option Bool := b_parquetref04_on k (g_parquetref01_Small k) (g_parquetref01_Num_Times k) (g_parquetref01_Num_Plus k) (g_parquetref03_Fits k) (g_parquetref03_Orient k) (g_parquetref01_Num_Sign k) a0 a1 a2
theorem tells_parquetref04_on (k : Nat) : TellsF Tryz.prog 74 [.d kPP, .d kPP, .d kPP] [.bool] (fun x => g_parquetref04_on k (x.1) (x.2.1) (x.2.2)) := fun x y h => fun_tells tb_ok mix (EsOk.cons (EntryOk.of rfl (tells_parquetref01_Small k)) (EsOk.cons (EntryOk.of rfl (tells_parquetref01_Num_Times k)) (EsOk.cons (EntryOk.of rfl (tells_parquetref01_Num_Plus k)) (EsOk.cons (EntryOk.of rfl (tells_parquetref03_Fits k)) (EsOk.cons (EntryOk.of rfl (tells_parquetref03_Orient k)) (EsOk.cons (EntryOk.of rfl (tells_parquetref01_Num_Sign k)) (EsOk.nil _))))))) Tryz.func74 (N := k) (an := an_parquetref04_on) (by kernel_rfl) x y ((eq_parquetref04_on k (g_parquetref01_Small k) (g_parquetref01_Num_Times k) (g_parquetref01_Num_Plus k) (g_parquetref03_Fits k) (g_parquetref03_Orient k) (g_parquetref01_Num_Sign k) (x.1) (x.2.1) (x.2.2)).trans h)

def an_parquetref04_Segs : Ann := .node none none .leaf (.node none none (.node none none (.node (some [(4, .box [.d kPP]), (5, .box [.d kPP]), (6, .box [.d kPP]), (7, .box [.d kPP]), (40, .d .bool)]) none .leaf .leaf) .leaf) (.node none none .leaf (.node none none .leaf (.node none none (.node none none (.node (some [(4, .box [.d kPP]), (5, .box [.d kPP]), (6, .box [.d kPP]), (7, .box [.d kPP]), (10, .d kI), (11, .d kI), (54, .d .bool)]) none .leaf .leaf) (.node none none (.node none none .leaf (.node none none (.node none none .leaf (.node (some [(4, .box [.d kPP]), (5, .box [.d kPP]), (6, .box [.d kPP]), (7, .box [.d kPP]), (12, .d kI)]) none .leaf .leaf)) (.node none none (.node none none .leaf (.node (some [(4, .box [.d kPP]), (5, .box [.d kPP]), (6, .box [.d kPP]), (7, .box [.d kPP]), (12, .d kI)]) none .leaf .leaf)) (.node none none (.node none none (.node (some [(5, .box [.d kPP]), (6, .box [.d kPP]), (7, .box [.d kPP]), (12, .d kI), (80, .d .bool)]) none .leaf .leaf) (.node (some [(5, .box [.d kPP]), (6, .box [.d kPP]), (7, .box [.d kPP]), (12, .d kI)]) none .leaf .leaf)) (.node none none (.node none none (.node (some [(12, .d kI), (96, .d .bool)]) none .leaf .leaf) (.node (some [(12, .d kI)]) none .leaf .leaf)) .leaf))))) .leaf)) (.node none none (.node none none (.node (some [(4, .box [.d kPP]), (5, .box [.d kPP]), (6, .box [.d kPP]), (7, .box [.d kPP]), (10, .d kI), (11, .d kI), (120, .d .bool)]) none .leaf .leaf) .leaf) (.node none none (.node none none (.node (some [(4, .box [.d kPP]), (5, .box [.d kPP]), (6, .box [.d kPP]), (7, .box [.d kPP]), (10, .d kI), (11, .d kI), (142, .d .bool)]) none .leaf .leaf) .leaf) (.node none none (.node none none (.node (some [(156, .d .bool)]) none .leaf .leaf) .leaf) .leaf)))))))
def b_parquetref04_Segs (k : Nat) (c_parquetref03_Fits : PPt → Option Bool) (c_parquetref03_Orient : PPt → PPt → PPt → Option Int) (c_parquetref04_on : PPt → PPt → PPt → Option Bool) (a0 : PPt) (a1 : PPt) (a2 : PPt) (a3 : PPt) : Option PPt :=
 meet (α := (PPt × (PPt × (PPt × (PPt × Bool))))) (fun (y0, y1, y2, y3, y4) =>
 bif y4 then
 some (0, 2)
 else
 bnd (c_parquetref03_Orient (y0.1, y0.2) (y1.1, y1.2) (y2.1, y2.2)) fun r5 =>
 bnd (c_parquetref03_Orient (y0.1, y0.2) (y1.1, y1.2) (y3.1, y3.2)) fun r6 =>
 meet (α := (PPt × (PPt × (PPt × (PPt × (Int × (Int × Bool))))))) (fun (y7, y8, y9, y10, y11, y12, y13) =>
 bif y13 then
 bnd (c_parquetref04_on (y7.1, y7.2) (y8.1, y8.2) (y9.1, y9.2)) fun r14 =>
 meet (α := (PPt × (PPt × (PPt × (PPt × Int))))) (fun (y15, y16, y17, y18, y19) =>
 bnd (c_parquetref04_on (y15.1, y15.2) (y16.1, y16.2) (y18.1, y18.2)) fun r20 =>
 meet (α := (PPt × (PPt × (PPt × (PPt × Int))))) (fun (y21, y22, y23, y24, y25) =>
 meet (α := (PPt × (PPt × (PPt × (Int × Bool))))) (fun (y26, y27, y28, y29, y30) =>
 meet (α := (PPt × (PPt × (PPt × Int)))) (fun (y31, y32, y33, y34) =>
 meet (α := (Int × Bool)) (fun (y35, y36) =>
 meet (α := Int) (fun y37 =>
 bif decide (y37 ≥ 2) then
 some (4, 0)
 else
 bif decide (y37 = 1) then
 some (1, 0)
 else
 some (0, 0)) fun j38 =>
 bif y36 then
 j38 (w64 (y35 + 1))
 else
 j38 y35) fun j39 =>
 bnd (c_parquetref04_on (y32.1, y32.2) (y33.1, y33.2) (y31.1, y31.2)) fun r40 =>
 bif r40 then
 bif !((decide (y31.1 = y32.1)) && (decide (y31.2 = y32.2))) then
 j39 (y34, !((decide (y31.1 = y33.1)) && (decide (y31.2 = y33.2))))
 else
 j39 (y34, false)
 else
 j39 (y34, false)) fun j41 =>
 bif y30 then
 j41 ((y26.1, y26.2), (y27.1, y27.2), (y28.1, y28.2), w64 (y29 + 1))
 else
 j41 ((y26.1, y26.2), (y27.1, y27.2), (y28.1, y28.2), y29)) fun j42 =>
 bnd (c_parquetref04_on (y23.1, y23.2) (y24.1, y24.2) (y21.1, y21.2)) fun r43 =>
 bif r43 then
 bif !((decide (y21.1 = y23.1)) && (decide (y21.2 = y23.2))) then
 j42 ((y22.1, y22.2), (y23.1, y23.2), (y24.1, y24.2), y25, !((decide (y21.1 = y24.1)) && (decide (y21.2 = y24.2))))
 else
 j42 ((y22.1, y22.2), (y23.1, y23.2), (y24.1, y24.2), y25, false)
 else
 j42 ((y22.1, y22.2), (y23.1, y23.2), (y24.1, y24.2), y25, false)) fun j44 =>
 bif r20 then
 j44 ((y15.1, y15.2), (y16.1, y16.2), (y17.1, y17.2), (y18.1, y18.2), w64 (y19 + 1))
 else
 j44 ((y15.1, y15.2), (y16.1, y16.2), (y17.1, y17.2), (y18.1, y18.2), y19)) fun j45 =>
 bif r14 then
 j45 ((y7.1, y7.2), (y8.1, y8.2), (y9.1, y9.2), (y10.1, y10.2), 1)
 else
 j45 ((y7.1, y7.2), (y8.1, y8.2), (y9.1, y9.2), (y10.1, y10.2), 0)
 else
 meet (α := (PPt × (PPt × (PPt × (PPt × (Int × (Int × Bool))))))) (fun (y46, y47, y48, y49, y50, y51, y52) =>
 bif y52 then
 some (1, 0)
 else
 meet (α := (PPt × (PPt × (PPt × (PPt × (Int × (Int × Bool))))))) (fun (y53, y54, y55, y56, y57, y58, y59) =>
 bif y59 then
 some (2, 0)
 else
 meet (α := Bool) (fun y60 =>
 bif y60 then
 some (3, 0)
 else
 some (0, 0)) fun j61 =>
 bif !(decide (y57 = y58)) then
 bnd (c_parquetref03_Orient (y55.1, y55.2) (y56.1, y56.2) (y53.1, y53.2)) fun r62 =>
 bnd (c_parquetref03_Orient (y55.1, y55.2) (y56.1, y56.2) (y54.1, y54.2)) fun r63 =>
 j61 (!(decide (r62 = r63)))
 else
 j61 false) fun j64 =>
 bnd (c_parquetref04_on (y46.1, y46.2) (y47.1, y47.2) (y48.1, y48.2)) fun r65 =>
 bif r65 then
 j64 ((y46.1, y46.2), (y47.1, y47.2), (y48.1, y48.2), (y49.1, y49.2), y50, y51, true)
 else
 bnd (c_parquetref04_on (y46.1, y46.2) (y47.1, y47.2) (y49.1, y49.2)) fun r66 =>
 bif r66 then
 j64 ((y46.1, y46.2), (y47.1, y47.2), (y48.1, y48.2), (y49.1, y49.2), y50, y51, true)
 else
 bnd (c_parquetref04_on (y48.1, y48.2) (y49.1, y49.2) (y46.1, y46.2)) fun r67 =>
 bif r67 then
 j64 ((y46.1, y46.2), (y47.1, y47.2), (y48.1, y48.2), (y49.1, y49.2), y50, y51, true)
 else
 bnd (c_parquetref04_on (y48.1, y48.2) (y49.1, y49.2) (y47.1, y47.2)) fun r68 =>
 j64 ((y46.1, y46.2), (y47.1, y47.2), (y48.1, y48.2), (y49.1, y49.2), y50, y51, r68)) fun j69 =>
 bif (decide (y7.1 = y9.1)) && (decide (y7.2 = y9.2)) then
 j69 ((y7.1, y7.2), (y8.1, y8.2), (y9.1, y9.2), (y10.1, y10.2), y11, y12, true)
 else
 bif (decide (y7.1 = y10.1)) && (decide (y7.2 = y10.2)) then
 j69 ((y7.1, y7.2), (y8.1, y8.2), (y9.1, y9.2), (y10.1, y10.2), y11, y12, true)
 else
 bif (decide (y8.1 = y9.1)) && (decide (y8.2 = y9.2)) then
 j69 ((y7.1, y7.2), (y8.1, y8.2), (y9.1, y9.2), (y10.1, y10.2), y11, y12, true)
 else
 j69 ((y7.1, y7.2), (y8.1, y8.2), (y9.1, y9.2), (y10.1, y10.2), y11, y12, (decide (y8.1 = y10.1)) && (decide (y8.2 = y10.2)))) fun j70 =>
 bif decide (r5 = 0) then
 j70 ((y0.1, y0.2), (y1.1, y1.2), (y2.1, y2.2), (y3.1, y3.2), r5, r6, decide (r6 = 0))
 else
 j70 ((y0.1, y0.2), (y1.1, y1.2), (y2.1, y2.2), (y3.1, y3.2), r5, r6, false)) fun j71 =>
 bif (decide (a0.1 = a1.1)) && (decide (a0.2 = a1.2)) then
 j71 ((a0.1, a0.2), (a1.1, a1.2), (a2.1, a2.2), (a3.1, a3.2), true)
 else
 bif (decide (a2.1 = a3.1)) && (decide (a2.2 = a3.2)) then
 j71 ((a0.1, a0.2), (a1.1, a1.2), (a2.1, a2.2), (a3.1, a3.2), true)
 else
 bnd (c_parquetref03_Fits (a0.1, a0.2)) fun r72 =>
 bif !r72 then
 j71 ((a0.1, a0.2), (a1.1, a1.2), (a2.1, a2.2), (a3.1, a3.2), true)
 else
 bnd (c_parquetref03_Fits (a1.1, a1.2)) fun r73 =>
 bif !r73 then
 j71 ((a0.1, a0.2), (a1.1, a1.2), (a2.1, a2.2), (a3.1, a3.2), true)
 else
 bnd (c_parquetref03_Fits (a2.1, a2.2)) fun r74 =>
 bif !r74 then
 j71 ((a0.1, a0.2), (a1.1, a1.2), (a2.1, a2.2), (a3.1, a3.2), true)
 else
 bnd (c_parquetref03_Fits (a3.1, a3.2)) fun r75 =>
 j71 ((a0.1, a0.2), (a1.1, a1.2), (a2.1, a2.2), (a3.1, a3.2), !r75)
theorem eq_parquetref04_Segs (k : Nat) (c_parquetref03_Fits : PPt → Option Bool) (c_parquetref03_Orient : PPt → PPt → PPt → Option Int) (c_parquetref04_on : PPt → PPt → PPt → Option Bool) (a0 : PPt) (a1 : PPt) (a2 : PPt) (a3 : PPt) : textF [⟨72, [.d kPP], [.bool], fun x => c_parquetref03_Fits x, none⟩, ⟨73, [.d kPP, .d kPP, .d kPP], [kI], fun x => c_parquetref03_Orient (x.1) (x.2.1) (x.2.2), none⟩, ⟨74, [.d kPP, .d kPP, .d kPP], [.bool], fun x => c_parquetref04_on (x.1) (x.2.1) (x.2.2), none⟩] tb k Tryz.f32 an_parquetref04_Segs [.d kPP, .d kPP, .d kPP, .d kPP] [kI, kI] (a0, a1, a2, a3) = b_parquetref04_Segs k c_parquetref03_Fits c_parquetref03_Orient c_parquetref04_on a0 a1 a2 a3 := by kernel_rfl
def g_parquetref04_Segs (k : Nat) (a0 : PPt) (a1 : PPt) (a2 : PPt) (a3 : PPt) : Option PPt := b_parquetref04_Segs k (g_parquetref03_Fits k) (g_parquetref03_Orient k) (g_parquetref04_on k) a0 a1 a2 a3
theorem tells_parquetref04_Segs (k : Nat) : TellsF Tryz.prog 32 [.d kPP, .d kPP, .d kPP, .d kPP] [kI, kI] (fun x => g_parquetref04_Segs k (x.1) (x.2.1) (x.2.2.1) (x.2.2.2)) := fun x y h => fun_tells tb_ok mix (EsOk.cons (EntryOk.of rfl (tells_parquetref03_Fits k)) (EsOk.cons (EntryOk.of rfl (tells_parquetref03_Orient k)) (EsOk.cons (EntryOk.of rfl (tells_parquetref04_on k)) (EsOk.nil _)))) Tryz.func32 (N := k) (an := an_parquetref04_Segs) (by kernel_rfl) x y ((eq_parquetref04_Segs k (g_parquetref03_Fits k) (g_parquetref03_Orient k) (g_parquetref04_on k) (x.1) (x.2.1) (x.2.2.1) (x.2.2.2)).trans h)

def an_parquetref04_Inside : Ann := .node none none .leaf (.node none none (.node (some [(6, .d .bool)]) none .leaf .leaf) .leaf)
def b_parquetref04_Inside (k : Nat) (c_parquetref04_on : PPt → PPt → PPt → Option Bool) (a0 : PPt) (a1 : PPt) (a2 : PPt) : Option Bool :=
 meet (α := Bool) (fun y0 =>
 some y0) fun j1 =>
 bnd (c_parquetref04_on (a0.1, a0.2) (a1.1, a1.2) (a2.1, a2.2)) fun r2 =>
 bif r2 then
 bif !((decide (a2.1 = a0.1)) && (decide (a2.2 = a0.2))) then
 j1 (!((decide (a2.1 = a1.1)) && (decide (a2.2 = a1.2))))
 else
 j1 false
 else
 j1 false
theorem eq_parquetref04_Inside (k : Nat) (c_parquetref04_on : PPt → PPt → PPt → Option Bool) (a0 : PPt) (a1 : PPt) (a2 : PPt) : textF [⟨74, [.d kPP, .d kPP, .d kPP], [.bool], fun x => c_parquetref04_on (x.1) (x.2.1) (x.2.2), none⟩] tb k Tryz.f38 an_parquetref04_Inside [.d kPP, .d kPP, .d kPP] [.bool] (a0, a1, a2) = b_parquetref04_Inside k c_parquetref04_on a0 a1 a2 := by kernel_rfl
def g_parquetref04_Inside (k : Nat) (a0 : PPt) (a1 : PPt) (a2 : PPt) : Option Bool := b_parquetref04_Inside k (g_parquetref04_on k) a0 a1 a2
theorem tells_parquetref04_Inside (k : Nat) : TellsF Tryz.prog 38 [.d kPP, .d kPP, .d kPP] [.bool] (fun x => g_parquetref04_Inside k (x.1) (x.2.1) (x.2.2)) := fun x y h => fun_tells tb_ok mix (EsOk.cons (EntryOk.of rfl (tells_parquetref04_on k)) (EsOk.nil _)) Tryz.func38 (N := k) (an := an_parquetref04_Inside) (by kernel_rfl) x y ((eq_parquetref04_Inside k (g_parquetref04_on k) (x.1) (x.2.1) (x.2.2)).trans h)

def an_parquetref10_pairs : Ann := .node none none .leaf (.node none none (.node none none .leaf (.node none none (.node none (some [(1, .box [.d kPl]), (2, .box [.d (.pair kI kPP)]), (3, .d kI)]) (.node none none .leaf (.node none none (.node none none (.node none none .leaf (.node none none (.node none (some [(1, .box [.d kPl]), (2, .box [.d (.pair kI kPP)]), (3, .d kI), (4, .d kI)]) .leaf .leaf) .leaf)) .leaf) .leaf)) .leaf) .leaf)) (.node none none .leaf (.node none none (.node none none .leaf (.node none none (.node none (some [(1, .box [.d kPl]), (2, .box [.d (.pair kI kPP)]), (5, .d kLP), (6, .d kI)]) .leaf .leaf) .leaf)) (.node none none (.node none none .leaf (.node none none (.node none (some [(1, .box [.d kPl]), (2, .box [.d (.pair kI kPP)]), (5, .d kLP), (7, .d kI)]) (.node none none .leaf (.node none none (.node none none (.node none none .leaf (.node none none (.node none (some [(1, .box [.d kPl]), (2, .box [.d (.pair kI kPP)]), (5, .d kLP), (7, .d kI), (8, .d kI)]) .leaf .leaf) .leaf)) .leaf) .leaf)) .leaf) .leaf)) (.node none none (.node none none .leaf (.node none none (.node none (some [(1, .box [.d kPl]), (2, .box [.d (.pair kI kPP)]), (5, .d kLP), (11, .d kI)]) (.node none none .leaf (.node none none (.node none none (.node none none .leaf (.node none none (.node none (some [(1, .box [.d kPl]), (2, .box [.d (.pair kI kPP)]), (5, .d kLP), (11, .d kI), (12, .d kI)]) .leaf .leaf) .leaf)) .leaf) .leaf)) .leaf) .leaf)) .leaf)))))
def b_parquetref10_pairs (k : Nat) (c_parquetref10_All : TPl → Option LPt) (c_parquetref04_Segs : PPt → PPt → PPt → PPt → Option PPt) (c_parquetref04_Inside : PPt → PPt → PPt → Option Bool) (a0 : TPl) : Option (Int × PPt) :=
 loopN (α := (TPl × ((Int × PPt) × Int))) (fun (x1, x2, x3) next0 =>
 bif decide (x3 < (x1.1.length : Int)) then
 loopN (α := (TPl × ((Int × PPt) × PPt))) (fun (x5, x6, x7, x8) next4 =>
 bif decide (x8 < (x5.1.length : Int)) then
 gd (inb x7 x5.1.length) <|
 gd (inb x8 x5.1.length) <|
 bif (decide ((rdD (0, 0) x5.1 x7).1 = (rdD (0, 0) x5.1 x8).1)) && (decide ((rdD (0, 0) x5.1 x7).2 = (rdD (0, 0) x5.1 x8).2)) then
 some (1, x7, x8)
 else
 next4 ((x5.1, x5.2.1, x5.2.2), (x6.1, x6.2.1, x6.2.2), x7, w64 (x8 + 1))
 else
 next0 ((x5.1, x5.2.1, x5.2.2), (x6.1, x6.2.1, x6.2.2), w64 (x7 + 1))) k ((x1.1, x1.2.1, x1.2.2), (x2.1, x2.2.1, x2.2.2), x3, w64 (x3 + 1))
 else
 bnd (c_parquetref10_All (x1.1, x1.2.1, x1.2.2)) fun r9 =>
 loopN (α := (TPl × ((Int × PPt) × (LPt × Int)))) (fun (x11, x12, x13, x14) next10 =>
 bif decide (x14 < (x13.length : Int)) then
 gd (inb x14 x13.length) <|
 gd (inb x14 x13.length) <|
 bif decide ((rdD (0, 0) x13 x14).1 = (rdD (0, 0) x13 x14).2) then
 some (2, x14, 0)
 else
 next10 ((x11.1, x11.2.1, x11.2.2), (x12.1, x12.2.1, x12.2.2), x13, w64 (x14 + 1))
 else
 loopN (α := (TPl × ((Int × PPt) × (LPt × Int)))) (fun (x16, x17, x18, x19) next15 =>
 bif decide (x19 < (x18.length : Int)) then
 loopN (α := (TPl × ((Int × PPt) × (LPt × PPt)))) (fun (x21, x22, x23, x24, x25) next20 =>
 bif decide (x25 < (x23.length : Int)) then
 gd (inb x24 x23.length) <|
 gd (inb (rdD (0, 0) x23 x24).1 x21.1.length) <|
 gd (inb x24 x23.length) <|
 gd (inb (rdD (0, 0) x23 x24).2 x21.1.length) <|
 gd (inb x25 x23.length) <|
 gd (inb (rdD (0, 0) x23 x25).1 x21.1.length) <|
 gd (inb x25 x23.length) <|
 gd (inb (rdD (0, 0) x23 x25).2 x21.1.length) <|
 bnd (c_parquetref04_Segs ((rdD (0, 0) x21.1 (rdD (0, 0) x23 x24).1).1, (rdD (0, 0) x21.1 (rdD (0, 0) x23 x24).1).2) ((rdD (0, 0) x21.1 (rdD (0, 0) x23 x24).2).1, (rdD (0, 0) x21.1 (rdD (0, 0) x23 x24).2).2) ((rdD (0, 0) x21.1 (rdD (0, 0) x23 x25).1).1, (rdD (0, 0) x21.1 (rdD (0, 0) x23 x25).1).2) ((rdD (0, 0) x21.1 (rdD (0, 0) x23 x25).2).1, (rdD (0, 0) x21.1 (rdD (0, 0) x23 x25).2).2)) fun r26 =>
 bif decide (r26.1 > 1) then
 some (3, x24, x25)
 else
 next20 ((x21.1, x21.2.1, x21.2.2), (x22.1, x22.2.1, x22.2.2), x23, x24, w64 (x25 + 1))
 else
 next15 ((x21.1, x21.2.1, x21.2.2), (x22.1, x22.2.1, x22.2.2), x23, w64 (x24 + 1))) k ((x16.1, x16.2.1, x16.2.2), (x17.1, x17.2.1, x17.2.2), x18, x19, w64 (x19 + 1))
 else
 loopN (α := (TPl × ((Int × PPt) × (LPt × Int)))) (fun (x28, x29, x30, x31) next27 =>
 bif decide (x31 < (x28.1.length : Int)) then
 loopN (α := (TPl × ((Int × PPt) × (LPt × PPt)))) (fun (x33, x34, x35, x36, x37) next32 =>
 bif decide (x37 < (x35.length : Int)) then
 gd (inb x37 x35.length) <|
 gd (inb (rdD (0, 0) x35 x37).1 x33.1.length) <|
 gd (inb x37 x35.length) <|
 gd (inb (rdD (0, 0) x35 x37).2 x33.1.length) <|
 gd (inb x36 x33.1.length) <|
 bnd (c_parquetref04_Inside ((rdD (0, 0) x33.1 (rdD (0, 0) x35 x37).1).1, (rdD (0, 0) x33.1 (rdD (0, 0) x35 x37).1).2) ((rdD (0, 0) x33.1 (rdD (0, 0) x35 x37).2).1, (rdD (0, 0) x33.1 (rdD (0, 0) x35 x37).2).2) ((rdD (0, 0) x33.1 x36).1, (rdD (0, 0) x33.1 x36).2)) fun r38 =>
 bif r38 then
 some (4, x36, x37)
 else
 next32 ((x33.1, x33.2.1, x33.2.2), (x34.1, x34.2.1, x34.2.2), x35, x36, w64 (x37 + 1))
 else
 next27 ((x33.1, x33.2.1, x33.2.2), (x34.1, x34.2.1, x34.2.2), x35, w64 (x36 + 1))) k ((x28.1, x28.2.1, x28.2.2), (x29.1, x29.2.1, x29.2.2), x30, x31, 0)
 else
 some (0, 0, 0)) k ((x16.1, x16.2.1, x16.2.2), (x17.1, x17.2.1, x17.2.2), x18, 0)) k ((x11.1, x11.2.1, x11.2.2), (x12.1, x12.2.1, x12.2.2), x13, 0)) k ((x1.1, x1.2.1, x1.2.2), (x2.1, x2.2.1, x2.2.2), r9, 0)) k ((a0.1, a0.2.1, a0.2.2), (0, 0, 0), 0)
theorem eq_parquetref10_pairs (k : Nat) (c_parquetref10_All : TPl → Option LPt) (c_parquetref04_Segs : PPt → PPt → PPt → PPt → Option PPt) (c_parquetref04_Inside : PPt → PPt → PPt → Option Bool) (a0 : TPl) : textF [⟨27, [.d kPl], [.sl kPP], fun x => c_parquetref10_All x, none⟩, ⟨32, [.d kPP, .d kPP, .d kPP, .d kPP], [kI, kI], fun x => c_parquetref04_Segs (x.1) (x.2.1) (x.2.2.1) (x.2.2.2), none⟩, ⟨38, [.d kPP, .d kPP, .d kPP], [.bool], fun x => c_parquetref04_Inside (x.1) (x.2.1) (x.2.2), none⟩] tb k Tryz.f95 an_parquetref10_pairs [.d kPl] [.pair kI kPP] a0 = b_parquetref10_pairs k c_parquetref10_All c_parquetref04_Segs c_parquetref04_Inside a0 := by kernel_rfl
def g_parquetref10_pairs (k : Nat) (a0 : TPl) : Option (Int × PPt) := b_parquetref10_pairs k (g_parquetref10_All k) (g_parquetref04_Segs k) (g_parquetref04_Inside k) a0
theorem tells_parquetref10_pairs (k : Nat) : TellsF Tryz.prog 95 [.d kPl] [.pair kI kPP] (fun x => g_parquetref10_pairs k x) := fun x y h => fun_tells tb_ok mix (EsOk.cons (EntryOk.of rfl (tells_parquetref10_All k)) (EsOk.cons (EntryOk.of rfl (tells_parquetref04_Segs k)) (EsOk.cons (EntryOk.of rfl (tells_parquetref04_Inside k)) (EsOk.nil _)))) Tryz.func95 (N := k) (an := an_parquetref10_pairs) (by kernel_rfl) x y ((eq_parquetref10_pairs k (g_parquetref10_All k) (g_parquetref04_Segs k) (g_parquetref04_Inside k) x).trans h)

end
end Go.Proofs.YtpkkcjmblocjdaaGreat.AM
