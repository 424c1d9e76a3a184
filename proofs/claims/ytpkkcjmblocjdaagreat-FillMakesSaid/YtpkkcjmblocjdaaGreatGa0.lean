/- The functions, by their texts: written by a program. -/
import Derived.Test.YtpkkcjmblocjdaaGreatAm
import Derived.Test.YtpkkcjmblocjdaaGreatProg
set_option linter.unusedVariables false
set_option maxRecDepth 100000
namespace Go.Proofs.YtpkkcjmblocjdaaGreat.AM
open Go.RowKit Go.Proofs
noncomputable section
abbrev kI : Kd := .int .i64
abbrev kPP : Kd := .pair kI kI
abbrev kLP : Kd := .sl kPP
abbrev kPl : Kd := .pair kLP (.pair kLP kLP)
abbrev PPt : Type := Int × Int
abbrev LPt : Type := List PPt
abbrev LTr : Type := List (Int × PPt)
abbrev TPl : Type := LPt × (LPt × LPt)
abbrev TMs : Type := LPt × (LTr × LPt)
def tb : Tb := [
 (3, ⟨.int .i64, 1, 8, [.int .i64 0], some kI, none⟩),
 (4, ⟨.bool, 1, 1, [.bool false], some .bool, none⟩),
 (22, ⟨.sl 44, 1, 24, [.nil], some kLP, none⟩),
 (23, ⟨.sl 60, 1, 24, [.nil], some kLP, none⟩),
 (25, ⟨.st [(0, 22), (1, 23), (2, 23)], 3, 72, [.nil, .nil, .nil], some kPl, none⟩),
 (29, ⟨.int .i64, 1, 8, [.int .i64 0], some kI, none⟩),
 (34, ⟨.sl 56, 1, 24, [.nil], some (.sl (.pair kI kPP)), none⟩),
 (36, ⟨.st [(0, 22), (1, 34), (2, 23)], 3, 72, [.nil, .nil, .nil], some (.pair kLP (.pair (.sl (.pair kI kPP)) kLP)), none⟩),
 (44, ⟨.st [(0, 3), (1, 3)], 2, 16, [.int .i64 0, .int .i64 0], some kPP, some [kI, kI]⟩),
 (49, ⟨.sl 3, 1, 24, [.nil], some (.sl kI), none⟩),
 (51, ⟨.st [(0, 4), (1, 49)], 2, 32, [.bool false, .nil], some (.pair .bool (.sl kI)), none⟩),
 (56, ⟨.st [(0, 3), (1, 3), (2, 3)], 3, 24, [.int .i64 0, .int .i64 0, .int .i64 0], some (.pair kI kPP), some [kI, kI, kI]⟩),
 (60, ⟨.st [(0, 3), (1, 3)], 2, 16, [.int .i64 0, .int .i64 0], some kPP, some [kI, kI]⟩),
 (63, ⟨.sl 49, 1, 24, [.nil], some (.sl (.sl kI)), none⟩),
 (85, ⟨.mp 60 4, 1, 8, [.nmp], some (.mp kPP .bool), none⟩),
 (94, ⟨.st [(0, 3), (1, 3), (2, 3)], 3, 24, [.int .i64 0, .int .i64 0, .int .i64 0], some (.pair kI kPP), some [kI, kI, kI]⟩),
 (97, ⟨.arr 3 60, 6, 48, [.int .i64 0, .int .i64 0, .int .i64 0, .int .i64 0, .int .i64 0, .int .i64 0], some (.pair kPP (.pair kPP kPP)), some [kI, kI, kI, kI, kI, kI]⟩),
 (118, ⟨.arr 3 3, 3, 24, [.int .i64 0, .int .i64 0, .int .i64 0], some (.pair kI kPP), some [kI, kI, kI]⟩),
 (132, ⟨.fn, 1, 8, [.dead], none, none⟩),
 (142, ⟨.arr 7 132, 7, 56, [.dead, .dead, .dead, .dead, .dead, .dead, .dead], none, none⟩),
 (143, ⟨.sl 23, 1, 24, [.nil], some (.sl kLP), none⟩),
 (157, ⟨.int .u64, 1, 8, [.int .u64 0], some (.int .u64), none⟩),
 (160, ⟨.sl 177, 1, 24, [.nil], some (.sl (.pair kPP kPP)), none⟩),
 (174, ⟨.arr 2 23, 2, 48, [.nil, .nil], some (.pair kLP kLP), none⟩),
 (177, ⟨.arr 2 44, 4, 32, [.int .i64 0, .int .i64 0, .int .i64 0, .int .i64 0], some (.pair kPP kPP), some [kI, kI, kI, kI]⟩),
 (185, ⟨.sl 4, 1, 24, [.nil], some (.sl .bool), none⟩),
 (195, ⟨.arr 4 157, 4, 32, [.int .u64 0, .int .u64 0, .int .u64 0, .int .u64 0], some (.pair (.int .u64) (.pair (.int .u64) (.pair (.int .u64) (.int .u64)))), some [.int .u64, .int .u64, .int .u64, .int .u64]⟩),
 (197, ⟨.st [(0, 4), (1, 195)], 5, 40, [.bool false, .int .u64 0, .int .u64 0, .int .u64 0, .int .u64 0], some (.pair .bool (.pair (.int .u64) (.pair (.int .u64) (.pair (.int .u64) (.int .u64))))), some [.bool, .int .u64, .int .u64, .int .u64, .int .u64]⟩),
 (203, ⟨.sl 205, 1, 24, [.nil], some kLP, none⟩),
 (205, ⟨.arr 2 3, 2, 16, [.int .i64 0, .int .i64 0], some kPP, some [kI, kI]⟩),
 (1000000012, noTI),
 (1000000015, noTI),
 (1000000039, noTI),
 (1000000046, noTI),
 (1000000048, noTI),
 (1000000056, noTI),
 (1000000118, noTI),
 (1000000171, noTI)]
def tbm : Tb := [
 (3, ⟨.int .i64, 1, 8, [.int .i64 0], some kI, none⟩),
 (4, ⟨.bool, 1, 1, [.bool false], some .bool, none⟩),
 (22, ⟨.sl 44, 1, 24, [.nil], some kLP, none⟩),
 (23, ⟨.sl 60, 1, 24, [.nil], some kLP, none⟩),
 (25, ⟨.st [(0, 22), (1, 23), (2, 23)], 3, 72, [.nil, .nil, .nil], some kPl, none⟩),
 (29, ⟨.int .i64, 1, 8, [.int .i64 0], some kI, none⟩),
 (34, ⟨.sl 56, 1, 24, [.nil], some (.sl (.pair kI kPP)), none⟩),
 (36, ⟨.st [(0, 22), (1, 34), (2, 23)], 3, 72, [.nil, .nil, .nil], some (.pair kLP (.pair (.sl (.pair kI kPP)) kLP)), none⟩),
 (44, ⟨.st [(0, 3), (1, 3)], 2, 16, [.int .i64 0, .int .i64 0], some kPP, some [kI, kI]⟩),
 (49, ⟨.sl 3, 1, 24, [.nil], some (.sl kI), none⟩),
 (51, ⟨.st [(0, 4), (1, 49)], 2, 32, [.bool false, .nil], some (.pair .bool (.sl kI)), none⟩),
 (56, ⟨.st [(0, 3), (1, 3), (2, 3)], 3, 24, [.int .i64 0, .int .i64 0, .int .i64 0], some (.pair kI kPP), some [kI, kI, kI]⟩),
 (60, ⟨.st [(0, 3), (1, 3)], 2, 16, [.int .i64 0, .int .i64 0], some kPP, some [kI, kI]⟩),
 (63, ⟨.sl 49, 1, 24, [.nil], some (.sl (.sl kI)), none⟩),
 (85, ⟨.mp 60 4, 1, 8, [.nmp], some (.mp kPP .bool), none⟩),
 (94, ⟨.st [(0, 3), (1, 3), (2, 3)], 3, 24, [.int .i64 0, .int .i64 0, .int .i64 0], some (.pair kI kPP), some [kI, kI, kI]⟩),
 (97, ⟨.arr 3 60, 6, 48, [.int .i64 0, .int .i64 0, .int .i64 0, .int .i64 0, .int .i64 0, .int .i64 0], some (.pair kPP (.pair kPP kPP)), some [kI, kI, kI, kI, kI, kI]⟩),
 (118, ⟨.arr 3 3, 3, 24, [.int .i64 0, .int .i64 0, .int .i64 0], some (.pair kI kPP), some [kI, kI, kI]⟩),
 (132, ⟨.fn, 1, 8, [.dead], none, none⟩),
 (142, ⟨.arr 7 132, 7, 56, [.dead, .dead, .dead, .dead, .dead, .dead, .dead], none, none⟩),
 (143, ⟨.sl 23, 1, 24, [.nil], some (.sl kLP), none⟩),
 (157, ⟨.int .u64, 1, 8, [.int .u64 0], some (.int .u64), none⟩),
 (160, ⟨.sl 177, 1, 24, [.nil], some (.sl (.pair kPP kPP)), none⟩),
 (174, ⟨.arr 2 23, 2, 48, [.nil, .nil], some (.pair kLP kLP), none⟩),
 (177, ⟨.arr 2 44, 4, 32, [.int .i64 0, .int .i64 0, .int .i64 0, .int .i64 0], some (.pair kPP kPP), some [kI, kI, kI, kI]⟩),
 (185, ⟨.sl 4, 1, 24, [.nil], some (.sl .bool), none⟩),
 (195, ⟨.arr 4 157, 4, 32, [.int .u64 0, .int .u64 0, .int .u64 0, .int .u64 0], some (.pair (.int .u64) (.pair (.int .u64) (.pair (.int .u64) (.int .u64)))), some [.int .u64, .int .u64, .int .u64, .int .u64]⟩),
 (197, ⟨.st [(0, 4), (1, 195)], 5, 40, [.bool false, .int .u64 0, .int .u64 0, .int .u64 0, .int .u64 0], some (.pair .bool (.pair (.int .u64) (.pair (.int .u64) (.pair (.int .u64) (.int .u64))))), some [.bool, .int .u64, .int .u64, .int .u64, .int .u64]⟩),
 (203, ⟨.sl 205, 1, 24, [.nil], some kLP, none⟩),
 (205, ⟨.arr 2 3, 2, 16, [.int .i64 0, .int .i64 0], some kPP, some [kI, kI]⟩),
 (1000000012, noTI),
 (1000000039, noTI),
 (1000000048, noTI),
 (1000000056, noTI),
 (1000000118, noTI),
 (1000000171, noTI),
 (2000053044, noTI)]
def tbx : Tb := [
 (3, ⟨.int .i64, 1, 8, [.int .i64 0], some kI, none⟩),
 (4, ⟨.bool, 1, 1, [.bool false], some .bool, none⟩),
 (22, ⟨.sl 44, 1, 24, [.nil], some kLP, none⟩),
 (23, ⟨.sl 60, 1, 24, [.nil], some kLP, none⟩),
 (25, ⟨.st [(0, 22), (1, 23), (2, 23)], 3, 72, [.nil, .nil, .nil], some kPl, none⟩),
 (29, ⟨.int .i64, 1, 8, [.int .i64 0], some kI, none⟩),
 (34, ⟨.sl 56, 1, 24, [.nil], some (.sl (.pair kI kPP)), none⟩),
 (36, ⟨.st [(0, 22), (1, 34), (2, 23)], 3, 72, [.nil, .nil, .nil], some (.pair kLP (.pair (.sl (.pair kI kPP)) kLP)), none⟩),
 (44, ⟨.st [(0, 3), (1, 3)], 2, 16, [.int .i64 0, .int .i64 0], some kPP, some [kI, kI]⟩),
 (49, ⟨.sl 3, 1, 24, [.nil], some (.sl kI), none⟩),
 (51, ⟨.st [(0, 4), (1, 49)], 2, 32, [.bool false, .nil], some (.pair .bool (.sl kI)), none⟩),
 (56, ⟨.st [(0, 3), (1, 3), (2, 3)], 3, 24, [.int .i64 0, .int .i64 0, .int .i64 0], some (.pair kI kPP), some [kI, kI, kI]⟩),
 (60, ⟨.st [(0, 3), (1, 3)], 2, 16, [.int .i64 0, .int .i64 0], some kPP, some [kI, kI]⟩),
 (63, ⟨.sl 49, 1, 24, [.nil], some (.sl (.sl kI)), none⟩),
 (85, ⟨.mp 60 4, 1, 8, [.nmp], some (.mp kPP .bool), none⟩),
 (94, ⟨.st [(0, 3), (1, 3), (2, 3)], 3, 24, [.int .i64 0, .int .i64 0, .int .i64 0], some (.pair kI kPP), some [kI, kI, kI]⟩),
 (97, ⟨.arr 3 60, 6, 48, [.int .i64 0, .int .i64 0, .int .i64 0, .int .i64 0, .int .i64 0, .int .i64 0], some (.pair kPP (.pair kPP kPP)), some [kI, kI, kI, kI, kI, kI]⟩),
 (118, ⟨.arr 3 3, 3, 24, [.int .i64 0, .int .i64 0, .int .i64 0], some (.pair kI kPP), some [kI, kI, kI]⟩),
 (132, ⟨.fn, 1, 8, [.dead], none, none⟩),
 (142, ⟨.arr 7 132, 7, 56, [.dead, .dead, .dead, .dead, .dead, .dead, .dead], none, none⟩),
 (143, ⟨.sl 23, 1, 24, [.nil], some (.sl kLP), none⟩),
 (157, ⟨.int .u64, 1, 8, [.int .u64 0], some (.int .u64), none⟩),
 (160, ⟨.sl 177, 1, 24, [.nil], some (.sl (.pair kPP kPP)), none⟩),
 (174, ⟨.arr 2 23, 2, 48, [.nil, .nil], some (.pair kLP kLP), none⟩),
 (177, ⟨.arr 2 44, 4, 32, [.int .i64 0, .int .i64 0, .int .i64 0, .int .i64 0], some (.pair kPP kPP), some [kI, kI, kI, kI]⟩),
 (185, ⟨.sl 4, 1, 24, [.nil], some (.sl .bool), none⟩),
 (195, ⟨.arr 4 157, 4, 32, [.int .u64 0, .int .u64 0, .int .u64 0, .int .u64 0], some (.pair (.int .u64) (.pair (.int .u64) (.pair (.int .u64) (.int .u64)))), some [.int .u64, .int .u64, .int .u64, .int .u64]⟩),
 (197, ⟨.st [(0, 4), (1, 195)], 5, 40, [.bool false, .int .u64 0, .int .u64 0, .int .u64 0, .int .u64 0], some (.pair .bool (.pair (.int .u64) (.pair (.int .u64) (.pair (.int .u64) (.int .u64))))), some [.bool, .int .u64, .int .u64, .int .u64, .int .u64]⟩),
 (203, ⟨.sl 205, 1, 24, [.nil], some kLP, none⟩),
 (205, ⟨.arr 2 3, 2, 16, [.int .i64 0, .int .i64 0], some kPP, some [kI, kI]⟩),
 (1000000012, noTI),
 (1000000039, noTI),
 (1000000048, noTI),
 (1000000056, noTI),
 (1000000118, noTI),
 (1000000171, noTI)]
theorem tbx_ok : TbOk Tryz.prog tbx := tbB_ok (by kernel_rfl)
theorem tb_ok : TbOk Tryz.prog tb := tbB_ok (by kernel_rfl)
theorem mix : Tryz.prog.follows .mixedOrders = true := by kernel_rfl
def an_cmp_isNaN_int : Ann := .leaf
def g_cmp_isNaN_int (k : Nat) (a0 : Int) : Option Bool :=
 some (!(decide (a0 = a0)))
theorem eq_cmp_isNaN_int (k : Nat) (a0 : Int) : textF [] tb k Tryz.f131 an_cmp_isNaN_int [.d kI] [.bool] a0 = g_cmp_isNaN_int k a0 := by kernel_rfl
theorem tells_cmp_isNaN_int (k : Nat) : TellsF Tryz.prog 131 [.d kI] [.bool] (fun x => g_cmp_isNaN_int k x) := fun x y h => fun_tells tb_ok mix (EsOk.nil _) Tryz.func131 (N := k) (an := an_cmp_isNaN_int) (by kernel_rfl) x y ((eq_cmp_isNaN_int k x).trans h)

def an_cmp_Compare_int : Ann := .leaf
def b_cmp_Compare_int (k : Nat) (c_cmp_isNaN_int : Int → Option Bool) (a0 : Int) (a1 : Int) : Option Int :=
 bnd (c_cmp_isNaN_int a0) fun r0 =>
 bnd (c_cmp_isNaN_int a1) fun r1 =>
 bif r0 then
 bif r1 then
 some 0
 else
 some (-1)
 else
 bif r1 then
 some 1
 else
 bif decide (a0 < a1) then
 some (-1)
 else
 bif decide (a0 > a1) then
 some 1
 else
 some 0
theorem eq_cmp_Compare_int (k : Nat) (c_cmp_isNaN_int : Int → Option Bool) (a0 : Int) (a1 : Int) : textF [⟨131, [.d kI], [.bool], fun x => c_cmp_isNaN_int x, none⟩] tb k Tryz.f90 an_cmp_Compare_int [.d kI, .d kI] [kI] (a0, a1) = b_cmp_Compare_int k c_cmp_isNaN_int a0 a1 := by kernel_rfl
def g_cmp_Compare_int (k : Nat) (a0 : Int) (a1 : Int) : Option Int := b_cmp_Compare_int k (g_cmp_isNaN_int k) a0 a1
theorem tells_cmp_Compare_int (k : Nat) : TellsF Tryz.prog 90 [.d kI, .d kI] [kI] (fun x => g_cmp_Compare_int k (x.1) (x.2)) := fun x y h => fun_tells tb_ok mix (EsOk.cons (EntryOk.of rfl (tells_cmp_isNaN_int k)) (EsOk.nil _)) Tryz.func90 (N := k) (an := an_cmp_Compare_int) (by kernel_rfl) x y ((eq_cmp_Compare_int k (g_cmp_isNaN_int k) (x.1) (x.2)).trans h)

def an_cmp_Or_int : Ann := .node none none .leaf (.node none none .leaf (.node none none (.node none none .leaf (.node none none (.node none (some [(3, .d kI), (6, .d (.sl kI)), (7, .d kI), (8, .d kI)]) .leaf .leaf) .leaf)) .leaf))
def g_cmp_Or_int (k : Nat) (a0 : (List Int)) : Option Int :=
 loopN (α := (Int × ((List Int) × PPt))) (fun (x1, x2, x3, x4) next0 =>
 bif decide (x4 < x3) then
 gd (inb x4 x2.length) <|
 bif !(decide ((rdD 0 x2 x4) = x1)) then
 some (rdD 0 x2 x4)
 else
 next0 (x1, x2, x3, w64 (x4 + 1))
 else
 some x1) k (0, a0, (a0.length : Int), 0)
theorem eq_cmp_Or_int (k : Nat) (a0 : (List Int)) : textF [] tb k Tryz.f89 an_cmp_Or_int [.d (.sl kI)] [kI] a0 = g_cmp_Or_int k a0 := by kernel_rfl
theorem tells_cmp_Or_int (k : Nat) : TellsF Tryz.prog 89 [.d (.sl kI)] [kI] (fun x => g_cmp_Or_int k x) := fun x y h => fun_tells tb_ok mix (EsOk.nil _) Tryz.func89 (N := k) (an := an_cmp_Or_int) (by kernel_rfl) x y ((eq_cmp_Or_int k x).trans h)

def an_fill_bySeg : Ann := .leaf
def b_fill_bySeg (k : Nat) (c_cmp_Compare_int : Int → Int → Option Int) (c_cmp_Or_int : (List Int) → Option Int) (a0 : PPt) (a1 : PPt) : Option Int :=
 bnd (c_cmp_Compare_int a0.1 a1.1) fun r0 =>
 bnd (c_cmp_Compare_int a0.2 a1.2) fun r1 =>
 bnd (c_cmp_Or_int [r0, r1]) fun r2 =>
 some r2
theorem eq_fill_bySeg (k : Nat) (c_cmp_Compare_int : Int → Int → Option Int) (c_cmp_Or_int : (List Int) → Option Int) (a0 : PPt) (a1 : PPt) : textF [⟨90, [.d kI, .d kI], [kI], fun x => c_cmp_Compare_int (x.1) (x.2), none⟩, ⟨89, [.d (.sl kI)], [kI], fun x => c_cmp_Or_int x, none⟩] tb k Tryz.f49 an_fill_bySeg [.d kPP, .d kPP] [kI] (a0, a1) = b_fill_bySeg k c_cmp_Compare_int c_cmp_Or_int a0 a1 := by kernel_rfl
def g_fill_bySeg (k : Nat) (a0 : PPt) (a1 : PPt) : Option Int := b_fill_bySeg k (g_cmp_Compare_int k) (g_cmp_Or_int k) a0 a1
theorem tells_fill_bySeg (k : Nat) : TellsF Tryz.prog 49 [.d kPP, .d kPP] [kI] (fun x => g_fill_bySeg k (x.1) (x.2)) := fun x y h => fun_tells tb_ok mix (EsOk.cons (EntryOk.of rfl (tells_cmp_Compare_int k)) (EsOk.cons (EntryOk.of rfl (tells_cmp_Or_int k)) (EsOk.nil _))) Tryz.func49 (N := k) (an := an_fill_bySeg) (by kernel_rfl) x y ((eq_fill_bySeg k (g_cmp_Compare_int k) (g_cmp_Or_int k) (x.1) (x.2)).trans h)

def an_fill_byTri : Ann := .leaf
def b_fill_byTri (k : Nat) (c_cmp_Compare_int : Int → Int → Option Int) (c_cmp_Or_int : (List Int) → Option Int) (a0 : (Int × PPt)) (a1 : (Int × PPt)) : Option Int :=
 bnd (c_cmp_Compare_int a0.1 a1.1) fun r0 =>
 bnd (c_cmp_Compare_int a0.2.1 a1.2.1) fun r1 =>
 bnd (c_cmp_Compare_int a0.2.2 a1.2.2) fun r2 =>
 bnd (c_cmp_Or_int [r0, r1, r2]) fun r3 =>
 some r3
theorem eq_fill_byTri (k : Nat) (c_cmp_Compare_int : Int → Int → Option Int) (c_cmp_Or_int : (List Int) → Option Int) (a0 : (Int × PPt)) (a1 : (Int × PPt)) : textF [⟨90, [.d kI, .d kI], [kI], fun x => c_cmp_Compare_int (x.1) (x.2), none⟩, ⟨89, [.d (.sl kI)], [kI], fun x => c_cmp_Or_int x, none⟩] tb k Tryz.f57 an_fill_byTri [.d (.pair kI kPP), .d (.pair kI kPP)] [kI] (a0, a1) = b_fill_byTri k c_cmp_Compare_int c_cmp_Or_int a0 a1 := by kernel_rfl
def g_fill_byTri (k : Nat) (a0 : (Int × PPt)) (a1 : (Int × PPt)) : Option Int := b_fill_byTri k (g_cmp_Compare_int k) (g_cmp_Or_int k) a0 a1
theorem tells_fill_byTri (k : Nat) : TellsF Tryz.prog 57 [.d (.pair kI kPP), .d (.pair kI kPP)] [kI] (fun x => g_fill_byTri k (x.1) (x.2)) := fun x y h => fun_tells tb_ok mix (EsOk.cons (EntryOk.of rfl (tells_cmp_Compare_int k)) (EsOk.cons (EntryOk.of rfl (tells_cmp_Or_int k)) (EsOk.nil _))) Tryz.func57 (N := k) (an := an_fill_byTri) (by kernel_rfl) x y ((eq_fill_byTri k (g_cmp_Compare_int k) (g_cmp_Or_int k) (x.1) (x.2)).trans h)

end
end Go.Proofs.YtpkkcjmblocjdaaGreat.AM
