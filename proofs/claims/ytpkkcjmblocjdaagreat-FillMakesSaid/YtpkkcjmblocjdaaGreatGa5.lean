/- The functions, by their texts: written by a program. -/
import Derived.Test.YtpkkcjmblocjdaaGreatGa4
import Derived.Test.YtpkkcjmblocjdaaGreatCln
set_option linter.unusedVariables false
set_option maxRecDepth 100000
namespace Go.Proofs.YtpkkcjmblocjdaaGreat.AM
open Go.RowKit Go.Proofs
noncomputable section
def an_parquetref05_SameSegs : Ann := .node none none .leaf (.node none none .leaf (.node none none (.node none none .leaf (.node none none (.node none (some [(0, .d kLP), (1, .d kLP), (5, .d kI)]) .leaf .leaf) .leaf)) .leaf))
def g_parquetref05_SameSegs (k : Nat) (a0 : LPt) (a1 : LPt) : Option Bool :=
 bif !(decide ((a0.length : Int) = (a1.length : Int))) then
 some false
 else
 loopN (α := (LPt × (LPt × Int))) (fun (x1, x2, x3) next0 =>
 bif decide (x3 < (x1.length : Int)) then
 gd (inb x3 x1.length) <|
 gd (inb x3 x2.length) <|
 bif !((decide ((rdD (0, 0) x1 x3).1 = (rdD (0, 0) x2 x3).1)) && (decide ((rdD (0, 0) x1 x3).2 = (rdD (0, 0) x2 x3).2))) then
 some false
 else
 next0 (x1, x2, w64 (x3 + 1))
 else
 some true) k (a0, a1, 0)
theorem eq_parquetref05_SameSegs (k : Nat) (a0 : LPt) (a1 : LPt) : textF [] tb k Tryz.f17 an_parquetref05_SameSegs [.d kLP, .d kLP] [.bool] (a0, a1) = g_parquetref05_SameSegs k a0 a1 := by kernel_rfl
theorem tells_parquetref05_SameSegs (k : Nat) : TellsF Tryz.prog 17 [.d kLP, .d kLP] [.bool] (fun x => g_parquetref05_SameSegs k (x.1) (x.2)) := fun x y h => fun_tells tb_ok mix (EsOk.nil _) Tryz.func17 (N := k) (an := an_parquetref05_SameSegs) (by kernel_rfl) x y ((eq_parquetref05_SameSegs k (x.1) (x.2)).trans h)

def an_parquetref12_SameTris : Ann := .node none none .leaf (.node none none .leaf (.node none none (.node none none .leaf (.node none none (.node none (some [(0, .d (.sl (.pair kI kPP))), (1, .d (.sl (.pair kI kPP))), (5, .d kI)]) .leaf .leaf) .leaf)) .leaf))
def g_parquetref12_SameTris (k : Nat) (a0 : LTr) (a1 : LTr) : Option Bool :=
 bif !(decide ((a0.length : Int) = (a1.length : Int))) then
 some false
 else
 loopN (α := (LTr × (LTr × Int))) (fun (x1, x2, x3) next0 =>
 bif decide (x3 < (x1.length : Int)) then
 gd (inb x3 x1.length) <|
 gd (inb x3 x2.length) <|
 bif !((decide ((rdD (0, 0, 0) x1 x3).1 = (rdD (0, 0, 0) x2 x3).1)) && ((decide ((rdD (0, 0, 0) x1 x3).2.1 = (rdD (0, 0, 0) x2 x3).2.1)) && (decide ((rdD (0, 0, 0) x1 x3).2.2 = (rdD (0, 0, 0) x2 x3).2.2)))) then
 some false
 else
 next0 (x1, x2, w64 (x3 + 1))
 else
 some true) k (a0, a1, 0)
theorem eq_parquetref12_SameTris (k : Nat) (a0 : LTr) (a1 : LTr) : textF [] tb k Tryz.f44 an_parquetref12_SameTris [.d (.sl (.pair kI kPP)), .d (.sl (.pair kI kPP))] [.bool] (a0, a1) = g_parquetref12_SameTris k a0 a1 := by kernel_rfl
theorem tells_parquetref12_SameTris (k : Nat) : TellsF Tryz.prog 44 [.d (.sl (.pair kI kPP)), .d (.sl (.pair kI kPP))] [.bool] (fun x => g_parquetref12_SameTris k (x.1) (x.2)) := fun x y h => fun_tells tb_ok mix (EsOk.nil _) Tryz.func44 (N := k) (an := an_parquetref12_SameTris) (by kernel_rfl) x y ((eq_parquetref12_SameTris k (x.1) (x.2)).trans h)

def an_fill_edges : Ann := .leaf
def g_fill_edges (k : Nat) (a0 : (Int × PPt)) : Option (PPt × (PPt × PPt)) :=
 some ((a0.1, a0.2.1), (a0.2.1, a0.2.2), a0.2.2, a0.1)
theorem eq_fill_edges (k : Nat) (a0 : (Int × PPt)) : textF [] tb k Tryz.f60 an_fill_edges [.d (.pair kI kPP)] [.pair kPP (.pair kPP kPP)] a0 = g_fill_edges k a0 := by kernel_rfl
theorem tells_fill_edges (k : Nat) : TellsF Tryz.prog 60 [.d (.pair kI kPP)] [.pair kPP (.pair kPP kPP)] (fun x => g_fill_edges k x) := fun x y h => fun_tells tb_ok mix (EsOk.nil _) Tryz.func60 (N := k) (an := an_fill_edges) (by kernel_rfl) x y ((eq_fill_edges k x).trans h)

def an_fill_Check : Ann := .node none none .leaf (.node none none .leaf (.node none none (.node none none .leaf (.node none none (.node none (some [(1, .box [.d (.pair kLP (.pair (.sl (.pair kI kPP)) kLP))]), (3, .mp kPP .bool), (16, .d (.sl (.pair kI kPP))), (17, .d kI), (18, .d kI)]) (.node none none .leaf (.node none none .leaf (.node none none (.node none none (.node none none .leaf (.node none none (.node none none .leaf (.node none none (.node (some [(1, .box [.d (.pair kLP (.pair (.sl (.pair kI kPP)) kLP))]), (3, .mp kPP .bool), (5, .box [.d (.pair kI kPP)]), (16, .d (.sl (.pair kI kPP))), (17, .d kI), (18, .d kI), (56, .d .bool)]) none .leaf .leaf) .leaf)) (.node none none .leaf (.node none none (.node none (some [(1, .box [.d (.pair kLP (.pair (.sl (.pair kI kPP)) kLP))]), (3, .mp kPP .bool), (16, .d (.sl (.pair kI kPP))), (17, .d kI), (18, .d kI), (58, .d (.pair kPP (.pair kPP kPP))), (59, .d kI)]) (.node none none .leaf (.node none none .leaf (.node none none (.node none none (.node none none (.node (some [(1, .box [.d (.pair kLP (.pair (.sl (.pair kI kPP)) kLP))]), (3, .mp kPP .bool), (9, .box [.d kPP]), (16, .d (.sl (.pair kI kPP))), (17, .d kI), (18, .d kI), (58, .d (.pair kPP (.pair kPP kPP))), (59, .d kI)]) none .leaf .leaf) .leaf) .leaf) .leaf))) .leaf) .leaf)))) .leaf) .leaf))) .leaf) .leaf)) (.node none none .leaf (.node none none (.node none none .leaf (.node none none (.node none (some [(1, .box [.d (.pair kLP (.pair (.sl (.pair kI kPP)) kLP))]), (3, .mp kPP .bool), (10, .mp kPP .bool), (71, .d kLP), (72, .d kI), (73, .d kI)]) (.node none none .leaf (.node none none .leaf (.node none none (.node none none (.node none none .leaf (.node none none (.node none none (.node (some [(1, .box [.d (.pair kLP (.pair (.sl (.pair kI kPP)) kLP))]), (3, .mp kPP .bool), (10, .mp kPP .bool), (12, .box [.d kPP]), (71, .d kLP), (72, .d kI), (73, .d kI), (113, .d .bool)]) none .leaf .leaf) .leaf) .leaf)) .leaf) .leaf))) .leaf) .leaf)) (.node none none (.node none none .leaf (.node none none (.node none (some [(3, .mpf kPP .bool), (10, .mp kPP .bool), (118, .it kPP .bool)]) (.node none none .leaf (.node none none .leaf (.node none none (.node none none .leaf (.node none none (.node (some [(3, .d (.mp kPP .bool)), (10, .mp kPP .bool), (118, .it kPP .bool), (137, .d .bool)]) none .leaf .leaf) .leaf)) .leaf))) .leaf) .leaf)) .leaf)))))
def b_fill_Check (k : Nat) (c_fill_Tri : LPt → Int → Int → Int → Option ((Int × PPt) × Bool)) (c_fill_byTri : (Int × PPt) → (Int × PPt) → Option Int) (c_fill_edges : (Int × PPt) → Option (PPt × (PPt × PPt))) (c_fill_bySeg : PPt → PPt → Option Int) (c_fill_up : PPt → Option PPt) (a0 : TMs) : Option Int :=
 loopN (α := (TMs × ((List (PPt × Bool)) × (LTr × PPt)))) (fun (x1, x2, x3, x4, x5) next0 =>
 bif decide (x5 < x4) then
 gd (inb x5 x3.length) <|
 bnd (c_fill_Tri x1.1 (rdD (0, 0, 0) x3 x5).1 (rdD (0, 0, 0) x3 x5).2.1 (rdD (0, 0, 0) x3 x5).2.2) fun r6 =>
 meet (α := (TMs × ((List (PPt × Bool)) × ((Int × PPt) × (LTr × (Int × (Int × Bool))))))) (fun (y7, y8, y9, y10, y11, y12, y13) =>
 bif y13 then
 some 2
 else
 bnd (c_fill_edges (y9.1, y9.2.1, y9.2.2)) fun r14 =>
 loopN (α := (TMs × ((List (PPt × Bool)) × (LTr × (Int × (Int × ((PPt × (PPt × PPt)) × Int))))))) (fun (x16, x17, x18, x19, x20, x21, x22) next15 =>
 bif decide (x22 < 3) then
 meet (α := (TMs × ((List (PPt × Bool)) × (PPt × (LTr × (Int × (Int × ((PPt × (PPt × PPt)) × Int)))))))) (fun (y23, y24, y25, y26, y27, y28, y29, y30) =>
 bif toT Bool (lkM (.pair (.int .i64) (.int .i64)) .bool y24 (y25.1, y25.2)) then
 some 2
 else
 gd (!(hsM (.pair (.int .i64) (.int .i64)) .bool y24 (y25.1, y25.2))) <|
 next15 ((y23.1, y23.2.1, y23.2.2), adM (.pair (.int .i64) (.int .i64)) .bool y24 (y25.1, y25.2) true, y26, y27, y28, ((y29.1.1, y29.1.2), (y29.2.1.1, y29.2.1.2), y29.2.2.1, y29.2.2.2), w64 (y30 + 1))) fun j31 =>
 bif decide (x22 = 0) then
 j31 ((x16.1, x16.2.1, x16.2.2), x17, (x21.1.1, x21.1.2), x18, x19, x20, ((x21.1.1, x21.1.2), (x21.2.1.1, x21.2.1.2), x21.2.2.1, x21.2.2.2), x22)
 else
 bif decide (x22 = 1) then
 j31 ((x16.1, x16.2.1, x16.2.2), x17, (x21.2.1.1, x21.2.1.2), x18, x19, x20, ((x21.1.1, x21.1.2), (x21.2.1.1, x21.2.1.2), x21.2.2.1, x21.2.2.2), x22)
 else
 bif decide (x22 = 2) then
 j31 ((x16.1, x16.2.1, x16.2.2), x17, (x21.2.2.1, x21.2.2.2), x18, x19, x20, ((x21.1.1, x21.1.2), (x21.2.1.1, x21.2.1.2), x21.2.2.1, x21.2.2.2), x22)
 else
 none
 else
 next0 ((x16.1, x16.2.1, x16.2.2), x17, x18, x19, w64 (x20 + 1))) k ((y7.1, y7.2.1, y7.2.2), y8, y10, y11, y12, ((r14.1.1, r14.1.2), (r14.2.1.1, r14.2.1.2), r14.2.2.1, r14.2.2.2), 0)) fun j32 =>
 bif !r6.2 then
 j32 ((x1.1, x1.2.1, x1.2.2), x2, ((rdD (0, 0, 0) x3 x5).1, (rdD (0, 0, 0) x3 x5).2.1, (rdD (0, 0, 0) x3 x5).2.2), x3, x4, x5, true)
 else
 bif !((decide (r6.1.1 = (rdD (0, 0, 0) x3 x5).1)) && ((decide (r6.1.2.1 = (rdD (0, 0, 0) x3 x5).2.1)) && (decide (r6.1.2.2 = (rdD (0, 0, 0) x3 x5).2.2)))) then
 j32 ((x1.1, x1.2.1, x1.2.2), x2, ((rdD (0, 0, 0) x3 x5).1, (rdD (0, 0, 0) x3 x5).2.1, (rdD (0, 0, 0) x3 x5).2.2), x3, x4, x5, true)
 else
 bif decide (x5 > 0) then
 gd (inb (w64 (x5 - 1)) x1.2.1.length) <|
 bnd (c_fill_byTri ((rdD (0, 0, 0) x1.2.1 (w64 (x5 - 1))).1, (rdD (0, 0, 0) x1.2.1 (w64 (x5 - 1))).2.1, (rdD (0, 0, 0) x1.2.1 (w64 (x5 - 1))).2.2) ((rdD (0, 0, 0) x3 x5).1, (rdD (0, 0, 0) x3 x5).2.1, (rdD (0, 0, 0) x3 x5).2.2)) fun r33 =>
 j32 ((x1.1, x1.2.1, x1.2.2), x2, ((rdD (0, 0, 0) x3 x5).1, (rdD (0, 0, 0) x3 x5).2.1, (rdD (0, 0, 0) x3 x5).2.2), x3, x4, x5, decide (r33 ≥ 0))
 else
 j32 ((x1.1, x1.2.1, x1.2.2), x2, ((rdD (0, 0, 0) x3 x5).1, (rdD (0, 0, 0) x3 x5).2.1, (rdD (0, 0, 0) x3 x5).2.2), x3, x4, x5, false)
 else
 loopN (α := (TMs × ((List (PPt × Bool)) × ((List (PPt × Bool)) × (LPt × PPt))))) (fun (x35, x36, x37, x38, x39, x40) next34 =>
 bif decide (x40 < x39) then
 gd (inb x40 x38.length) <|
 meet (α := (TMs × ((List (PPt × Bool)) × ((List (PPt × Bool)) × (PPt × (LPt × (Int × (Int × Bool)))))))) (fun (y41, y42, y43, y44, y45, y46, y47, y48) =>
 bif y48 then
 some 2
 else
 gd (!(hsM (.pair (.int .i64) (.int .i64)) .bool y43 (y44.1, y44.2))) <|
 next34 ((y41.1, y41.2.1, y41.2.2), y42, adM (.pair (.int .i64) (.int .i64)) .bool y43 (y44.1, y44.2) true, y45, y46, w64 (y47 + 1))) fun j49 =>
 bif decide ((rdD (0, 0) x38 x40).1 ≥ (rdD (0, 0) x38 x40).2) then
 j49 ((x35.1, x35.2.1, x35.2.2), x36, x37, ((rdD (0, 0) x38 x40).1, (rdD (0, 0) x38 x40).2), x38, x39, x40, true)
 else
 bif decide (x40 > 0) then
 gd (inb (w64 (x40 - 1)) x35.2.2.length) <|
 bnd (c_fill_bySeg ((rdD (0, 0) x35.2.2 (w64 (x40 - 1))).1, (rdD (0, 0) x35.2.2 (w64 (x40 - 1))).2) ((rdD (0, 0) x38 x40).1, (rdD (0, 0) x38 x40).2)) fun r50 =>
 bif decide (r50 ≥ 0) then
 j49 ((x35.1, x35.2.1, x35.2.2), x36, x37, ((rdD (0, 0) x38 x40).1, (rdD (0, 0) x38 x40).2), x38, x39, x40, true)
 else
 bif !(toT Bool (lkM (.pair (.int .i64) (.int .i64)) .bool x36 ((rdD (0, 0) x38 x40).1, (rdD (0, 0) x38 x40).2))) then
 j49 ((x35.1, x35.2.1, x35.2.2), x36, x37, ((rdD (0, 0) x38 x40).1, (rdD (0, 0) x38 x40).2), x38, x39, x40, !(toT Bool (lkM (.pair (.int .i64) (.int .i64)) .bool x36 ((rdD (0, 0) x38 x40).2, (rdD (0, 0) x38 x40).1))))
 else
 j49 ((x35.1, x35.2.1, x35.2.2), x36, x37, ((rdD (0, 0) x38 x40).1, (rdD (0, 0) x38 x40).2), x38, x39, x40, false)
 else
 bif !(toT Bool (lkM (.pair (.int .i64) (.int .i64)) .bool x36 ((rdD (0, 0) x38 x40).1, (rdD (0, 0) x38 x40).2))) then
 j49 ((x35.1, x35.2.1, x35.2.2), x36, x37, ((rdD (0, 0) x38 x40).1, (rdD (0, 0) x38 x40).2), x38, x39, x40, !(toT Bool (lkM (.pair (.int .i64) (.int .i64)) .bool x36 ((rdD (0, 0) x38 x40).2, (rdD (0, 0) x38 x40).1))))
 else
 j49 ((x35.1, x35.2.1, x35.2.2), x36, x37, ((rdD (0, 0) x38 x40).1, (rdD (0, 0) x38 x40).2), x38, x39, x40, false)
 else
 loopN (α := ((List (PPt × Bool)) × ((List (PPt × Bool)) × (List (PPt × Bool))))) (fun (x52, x53, x54) next51 =>
 nxt x54 (
 some 0) (fun (e56, e57) r55 =>
 meet (α := ((List (PPt × Bool)) × ((List (PPt × Bool)) × ((List (PPt × Bool)) × Bool)))) (fun (y58, y59, y60, y61) =>
 bif y61 then
 some 2
 else
 next51 (y58, y59, y60)) fun j62 =>
 bif !(toT Bool (lkM (.pair (.int .i64) (.int .i64)) .bool x52 (e56.2, e56.1))) then
 bnd (c_fill_up (e56.1, e56.2)) fun r63 =>
 j62 (x52, x53, r55, !(toT Bool (lkM (.pair (.int .i64) (.int .i64)) .bool x53 (r63.1, r63.2))))
 else
 j62 (x52, x53, r55, false))) k (x36, x37, x36)) k ((x1.1, x1.2.1, x1.2.2), x2, [], x1.2.2, (x1.2.2.length : Int), 0)) k ((a0.1, a0.2.1, a0.2.2), [], a0.2.1, (a0.2.1.length : Int), 0)
theorem eq_fill_Check (k : Nat) (c_fill_Tri : LPt → Int → Int → Int → Option ((Int × PPt) × Bool)) (c_fill_byTri : (Int × PPt) → (Int × PPt) → Option Int) (c_fill_edges : (Int × PPt) → Option (PPt × (PPt × PPt))) (c_fill_bySeg : PPt → PPt → Option Int) (c_fill_up : PPt → Option PPt) (a0 : TMs) : textF [⟨40, [.d kLP, .d kI, .d kI, .d kI], [.pair kI kPP, .bool], fun x => c_fill_Tri (x.1) (x.2.1) (x.2.2.1) (x.2.2.2), none⟩, ⟨57, [.d (.pair kI kPP), .d (.pair kI kPP)], [kI], fun x => c_fill_byTri (x.1) (x.2), none⟩, ⟨60, [.d (.pair kI kPP)], [.pair kPP (.pair kPP kPP)], fun x => c_fill_edges x, none⟩, ⟨49, [.d kPP, .d kPP], [kI], fun x => c_fill_bySeg (x.1) (x.2), none⟩, ⟨61, [.d kPP], [.pair kI kI], fun x => c_fill_up x, none⟩] tb k Tryz.f21 an_fill_Check [.d (.pair kLP (.pair (.sl (.pair kI kPP)) kLP))] [kI] a0 = b_fill_Check k c_fill_Tri c_fill_byTri c_fill_edges c_fill_bySeg c_fill_up a0 := by kernel_rfl
def g_fill_Check (k : Nat) (a0 : TMs) : Option Int := b_fill_Check k (g_fill_Tri k) (g_fill_byTri k) (g_fill_edges k) (g_fill_bySeg k) (g_fill_up k) a0
theorem tells_fill_Check (k : Nat) : TellsF Tryz.prog 21 [.d (.pair kLP (.pair (.sl (.pair kI kPP)) kLP))] [kI] (fun x => g_fill_Check k x) := fun x y h => fun_tells tb_ok mix (EsOk.cons (EntryOk.of rfl (tells_fill_Tri k)) (EsOk.cons (EntryOk.of rfl (tells_fill_byTri k)) (EsOk.cons (EntryOk.of rfl (tells_fill_edges k)) (EsOk.cons (EntryOk.of rfl (tells_fill_bySeg k)) (EsOk.cons (EntryOk.of rfl (tells_fill_up k)) (EsOk.nil _)))))) Tryz.func21 (N := k) (an := an_fill_Check) (by kernel_rfl) x y ((eq_fill_Check k (g_fill_Tri k) (g_fill_byTri k) (g_fill_edges k) (g_fill_bySeg k) (g_fill_up k) x).trans h)

def an_parquetlaw12_known : Ann := .node none none .leaf (.node none none .leaf (.node none none .leaf (.node none none .leaf (.node none none .leaf (.node none none (.node (some [(0, .d .bool)]) none .leaf .leaf) .leaf)))))
def b_parquetlaw12_known (k : Nat) (c_fill_Edges : TPl → Option (LPt × Int)) (c_fill_Make : TPl → Option (TMs × Int)) (c_parquetref05_SameSegs : LPt → LPt → Option Bool) (c_parquetref12_SameTris : LTr → LTr → Option Bool) (c_fill_Check : TMs → Option Int) : Option Bool :=
 bnd (c_fill_Edges ([(0, 0), (4, 0), (4, 4), (0, 4)], [(0, 1), (1, 2), (2, 3), (3, 0)], [])) fun r0 =>
 bnd (c_fill_Make ([(0, 0), (4, 0), (4, 4), (0, 4)], [(0, 1), (1, 2), (2, 3), (3, 0)], [])) fun r1 =>
 bnd (c_fill_Make ([], [], [])) fun r2 =>
 meet (α := Bool) (fun y3 =>
 some y3) fun j4 =>
 bnd (c_parquetref05_SameSegs r0.1 [(0, 1), (0, 2), (0, 3), (1, 2), (2, 3)]) fun r5 =>
 bif r5 then
 bif decide (r0.2 = 0) then
 bnd (c_parquetref12_SameTris r1.1.2.1 [(0, 1, 2), (0, 2, 3)]) fun r6 =>
 bif r6 then
 bif decide (r1.2 = 0) then
 bnd (c_fill_Check (r1.1.1, r1.1.2.1, r1.1.2.2)) fun r7 =>
 bif decide (r7 = 0) then
 j4 (decide (r2.2 = 2))
 else
 j4 false
 else
 j4 false
 else
 j4 false
 else
 j4 false
 else
 j4 false
theorem eq_parquetlaw12_known (k : Nat) (c_fill_Edges : TPl → Option (LPt × Int)) (c_fill_Make : TPl → Option (TMs × Int)) (c_parquetref05_SameSegs : LPt → LPt → Option Bool) (c_parquetref12_SameTris : LTr → LTr → Option Bool) (c_fill_Check : TMs → Option Int) : textF [⟨13, [.d kPl], [.sl kPP, kI], fun x => c_fill_Edges x, none⟩, ⟨15, [.d kPl], [.pair kLP (.pair (.sl (.pair kI kPP)) kLP), kI], fun x => c_fill_Make x, none⟩, ⟨17, [.d kLP, .d kLP], [.bool], fun x => c_parquetref05_SameSegs (x.1) (x.2), none⟩, ⟨44, [.d (.sl (.pair kI kPP)), .d (.sl (.pair kI kPP))], [.bool], fun x => c_parquetref12_SameTris (x.1) (x.2), none⟩, ⟨21, [.d (.pair kLP (.pair (.sl (.pair kI kPP)) kLP))], [kI], fun x => c_fill_Check x, none⟩] tbx k Tryz.f11 an_parquetlaw12_known [] [.bool] () = b_parquetlaw12_known k c_fill_Edges c_fill_Make c_parquetref05_SameSegs c_parquetref12_SameTris c_fill_Check := by kernel_rfl
def g_parquetlaw12_known (k : Nat) : Option Bool := b_parquetlaw12_known k (g_fill_Edges k) (g_fill_Make k) (g_parquetref05_SameSegs k) (g_parquetref12_SameTris k) (g_fill_Check k)
theorem tells_parquetlaw12_known (k : Nat) : TellsF Tryz.prog 11 [] [.bool] (fun x => g_parquetlaw12_known k) := fun x y h => fun_tells tbx_ok mix (EsOk.cons (EntryOk.of rfl (tells_fill_Edges k)) (EsOk.cons (EntryOk.of rfl (tells_fill_Make k)) (EsOk.cons (EntryOk.of rfl (tells_parquetref05_SameSegs k)) (EsOk.cons (EntryOk.of rfl (tells_parquetref12_SameTris k)) (EsOk.cons (EntryOk.of rfl (tells_fill_Check k)) (EsOk.nil _)))))) Tryz.func11 (N := k) (an := an_parquetlaw12_known) (by kernel_rfl) x y ((eq_parquetlaw12_known k (g_fill_Edges k) (g_fill_Make k) (g_parquetref05_SameSegs k) (g_parquetref12_SameTris k) (g_fill_Check k)).trans h)

def an_parquetref03_Fits : Ann := .node none none .leaf (.node none none (.node (some [(2, .d .bool)]) none .leaf .leaf) .leaf)
def g_parquetref03_Fits (k : Nat) (a0 : PPt) : Option Bool :=
 meet (α := Bool) (fun y0 =>
 some y0) fun j1 =>
 bif decide (a0.1 ≥ (-4294967296)) then
 bif decide (a0.1 ≤ 4294967296) then
 bif decide (a0.2 ≥ (-4294967296)) then
 j1 (decide (a0.2 ≤ 4294967296))
 else
 j1 false
 else
 j1 false
 else
 j1 false
theorem eq_parquetref03_Fits (k : Nat) (a0 : PPt) : textF [] tb k Tryz.f72 an_parquetref03_Fits [.d kPP] [.bool] a0 = g_parquetref03_Fits k a0 := by kernel_rfl
theorem tells_parquetref03_Fits (k : Nat) : TellsF Tryz.prog 72 [.d kPP] [.bool] (fun x => g_parquetref03_Fits k x) := fun x y h => fun_tells tb_ok mix (EsOk.nil _) Tryz.func72 (N := k) (an := an_parquetref03_Fits) (by kernel_rfl) x y ((eq_parquetref03_Fits k x).trans h)

def an_parquetref01_trim : Ann := .node none none .leaf (.node none none .leaf (.node none none (.node none none (.node none (some [(0, .d .bool), (1, .d (.sl kI)), (4, .box [.d .bool, .row kI 3]), (5, .d kI)]) (.node none none (.node none none (.node (some [(0, .d .bool), (1, .d (.sl kI)), (4, .box [.d .bool, .row kI 3]), (5, .d kI), (17, .d .bool)]) none .leaf .leaf) .leaf) .leaf) .leaf) .leaf) (.node none none (.node (some [(4, .box [.d (.pair .bool (.sl kI))])]) none .leaf .leaf) .leaf)))
def g_parquetref01_trim (k : Nat) (a0 : Bool) (a1 : (List Int)) : Option (Bool × (List Int)) :=
 loopN (α := (Bool × ((List Int) × ((Bool × (List Int)) × Int)))) (fun (x1, x2, x3, x4) next0 =>
 meet (α := (Bool × ((List Int) × ((Bool × (List Int)) × (Int × Bool))))) (fun (y5, y6, y7, y8, y9) =>
 bif y9 then
 next0 (y5, y6, (y7.1, y7.2), w64 (y8 - 1))
 else
 meet (α := (Bool × (List Int))) (fun (y10, y11) =>
 some (y10, y11)) fun j12 =>
 bif y5 then
 gd (decide (0 ≤ y8)) <|
 gd (decide (y8 ≤ (y6.length : Int))) <|
 j12 (decide (y8 > 0), tkL y6 y8)
 else
 gd (decide (0 ≤ y8)) <|
 gd (decide (y8 ≤ (y6.length : Int))) <|
 j12 (false, tkL y6 y8)) fun j13 =>
 bif decide (x4 > 0) then
 gd (inb (w64 (x4 - 1)) x2.length) <|
 j13 (x1, x2, (x3.1, x3.2), x4, decide ((rdD 0 x2 (w64 (x4 - 1))) = 0))
 else
 j13 (x1, x2, (x3.1, x3.2), x4, false)) k (a0, a1, (false, []), (a1.length : Int))
theorem eq_parquetref01_trim (k : Nat) (a0 : Bool) (a1 : (List Int)) : textF [] tb k Tryz.f98 an_parquetref01_trim [.d .bool, .d (.sl kI)] [.pair .bool (.sl kI)] (a0, a1) = g_parquetref01_trim k a0 a1 := by kernel_rfl
theorem tells_parquetref01_trim (k : Nat) : TellsF Tryz.prog 98 [.d .bool, .d (.sl kI)] [.pair .bool (.sl kI)] (fun x => g_parquetref01_trim k (x.1) (x.2)) := fun x y h => fun_tells tb_ok mix (EsOk.nil _) Tryz.func98 (N := k) (an := an_parquetref01_trim) (by kernel_rfl) x y ((eq_parquetref01_trim k (x.1) (x.2)).trans h)

def an_parquetref01_Small : Ann := .node none none .leaf (.node none none .leaf (.node none none .leaf (.node none none (.node none none (.node none (some [(0, .d kI), (2, .box [.d .bool, .row kI 3]), (3, .row kI 3), (4, .d kI)]) (.node none none .leaf (.node none none (.node none none .leaf (.node none none (.node none none .leaf (.node (some [(0, .d kI), (2, .box [.d .bool, .row kI 3]), (3, .row kI 3), (4, .d kI), (5, .d kI)]) none .leaf .leaf)) .leaf)) .leaf)) .leaf) .leaf) .leaf)))
def b_parquetref01_Small (k : Nat) (c_parquetref01_trim : Bool → (List Int) → Option (Bool × (List Int))) (a0 : Int) : Option (Bool × (List Int)) :=
 loopN (α := (Int × ((Bool × (List Int)) × ((List Int) × Int)))) (fun (x1, x2, x3, x4) next0 =>
 bif !(decide (x4 = 0)) then
 meet (α := (Int × ((Bool × (List Int)) × ((List Int) × PPt)))) (fun (y5, y6, y7, y8, y9) =>
 gd (few (y7.length + 1)) <|
 next0 (y5, (y6.1, y6.2), y7 ++ [y9], w64 (y8.tdiv 65536))) fun j10 =>
 bif decide ((x4.tmod 65536) < 0) then
 j10 (x1, (x2.1, x2.2), x3, x4, w64 (0 - (x4.tmod 65536)))
 else
 j10 (x1, (x2.1, x2.2), x3, x4, x4.tmod 65536)
 else
 bnd (c_parquetref01_trim (decide (x1 < 0)) x3) fun r11 =>
 some (r11.1, r11.2)) k (a0, (false, []), [], a0)
theorem eq_parquetref01_Small (k : Nat) (c_parquetref01_trim : Bool → (List Int) → Option (Bool × (List Int))) (a0 : Int) : textF [⟨98, [.d .bool, .d (.sl kI)], [.pair .bool (.sl kI)], fun x => c_parquetref01_trim (x.1) (x.2), none⟩] tb k Tryz.f102 an_parquetref01_Small [.d kI] [.pair .bool (.sl kI)] a0 = b_parquetref01_Small k c_parquetref01_trim a0 := by kernel_rfl
def g_parquetref01_Small (k : Nat) (a0 : Int) : Option (Bool × (List Int)) := b_parquetref01_Small k (g_parquetref01_trim k) a0
theorem tells_parquetref01_Small (k : Nat) : TellsF Tryz.prog 102 [.d kI] [.pair .bool (.sl kI)] (fun x => g_parquetref01_Small k x) := fun x y h => fun_tells tb_ok mix (EsOk.cons (EntryOk.of rfl (tells_parquetref01_trim k)) (EsOk.nil _)) Tryz.func102 (N := k) (an := an_parquetref01_Small) (by kernel_rfl) x y ((eq_parquetref01_Small k (g_parquetref01_trim k) x).trans h)

def an_parquetref03_num : Ann := .leaf
def b_parquetref03_num (k : Nat) (c_parquetref01_Small : Int → Option (Bool × (List Int))) (a0 : Int) : Option (Bool × (List Int)) :=
 bnd (c_parquetref01_Small a0) fun r0 =>
 some (r0.1, r0.2)
theorem eq_parquetref03_num (k : Nat) (c_parquetref01_Small : Int → Option (Bool × (List Int))) (a0 : Int) : textF [⟨102, [.d kI], [.pair .bool (.sl kI)], fun x => c_parquetref01_Small x, none⟩] tb k Tryz.f101 an_parquetref03_num [.d kI] [.pair .bool (.sl kI)] a0 = b_parquetref03_num k c_parquetref01_Small a0 := by kernel_rfl
def g_parquetref03_num (k : Nat) (a0 : Int) : Option (Bool × (List Int)) := b_parquetref03_num k (g_parquetref01_Small k) a0
theorem tells_parquetref03_num (k : Nat) : TellsF Tryz.prog 101 [.d kI] [.pair .bool (.sl kI)] (fun x => g_parquetref03_num k x) := fun x y h => fun_tells tb_ok mix (EsOk.cons (EntryOk.of rfl (tells_parquetref01_Small k)) (EsOk.nil _)) Tryz.func101 (N := k) (an := an_parquetref03_num) (by kernel_rfl) x y ((eq_parquetref03_num k (g_parquetref01_Small k) x).trans h)

def an_parquetref01_digit : Ann := .leaf
def g_parquetref01_digit (k : Nat) (a0 : (List Int)) (a1 : Int) : Option Int :=
 bif decide (a1 < (a0.length : Int)) then
 gd (inb a1 a0.length) <|
 some (rdD 0 a0 a1)
 else
 some 0
theorem eq_parquetref01_digit (k : Nat) (a0 : (List Int)) (a1 : Int) : textF [] tb k Tryz.f97 an_parquetref01_digit [.d (.sl kI), .d kI] [kI] (a0, a1) = g_parquetref01_digit k a0 a1 := by kernel_rfl
theorem tells_parquetref01_digit (k : Nat) : TellsF Tryz.prog 97 [.d (.sl kI), .d kI] [kI] (fun x => g_parquetref01_digit k (x.1) (x.2)) := fun x y h => fun_tells tb_ok mix (EsOk.nil _) Tryz.func97 (N := k) (an := an_parquetref01_digit) (by kernel_rfl) x y ((eq_parquetref01_digit k (x.1) (x.2)).trans h)

def an_parquetref01_Num_Times : Ann := .node none none .leaf (.node none none .leaf (.node none none (.node none none .leaf (.node none none (.node none (some [(2, .box [.d (.pair .bool (.sl kI))]), (3, .box [.d (.pair .bool (.sl kI))]), (4, .box [.d .bool, .row kI 3]), (5, .row kI 3), (6, .d kI)]) (.node none none .leaf (.node none none (.node none none (.node none none .leaf (.node none none .leaf (.node none none (.node none (some [(2, .box [.d (.pair .bool (.sl kI))]), (3, .box [.d (.pair .bool (.sl kI))]), (4, .box [.d .bool, .row kI 3]), (5, .row kI 3), (6, .d kI), (7, .d kI), (8, .d kI)]) (.node none none (.node none none (.node (some [(2, .box [.d (.pair .bool (.sl kI))]), (3, .box [.d (.pair .bool (.sl kI))]), (4, .box [.d .bool, .row kI 3]), (5, .row kI 3), (6, .d kI), (7, .d kI), (8, .d kI), (34, .d .bool)]) none .leaf .leaf) .leaf) .leaf) .leaf) .leaf))) .leaf) .leaf)) .leaf) .leaf)) .leaf))
def b_parquetref01_Num_Times (k : Nat) (c_parquetref01_digit : (List Int) → Int → Option Int) (c_parquetref01_trim : Bool → (List Int) → Option (Bool × (List Int))) (a0 : (Bool × (List Int))) (a1 : (Bool × (List Int))) : Option (Bool × (List Int)) :=
 gd (decide (0 ≤ (w64 ((w64 ((a0.2.length : Int) + (a1.2.length : Int))) + 1)))) <|
 gd (fewI (w64 ((w64 ((a0.2.length : Int) + (a1.2.length : Int))) + 1))) <|
 loopN (α := ((Bool × (List Int)) × ((Bool × (List Int)) × ((Bool × (List Int)) × ((List Int) × Int))))) (fun (x1, x2, x3, x4, x5) next0 =>
 bif decide (x5 < (x1.2.length : Int)) then
 loopN (α := ((Bool × (List Int)) × ((Bool × (List Int)) × ((Bool × (List Int)) × ((List Int) × (Int × PPt)))))) (fun (x7, x8, x9, x10, x11, x12, x13) next6 =>
 meet (α := ((Bool × (List Int)) × ((Bool × (List Int)) × ((Bool × (List Int)) × ((List Int) × (Int × (Int × (Int × Bool)))))))) (fun (y14, y15, y16, y17, y18, y19, y20, y21) =>
 bif y21 then
 gd (inb (w64 (y18 + y20)) y17.length) <|
 gd (inb y18 y14.2.length) <|
 bnd (c_parquetref01_digit y15.2 y20) fun r22 =>
 gd (inb (w64 (y18 + y20)) y17.length) <|
 next6 ((y14.1, y14.2), (y15.1, y15.2), (y16.1, y16.2), stL y17 (w64 (y18 + y20)) ((w64 ((w64 ((rdD 0 y17 (w64 (y18 + y20))) + (w64 ((rdD 0 y14.2 y18) * r22)))) + y19)).tmod 65536), y18, w64 ((w64 ((w64 ((rdD 0 y17 (w64 (y18 + y20))) + (w64 ((rdD 0 y14.2 y18) * r22)))) + y19)).tdiv 65536), w64 (y20 + 1))
 else
 next0 ((y14.1, y14.2), (y15.1, y15.2), (y16.1, y16.2), y17, w64 (y18 + 1))) fun j23 =>
 bif decide (x13 < (x8.2.length : Int)) then
 j23 ((x7.1, x7.2), (x8.1, x8.2), (x9.1, x9.2), x10, x11, x12, x13, true)
 else
 j23 ((x7.1, x7.2), (x8.1, x8.2), (x9.1, x9.2), x10, x11, x12, x13, decide (x12 > 0))) k ((x1.1, x1.2), (x2.1, x2.2), (x3.1, x3.2), x4, x5, 0, 0)
 else
 bnd (c_parquetref01_trim (!(x1.1 == x2.1)) x4) fun r24 =>
 some (r24.1, r24.2)) k ((a0.1, a0.2), (a1.1, a1.2), (false, []), rpL (w64 ((w64 ((a0.2.length : Int) + (a1.2.length : Int))) + 1)) 0, 0)
theorem eq_parquetref01_Num_Times (k : Nat) (c_parquetref01_digit : (List Int) → Int → Option Int) (c_parquetref01_trim : Bool → (List Int) → Option (Bool × (List Int))) (a0 : (Bool × (List Int))) (a1 : (Bool × (List Int))) : textF [⟨97, [.d (.sl kI), .d kI], [kI], fun x => c_parquetref01_digit (x.1) (x.2), none⟩, ⟨98, [.d .bool, .d (.sl kI)], [.pair .bool (.sl kI)], fun x => c_parquetref01_trim (x.1) (x.2), none⟩] tb k Tryz.f103 an_parquetref01_Num_Times [.d (.pair .bool (.sl kI)), .d (.pair .bool (.sl kI))] [.pair .bool (.sl kI)] (a0, a1) = b_parquetref01_Num_Times k c_parquetref01_digit c_parquetref01_trim a0 a1 := by kernel_rfl
def g_parquetref01_Num_Times (k : Nat) (a0 : (Bool × (List Int))) (a1 : (Bool × (List Int))) : Option (Bool × (List Int)) := b_parquetref01_Num_Times k (g_parquetref01_digit k) (g_parquetref01_trim k) a0 a1
theorem tells_parquetref01_Num_Times (k : Nat) : TellsF Tryz.prog 103 [.d (.pair .bool (.sl kI)), .d (.pair .bool (.sl kI))] [.pair .bool (.sl kI)] (fun x => g_parquetref01_Num_Times k (x.1) (x.2)) := fun x y h => fun_tells tb_ok mix (EsOk.cons (EntryOk.of rfl (tells_parquetref01_digit k)) (EsOk.cons (EntryOk.of rfl (tells_parquetref01_trim k)) (EsOk.nil _))) Tryz.func103 (N := k) (an := an_parquetref01_Num_Times) (by kernel_rfl) x y ((eq_parquetref01_Num_Times k (g_parquetref01_digit k) (g_parquetref01_trim k) (x.1) (x.2)).trans h)

def an_parquetref01_Num_Neg : Ann := .node none none .leaf (.node none none (.node (some [(2, .box [.d (.pair .bool (.sl kI))])]) none .leaf .leaf) .leaf)
def g_parquetref01_Num_Neg (k : Nat) (a0 : (Bool × (List Int))) : Option (Bool × (List Int)) :=
 meet (α := (Bool × (List Int))) (fun (y0, y1) =>
 some (y0, y1)) fun j2 =>
 bif !a0.1 then
 j2 (decide ((a0.2.length : Int) > 0), a0.2)
 else
 j2 (false, a0.2)
theorem eq_parquetref01_Num_Neg (k : Nat) (a0 : (Bool × (List Int))) : textF [] tb k Tryz.f66 an_parquetref01_Num_Neg [.d (.pair .bool (.sl kI))] [.pair .bool (.sl kI)] a0 = g_parquetref01_Num_Neg k a0 := by kernel_rfl
theorem tells_parquetref01_Num_Neg (k : Nat) : TellsF Tryz.prog 66 [.d (.pair .bool (.sl kI))] [.pair .bool (.sl kI)] (fun x => g_parquetref01_Num_Neg k x) := fun x y h => fun_tells tb_ok mix (EsOk.nil _) Tryz.func66 (N := k) (an := an_parquetref01_Num_Neg) (by kernel_rfl) x y ((eq_parquetref01_Num_Neg k x).trans h)

def an_parquetref01_size : Ann := .node none none .leaf (.node none none .leaf (.node none none (.node none none .leaf (.node none none (.node none (some [(0, .d (.sl kI)), (1, .d (.sl kI)), (5, .d kI)]) .leaf .leaf) .leaf)) .leaf))
def g_parquetref01_size (k : Nat) (a0 : (List Int)) (a1 : (List Int)) : Option Int :=
 bif !(decide ((a0.length : Int) = (a1.length : Int))) then
 some (w64 ((a0.length : Int) - (a1.length : Int)))
 else
 loopN (α := ((List Int) × ((List Int) × Int))) (fun (x1, x2, x3) next0 =>
 bif decide (x3 ≥ 0) then
 gd (inb x3 x1.length) <|
 gd (inb x3 x2.length) <|
 bif !(decide ((rdD 0 x1 x3) = (rdD 0 x2 x3))) then
 gd (inb x3 x1.length) <|
 gd (inb x3 x2.length) <|
 some (w64 ((rdD 0 x1 x3) - (rdD 0 x2 x3)))
 else
 next0 (x1, x2, w64 (x3 - 1))
 else
 some 0) k (a0, a1, w64 ((a0.length : Int) - 1))
theorem eq_parquetref01_size (k : Nat) (a0 : (List Int)) (a1 : (List Int)) : textF [] tb k Tryz.f99 an_parquetref01_size [.d (.sl kI), .d (.sl kI)] [kI] (a0, a1) = g_parquetref01_size k a0 a1 := by kernel_rfl
theorem tells_parquetref01_size (k : Nat) : TellsF Tryz.prog 99 [.d (.sl kI), .d (.sl kI)] [kI] (fun x => g_parquetref01_size k (x.1) (x.2)) := fun x y h => fun_tells tb_ok mix (EsOk.nil _) Tryz.func99 (N := k) (an := an_parquetref01_size) (by kernel_rfl) x y ((eq_parquetref01_size k (x.1) (x.2)).trans h)

def an_parquetref01_Num_Plus : Ann := .node none none .leaf (.node none none .leaf (.node none none .leaf (.node none none (.node none none .leaf (.node none none (.node none none (.node none none .leaf (.node none none (.node none (some [(2, .box [.d (.pair .bool (.sl kI))]), (3, .box [.d (.pair .bool (.sl kI))]), (4, .box [.d .bool, .row kI 3]), (5, .row kI 3), (6, .d kI), (7, .d kI)]) (.node none none (.node none none (.node (some [(2, .box [.d (.pair .bool (.sl kI))]), (3, .box [.d (.pair .bool (.sl kI))]), (4, .box [.d .bool, .row kI 3]), (5, .row kI 3), (6, .d kI), (7, .d kI), (33, .d .bool)]) none .leaf .leaf) .leaf) .leaf) .leaf) .leaf)) .leaf) .leaf)) (.node none none .leaf (.node none none .leaf (.node none none (.node none none .leaf (.node (some [(4, .box [.d .bool, .row kI 3]), (5, .row kI 3), (6, .d kI), (9, .box [.d (.pair .bool (.sl kI))]), (10, .box [.d (.pair .bool (.sl kI))])]) none .leaf .leaf)) (.node none none (.node none none .leaf (.node none none (.node none (some [(4, .box [.d .bool, .row kI 3]), (5, .row kI 3), (6, .d kI), (9, .box [.d (.pair .bool (.sl kI))]), (10, .box [.d (.pair .bool (.sl kI))]), (11, .d kI)]) (.node none none .leaf (.node none none (.node none none (.node none none .leaf (.node none none .leaf (.node none none (.node none none .leaf (.node (some [(4, .box [.d .bool, .row kI 3]), (5, .row kI 3), (6, .d kI), (9, .box [.d (.pair .bool (.sl kI))]), (10, .box [.d (.pair .bool (.sl kI))]), (11, .d kI), (12, .d kI)]) none .leaf .leaf)) .leaf))) .leaf) .leaf)) .leaf) .leaf)) .leaf)))))))
def b_parquetref01_Num_Plus (k : Nat) (c_parquetref01_digit : (List Int) → Int → Option Int) (c_parquetref01_trim : Bool → (List Int) → Option (Bool × (List Int))) (c_parquetref01_size : (List Int) → (List Int) → Option Int) (a0 : (Bool × (List Int))) (a1 : (Bool × (List Int))) : Option (Bool × (List Int)) :=
 bif a0.1 == a1.1 then
 loopN (α := ((Bool × (List Int)) × ((Bool × (List Int)) × ((Bool × (List Int)) × ((List Int) × PPt))))) (fun (x1, x2, x3, x4, x5, x6) next0 =>
 meet (α := ((Bool × (List Int)) × ((Bool × (List Int)) × ((Bool × (List Int)) × ((List Int) × (Int × (Int × Bool))))))) (fun (y7, y8, y9, y10, y11, y12, y13) =>
 bif y13 then
 bnd (c_parquetref01_digit y7.2 y12) fun r14 =>
 bnd (c_parquetref01_digit y8.2 y12) fun r15 =>
 gd (few (y10.length + 1)) <|
 next0 ((y7.1, y7.2), (y8.1, y8.2), (y9.1, y9.2), y10 ++ [(w64 ((w64 (r14 + r15)) + y11)).tmod 65536], w64 ((w64 ((w64 (r14 + r15)) + y11)).tdiv 65536), w64 (y12 + 1))
 else
 bnd (c_parquetref01_trim y7.1 y10) fun r16 =>
 some (r16.1, r16.2)) fun j17 =>
 bif decide (x6 < (x1.2.length : Int)) then
 j17 ((x1.1, x1.2), (x2.1, x2.2), (x3.1, x3.2), x4, x5, x6, true)
 else
 bif decide (x6 < (x2.2.length : Int)) then
 j17 ((x1.1, x1.2), (x2.1, x2.2), (x3.1, x3.2), x4, x5, x6, true)
 else
 j17 ((x1.1, x1.2), (x2.1, x2.2), (x3.1, x3.2), x4, x5, x6, decide (x5 > 0))) k ((a0.1, a0.2), (a1.1, a1.2), (false, []), [], 0, 0)
 else
 bnd (c_parquetref01_size a0.2 a1.2) fun r18 =>
 meet (α := ((Bool × (List Int)) × ((List Int) × (Int × ((Bool × (List Int)) × (Bool × (List Int))))))) (fun (y19, y20, y21, y22, y23, y24) =>
 loopN (α := ((Bool × (List Int)) × ((List Int) × (Int × ((Bool × (List Int)) × ((Bool × (List Int)) × Int)))))) (fun (x26, x27, x28, x29, x30, x31) next25 =>
 bif decide (x31 < (x29.2.length : Int)) then
 gd (inb x31 x29.2.length) <|
 bnd (c_parquetref01_digit x30.2 x31) fun r32 =>
 meet (α := ((Bool × (List Int)) × ((List Int) × (Int × ((Bool × (List Int)) × ((Bool × (List Int)) × PPt)))))) (fun (y33, y34, y35, y36, y37, y38, y39) =>
 gd (few (y34.length + 1)) <|
 next25 ((y33.1, y33.2), y34 ++ [y39], y35, (y36.1, y36.2), (y37.1, y37.2), w64 (y38 + 1))) fun j40 =>
 bif decide ((w64 ((w64 ((rdD 0 x29.2 x31) - r32)) - x28)) < 0) then
 j40 ((x26.1, x26.2), x27, 1, (x29.1, x29.2), (x30.1, x30.2), x31, w64 ((w64 ((w64 ((rdD 0 x29.2 x31) - r32)) - x28)) + 65536))
 else
 j40 ((x26.1, x26.2), x27, 0, (x29.1, x29.2), (x30.1, x30.2), x31, w64 ((w64 ((rdD 0 x29.2 x31) - r32)) - x28))
 else
 bnd (c_parquetref01_trim x29.1 x27) fun r41 =>
 some (r41.1, r41.2)) k ((y19.1, y19.2), y20, y21, (y22.1, y22.2), (y23, y24), 0)) fun j42 =>
 bif decide (r18 < 0) then
 j42 ((false, []), [], 0, (a1.1, a1.2), a0.1, a0.2)
 else
 j42 ((false, []), [], 0, (a0.1, a0.2), a1.1, a1.2)
theorem eq_parquetref01_Num_Plus (k : Nat) (c_parquetref01_digit : (List Int) → Int → Option Int) (c_parquetref01_trim : Bool → (List Int) → Option (Bool × (List Int))) (c_parquetref01_size : (List Int) → (List Int) → Option Int) (a0 : (Bool × (List Int))) (a1 : (Bool × (List Int))) : textF [⟨97, [.d (.sl kI), .d kI], [kI], fun x => c_parquetref01_digit (x.1) (x.2), none⟩, ⟨98, [.d .bool, .d (.sl kI)], [.pair .bool (.sl kI)], fun x => c_parquetref01_trim (x.1) (x.2), none⟩, ⟨99, [.d (.sl kI), .d (.sl kI)], [kI], fun x => c_parquetref01_size (x.1) (x.2), none⟩] tb k Tryz.f64 an_parquetref01_Num_Plus [.d (.pair .bool (.sl kI)), .d (.pair .bool (.sl kI))] [.pair .bool (.sl kI)] (a0, a1) = b_parquetref01_Num_Plus k c_parquetref01_digit c_parquetref01_trim c_parquetref01_size a0 a1 := by kernel_rfl
def g_parquetref01_Num_Plus (k : Nat) (a0 : (Bool × (List Int))) (a1 : (Bool × (List Int))) : Option (Bool × (List Int)) := b_parquetref01_Num_Plus k (g_parquetref01_digit k) (g_parquetref01_trim k) (g_parquetref01_size k) a0 a1
theorem tells_parquetref01_Num_Plus (k : Nat) : TellsF Tryz.prog 64 [.d (.pair .bool (.sl kI)), .d (.pair .bool (.sl kI))] [.pair .bool (.sl kI)] (fun x => g_parquetref01_Num_Plus k (x.1) (x.2)) := fun x y h => fun_tells tb_ok mix (EsOk.cons (EntryOk.of rfl (tells_parquetref01_digit k)) (EsOk.cons (EntryOk.of rfl (tells_parquetref01_trim k)) (EsOk.cons (EntryOk.of rfl (tells_parquetref01_size k)) (EsOk.nil _)))) Tryz.func64 (N := k) (an := an_parquetref01_Num_Plus) (by kernel_rfl) x y ((eq_parquetref01_Num_Plus k (g_parquetref01_digit k) (g_parquetref01_trim k) (g_parquetref01_size k) (x.1) (x.2)).trans h)

def an_parquetref03_minus : Ann := .leaf
def b_parquetref03_minus (k : Nat) (c_parquetref01_Num_Neg : (Bool × (List Int)) → Option (Bool × (List Int))) (c_parquetref01_Num_Plus : (Bool × (List Int)) → (Bool × (List Int)) → Option (Bool × (List Int))) (a0 : (Bool × (List Int))) (a1 : (Bool × (List Int))) : Option (Bool × (List Int)) :=
 bnd (c_parquetref01_Num_Neg (a1.1, a1.2)) fun r0 =>
 bnd (c_parquetref01_Num_Plus (a0.1, a0.2) (r0.1, r0.2)) fun r1 =>
 some (r1.1, r1.2)
theorem eq_parquetref03_minus (k : Nat) (c_parquetref01_Num_Neg : (Bool × (List Int)) → Option (Bool × (List Int))) (c_parquetref01_Num_Plus : (Bool × (List Int)) → (Bool × (List Int)) → Option (Bool × (List Int))) (a0 : (Bool × (List Int))) (a1 : (Bool × (List Int))) : textF [⟨66, [.d (.pair .bool (.sl kI))], [.pair .bool (.sl kI)], fun x => c_parquetref01_Num_Neg x, none⟩, ⟨64, [.d (.pair .bool (.sl kI)), .d (.pair .bool (.sl kI))], [.pair .bool (.sl kI)], fun x => c_parquetref01_Num_Plus (x.1) (x.2), none⟩] tb k Tryz.f143 an_parquetref03_minus [.d (.pair .bool (.sl kI)), .d (.pair .bool (.sl kI))] [.pair .bool (.sl kI)] (a0, a1) = b_parquetref03_minus k c_parquetref01_Num_Neg c_parquetref01_Num_Plus a0 a1 := by kernel_rfl
def g_parquetref03_minus (k : Nat) (a0 : (Bool × (List Int))) (a1 : (Bool × (List Int))) : Option (Bool × (List Int)) := b_parquetref03_minus k (g_parquetref01_Num_Neg k) (g_parquetref01_Num_Plus k) a0 a1
theorem tells_parquetref03_minus (k : Nat) : TellsF Tryz.prog 143 [.d (.pair .bool (.sl kI)), .d (.pair .bool (.sl kI))] [.pair .bool (.sl kI)] (fun x => g_parquetref03_minus k (x.1) (x.2)) := fun x y h => fun_tells tb_ok mix (EsOk.cons (EntryOk.of rfl (tells_parquetref01_Num_Neg k)) (EsOk.cons (EntryOk.of rfl (tells_parquetref01_Num_Plus k)) (EsOk.nil _))) Tryz.func143 (N := k) (an := an_parquetref03_minus) (by kernel_rfl) x y ((eq_parquetref03_minus k (g_parquetref01_Num_Neg k) (g_parquetref01_Num_Plus k) (x.1) (x.2)).trans h)

def an_parquetref03_Det : Ann := .leaf
def b_parquetref03_Det (k : Nat) (c_parquetref01_Num_Times : (Bool × (List Int)) → (Bool × (List Int)) → Option (Bool × (List Int))) (c_parquetref03_minus : (Bool × (List Int)) → (Bool × (List Int)) → Option (Bool × (List Int))) (a0 : (Bool × (List Int))) (a1 : (Bool × (List Int))) (a2 : (Bool × (List Int))) (a3 : (Bool × (List Int))) : Option (Bool × (List Int)) :=
 bnd (c_parquetref01_Num_Times (a0.1, a0.2) (a3.1, a3.2)) fun r0 =>
 bnd (c_parquetref01_Num_Times (a1.1, a1.2) (a2.1, a2.2)) fun r1 =>
 bnd (c_parquetref03_minus (r0.1, r0.2) (r1.1, r1.2)) fun r2 =>
 some (r2.1, r2.2)
theorem eq_parquetref03_Det (k : Nat) (c_parquetref01_Num_Times : (Bool × (List Int)) → (Bool × (List Int)) → Option (Bool × (List Int))) (c_parquetref03_minus : (Bool × (List Int)) → (Bool × (List Int)) → Option (Bool × (List Int))) (a0 : (Bool × (List Int))) (a1 : (Bool × (List Int))) (a2 : (Bool × (List Int))) (a3 : (Bool × (List Int))) : textF [⟨103, [.d (.pair .bool (.sl kI)), .d (.pair .bool (.sl kI))], [.pair .bool (.sl kI)], fun x => c_parquetref01_Num_Times (x.1) (x.2), none⟩, ⟨143, [.d (.pair .bool (.sl kI)), .d (.pair .bool (.sl kI))], [.pair .bool (.sl kI)], fun x => c_parquetref03_minus (x.1) (x.2), none⟩] tb k Tryz.f100 an_parquetref03_Det [.d (.pair .bool (.sl kI)), .d (.pair .bool (.sl kI)), .d (.pair .bool (.sl kI)), .d (.pair .bool (.sl kI))] [.pair .bool (.sl kI)] (a0, a1, a2, a3) = b_parquetref03_Det k c_parquetref01_Num_Times c_parquetref03_minus a0 a1 a2 a3 := by kernel_rfl
def g_parquetref03_Det (k : Nat) (a0 : (Bool × (List Int))) (a1 : (Bool × (List Int))) (a2 : (Bool × (List Int))) (a3 : (Bool × (List Int))) : Option (Bool × (List Int)) := b_parquetref03_Det k (g_parquetref01_Num_Times k) (g_parquetref03_minus k) a0 a1 a2 a3
theorem tells_parquetref03_Det (k : Nat) : TellsF Tryz.prog 100 [.d (.pair .bool (.sl kI)), .d (.pair .bool (.sl kI)), .d (.pair .bool (.sl kI)), .d (.pair .bool (.sl kI))] [.pair .bool (.sl kI)] (fun x => g_parquetref03_Det k (x.1) (x.2.1) (x.2.2.1) (x.2.2.2)) := fun x y h => fun_tells tb_ok mix (EsOk.cons (EntryOk.of rfl (tells_parquetref01_Num_Times k)) (EsOk.cons (EntryOk.of rfl (tells_parquetref03_minus k)) (EsOk.nil _))) Tryz.func100 (N := k) (an := an_parquetref03_Det) (by kernel_rfl) x y ((eq_parquetref03_Det k (g_parquetref01_Num_Times k) (g_parquetref03_minus k) (x.1) (x.2.1) (x.2.2.1) (x.2.2.2)).trans h)

def an_parquetref03_Area : Ann := .leaf
def b_parquetref03_Area (k : Nat) (c_parquetref03_num : Int → Option (Bool × (List Int))) (c_parquetref03_Det : (Bool × (List Int)) → (Bool × (List Int)) → (Bool × (List Int)) → (Bool × (List Int)) → Option (Bool × (List Int))) (c_parquetref01_Num_Plus : (Bool × (List Int)) → (Bool × (List Int)) → Option (Bool × (List Int))) (a0 : PPt) (a1 : PPt) (a2 : PPt) : Option (Bool × (List Int)) :=
 bnd (c_parquetref03_num a0.1) fun r0 =>
 bnd (c_parquetref03_num a0.2) fun r1 =>
 bnd (c_parquetref03_num a1.1) fun r2 =>
 bnd (c_parquetref03_num a1.2) fun r3 =>
 bnd (c_parquetref03_Det (r0.1, r0.2) (r1.1, r1.2) (r2.1, r2.2) (r3.1, r3.2)) fun r4 =>
 bnd (c_parquetref03_num a1.1) fun r5 =>
 bnd (c_parquetref03_num a1.2) fun r6 =>
 bnd (c_parquetref03_num a2.1) fun r7 =>
 bnd (c_parquetref03_num a2.2) fun r8 =>
 bnd (c_parquetref03_Det (r5.1, r5.2) (r6.1, r6.2) (r7.1, r7.2) (r8.1, r8.2)) fun r9 =>
 bnd (c_parquetref01_Num_Plus (r4.1, r4.2) (r9.1, r9.2)) fun r10 =>
 bnd (c_parquetref03_num a2.1) fun r11 =>
 bnd (c_parquetref03_num a2.2) fun r12 =>
 bnd (c_parquetref03_num a0.1) fun r13 =>
 bnd (c_parquetref03_num a0.2) fun r14 =>
 bnd (c_parquetref03_Det (r11.1, r11.2) (r12.1, r12.2) (r13.1, r13.2) (r14.1, r14.2)) fun r15 =>
 bnd (c_parquetref01_Num_Plus (r10.1, r10.2) (r15.1, r15.2)) fun r16 =>
 some (r16.1, r16.2)
theorem eq_parquetref03_Area (k : Nat) (c_parquetref03_num : Int → Option (Bool × (List Int))) (c_parquetref03_Det : (Bool × (List Int)) → (Bool × (List Int)) → (Bool × (List Int)) → (Bool × (List Int)) → Option (Bool × (List Int))) (c_parquetref01_Num_Plus : (Bool × (List Int)) → (Bool × (List Int)) → Option (Bool × (List Int))) (a0 : PPt) (a1 : PPt) (a2 : PPt) : textF [⟨101, [.d kI], [.pair .bool (.sl kI)], fun x => c_parquetref03_num x, none⟩, ⟨100, [.d (.pair .bool (.sl kI)), .d (.pair .bool (.sl kI)), .d (.pair .bool (.sl kI)), .d (.pair .bool (.sl kI))], [.pair .bool (.sl kI)], fun x => c_parquetref03_Det (x.1) (x.2.1) (x.2.2.1) (x.2.2.2), none⟩, ⟨64, [.d (.pair .bool (.sl kI)), .d (.pair .bool (.sl kI))], [.pair .bool (.sl kI)], fun x => c_parquetref01_Num_Plus (x.1) (x.2), none⟩] tb k Tryz.f65 an_parquetref03_Area [.d kPP, .d kPP, .d kPP] [.pair .bool (.sl kI)] (a0, a1, a2) = b_parquetref03_Area k c_parquetref03_num c_parquetref03_Det c_parquetref01_Num_Plus a0 a1 a2 := by kernel_rfl
def g_parquetref03_Area (k : Nat) (a0 : PPt) (a1 : PPt) (a2 : PPt) : Option (Bool × (List Int)) := b_parquetref03_Area k (g_parquetref03_num k) (g_parquetref03_Det k) (g_parquetref01_Num_Plus k) a0 a1 a2
theorem tells_parquetref03_Area (k : Nat) : TellsF Tryz.prog 65 [.d kPP, .d kPP, .d kPP] [.pair .bool (.sl kI)] (fun x => g_parquetref03_Area k (x.1) (x.2.1) (x.2.2)) := fun x y h => fun_tells tb_ok mix (EsOk.cons (EntryOk.of rfl (tells_parquetref03_num k)) (EsOk.cons (EntryOk.of rfl (tells_parquetref03_Det k)) (EsOk.cons (EntryOk.of rfl (tells_parquetref01_Num_Plus k)) (EsOk.nil _)))) Tryz.func65 (N := k) (an := an_parquetref03_Area) (by kernel_rfl) x y ((eq_parquetref03_Area k (g_parquetref03_num k) (g_parquetref03_Det k) (g_parquetref01_Num_Plus k) (x.1) (x.2.1) (x.2.2)).trans h)

def an_parquetref01_Num_Sign : Ann := .leaf
def g_parquetref01_Num_Sign (k : Nat) (a0 : (Bool × (List Int))) : Option Int :=
 bif decide ((a0.2.length : Int) = 0) then
 some 0
 else
 bif a0.1 then
 some (-1)
 else
 some 1
theorem eq_parquetref01_Num_Sign (k : Nat) (a0 : (Bool × (List Int))) : textF [] tb k Tryz.f67 an_parquetref01_Num_Sign [.d (.pair .bool (.sl kI))] [kI] a0 = g_parquetref01_Num_Sign k a0 := by kernel_rfl
theorem tells_parquetref01_Num_Sign (k : Nat) : TellsF Tryz.prog 67 [.d (.pair .bool (.sl kI))] [kI] (fun x => g_parquetref01_Num_Sign k x) := fun x y h => fun_tells tb_ok mix (EsOk.nil _) Tryz.func67 (N := k) (an := an_parquetref01_Num_Sign) (by kernel_rfl) x y ((eq_parquetref01_Num_Sign k x).trans h)

def an_parquetref03_Orient : Ann := .node none none .leaf (.node none none (.node none none (.node (some [(3, .box [.d kPP]), (4, .box [.d kPP]), (5, .box [.d kPP]), (19, .d .bool)]) none .leaf .leaf) .leaf) .leaf)
def b_parquetref03_Orient (k : Nat) (c_parquetref03_Fits : PPt → Option Bool) (c_parquetref03_Area : PPt → PPt → PPt → Option (Bool × (List Int))) (c_parquetref01_Num_Sign : (Bool × (List Int)) → Option Int) (a0 : PPt) (a1 : PPt) (a2 : PPt) : Option Int :=
 meet (α := (PPt × (PPt × (PPt × Bool)))) (fun (y0, y1, y2, y3) =>
 bif y3 then
 some 0
 else
 bnd (c_parquetref03_Area (y0.1, y0.2) (y1.1, y1.2) (y2.1, y2.2)) fun r4 =>
 bnd (c_parquetref01_Num_Sign (r4.1, r4.2)) fun r5 =>
 some r5) fun j6 =>
 bnd (c_parquetref03_Fits (a0.1, a0.2)) fun r7 =>
 bif !r7 then
 j6 ((a0.1, a0.2), (a1.1, a1.2), (a2.1, a2.2), true)
 else
 bnd (c_parquetref03_Fits (a1.1, a1.2)) fun r8 =>
 bif !r8 then
 j6 ((a0.1, a0.2), (a1.1, a1.2), (a2.1, a2.2), true)
 else
 bnd (c_parquetref03_Fits (a2.1, a2.2)) fun r9 =>
 j6 ((a0.1, a0.2), (a1.1, a1.2), (a2.1, a2.2), !r9)
theorem eq_parquetref03_Orient (k : Nat) (c_parquetref03_Fits : PPt → Option Bool) (c_parquetref03_Area : PPt → PPt → PPt → Option (Bool × (List Int))) (c_parquetref01_Num_Sign : (Bool × (List Int)) → Option Int) (a0 : PPt) (a1 : PPt) (a2 : PPt) : textF [⟨72, [.d kPP], [.bool], fun x => c_parquetref03_Fits x, none⟩, ⟨65, [.d kPP, .d kPP, .d kPP], [.pair .bool (.sl kI)], fun x => c_parquetref03_Area (x.1) (x.2.1) (x.2.2), none⟩, ⟨67, [.d (.pair .bool (.sl kI))], [kI], fun x => c_parquetref01_Num_Sign x, none⟩] tb k Tryz.f73 an_parquetref03_Orient [.d kPP, .d kPP, .d kPP] [kI] (a0, a1, a2) = b_parquetref03_Orient k c_parquetref03_Fits c_parquetref03_Area c_parquetref01_Num_Sign a0 a1 a2 := by kernel_rfl
def g_parquetref03_Orient (k : Nat) (a0 : PPt) (a1 : PPt) (a2 : PPt) : Option Int := b_parquetref03_Orient k (g_parquetref03_Fits k) (g_parquetref03_Area k) (g_parquetref01_Num_Sign k) a0 a1 a2
theorem tells_parquetref03_Orient (k : Nat) : TellsF Tryz.prog 73 [.d kPP, .d kPP, .d kPP] [kI] (fun x => g_parquetref03_Orient k (x.1) (x.2.1) (x.2.2)) := fun x y h => fun_tells tb_ok mix (EsOk.cons (EntryOk.of rfl (tells_parquetref03_Fits k)) (EsOk.cons (EntryOk.of rfl (tells_parquetref03_Area k)) (EsOk.cons (EntryOk.of rfl (tells_parquetref01_Num_Sign k)) (EsOk.nil _)))) Tryz.func73 (N := k) (an := an_parquetref03_Orient) (by kernel_rfl) x y ((eq_parquetref03_Orient k (g_parquetref03_Fits k) (g_parquetref03_Area k) (g_parquetref01_Num_Sign k) (x.1) (x.2.1) (x.2.2)).trans h)

def an_parquetref12_Tri : Ann := .node none none .leaf (.node none none .leaf (.node none none (.node none none (.node (some [(0, .d kLP), (1, .d kI), (2, .d kI), (3, .d kI), (8, .box [.d (.pair kI kPP)]), (56, .d .bool)]) none .leaf .leaf) .leaf) (.node none none .leaf (.node none none (.node none none .leaf (.node none none (.node none (some [(0, .d kLP), (8, .box [.d (.pair kI kPP)]), (11, .row (.pair kI kPP) 56), (12, .d kI)]) (.node none none .leaf (.node none none (.node none none (.node none none .leaf (.node none none (.node (some [(0, .d kLP), (8, .box [.d (.pair kI kPP)]), (11, .row (.pair kI kPP) 56), (12, .d kI), (13, .box [.d (.pair kI kPP)]), (121, .d .bool)]) none .leaf .leaf) .leaf)) .leaf) .leaf)) .leaf) .leaf)) .leaf))))
def b_parquetref12_Tri (k : Nat) (c_parquetref03_Orient : PPt → PPt → PPt → Option Int) (a0 : LPt) (a1 : Int) (a2 : Int) (a3 : Int) : Option ((Int × PPt) × Bool) :=
 meet (α := (LPt × (Int × (Int × (Int × ((Int × PPt) × Bool)))))) (fun (y0, y1, y2, y3, y4, y5) =>
 bif y5 then
 some ((0, 0, 0), false)
 else
 loopN (α := (LPt × ((Int × PPt) × (LTr × Int)))) (fun (x7, x8, x9, x10) next6 =>
 bif decide (x10 < 6) then
 gd (inb x10 x9.length) <|
 meet (α := (LPt × ((Int × PPt) × (LTr × (Int × ((Int × PPt) × Bool)))))) (fun (y11, y12, y13, y14, y15, y16) =>
 bif y16 then
 some ((y15.1, y15.2.1, y15.2.2), true)
 else
 next6 (y11, (y12.1, y12.2.1, y12.2.2), y13, w64 (y14 + 1))) fun j17 =>
 bif decide ((rdD (0, 0, 0) x9 x10).1 < (rdD (0, 0, 0) x9 x10).2.1) then
 bif decide ((rdD (0, 0, 0) x9 x10).1 < (rdD (0, 0, 0) x9 x10).2.2) then
 gd (inb (rdD (0, 0, 0) x9 x10).1 x7.length) <|
 gd (inb (rdD (0, 0, 0) x9 x10).2.1 x7.length) <|
 gd (inb (rdD (0, 0, 0) x9 x10).2.2 x7.length) <|
 bnd (c_parquetref03_Orient ((rdD (0, 0) x7 (rdD (0, 0, 0) x9 x10).1).1, (rdD (0, 0) x7 (rdD (0, 0, 0) x9 x10).1).2) ((rdD (0, 0) x7 (rdD (0, 0, 0) x9 x10).2.1).1, (rdD (0, 0) x7 (rdD (0, 0, 0) x9 x10).2.1).2) ((rdD (0, 0) x7 (rdD (0, 0, 0) x9 x10).2.2).1, (rdD (0, 0) x7 (rdD (0, 0, 0) x9 x10).2.2).2)) fun r18 =>
 j17 (x7, (x8.1, x8.2.1, x8.2.2), x9, x10, ((rdD (0, 0, 0) x9 x10).1, (rdD (0, 0, 0) x9 x10).2.1, (rdD (0, 0, 0) x9 x10).2.2), decide (r18 = 1))
 else
 j17 (x7, (x8.1, x8.2.1, x8.2.2), x9, x10, ((rdD (0, 0, 0) x9 x10).1, (rdD (0, 0, 0) x9 x10).2.1, (rdD (0, 0, 0) x9 x10).2.2), false)
 else
 j17 (x7, (x8.1, x8.2.1, x8.2.2), x9, x10, ((rdD (0, 0, 0) x9 x10).1, (rdD (0, 0, 0) x9 x10).2.1, (rdD (0, 0, 0) x9 x10).2.2), false)
 else
 some ((0, 0, 0), false)) k (y0, (y4.1, y4.2.1, y4.2.2), [(y1, y2, y3), (y2, y3, y1), (y3, y1, y2), (y1, y3, y2), (y3, y2, y1), (y2, y1, y3)], 0)) fun j19 =>
 bif decide (a1 < 0) then
 j19 (a0, a1, a2, a3, (0, 0, 0), true)
 else
 bif decide (a2 < 0) then
 j19 (a0, a1, a2, a3, (0, 0, 0), true)
 else
 bif decide (a3 < 0) then
 j19 (a0, a1, a2, a3, (0, 0, 0), true)
 else
 bif decide (a1 ≥ (a0.length : Int)) then
 j19 (a0, a1, a2, a3, (0, 0, 0), true)
 else
 bif decide (a2 ≥ (a0.length : Int)) then
 j19 (a0, a1, a2, a3, (0, 0, 0), true)
 else
 bif decide (a3 ≥ (a0.length : Int)) then
 j19 (a0, a1, a2, a3, (0, 0, 0), true)
 else
 gd (inb a1 a0.length) <|
 gd (inb a2 a0.length) <|
 gd (inb a3 a0.length) <|
 bnd (c_parquetref03_Orient ((rdD (0, 0) a0 a1).1, (rdD (0, 0) a0 a1).2) ((rdD (0, 0) a0 a2).1, (rdD (0, 0) a0 a2).2) ((rdD (0, 0) a0 a3).1, (rdD (0, 0) a0 a3).2)) fun r20 =>
 j19 (a0, a1, a2, a3, (0, 0, 0), decide (r20 = 0))
theorem eq_parquetref12_Tri (k : Nat) (c_parquetref03_Orient : PPt → PPt → PPt → Option Int) (a0 : LPt) (a1 : Int) (a2 : Int) (a3 : Int) : textF [⟨73, [.d kPP, .d kPP, .d kPP], [kI], fun x => c_parquetref03_Orient (x.1) (x.2.1) (x.2.2), none⟩] tb k Tryz.f41 an_parquetref12_Tri [.d kLP, .d kI, .d kI, .d kI] [.pair kI kPP, .bool] (a0, a1, a2, a3) = b_parquetref12_Tri k c_parquetref03_Orient a0 a1 a2 a3 := by kernel_rfl
def g_parquetref12_Tri (k : Nat) (a0 : LPt) (a1 : Int) (a2 : Int) (a3 : Int) : Option ((Int × PPt) × Bool) := b_parquetref12_Tri k (g_parquetref03_Orient k) a0 a1 a2 a3
theorem tells_parquetref12_Tri (k : Nat) : TellsF Tryz.prog 41 [.d kLP, .d kI, .d kI, .d kI] [.pair kI kPP, .bool] (fun x => g_parquetref12_Tri k (x.1) (x.2.1) (x.2.2.1) (x.2.2.2)) := fun x y h => fun_tells tb_ok mix (EsOk.cons (EntryOk.of rfl (tells_parquetref03_Orient k)) (EsOk.nil _)) Tryz.func41 (N := k) (an := an_parquetref12_Tri) (by kernel_rfl) x y ((eq_parquetref12_Tri k (g_parquetref03_Orient k) (x.1) (x.2.1) (x.2.2.1) (x.2.2.2)).trans h)

end
end Go.Proofs.YtpkkcjmblocjdaaGreat.AM
