/- The functions, by their texts: written by a program. -/
import Derived.Test.YtpkkcjmblocjdaaGreatGa3
import Derived.Test.YtpkkcjmblocjdaaGreatCln
set_option linter.unusedVariables false
set_option maxRecDepth 100000
namespace Go.Proofs.YtpkkcjmblocjdaaGreat.AM
open Go.RowKit Go.Proofs
noncomputable section
def an_within_middle : Ann := .node none none .leaf (.node none none .leaf (.node none none .leaf (.node none none (.node none none .leaf (.node none none (.node none (some [(0, .d kLP), (1, .d kLP), (8, .d kI), (9, .box [.d kPP]), (16, .d (.sl kI)), (17, .d kI), (18, .d kI)]) (.node none none .leaf (.node none none .leaf (.node none none (.node none none (.node none none .leaf (.node none none (.node none none (.node (some [(0, .d kLP), (1, .d kLP), (8, .d kI), (9, .box [.d kPP]), (11, .d kI), (16, .d (.sl kI)), (17, .d kI), (18, .d kI), (38, .d .bool)]) none .leaf .leaf) .leaf) .leaf)) .leaf) .leaf))) .leaf) .leaf)) (.node none none .leaf (.node none none (.node none none (.node (some [(9, .box [.d kPP]), (12, .d (.sl (.pair kPP kPP))), (72, .d .bool)]) none .leaf .leaf) .leaf) .leaf)))))
def b_within_middle (k : Nat) (c_pred_Fits : LPt → Option Bool) (c_within_fine : LPt → LPt → (Int × Unit) → Option ((List (PPt × PPt)) × Bool)) (c_within_where : (List (PPt × PPt)) → PPt → Option Int) (a0 : LPt) (a1 : LPt) (a2 : (List Int)) : Option PPt :=
 loopN (α := (LPt × (LPt × (Int × (PPt × ((List Int) × PPt)))))) (fun (x1, x2, x3, x4, x5, x6, x7) next0 =>
 bif decide (x7 < x6) then
 gd (inb x7 x5.length) <|
 meet (α := (LPt × (LPt × (Int × (PPt × (Int × ((List Int) × (Int × (Int × Bool))))))))) (fun (y8, y9, y10, y11, y12, y13, y14, y15, y16) =>
 bif y16 then
 some (0, 2)
 else
 gd (inb y12 y8.length) <|
 gd (inb y12 y8.length) <|
 next0 (y8, y9, y10, (w64 (y11.1 + (rdD (0, 0) y8 y12).1), w64 (y11.2 + (rdD (0, 0) y8 y12).2)), y13, y14, w64 (y15 + 1))) fun j17 =>
 bif decide ((rdD 0 x5 x7) < 0) then
 j17 (x1, x2, x3, (x4.1, x4.2), rdD 0 x5 x7, x5, x6, x7, true)
 else
 bif decide ((rdD 0 x5 x7) ≥ (x1.length : Int)) then
 j17 (x1, x2, x3, (x4.1, x4.2), rdD 0 x5 x7, x5, x6, x7, true)
 else
 gd (inb (rdD 0 x5 x7) x1.length) <|
 bnd (c_pred_Fits [((rdD (0, 0) x1 (rdD 0 x5 x7)).1, (rdD (0, 0) x1 (rdD 0 x5 x7)).2)]) fun r18 =>
 j17 (x1, x2, x3, (x4.1, x4.2), rdD 0 x5 x7, x5, x6, x7, !r18)
 else
 bnd (c_within_fine x1 x2 (x3, ())) fun r19 =>
 meet (α := (PPt × ((List (PPt × PPt)) × Bool))) (fun (y20, y21, y22) =>
 bif y22 then
 some (0, 2)
 else
 bnd (c_within_where y21 (y20.1, y20.2)) fun r23 =>
 some (r23, 0)) fun j24 =>
 bif !r19.2 then
 j24 ((x4.1, x4.2), r19.1, true)
 else
 bnd (c_pred_Fits [(x4.1, x4.2)]) fun r25 =>
 j24 ((x4.1, x4.2), r19.1, !r25)) k (a0, a1, (a2.length : Int), (0, 0), a2, (a2.length : Int), 0)
theorem eq_within_middle (k : Nat) (c_pred_Fits : LPt → Option Bool) (c_within_fine : LPt → LPt → (Int × Unit) → Option ((List (PPt × PPt)) × Bool)) (c_within_where : (List (PPt × PPt)) → PPt → Option Int) (a0 : LPt) (a1 : LPt) (a2 : (List Int)) : textF [⟨108, [.d kLP], [.bool], fun x => c_pred_Fits x, none⟩, ⟨132, [.d kLP, .d kLP, .fn 133 [(.d kI)] []], [.sl (.pair kPP kPP), .bool], fun x => c_within_fine (x.1) (x.2.1) (x.2.2), none⟩, ⟨134, [.d (.sl (.pair kPP kPP)), .d kPP], [kI], fun x => c_within_where (x.1) (x.2), none⟩] tb k Tryz.f91 an_within_middle [.d kLP, .d kLP, .d (.sl kI)] [kI, kI] (a0, a1, a2) = b_within_middle k c_pred_Fits c_within_fine c_within_where a0 a1 a2 := by kernel_rfl
def g_within_middle (k : Nat) (a0 : LPt) (a1 : LPt) (a2 : (List Int)) : Option PPt := b_within_middle k (g_pred_Fits k) (g_within_fine k) (g_within_where k) a0 a1 a2
theorem tells_within_middle (k : Nat) : TellsF Tryz.prog 91 [.d kLP, .d kLP, .d (.sl kI)] [kI, kI] (fun x => g_within_middle k (x.1) (x.2.1) (x.2.2)) := fun x y h => fun_tells tb_ok mix (EsOk.cons (EntryOk.of rfl (tells_pred_Fits k)) (EsOk.cons (EntryOk.of rfl (tells_within_fine k)) (EsOk.cons (EntryOk.of rfl (tells_within_where k)) (EsOk.nil _)))) Tryz.func91 (N := k) (an := an_within_middle) (by kernel_rfl) x y ((eq_within_middle k (g_pred_Fits k) (g_within_fine k) (g_within_where k) (x.1) (x.2.1) (x.2.2)).trans h)

def an_within_Halfway : Ann := .leaf
def b_within_Halfway (k : Nat) (c_within_middle : LPt → LPt → (List Int) → Option PPt) (a0 : LPt) (a1 : LPt) (a2 : Int) (a3 : Int) : Option PPt :=
 bnd (c_within_middle a0 a1 [a2, a3]) fun r0 =>
 some (r0.1, r0.2)
theorem eq_within_Halfway (k : Nat) (c_within_middle : LPt → LPt → (List Int) → Option PPt) (a0 : LPt) (a1 : LPt) (a2 : Int) (a3 : Int) : textF [⟨91, [.d kLP, .d kLP, .d (.sl kI)], [kI, kI], fun x => c_within_middle (x.1) (x.2.1) (x.2.2), none⟩] tb k Tryz.f86 an_within_Halfway [.d kLP, .d kLP, .d kI, .d kI] [kI, kI] (a0, a1, a2, a3) = b_within_Halfway k c_within_middle a0 a1 a2 a3 := by kernel_rfl
def g_within_Halfway (k : Nat) (a0 : LPt) (a1 : LPt) (a2 : Int) (a3 : Int) : Option PPt := b_within_Halfway k (g_within_middle k) a0 a1 a2 a3
theorem tells_within_Halfway (k : Nat) : TellsF Tryz.prog 86 [.d kLP, .d kLP, .d kI, .d kI] [kI, kI] (fun x => g_within_Halfway k (x.1) (x.2.1) (x.2.2.1) (x.2.2.2)) := fun x y h => fun_tells tb_ok mix (EsOk.cons (EntryOk.of rfl (tells_within_middle k)) (EsOk.nil _)) Tryz.func86 (N := k) (an := an_within_Halfway) (by kernel_rfl) x y ((eq_within_Halfway k (g_within_middle k) (x.1) (x.2.1) (x.2.2.1) (x.2.2.2)).trans h)

def an_valid_out : Ann := .node none none .leaf (.node none none (.node none none .leaf (.node none none (.node none (some [(1, .box [.d kPl]), (2, .box [.d (.pair kI kPP)]), (8, .d kLP), (9, .d kI), (10, .d kI)]) .leaf .leaf) .leaf)) .leaf)
def b_valid_out (k : Nat) (c_within_Halfway : LPt → LPt → Int → Int → Option PPt) (a0 : TPl) : Option (Int × PPt) :=
 loopN (α := (TPl × ((Int × PPt) × (LPt × PPt)))) (fun (x1, x2, x3, x4, x5) next0 =>
 bif decide (x5 < x4) then
 gd (inb x5 x3.length) <|
 bnd (c_within_Halfway x1.1 x1.2.1 (rdD (0, 0) x3 x5).1 (rdD (0, 0) x3 x5).2) fun r6 =>
 bif !(decide (r6.1 = 1)) then
 some (7, x5, 0)
 else
 next0 ((x1.1, x1.2.1, x1.2.2), (x2.1, x2.2.1, x2.2.2), x3, x4, w64 (x5 + 1))
 else
 some (0, 0, 0)) k ((a0.1, a0.2.1, a0.2.2), (0, 0, 0), a0.2.2, (a0.2.2.length : Int), 0)
theorem eq_valid_out (k : Nat) (c_within_Halfway : LPt → LPt → Int → Int → Option PPt) (a0 : TPl) : textF [⟨86, [.d kLP, .d kLP, .d kI, .d kI], [kI, kI], fun x => c_within_Halfway (x.1) (x.2.1) (x.2.2.1) (x.2.2.2), none⟩] tb k Tryz.f116 an_valid_out [.d kPl] [.pair kI kPP] a0 = b_valid_out k c_within_Halfway a0 := by kernel_rfl
def g_valid_out (k : Nat) (a0 : TPl) : Option (Int × PPt) := b_valid_out k (g_within_Halfway k) a0
theorem tells_valid_out (k : Nat) : TellsF Tryz.prog 116 [.d kPl] [.pair kI kPP] (fun x => g_valid_out k x) := fun x y h => fun_tells tb_ok mix (EsOk.cons (EntryOk.of rfl (tells_within_Halfway k)) (EsOk.nil _)) Tryz.func116 (N := k) (an := an_valid_out) (by kernel_rfl) x y ((eq_valid_out k (g_within_Halfway k) x).trans h)

def an_within_same : Ann := .leaf
def g_within_same (k : Nat) (a0 : PPt) : Option PPt :=
 some (a0.1, a0.2)
theorem eq_within_same (k : Nat) (a0 : PPt) : textF [] tb k Tryz.f173 an_within_same [.d kPP] [.pair kI kI] a0 = g_within_same k a0 := by kernel_rfl
theorem tells_within_same (k : Nat) : TellsF Tryz.prog 173 [.d kPP] [.pair kI kI] (fun x => g_within_same k x) := fun x y h => fun_tells tb_ok mix (EsOk.nil _) Tryz.func173 (N := k) (an := an_within_same) (by kernel_rfl) x y ((eq_within_same k x).trans h)

def an_within_fine_2 : Ann := .node none none .leaf (.node none none .leaf (.node none none (.node none none .leaf (.node none none (.node none (some [(0, .d kLP), (2, .fn 173 [] []), (8, .row (.pair kPP kPP) 177), (13, .d kLP), (14, .d kI), (15, .d kI)]) (.node none none .leaf (.node none none .leaf (.node none none (.node none none (.node none none .leaf (.node none none (.node none none (.node (some [(0, .d kLP), (2, .fn 173 [] []), (8, .row (.pair kPP kPP) 177), (10, .box [.d kPP]), (13, .d kLP), (14, .d kI), (15, .d kI), (68, .d .bool)]) none .leaf .leaf) .leaf) .leaf)) .leaf) .leaf))) .leaf) .leaf)) .leaf))
def b_within_fine_2 (k : Nat) (c_pred_Fits : LPt → Option Bool) (c_within_same : PPt → Option PPt) (a0 : LPt) (a1 : LPt) (a2 : (Unit × Unit)) : Option ((List (PPt × PPt)) × Bool) :=
 loopN (α := (LPt × ((Unit × Unit) × ((List (PPt × PPt)) × (LPt × PPt))))) (fun (x1, x2, x3, x4, x5, x6) next0 =>
 bif decide (x6 < x5) then
 gd (inb x6 x4.length) <|
 meet (α := (LPt × ((Unit × Unit) × ((List (PPt × PPt)) × (PPt × (LPt × (Int × (Int × Bool)))))))) (fun (y7, y8, y9, y10, y11, y12, y13, y14) =>
 bif y14 then
 some ([], false)
 else
 gd (inb y10.1 y7.length) <|
 bnd (c_within_same ((rdD (0, 0) y7 y10.1).1, (rdD (0, 0) y7 y10.1).2)) fun r15 =>
 gd (inb y10.2 y7.length) <|
 bnd (c_within_same ((rdD (0, 0) y7 y10.2).1, (rdD (0, 0) y7 y10.2).2)) fun r16 =>
 bnd (c_pred_Fits [(r15.1, r15.2), (r16.1, r16.2)]) fun r17 =>
 bif !r17 then
 some ([], false)
 else
 gd (few (y9.length + 1)) <|
 next0 (y7, ((), ()), y9 ++ [((r15.1, r15.2), r16.1, r16.2)], y11, y12, w64 (y13 + 1))) fun j18 =>
 bif decide ((rdD (0, 0) x4 x6).1 < 0) then
 j18 (x1, ((), ()), x3, ((rdD (0, 0) x4 x6).1, (rdD (0, 0) x4 x6).2), x4, x5, x6, true)
 else
 bif decide ((rdD (0, 0) x4 x6).1 ≥ (x1.length : Int)) then
 j18 (x1, ((), ()), x3, ((rdD (0, 0) x4 x6).1, (rdD (0, 0) x4 x6).2), x4, x5, x6, true)
 else
 bif decide ((rdD (0, 0) x4 x6).2 < 0) then
 j18 (x1, ((), ()), x3, ((rdD (0, 0) x4 x6).1, (rdD (0, 0) x4 x6).2), x4, x5, x6, true)
 else
 bif decide ((rdD (0, 0) x4 x6).2 ≥ (x1.length : Int)) then
 j18 (x1, ((), ()), x3, ((rdD (0, 0) x4 x6).1, (rdD (0, 0) x4 x6).2), x4, x5, x6, true)
 else
 gd (inb (rdD (0, 0) x4 x6).1 x1.length) <|
 gd (inb (rdD (0, 0) x4 x6).2 x1.length) <|
 bif (decide ((rdD (0, 0) x1 (rdD (0, 0) x4 x6).1).1 = (rdD (0, 0) x1 (rdD (0, 0) x4 x6).2).1)) && (decide ((rdD (0, 0) x1 (rdD (0, 0) x4 x6).1).2 = (rdD (0, 0) x1 (rdD (0, 0) x4 x6).2).2)) then
 j18 (x1, ((), ()), x3, ((rdD (0, 0) x4 x6).1, (rdD (0, 0) x4 x6).2), x4, x5, x6, true)
 else
 gd (inb (rdD (0, 0) x4 x6).1 x1.length) <|
 gd (inb (rdD (0, 0) x4 x6).2 x1.length) <|
 bnd (c_pred_Fits [((rdD (0, 0) x1 (rdD (0, 0) x4 x6).1).1, (rdD (0, 0) x1 (rdD (0, 0) x4 x6).1).2), ((rdD (0, 0) x1 (rdD (0, 0) x4 x6).2).1, (rdD (0, 0) x1 (rdD (0, 0) x4 x6).2).2)]) fun r19 =>
 j18 (x1, ((), ()), x3, ((rdD (0, 0) x4 x6).1, (rdD (0, 0) x4 x6).2), x4, x5, x6, !r19)
 else
 some (x3, true)) k (a0, ((), ()), [], a1, (a1.length : Int), 0)
theorem eq_within_fine_2 (k : Nat) (c_pred_Fits : LPt → Option Bool) (c_within_same : PPt → Option PPt) (a0 : LPt) (a1 : LPt) (a2 : (Unit × Unit)) : textF [⟨108, [.d kLP], [.bool], fun x => c_pred_Fits x, none⟩, ⟨173, [.d kPP], [.pair kI kI], fun x => c_within_same x, none⟩] tb k Tryz.f132 an_within_fine_2 [.d kLP, .d kLP, .fn 173 [] []] [.sl (.pair kPP kPP), .bool] (a0, a1, a2) = b_within_fine_2 k c_pred_Fits c_within_same a0 a1 a2 := by kernel_rfl
def g_within_fine_2 (k : Nat) (a0 : LPt) (a1 : LPt) (a2 : (Unit × Unit)) : Option ((List (PPt × PPt)) × Bool) := b_within_fine_2 k (g_pred_Fits k) (g_within_same k) a0 a1 a2
theorem tells_within_fine_2 (k : Nat) : TellsF Tryz.prog 132 [.d kLP, .d kLP, .fn 173 [] []] [.sl (.pair kPP kPP), .bool] (fun x => g_within_fine_2 k (x.1) (x.2.1) (x.2.2)) := fun x y h => fun_tells tb_ok mix (EsOk.cons (EntryOk.of rfl (tells_pred_Fits k)) (EsOk.cons (EntryOk.of rfl (tells_within_same k)) (EsOk.nil _))) Tryz.func132 (N := k) (an := an_within_fine_2) (by kernel_rfl) x y ((eq_within_fine_2 k (g_pred_Fits k) (g_within_same k) (x.1) (x.2.1) (x.2.2)).trans h)

def an_within_At : Ann := .node none none .leaf (.node none none .leaf (.node none none (.node none none (.node (some [(5, .box [.d kPP]), (8, .d (.sl (.pair kPP kPP))), (23, .d .bool)]) none .leaf .leaf) .leaf) .leaf))
def b_within_At (k : Nat) (c_within_fine_2 : LPt → LPt → (Unit × Unit) → Option ((List (PPt × PPt)) × Bool)) (c_pred_Fits : LPt → Option Bool) (c_within_where : (List (PPt × PPt)) → PPt → Option Int) (a0 : LPt) (a1 : LPt) (a2 : PPt) : Option PPt :=
 bnd (c_within_fine_2 a0 a1 ((), ())) fun r0 =>
 meet (α := (PPt × ((List (PPt × PPt)) × Bool))) (fun (y1, y2, y3) =>
 bif y3 then
 some (0, 2)
 else
 bnd (c_within_where y2 (y1.1, y1.2)) fun r4 =>
 some (r4, 0)) fun j5 =>
 bif !r0.2 then
 j5 ((a2.1, a2.2), r0.1, true)
 else
 bnd (c_pred_Fits [(a2.1, a2.2)]) fun r6 =>
 j5 ((a2.1, a2.2), r0.1, !r6)
theorem eq_within_At (k : Nat) (c_within_fine_2 : LPt → LPt → (Unit × Unit) → Option ((List (PPt × PPt)) × Bool)) (c_pred_Fits : LPt → Option Bool) (c_within_where : (List (PPt × PPt)) → PPt → Option Int) (a0 : LPt) (a1 : LPt) (a2 : PPt) : textF [⟨132, [.d kLP, .d kLP, .fn 173 [] []], [.sl (.pair kPP kPP), .bool], fun x => c_within_fine_2 (x.1) (x.2.1) (x.2.2), none⟩, ⟨108, [.d kLP], [.bool], fun x => c_pred_Fits x, none⟩, ⟨134, [.d (.sl (.pair kPP kPP)), .d kPP], [kI], fun x => c_within_where (x.1) (x.2), none⟩] tb k Tryz.f153 an_within_At [.d kLP, .d kLP, .d kPP] [kI, kI] (a0, a1, a2) = b_within_At k c_within_fine_2 c_pred_Fits c_within_where a0 a1 a2 := by kernel_rfl
def g_within_At (k : Nat) (a0 : LPt) (a1 : LPt) (a2 : PPt) : Option PPt := b_within_At k (g_within_fine_2 k) (g_pred_Fits k) (g_within_where k) a0 a1 a2
theorem tells_within_At (k : Nat) : TellsF Tryz.prog 153 [.d kLP, .d kLP, .d kPP] [kI, kI] (fun x => g_within_At k (x.1) (x.2.1) (x.2.2)) := fun x y h => fun_tells tb_ok mix (EsOk.cons (EntryOk.of rfl (tells_within_fine_2 k)) (EsOk.cons (EntryOk.of rfl (tells_pred_Fits k)) (EsOk.cons (EntryOk.of rfl (tells_within_where k)) (EsOk.nil _)))) Tryz.func153 (N := k) (an := an_within_At) (by kernel_rfl) x y ((eq_within_At k (g_within_fine_2 k) (g_pred_Fits k) (g_within_where k) (x.1) (x.2.1) (x.2.2)).trans h)

def an_valid_stray : Ann := .node none none .leaf (.node none none .leaf (.node none none (.node none none .leaf (.node none none (.node none (some [(1, .box [.d kPl]), (2, .box [.d (.pair kI kPP)]), (18, .d (.sl kI)), (19, .d kI), (20, .d kI)]) (.node none none .leaf (.node none none .leaf (.node none none (.node none none (.node none none .leaf (.node none none .leaf (.node none none (.node (some [(1, .box [.d kPl]), (2, .box [.d (.pair kI kPP)]), (5, .d kI), (18, .d (.sl kI)), (19, .d kI), (20, .d kI), (43, .d .bool)]) none .leaf .leaf) .leaf))) .leaf) .leaf))) .leaf) .leaf)) .leaf))
def b_valid_stray (k : Nat) (c_valid_all : TPl → Option LPt) (c_rings_Degrees : Int → LPt → Option ((List Int) × Int)) (c_within_At : LPt → LPt → PPt → Option PPt) (a0 : TPl) : Option (Int × PPt) :=
 bnd (c_valid_all (a0.1, a0.2.1, a0.2.2)) fun r0 =>
 bnd (c_rings_Degrees (a0.1.length : Int) r0) fun r1 =>
 loopN (α := (TPl × ((Int × PPt) × ((List Int) × PPt)))) (fun (x3, x4, x5, x6, x7) next2 =>
 bif decide (x7 < x6) then
 gd (inb x7 x5.length) <|
 gd (inb x7 x3.1.length) <|
 bnd (c_within_At x3.1 x3.2.1 ((rdD (0, 0) x3.1 x7).1, (rdD (0, 0) x3.1 x7).2)) fun r8 =>
 meet (α := (TPl × ((Int × PPt) × (Int × ((List Int) × (Int × (Int × Bool))))))) (fun (y9, y10, y11, y12, y13, y14, y15) =>
 bif y15 then
 some (8, y11, 0)
 else
 next2 ((y9.1, y9.2.1, y9.2.2), (y10.1, y10.2.1, y10.2.2), y12, y13, w64 (y14 + 1))) fun j16 =>
 bif decide ((rdD 0 x5 x7) = 0) then
 j16 ((x3.1, x3.2.1, x3.2.2), (x4.1, x4.2.1, x4.2.2), x7, x5, x6, x7, !(decide (r8.1 = 1)))
 else
 j16 ((x3.1, x3.2.1, x3.2.2), (x4.1, x4.2.1, x4.2.2), x7, x5, x6, x7, false)
 else
 some (0, 0, 0)) k ((a0.1, a0.2.1, a0.2.2), (0, 0, 0), r1.1, (r1.1.length : Int), 0)
theorem eq_valid_stray (k : Nat) (c_valid_all : TPl → Option LPt) (c_rings_Degrees : Int → LPt → Option ((List Int) × Int)) (c_within_At : LPt → LPt → PPt → Option PPt) (a0 : TPl) : textF [⟨148, [.d kPl], [.sl kPP], fun x => c_valid_all x, none⟩, ⟨152, [.d kI, .d kLP], [.sl kI, kI], fun x => c_rings_Degrees (x.1) (x.2), none⟩, ⟨153, [.d kLP, .d kLP, .d kPP], [kI, kI], fun x => c_within_At (x.1) (x.2.1) (x.2.2), none⟩] tb k Tryz.f117 an_valid_stray [.d kPl] [.pair kI kPP] a0 = b_valid_stray k c_valid_all c_rings_Degrees c_within_At a0 := by kernel_rfl
def g_valid_stray (k : Nat) (a0 : TPl) : Option (Int × PPt) := b_valid_stray k (g_valid_all k) (g_rings_Degrees k) (g_within_At k) a0
theorem tells_valid_stray (k : Nat) : TellsF Tryz.prog 117 [.d kPl] [.pair kI kPP] (fun x => g_valid_stray k x) := fun x y h => fun_tells tb_ok mix (EsOk.cons (EntryOk.of rfl (tells_valid_all k)) (EsOk.cons (EntryOk.of rfl (tells_rings_Degrees k)) (EsOk.cons (EntryOk.of rfl (tells_within_At k)) (EsOk.nil _)))) Tryz.func117 (N := k) (an := an_valid_stray) (by kernel_rfl) x y ((eq_valid_stray k (g_valid_all k) (g_rings_Degrees k) (g_within_At k) x).trans h)

def an_valid_First : Ann := .node none none .leaf (.node none none .leaf (.node none none (.node none none .leaf (.node none none (.node none (some [(1, .box [.d kPl]), (2, .box [.d (.pair kI kPP)]), (14, .con [111, 112, 113, 114, 115, 116, 117]), (15, .d kI)]) (.node none none .leaf (.node none none .leaf (.node none none (.node none none (.node none none .leaf (.node none none (.node (some [(1, .box [.d kPl]), (2, .box [.d (.pair kI kPP)]), (7, .box [.d (.pair kI kPP)]), (14, .con [111, 112, 113, 114, 115, 116, 117]), (15, .d kI)]) none .leaf .leaf) .leaf)) .leaf) .leaf))) .leaf) .leaf)) .leaf))
def b_valid_First (k : Nat) (c_input_Check : TPl → Option Int) (c_valid_alike : TPl → Option (Int × PPt)) (c_valid_point : TPl → Option (Int × PPt)) (c_valid_meets : TPl → Option (Int × PPt)) (c_valid_inside : TPl → Option (Int × PPt)) (c_valid_ring : TPl → Option (Int × PPt)) (c_valid_out : TPl → Option (Int × PPt)) (c_valid_stray : TPl → Option (Int × PPt)) (a0 : TPl) : Option ((Int × PPt) × Int) :=
 bnd (c_input_Check (a0.1, a0.2.1, a0.2.2)) fun r0 =>
 bif !(decide (r0 = 0)) then
 some ((0, 0, 0), r0)
 else
 loopN (α := (TPl × ((Int × PPt) × (Unit × Int)))) (fun (x2, x3, x4, x5) next1 =>
 bif decide (x5 < 7) then
 bif decide (x5 = 0) then
 meet (α := (TPl × ((Int × PPt) × ((Int × PPt) × (Unit × Int))))) (fun (y6, y7, y8, y9, y10) =>
 bif !(decide (y8.1 = 0)) then
 some ((y8.1, y8.2.1, y8.2.2), 0)
 else
 next1 ((y6.1, y6.2.1, y6.2.2), (y7.1, y7.2.1, y7.2.2), (), w64 (y10 + 1))) fun j11 =>
 bnd (c_valid_alike (x2.1, x2.2.1, x2.2.2)) fun r12 =>
 j11 ((x2.1, x2.2.1, x2.2.2), (x3.1, x3.2.1, x3.2.2), (r12.1, r12.2.1, r12.2.2), (), x5)
 else
 bif decide (x5 = 1) then
 meet (α := (TPl × ((Int × PPt) × ((Int × PPt) × (Unit × Int))))) (fun (y13, y14, y15, y16, y17) =>
 bif !(decide (y15.1 = 0)) then
 some ((y15.1, y15.2.1, y15.2.2), 0)
 else
 next1 ((y13.1, y13.2.1, y13.2.2), (y14.1, y14.2.1, y14.2.2), (), w64 (y17 + 1))) fun j18 =>
 bnd (c_valid_point (x2.1, x2.2.1, x2.2.2)) fun r19 =>
 j18 ((x2.1, x2.2.1, x2.2.2), (x3.1, x3.2.1, x3.2.2), (r19.1, r19.2.1, r19.2.2), (), x5)
 else
 bif decide (x5 = 2) then
 meet (α := (TPl × ((Int × PPt) × ((Int × PPt) × (Unit × Int))))) (fun (y20, y21, y22, y23, y24) =>
 bif !(decide (y22.1 = 0)) then
 some ((y22.1, y22.2.1, y22.2.2), 0)
 else
 next1 ((y20.1, y20.2.1, y20.2.2), (y21.1, y21.2.1, y21.2.2), (), w64 (y24 + 1))) fun j25 =>
 bnd (c_valid_meets (x2.1, x2.2.1, x2.2.2)) fun r26 =>
 j25 ((x2.1, x2.2.1, x2.2.2), (x3.1, x3.2.1, x3.2.2), (r26.1, r26.2.1, r26.2.2), (), x5)
 else
 bif decide (x5 = 3) then
 meet (α := (TPl × ((Int × PPt) × ((Int × PPt) × (Unit × Int))))) (fun (y27, y28, y29, y30, y31) =>
 bif !(decide (y29.1 = 0)) then
 some ((y29.1, y29.2.1, y29.2.2), 0)
 else
 next1 ((y27.1, y27.2.1, y27.2.2), (y28.1, y28.2.1, y28.2.2), (), w64 (y31 + 1))) fun j32 =>
 bnd (c_valid_inside (x2.1, x2.2.1, x2.2.2)) fun r33 =>
 j32 ((x2.1, x2.2.1, x2.2.2), (x3.1, x3.2.1, x3.2.2), (r33.1, r33.2.1, r33.2.2), (), x5)
 else
 bif decide (x5 = 4) then
 meet (α := (TPl × ((Int × PPt) × ((Int × PPt) × (Unit × Int))))) (fun (y34, y35, y36, y37, y38) =>
 bif !(decide (y36.1 = 0)) then
 some ((y36.1, y36.2.1, y36.2.2), 0)
 else
 next1 ((y34.1, y34.2.1, y34.2.2), (y35.1, y35.2.1, y35.2.2), (), w64 (y38 + 1))) fun j39 =>
 bnd (c_valid_ring (x2.1, x2.2.1, x2.2.2)) fun r40 =>
 j39 ((x2.1, x2.2.1, x2.2.2), (x3.1, x3.2.1, x3.2.2), (r40.1, r40.2.1, r40.2.2), (), x5)
 else
 bif decide (x5 = 5) then
 meet (α := (TPl × ((Int × PPt) × ((Int × PPt) × (Unit × Int))))) (fun (y41, y42, y43, y44, y45) =>
 bif !(decide (y43.1 = 0)) then
 some ((y43.1, y43.2.1, y43.2.2), 0)
 else
 next1 ((y41.1, y41.2.1, y41.2.2), (y42.1, y42.2.1, y42.2.2), (), w64 (y45 + 1))) fun j46 =>
 bnd (c_valid_out (x2.1, x2.2.1, x2.2.2)) fun r47 =>
 j46 ((x2.1, x2.2.1, x2.2.2), (x3.1, x3.2.1, x3.2.2), (r47.1, r47.2.1, r47.2.2), (), x5)
 else
 bif decide (x5 = 6) then
 meet (α := (TPl × ((Int × PPt) × ((Int × PPt) × (Unit × Int))))) (fun (y48, y49, y50, y51, y52) =>
 bif !(decide (y50.1 = 0)) then
 some ((y50.1, y50.2.1, y50.2.2), 0)
 else
 next1 ((y48.1, y48.2.1, y48.2.2), (y49.1, y49.2.1, y49.2.2), (), w64 (y52 + 1))) fun j53 =>
 bnd (c_valid_stray (x2.1, x2.2.1, x2.2.2)) fun r54 =>
 j53 ((x2.1, x2.2.1, x2.2.2), (x3.1, x3.2.1, x3.2.2), (r54.1, r54.2.1, r54.2.2), (), x5)
 else
 none
 else
 some ((0, 0, 0), 0)) k ((a0.1, a0.2.1, a0.2.2), (0, 0, 0), (), 0)
theorem eq_valid_First (k : Nat) (c_input_Check : TPl → Option Int) (c_valid_alike : TPl → Option (Int × PPt)) (c_valid_point : TPl → Option (Int × PPt)) (c_valid_meets : TPl → Option (Int × PPt)) (c_valid_inside : TPl → Option (Int × PPt)) (c_valid_ring : TPl → Option (Int × PPt)) (c_valid_out : TPl → Option (Int × PPt)) (c_valid_stray : TPl → Option (Int × PPt)) (a0 : TPl) : textF [⟨110, [.d kPl], [kI], fun x => c_input_Check x, none⟩, ⟨111, [.d kPl], [.pair kI kPP], fun x => c_valid_alike x, none⟩, ⟨112, [.d kPl], [.pair kI kPP], fun x => c_valid_point x, none⟩, ⟨113, [.d kPl], [.pair kI kPP], fun x => c_valid_meets x, none⟩, ⟨114, [.d kPl], [.pair kI kPP], fun x => c_valid_inside x, none⟩, ⟨115, [.d kPl], [.pair kI kPP], fun x => c_valid_ring x, none⟩, ⟨116, [.d kPl], [.pair kI kPP], fun x => c_valid_out x, none⟩, ⟨117, [.d kPl], [.pair kI kPP], fun x => c_valid_stray x, none⟩] tb k Tryz.f82 an_valid_First [.d kPl] [.pair kI kPP, kI] a0 = b_valid_First k c_input_Check c_valid_alike c_valid_point c_valid_meets c_valid_inside c_valid_ring c_valid_out c_valid_stray a0 := by kernel_rfl
def g_valid_First (k : Nat) (a0 : TPl) : Option ((Int × PPt) × Int) := b_valid_First k (g_input_Check k) (g_valid_alike k) (g_valid_point k) (g_valid_meets k) (g_valid_inside k) (g_valid_ring k) (g_valid_out k) (g_valid_stray k) a0
theorem tells_valid_First (k : Nat) : TellsF Tryz.prog 82 [.d kPl] [.pair kI kPP, kI] (fun x => g_valid_First k x) := fun x y h => fun_tells tb_ok mix (EsOk.cons (EntryOk.of rfl (tells_input_Check k)) (EsOk.cons (EntryOk.of rfl (tells_valid_alike k)) (EsOk.cons (EntryOk.of rfl (tells_valid_point k)) (EsOk.cons (EntryOk.of rfl (tells_valid_meets k)) (EsOk.cons (EntryOk.of rfl (tells_valid_inside k)) (EsOk.cons (EntryOk.of rfl (tells_valid_ring k)) (EsOk.cons (EntryOk.of rfl (tells_valid_out k)) (EsOk.cons (EntryOk.of rfl (tells_valid_stray k)) (EsOk.nil _))))))))) Tryz.func82 (N := k) (an := an_valid_First) (by kernel_rfl) x y ((eq_valid_First k (g_input_Check k) (g_valid_alike k) (g_valid_point k) (g_valid_meets k) (g_valid_inside k) (g_valid_ring k) (g_valid_out k) (g_valid_stray k) x).trans h)

def an_fill_right : Ann := .node none none .leaf (.node none none .leaf (.node none none (.node (some [(2, .d .bool)]) none .leaf .leaf) .leaf))
def b_fill_right (k : Nat) (c_valid_First : TPl → Option ((Int × PPt) × Int)) (a0 : TPl) : Option Bool :=
 bnd (c_valid_First (a0.1, a0.2.1, a0.2.2)) fun r0 =>
 meet (α := Bool) (fun y1 =>
 some y1) fun j2 =>
 bif decide (r0.2 = 0) then
 j2 (decide (r0.1.1 = 0))
 else
 j2 false
theorem eq_fill_right (k : Nat) (c_valid_First : TPl → Option ((Int × PPt) × Int)) (a0 : TPl) : textF [⟨82, [.d kPl], [.pair kI kPP, kI], fun x => c_valid_First x, none⟩] tb k Tryz.f45 an_fill_right [.d kPl] [.bool] a0 = b_fill_right k c_valid_First a0 := by kernel_rfl
def g_fill_right (k : Nat) (a0 : TPl) : Option Bool := b_fill_right k (g_valid_First k) a0
theorem tells_fill_right (k : Nat) : TellsF Tryz.prog 45 [.d kPl] [.bool] (fun x => g_fill_right k x) := fun x y h => fun_tells tb_ok mix (EsOk.cons (EntryOk.of rfl (tells_valid_First k)) (EsOk.nil _)) Tryz.func45 (N := k) (an := an_fill_right) (by kernel_rfl) x y ((eq_fill_right k (g_valid_First k) x).trans h)

def an_api_Seg : Ann := .node none none .leaf (.node none none .leaf (.node none none (.node none none .leaf (.node none none (.node none (some [(0, .d (.sl kLP)), (3, .d kI), (9, .d (.sl kLP)), (10, .d kI), (11, .d kI)]) (.node none none .leaf (.node none none .leaf (.node none none (.node none none (.node none none .leaf (.node none none .leaf (.node none none .leaf (.node (some [(0, .d (.sl kLP)), (3, .d kI), (9, .d (.sl kLP)), (10, .d kI), (11, .d kI)]) none .leaf .leaf)))) .leaf) .leaf))) .leaf) .leaf)) (.node none none .leaf (.node none none (.node none none .leaf (.node none none (.node none (some [(6, .row kPP 60), (25, .d (.sl kLP)), (26, .d kI), (27, .d kI)]) .leaf .leaf) .leaf)) .leaf))))
def g_api_Seg (k : Nat) (a0 : (List LPt)) : Option LPt :=
 loopN (α := ((List LPt) × (Int × ((List LPt) × PPt)))) (fun (x1, x2, x3, x4, x5) next0 =>
 bif decide (x5 < x4) then
 gd (inb x5 x3.length) <|
 meet (α := ((List LPt) × (Int × ((List LPt) × PPt)))) (fun (y6, y7, y8, y9, y10) =>
 next0 (y6, y7, y8, y9, w64 (y10 + 1))) fun j11 =>
 bif decide ((w64 (x2 + ((rdD [] x3 x5).length : Int))) < 0) then
 none
 else
 j11 (x1, w64 (x2 + ((rdD [] x3 x5).length : Int)), x3, x4, x5)
 else
 gd (decide (0 ≤ x2)) <|
 gd (fewI x2) <|
 loopN (α := (LPt × ((List LPt) × PPt))) (fun (x13, x14, x15, x16) next12 =>
 bif decide (x16 < x15) then
 gd (inb x16 x14.length) <|
 gd (few (x13.length + (rdD [] x14 x16).length)) <|
 next12 (x13 ++ (rdD [] x14 x16), x14, x15, w64 (x16 + 1))
 else
 some x13) k ([], x1, (x1.length : Int), 0)) k (a0, 0, a0, (a0.length : Int), 0)
theorem eq_api_Seg (k : Nat) (a0 : (List LPt)) : textF [⟨118, [], [], fun _ => none, some (.grw kPP 60)⟩] tb k Tryz.f83 an_api_Seg [.d (.sl kLP)] [.sl kPP] a0 = g_api_Seg k a0 := by kernel_rfl
theorem tells_api_Seg (k : Nat) : TellsF Tryz.prog 83 [.d (.sl kLP)] [.sl kPP] (fun x => g_api_Seg k x) := fun x y h => fun_tells tb_ok mix (EsOk.cons (EntryOk.grow grw_118) (EsOk.nil _)) Tryz.func83 (N := k) (an := an_api_Seg) (by kernel_rfl) x y ((eq_api_Seg k x).trans h)

def an_fill_up : Ann := .leaf
def g_fill_up (k : Nat) (a0 : PPt) : Option PPt :=
 some (mnI a0.1 a0.2, mxI a0.1 a0.2)
theorem eq_fill_up (k : Nat) (a0 : PPt) : textF [] tb k Tryz.f61 an_fill_up [.d kPP] [.pair kI kI] a0 = g_fill_up k a0 := by kernel_rfl
theorem tells_fill_up (k : Nat) : TellsF Tryz.prog 61 [.d kPP] [.pair kI kI] (fun x => g_fill_up k x) := fun x y h => fun_tells tb_ok mix (EsOk.nil _) Tryz.func61 (N := k) (an := an_fill_up) (by kernel_rfl) x y ((eq_fill_up k x).trans h)

def an_fill_segs : Ann := .node none none .leaf (.node none none .leaf (.node none none (.node none none .leaf (.node none none (.node none (some [(3, .row kPP 60), (11, .d kLP), (12, .d kI), (13, .d kI)]) .leaf .leaf) .leaf)) .leaf))
def b_fill_segs (k : Nat) (c_api_Seg : (List LPt) → Option LPt) (c_fill_up : PPt → Option PPt) (a0 : TPl) : Option LPt :=
 bnd (c_api_Seg [a0.2.1, a0.2.2]) fun r0 =>
 loopN (α := (LPt × (LPt × PPt))) (fun (x2, x3, x4, x5) next1 =>
 bif decide (x5 < x4) then
 gd (inb x5 x3.length) <|
 bnd (c_fill_up ((rdD (0, 0) x3 x5).1, (rdD (0, 0) x3 x5).2)) fun r6 =>
 gd (few (x2.length + 1)) <|
 next1 (x2 ++ [(r6.1, r6.2)], x3, x4, w64 (x5 + 1))
 else
 gd (few x2.length) <|
 some (srtL cf_49 x2)) k ([], r0, (r0.length : Int), 0)
theorem eq_fill_segs (k : Nat) (c_api_Seg : (List LPt) → Option LPt) (c_fill_up : PPt → Option PPt) (a0 : TPl) : textO [⟨48, [], [], fun _ => none, some (.srt kPP 49 cf_49)⟩, ⟨83, [.d (.sl kLP)], [.sl kPP], fun x => c_api_Seg x, none⟩, ⟨61, [.d kPP], [.pair kI kI], fun x => c_fill_up x, none⟩] tb k Tryz.f46 an_fill_segs [.d kPl] kPP 60 a0 = b_fill_segs k c_api_Seg c_fill_up a0 := by kernel_rfl
def g_fill_segs (k : Nat) (a0 : TPl) : Option LPt := b_fill_segs k (g_api_Seg k) (g_fill_up k) a0
theorem tells_fill_segs (k : Nat) : TellsO Tryz.prog 46 [.d kPl] kPP 60 (fun x => g_fill_segs k x) := ⟨rfl, rfl, fun x y h => (fun_tellsO tb_ok mix (EsOk.cons (EntryOk.sort srt_48) (EsOk.cons (EntryOk.of rfl (tells_api_Seg k)) (EsOk.cons (EntryOk.of rfl (tells_fill_up k)) (EsOk.nil _)))) Tryz.func46 (N := k) (an := an_fill_segs) rfl rfl (by kernel_rfl)).2.2 x y ((eq_fill_segs k (g_api_Seg k) (g_fill_up k) x).trans h)⟩
theorem eqf_fill_segs (k : Nat) (c_api_Seg : (List LPt) → Option LPt) (c_fill_up : PPt → Option PPt) (a0 : TPl) : textF [⟨48, [], [], fun _ => none, some (.srt kPP 49 cf_49)⟩, ⟨83, [.d (.sl kLP)], [.sl kPP], fun x => c_api_Seg x, none⟩, ⟨61, [.d kPP], [.pair kI kI], fun x => c_fill_up x, none⟩] tb k Tryz.f46 an_fill_segs [.d kPl] [.sl kPP] a0 = b_fill_segs k c_api_Seg c_fill_up a0 := by kernel_rfl
theorem tells_f_fill_segs (k : Nat) : TellsF Tryz.prog 46 [.d kPl] [.sl kPP] (fun x => g_fill_segs k x) := fun x y h => fun_tells tb_ok mix (EsOk.cons (EntryOk.sort srt_48) (EsOk.cons (EntryOk.of rfl (tells_api_Seg k)) (EsOk.cons (EntryOk.of rfl (tells_fill_up k)) (EsOk.nil _)))) Tryz.func46 (N := k) (an := an_fill_segs) (by kernel_rfl) x y ((eqf_fill_segs k (g_api_Seg k) (g_fill_up k) x).trans h)

def an_fill_goes : Ann := .node none none .leaf (.node none none (.node none none .leaf (.node none none (.node none (some [(1, .d kLP), (2, .d kI), (3, .d kI), (4, .box [.d kPl]), (18, .d kLP), (19, .d kI), (20, .d kI)]) .leaf .leaf) .leaf)) (.node none none (.node none none .leaf (.node none none (.node none (some [(2, .d kI), (3, .d kI), (4, .box [.d kPl]), (37, .d kLP), (38, .d kI), (39, .d kI)]) .leaf .leaf) .leaf)) .leaf))
def b_fill_goes (k : Nat) (c_meet_Inside : PPt → PPt → PPt → Option Bool) (c_meet_Segs : PPt → PPt → PPt → PPt → Option PPt) (c_within_Halfway : LPt → LPt → Int → Int → Option PPt) (a0 : TPl) (a1 : LPt) (a2 : Int) (a3 : Int) : Option Bool :=
 loopN (α := (LPt × (Int × (Int × (TPl × (LPt × PPt)))))) (fun (x1, x2, x3, x4, x5, x6, x7) next0 =>
 bif decide (x7 < x6) then
 gd (inb x7 x5.length) <|
 gd (inb x2 x4.1.length) <|
 gd (inb x3 x4.1.length) <|
 bnd (c_meet_Inside ((rdD (0, 0) x4.1 x2).1, (rdD (0, 0) x4.1 x2).2) ((rdD (0, 0) x4.1 x3).1, (rdD (0, 0) x4.1 x3).2) ((rdD (0, 0) x5 x7).1, (rdD (0, 0) x5 x7).2)) fun r8 =>
 bif r8 then
 some false
 else
 next0 (x1, x2, x3, (x4.1, x4.2.1, x4.2.2), x5, x6, w64 (x7 + 1))
 else
 loopN (α := (Int × (Int × (TPl × (LPt × PPt))))) (fun (x10, x11, x12, x13, x14, x15) next9 =>
 bif decide (x15 < x14) then
 gd (inb x15 x13.length) <|
 gd (inb x10 x12.1.length) <|
 gd (inb x11 x12.1.length) <|
 gd (inb (rdD (0, 0) x13 x15).1 x12.1.length) <|
 gd (inb (rdD (0, 0) x13 x15).2 x12.1.length) <|
 bnd (c_meet_Segs ((rdD (0, 0) x12.1 x10).1, (rdD (0, 0) x12.1 x10).2) ((rdD (0, 0) x12.1 x11).1, (rdD (0, 0) x12.1 x11).2) ((rdD (0, 0) x12.1 (rdD (0, 0) x13 x15).1).1, (rdD (0, 0) x12.1 (rdD (0, 0) x13 x15).1).2) ((rdD (0, 0) x12.1 (rdD (0, 0) x13 x15).2).1, (rdD (0, 0) x12.1 (rdD (0, 0) x13 x15).2).2)) fun r16 =>
 bif decide (r16.1 > 1) then
 some false
 else
 next9 (x10, x11, (x12.1, x12.2.1, x12.2.2), x13, x14, w64 (x15 + 1))
 else
 bnd (c_within_Halfway x12.1 x12.2.1 x10 x11) fun r17 =>
 some (decide (r17.1 = 1))) k (x2, x3, (x4.1, x4.2.1, x4.2.2), x1, (x1.length : Int), 0)) k (a1, a2, a3, (a0.1, a0.2.1, a0.2.2), a0.1, (a0.1.length : Int), 0)
theorem eq_fill_goes (k : Nat) (c_meet_Inside : PPt → PPt → PPt → Option Bool) (c_meet_Segs : PPt → PPt → PPt → PPt → Option PPt) (c_within_Halfway : LPt → LPt → Int → Int → Option PPt) (a0 : TPl) (a1 : LPt) (a2 : Int) (a3 : Int) : textF [⟨84, [.d kPP, .d kPP, .d kPP], [.bool], fun x => c_meet_Inside (x.1) (x.2.1) (x.2.2), none⟩, ⟨85, [.d kPP, .d kPP, .d kPP, .d kPP], [kI, kI], fun x => c_meet_Segs (x.1) (x.2.1) (x.2.2.1) (x.2.2.2), none⟩, ⟨86, [.d kLP, .d kLP, .d kI, .d kI], [kI, kI], fun x => c_within_Halfway (x.1) (x.2.1) (x.2.2.1) (x.2.2.2), none⟩] tb k Tryz.f47 an_fill_goes [.d kPl, .d kLP, .d kI, .d kI] [.bool] (a0, a1, a2, a3) = b_fill_goes k c_meet_Inside c_meet_Segs c_within_Halfway a0 a1 a2 a3 := by kernel_rfl
def g_fill_goes (k : Nat) (a0 : TPl) (a1 : LPt) (a2 : Int) (a3 : Int) : Option Bool := b_fill_goes k (g_meet_Inside k) (g_meet_Segs k) (g_within_Halfway k) a0 a1 a2 a3
theorem tells_fill_goes (k : Nat) : TellsF Tryz.prog 47 [.d kPl, .d kLP, .d kI, .d kI] [.bool] (fun x => g_fill_goes k (x.1) (x.2.1) (x.2.2.1) (x.2.2.2)) := fun x y h => fun_tells tb_ok mix (EsOk.cons (EntryOk.of rfl (tells_meet_Inside k)) (EsOk.cons (EntryOk.of rfl (tells_meet_Segs k)) (EsOk.cons (EntryOk.of rfl (tells_within_Halfway k)) (EsOk.nil _)))) Tryz.func47 (N := k) (an := an_fill_goes) (by kernel_rfl) x y ((eq_fill_goes k (g_meet_Inside k) (g_meet_Segs k) (g_within_Halfway k) (x.1) (x.2.1) (x.2.2.1) (x.2.2.2)).trans h)

def an_fill_Edges : Ann := .node none none .leaf (.node none none .leaf (.node none none .leaf (.node none none (.node none none .leaf (.node none none (.node none (some [(1, .box [.d kPl]), (4, .row kPP 60), (14, .d kI), (15, .d kI)]) (.node none none .leaf (.node none none .leaf (.node none none (.node none none (.node none none .leaf (.node none none .leaf (.node none none (.node none (some [(1, .box [.d kPl]), (4, .row kPP 60), (5, .d kI), (6, .d kI), (14, .d kI), (15, .d kI)]) (.node none none .leaf (.node none none (.node none none (.node none none .leaf (.node (some [(1, .box [.d kPl]), (4, .row kPP 60), (5, .d kI), (6, .d kI), (14, .d kI), (15, .d kI)]) none .leaf .leaf)) .leaf) .leaf)) .leaf) .leaf))) .leaf) .leaf))) .leaf) .leaf)) .leaf)))
def b_fill_Edges (k : Nat) (c_fill_right : TPl → Option Bool) (c_fill_segs : TPl → Option LPt) (c_fill_goes : TPl → LPt → Int → Int → Option Bool) (a0 : TPl) : Option (LPt × Int) :=
 bnd (c_fill_right (a0.1, a0.2.1, a0.2.2)) fun r0 =>
 bif !r0 then
 some ([], 2)
 else
 bnd (c_fill_segs (a0.1, a0.2.1, a0.2.2)) fun r1 =>
 loopN (α := (TPl × (LPt × PPt))) (fun (x3, x4, x5, x6) next2 =>
 bif decide (x6 < x5) then
 loopN (α := (TPl × (LPt × (Int × (Int × PPt))))) (fun (x8, x9, x10, x11, x12, x13) next7 =>
 bif decide (x11 < (x8.1.length : Int)) then
 bnd (c_fill_goes (x8.1, x8.2.1, x8.2.2) x9 x10 x11) fun r14 =>
 meet (α := (TPl × (LPt × (Int × (Int × PPt))))) (fun (y15, y16, y17, y18, y19, y20) =>
 next7 ((y15.1, y15.2.1, y15.2.2), y16, y17, w64 (y18 + 1), y19, y20)) fun j21 =>
 bif r14 then
 gd (few (x9.length + 1)) <|
 j21 ((x8.1, x8.2.1, x8.2.2), x9 ++ [(x10, x11)], x10, x11, x12, x13)
 else
 j21 ((x8.1, x8.2.1, x8.2.2), x9, x10, x11, x12, x13)
 else
 next2 ((x8.1, x8.2.1, x8.2.2), x9, x12, w64 (x13 + 1))) k ((x3.1, x3.2.1, x3.2.2), x4, x6, w64 (x6 + 1), x5, x6)
 else
 gd (few x4.length) <|
 some (srtL cf_49 x4, 0)) k ((a0.1, a0.2.1, a0.2.2), r1, (a0.1.length : Int), 0)
theorem eq_fill_Edges (k : Nat) (c_fill_right : TPl → Option Bool) (c_fill_segs : TPl → Option LPt) (c_fill_goes : TPl → LPt → Int → Int → Option Bool) (a0 : TPl) : textF [⟨48, [], [], fun _ => none, some (.srt kPP 49 cf_49)⟩, ⟨45, [.d kPl], [.bool], fun x => c_fill_right x, none⟩, ⟨46, [], [], fun _ => none, some (.own [.d kPl] kPP 60 fun x => c_fill_segs x)⟩, ⟨47, [.d kPl, .d kLP, .d kI, .d kI], [.bool], fun x => c_fill_goes (x.1) (x.2.1) (x.2.2.1) (x.2.2.2), none⟩] tb k Tryz.f13 an_fill_Edges [.d kPl] [.sl kPP, kI] a0 = b_fill_Edges k c_fill_right c_fill_segs c_fill_goes a0 := by kernel_rfl
def g_fill_Edges (k : Nat) (a0 : TPl) : Option (LPt × Int) := b_fill_Edges k (g_fill_right k) (g_fill_segs k) (g_fill_goes k) a0
theorem tells_fill_Edges (k : Nat) : TellsF Tryz.prog 13 [.d kPl] [.sl kPP, kI] (fun x => g_fill_Edges k x) := fun x y h => fun_tells tb_ok mix (EsOk.cons (EntryOk.sort srt_48) (EsOk.cons (EntryOk.of rfl (tells_fill_right k)) (EsOk.cons (EntryOk.own (tells_fill_segs k)) (EsOk.cons (EntryOk.of rfl (tells_fill_goes k)) (EsOk.nil _))))) Tryz.func13 (N := k) (an := an_fill_Edges) (by kernel_rfl) x y ((eq_fill_Edges k (g_fill_right k) (g_fill_segs k) (g_fill_goes k) x).trans h)

def an_fill_Tri : Ann := .node none none .leaf (.node none none (.node none none .leaf (.node none none (.node none (some [(0, .d kLP), (1, .d kI), (2, .d kI), (3, .d kI), (8, .box [.d (.pair kI kPP)]), (15, .d (.pair kI kPP)), (16, .d kI)]) (.node none none .leaf (.node none none .leaf (.node none none (.node none none (.node none none (.node (some [(0, .d kLP), (1, .d kI), (2, .d kI), (3, .d kI), (8, .box [.d (.pair kI kPP)]), (11, .d kI), (15, .d (.pair kI kPP)), (16, .d kI)]) none .leaf .leaf) (.node none none (.node (some [(0, .d kLP), (1, .d kI), (2, .d kI), (3, .d kI), (8, .box [.d (.pair kI kPP)]), (15, .d (.pair kI kPP)), (16, .d kI), (26, .d .bool)]) none .leaf .leaf) .leaf)) .leaf) .leaf))) .leaf) .leaf)) (.node none none (.node none none .leaf (.node none none (.node none none .leaf (.node none none .leaf (.node none none .leaf (.node (some [(1, .d kI), (2, .d kI), (3, .d kI), (8, .box [.d (.pair kI kPP)])]) none .leaf .leaf)))) .leaf)) (.node none none (.node none none (.node none (some [(1, .d kI), (2, .d kI), (3, .d kI), (8, .box [.d (.pair kI kPP)])]) (.node none none (.node none none (.node (some [(1, .d kI), (2, .d kI), (3, .d kI), (8, .box [.d (.pair kI kPP)]), (56, .d .bool)]) none .leaf .leaf) .leaf) .leaf) .leaf) .leaf) .leaf)))
def b_fill_Tri (k : Nat) (c_pred_Orient : PPt → PPt → PPt → Option Int) (a0 : LPt) (a1 : Int) (a2 : Int) (a3 : Int) : Option ((Int × PPt) × Bool) :=
 loopN (α := (LPt × (Int × (Int × (Int × ((Int × PPt) × ((Int × PPt) × Int))))))) (fun (x1, x2, x3, x4, x5, x6, x7) next0 =>
 bif decide (x7 < 3) then
 meet (α := (LPt × (Int × (Int × (Int × ((Int × PPt) × (Int × ((Int × PPt) × Int)))))))) (fun (y8, y9, y10, y11, y12, y13, y14, y15) =>
 meet (α := (LPt × (Int × (Int × (Int × ((Int × PPt) × ((Int × PPt) × (Int × Bool)))))))) (fun (y16, y17, y18, y19, y20, y21, y22, y23) =>
 bif y23 then
 some ((0, 0, 0), false)
 else
 next0 (y16, y17, y18, y19, (y20.1, y20.2.1, y20.2.2), (y21.1, y21.2.1, y21.2.2), w64 (y22 + 1))) fun j24 =>
 bif decide (y13 < 0) then
 j24 (y8, y9, y10, y11, (y12.1, y12.2.1, y12.2.2), (y14.1, y14.2.1, y14.2.2), y15, true)
 else
 j24 (y8, y9, y10, y11, (y12.1, y12.2.1, y12.2.2), (y14.1, y14.2.1, y14.2.2), y15, decide (y13 ≥ (y8.length : Int)))) fun j25 =>
 bif decide (x7 = 0) then
 j25 (x1, x2, x3, x4, (x5.1, x5.2.1, x5.2.2), x6.1, (x6.1, x6.2.1, x6.2.2), x7)
 else
 bif decide (x7 = 1) then
 j25 (x1, x2, x3, x4, (x5.1, x5.2.1, x5.2.2), x6.2.1, (x6.1, x6.2.1, x6.2.2), x7)
 else
 bif decide (x7 = 2) then
 j25 (x1, x2, x3, x4, (x5.1, x5.2.1, x5.2.2), x6.2.2, (x6.1, x6.2.1, x6.2.2), x7)
 else
 none
 else
 gd (inb x2 x1.length) <|
 gd (inb x3 x1.length) <|
 gd (inb x4 x1.length) <|
 bnd (c_pred_Orient ((rdD (0, 0) x1 x2).1, (rdD (0, 0) x1 x2).2) ((rdD (0, 0) x1 x3).1, (rdD (0, 0) x1 x3).2) ((rdD (0, 0) x1 x4).1, (rdD (0, 0) x1 x4).2)) fun r26 =>
 bif decide (r26 = 0) then
 some ((0, 0, 0), false)
 else
 meet (α := (Int × (Int × (Int × (Int × PPt))))) (fun (y27, y28, y29, y30, y31, y32) =>
 loopN (α := (Int × (Int × (Int × (Int × PPt))))) (fun (x34, x35, x36, x37, x38, x39) next33 =>
 meet (α := (Int × (Int × (Int × ((Int × PPt) × Bool))))) (fun (y40, y41, y42, y43, y44) =>
 bif y44 then
 next33 (y41, y42, y40, y43.1, y43.2.1, y43.2.2)
 else
 some ((y40, y41, y42), true)) fun j45 =>
 bif decide (x34 > x35) then
 j45 (x34, x35, x36, (x37, x38, x39), true)
 else
 j45 (x34, x35, x36, (x37, x38, x39), decide (x34 > x36))) k (y27, y28, y29, y30, y31, y32)) fun j46 =>
 bif decide (r26 = (-1)) then
 j46 (x2, x4, x3, x5.1, x5.2.1, x5.2.2)
 else
 j46 (x2, x3, x4, x5.1, x5.2.1, x5.2.2)) k (a0, a1, a2, a3, (0, 0, 0), (a1, a2, a3), 0)
theorem eq_fill_Tri (k : Nat) (c_pred_Orient : PPt → PPt → PPt → Option Int) (a0 : LPt) (a1 : Int) (a2 : Int) (a3 : Int) : textF [⟨81, [.d kPP, .d kPP, .d kPP], [kI], fun x => c_pred_Orient (x.1) (x.2.1) (x.2.2), none⟩] tb k Tryz.f40 an_fill_Tri [.d kLP, .d kI, .d kI, .d kI] [.pair kI kPP, .bool] (a0, a1, a2, a3) = b_fill_Tri k c_pred_Orient a0 a1 a2 a3 := by kernel_rfl
def g_fill_Tri (k : Nat) (a0 : LPt) (a1 : Int) (a2 : Int) (a3 : Int) : Option ((Int × PPt) × Bool) := b_fill_Tri k (g_pred_Orient k) a0 a1 a2 a3
theorem tells_fill_Tri (k : Nat) : TellsF Tryz.prog 40 [.d kLP, .d kI, .d kI, .d kI] [.pair kI kPP, .bool] (fun x => g_fill_Tri k (x.1) (x.2.1) (x.2.2.1) (x.2.2.2)) := fun x y h => fun_tells tb_ok mix (EsOk.cons (EntryOk.of rfl (tells_pred_Orient k)) (EsOk.nil _)) Tryz.func40 (N := k) (an := an_fill_Tri) (by kernel_rfl) x y ((eq_fill_Tri k (g_pred_Orient k) (x.1) (x.2.1) (x.2.2.1) (x.2.2.2)).trans h)

def an_within_Third : Ann := .leaf
def b_within_Third (k : Nat) (c_within_middle : LPt → LPt → (List Int) → Option PPt) (a0 : LPt) (a1 : LPt) (a2 : Int) (a3 : Int) (a4 : Int) : Option PPt :=
 bnd (c_within_middle a0 a1 [a2, a3, a4]) fun r0 =>
 some (r0.1, r0.2)
theorem eq_within_Third (k : Nat) (c_within_middle : LPt → LPt → (List Int) → Option PPt) (a0 : LPt) (a1 : LPt) (a2 : Int) (a3 : Int) (a4 : Int) : textF [⟨91, [.d kLP, .d kLP, .d (.sl kI)], [kI, kI], fun x => c_within_middle (x.1) (x.2.1) (x.2.2), none⟩] tb k Tryz.f54 an_within_Third [.d kLP, .d kLP, .d kI, .d kI, .d kI] [kI, kI] (a0, a1, a2, a3, a4) = b_within_Third k c_within_middle a0 a1 a2 a3 a4 := by kernel_rfl
def g_within_Third (k : Nat) (a0 : LPt) (a1 : LPt) (a2 : Int) (a3 : Int) (a4 : Int) : Option PPt := b_within_Third k (g_within_middle k) a0 a1 a2 a3 a4
theorem tells_within_Third (k : Nat) : TellsF Tryz.prog 54 [.d kLP, .d kLP, .d kI, .d kI, .d kI] [kI, kI] (fun x => g_within_Third k (x.1) (x.2.1) (x.2.2.1) (x.2.2.2.1) (x.2.2.2.2)) := fun x y h => fun_tells tb_ok mix (EsOk.cons (EntryOk.of rfl (tells_within_middle k)) (EsOk.nil _)) Tryz.func54 (N := k) (an := an_within_Third) (by kernel_rfl) x y ((eq_within_Third k (g_within_middle k) (x.1) (x.2.1) (x.2.2.1) (x.2.2.2.1) (x.2.2.2.2)).trans h)

def an_fill_in : Ann := .node none none .leaf (.node none none (.node (some [(6, .d .bool)]) none .leaf .leaf) .leaf)
def b_fill_in (k : Nat) (c_pred_Orient : PPt → PPt → PPt → Option Int) (a0 : LPt) (a1 : (Int × PPt)) (a2 : PPt) : Option Bool :=
 meet (α := Bool) (fun y0 =>
 some y0) fun j1 =>
 gd (inb a1.1 a0.length) <|
 gd (inb a1.2.1 a0.length) <|
 bnd (c_pred_Orient ((rdD (0, 0) a0 a1.1).1, (rdD (0, 0) a0 a1.1).2) ((rdD (0, 0) a0 a1.2.1).1, (rdD (0, 0) a0 a1.2.1).2) (a2.1, a2.2)) fun r2 =>
 bif decide (r2 ≥ 0) then
 gd (inb a1.2.1 a0.length) <|
 gd (inb a1.2.2 a0.length) <|
 bnd (c_pred_Orient ((rdD (0, 0) a0 a1.2.1).1, (rdD (0, 0) a0 a1.2.1).2) ((rdD (0, 0) a0 a1.2.2).1, (rdD (0, 0) a0 a1.2.2).2) (a2.1, a2.2)) fun r3 =>
 bif decide (r3 ≥ 0) then
 gd (inb a1.2.2 a0.length) <|
 gd (inb a1.1 a0.length) <|
 bnd (c_pred_Orient ((rdD (0, 0) a0 a1.2.2).1, (rdD (0, 0) a0 a1.2.2).2) ((rdD (0, 0) a0 a1.1).1, (rdD (0, 0) a0 a1.1).2) (a2.1, a2.2)) fun r4 =>
 j1 (decide (r4 ≥ 0))
 else
 j1 false
 else
 j1 false
theorem eq_fill_in (k : Nat) (c_pred_Orient : PPt → PPt → PPt → Option Int) (a0 : LPt) (a1 : (Int × PPt)) (a2 : PPt) : textF [⟨81, [.d kPP, .d kPP, .d kPP], [kI], fun x => c_pred_Orient (x.1) (x.2.1) (x.2.2), none⟩] tb k Tryz.f92 an_fill_in [.d kLP, .d (.pair kI kPP), .d kPP] [.bool] (a0, a1, a2) = b_fill_in k c_pred_Orient a0 a1 a2 := by kernel_rfl
def g_fill_in (k : Nat) (a0 : LPt) (a1 : (Int × PPt)) (a2 : PPt) : Option Bool := b_fill_in k (g_pred_Orient k) a0 a1 a2
theorem tells_fill_in (k : Nat) : TellsF Tryz.prog 92 [.d kLP, .d (.pair kI kPP), .d kPP] [.bool] (fun x => g_fill_in k (x.1) (x.2.1) (x.2.2)) := fun x y h => fun_tells tb_ok mix (EsOk.cons (EntryOk.of rfl (tells_pred_Orient k)) (EsOk.nil _)) Tryz.func92 (N := k) (an := an_fill_in) (by kernel_rfl) x y ((eq_fill_in k (g_pred_Orient k) (x.1) (x.2.1) (x.2.2)).trans h)

def an_fill_empty : Ann := .node none none .leaf (.node none none (.node none none .leaf (.node none none (.node none (some [(0, .d kLP), (3, .box [.d (.pair kI kPP)]), (7, .d kLP), (8, .d kI), (9, .d kI)]) (.node none none .leaf (.node none none .leaf (.node none none (.node none none (.node none none .leaf (.node none none (.node (some [(0, .d kLP), (3, .box [.d (.pair kI kPP)]), (7, .d kLP), (8, .d kI), (9, .d kI), (35, .d .bool)]) none .leaf .leaf) .leaf)) .leaf) .leaf))) .leaf) .leaf)) .leaf)
def b_fill_empty (k : Nat) (c_fill_in : LPt → (Int × PPt) → PPt → Option Bool) (a0 : LPt) (a1 : (Int × PPt)) : Option Bool :=
 loopN (α := (LPt × ((Int × PPt) × (LPt × PPt)))) (fun (x1, x2, x3, x4, x5) next0 =>
 bif decide (x5 < x4) then
 gd (inb x5 x3.length) <|
 meet (α := (LPt × ((Int × PPt) × (LPt × (Int × (Int × Bool)))))) (fun (y6, y7, y8, y9, y10, y11) =>
 bif y11 then
 some false
 else
 next0 (y6, (y7.1, y7.2.1, y7.2.2), y8, y9, w64 (y10 + 1))) fun j12 =>
 bif !(decide (x5 = x2.1)) then
 bif !(decide (x5 = x2.2.1)) then
 bif !(decide (x5 = x2.2.2)) then
 bnd (c_fill_in x1 (x2.1, x2.2.1, x2.2.2) ((rdD (0, 0) x3 x5).1, (rdD (0, 0) x3 x5).2)) fun r13 =>
 j12 (x1, (x2.1, x2.2.1, x2.2.2), x3, x4, x5, r13)
 else
 j12 (x1, (x2.1, x2.2.1, x2.2.2), x3, x4, x5, false)
 else
 j12 (x1, (x2.1, x2.2.1, x2.2.2), x3, x4, x5, false)
 else
 j12 (x1, (x2.1, x2.2.1, x2.2.2), x3, x4, x5, false)
 else
 some true) k (a0, (a1.1, a1.2.1, a1.2.2), a0, (a0.length : Int), 0)
theorem eq_fill_empty (k : Nat) (c_fill_in : LPt → (Int × PPt) → PPt → Option Bool) (a0 : LPt) (a1 : (Int × PPt)) : textF [⟨92, [.d kLP, .d (.pair kI kPP), .d kPP], [.bool], fun x => c_fill_in (x.1) (x.2.1) (x.2.2), none⟩] tb k Tryz.f55 an_fill_empty [.d kLP, .d (.pair kI kPP)] [.bool] (a0, a1) = b_fill_empty k c_fill_in a0 a1 := by kernel_rfl
def g_fill_empty (k : Nat) (a0 : LPt) (a1 : (Int × PPt)) : Option Bool := b_fill_empty k (g_fill_in k) a0 a1
theorem tells_fill_empty (k : Nat) : TellsF Tryz.prog 55 [.d kLP, .d (.pair kI kPP)] [.bool] (fun x => g_fill_empty k (x.1) (x.2)) := fun x y h => fun_tells tb_ok mix (EsOk.cons (EntryOk.of rfl (tells_fill_in k)) (EsOk.nil _)) Tryz.func55 (N := k) (an := an_fill_empty) (by kernel_rfl) x y ((eq_fill_empty k (g_fill_in k) (x.1) (x.2)).trans h)

def an_fill_Make : Ann := .node none none .leaf (.node none none .leaf (.node none none .leaf (.node none none .leaf (.node none none (.node none none .leaf (.node none none (.node none (some [(1, .box [.d kPl]), (2, .box [.row kPP 44, .row (.pair kI kPP) 56, .row kPP 60]), (4, .d kLP), (6, .mp kPP .bool), (27, .d kLP), (28, .d kI), (29, .d kI)]) .leaf .leaf) .leaf)) (.node none none .leaf (.node none none (.node none none .leaf (.node none none (.node none (some [(1, .box [.d kPl]), (2, .box [.row kPP 44, .row (.pair kI kPP) 56, .row kPP 60]), (6, .mp kPP .bool), (9, .box [.row kPP 44, .row (.pair kI kPP) 56, .d kLP]), (42, .d kLP), (43, .d kI), (44, .d kI)]) (.node none none .leaf (.node none none .leaf (.node none none (.node none none (.node none none .leaf (.node none none .leaf (.node none none (.node none (some [(1, .box [.d kPl]), (2, .box [.row kPP 44, .row (.pair kI kPP) 56, .row kPP 60]), (6, .mp kPP .bool), (9, .box [.row kPP 44, .row (.pair kI kPP) 56, .d kLP]), (11, .box [.d kPP]), (12, .d kI), (42, .d kLP), (43, .d kI), (44, .d kI)]) (.node none none .leaf (.node none none (.node (some [(1, .box [.d kPl]), (2, .box [.row kPP 44, .row (.pair kI kPP) 56, .row kPP 60]), (6, .mp kPP .bool), (9, .box [.row kPP 44, .row (.pair kI kPP) 56, .d kLP]), (11, .box [.d kPP]), (12, .d kI), (42, .d kLP), (43, .d kI), (44, .d kI)]) none (.node none none (.node none none (.node (some [(1, .box [.d kPl]), (2, .box [.row kPP 44, .row (.pair kI kPP) 56, .row kPP 60]), (6, .mp kPP .bool), (9, .box [.row kPP 44, .row (.pair kI kPP) 56, .d kLP]), (11, .box [.d kPP]), (12, .d kI), (42, .d kLP), (43, .d kI), (44, .d kI), (73, .d .bool)]) none .leaf .leaf) .leaf) (.node none none .leaf (.node none none .leaf (.node none none (.node (some [(1, .box [.d kPl]), (2, .box [.row kPP 44, .row (.pair kI kPP) 56, .row kPP 60]), (6, .mp kPP .bool), (9, .box [.row kPP 44, .row (.pair kI kPP) 56, .d kLP]), (11, .box [.d kPP]), (12, .d kI), (13, .box [.d (.pair kI kPP)]), (42, .d kLP), (43, .d kI), (44, .d kI), (108, .d .bool)]) none .leaf .leaf) (.node (some [(1, .box [.d kPl]), (2, .box [.row kPP 44, .row (.pair kI kPP) 56, .row kPP 60]), (6, .mp kPP .bool), (9, .box [.row kPP 44, .row (.pair kI kPP) 56, .d kLP]), (11, .box [.d kPP]), (12, .d kI), (42, .d kLP), (43, .d kI), (44, .d kI)]) none .leaf .leaf))))) .leaf) .leaf)) .leaf) .leaf))) .leaf) .leaf))) .leaf) .leaf)) .leaf))))))
def b_fill_Make (k : Nat) (c_fill_Edges : TPl → Option (LPt × Int)) (c_fill_segs : TPl → Option LPt) (c_fill_Tri : LPt → Int → Int → Int → Option ((Int × PPt) × Bool)) (c_within_Third : LPt → LPt → Int → Int → Int → Option PPt) (c_fill_empty : LPt → (Int × PPt) → Option Bool) (a0 : TPl) : Option (TMs × Int) :=
 bnd (c_fill_Edges (a0.1, a0.2.1, a0.2.2)) fun r0 =>
 bif !(decide (r0.2 = 0)) then
 some (([], [], []), r0.2)
 else
 loopN (α := (TPl × (TMs × (LPt × ((List (PPt × Bool)) × (LPt × PPt)))))) (fun (x2, x3, x4, x5, x6, x7, x8) next1 =>
 bif decide (x8 < x7) then
 gd (inb x8 x6.length) <|
 gd (!(hsM (.pair (.int .i64) (.int .i64)) .bool x5 ((rdD (0, 0) x6 x8).1, (rdD (0, 0) x6 x8).2))) <|
 next1 ((x2.1, x2.2.1, x2.2.2), (x3.1, x3.2.1, x3.2.2), x4, adM (.pair (.int .i64) (.int .i64)) .bool x5 ((rdD (0, 0) x6 x8).1, (rdD (0, 0) x6 x8).2) true, x6, x7, w64 (x8 + 1))
 else
 gd (decide (0 < (x2.1.length : Int))) <|
 gd (few x2.1.length) <|
 bnd (c_fill_segs (x2.1, x2.2.1, x2.2.2)) fun r9 =>
 loopN (α := (TPl × (TMs × ((List (PPt × Bool)) × (TMs × (LPt × PPt)))))) (fun (x11, x12, x13, x14, x15, x16, x17) next10 =>
 bif decide (x17 < x16) then
 gd (inb x17 x15.length) <|
 loopN (α := (TPl × (TMs × ((List (PPt × Bool)) × (TMs × (PPt × (Int × (LPt × PPt)))))))) (fun (x19, x20, x21, x22, x23, x24, x25, x26, x27) next18 =>
 bif decide (x24 < (x19.1.length : Int)) then
 meet (α := (TPl × (TMs × ((List (PPt × Bool)) × (TMs × (PPt × (Int × (LPt × PPt)))))))) (fun (y28, y29, y30, y31, y32, y33, y34, y35, y36) =>
 next18 ((y28.1, y28.2.1, y28.2.2), (y29.1, y29.2.1, y29.2.2), y30, (y31.1, y31.2.1, y31.2.2), (y32.1, y32.2), w64 (y33 + 1), y34, y35, y36)) fun j37 =>
 meet (α := (TPl × (TMs × ((List (PPt × Bool)) × (TMs × (PPt × (Int × (LPt × (Int × (Int × Bool)))))))))) (fun (y38, y39, y40, y41, y42, y43, y44, y45, y46, y47) =>
 bif y47 then
 j37 ((y38.1, y38.2.1, y38.2.2), (y39.1, y39.2.1, y39.2.2), y40, (y41.1, y41.2.1, y41.2.2), (y42.1, y42.2), y43, y44, y45, y46)
 else
 bnd (c_fill_Tri y38.1 y42.1 y42.2 y43) fun r48 =>
 bnd (c_within_Third y38.1 y38.2.1 y42.1 y42.2 y43) fun r49 =>
 meet (α := (TPl × (TMs × ((List (PPt × Bool)) × (TMs × (PPt × (Int × ((Int × PPt) × (LPt × (Int × (Int × Bool))))))))))) (fun (y50, y51, y52, y53, y54, y55, y56, y57, y58, y59, y60) =>
 meet (α := (TPl × (TMs × ((List (PPt × Bool)) × (TMs × (PPt × (Int × (LPt × PPt)))))))) (fun (y61, y62, y63, y64, y65, y66, y67, y68, y69) =>
 j37 ((y61.1, y61.2.1, y61.2.2), (y62.1, y62.2.1, y62.2.2), y63, (y64.1, y64.2.1, y64.2.2), (y65.1, y65.2), y66, y67, y68, y69)) fun j70 =>
 bif y60 then
 gd (few (y53.2.1.length + 1)) <|
 j70 ((y50.1, y50.2.1, y50.2.2), (y51.1, y51.2.1, y51.2.2), y52, (y53.1, y53.2.1 ++ [(y56.1, y56.2.1, y56.2.2)], y53.2.2), (y54.1, y54.2), y55, y57, y58, y59)
 else
 j70 ((y50.1, y50.2.1, y50.2.2), (y51.1, y51.2.1, y51.2.2), y52, (y53.1, y53.2.1, y53.2.2), (y54.1, y54.2), y55, y57, y58, y59)) fun j71 =>
 bif r48.2 then
 bif decide (r49.1 = 1) then
 bnd (c_fill_empty y38.1 (r48.1.1, r48.1.2.1, r48.1.2.2)) fun r72 =>
 j71 ((y38.1, y38.2.1, y38.2.2), (y39.1, y39.2.1, y39.2.2), y40, (y41.1, y41.2.1, y41.2.2), (y42.1, y42.2), y43, (r48.1.1, r48.1.2.1, r48.1.2.2), y44, y45, y46, r72)
 else
 j71 ((y38.1, y38.2.1, y38.2.2), (y39.1, y39.2.1, y39.2.2), y40, (y41.1, y41.2.1, y41.2.2), (y42.1, y42.2), y43, (r48.1.1, r48.1.2.1, r48.1.2.2), y44, y45, y46, false)
 else
 j71 ((y38.1, y38.2.1, y38.2.2), (y39.1, y39.2.1, y39.2.2), y40, (y41.1, y41.2.1, y41.2.2), (y42.1, y42.2), y43, (r48.1.1, r48.1.2.1, r48.1.2.2), y44, y45, y46, false)) fun j73 =>
 bif !(toT Bool (lkM (.pair (.int .i64) (.int .i64)) .bool x21 (x23.1, x24))) then
 j73 ((x19.1, x19.2.1, x19.2.2), (x20.1, x20.2.1, x20.2.2), x21, (x22.1, x22.2.1, x22.2.2), (x23.1, x23.2), x24, x25, x26, x27, true)
 else
 j73 ((x19.1, x19.2.1, x19.2.2), (x20.1, x20.2.1, x20.2.2), x21, (x22.1, x22.2.1, x22.2.2), (x23.1, x23.2), x24, x25, x26, x27, !(toT Bool (lkM (.pair (.int .i64) (.int .i64)) .bool x21 (x23.2, x24))))
 else
 next10 ((x19.1, x19.2.1, x19.2.2), (x20.1, x20.2.1, x20.2.2), x21, (x22.1, x22.2.1, x22.2.2), x25, x26, w64 (x27 + 1))) k ((x11.1, x11.2.1, x11.2.2), (x12.1, x12.2.1, x12.2.2), x13, (x14.1, x14.2.1, x14.2.2), ((rdD (0, 0) x15 x17).1, (rdD (0, 0) x15 x17).2), w64 ((rdD (0, 0) x15 x17).2 + 1), x15, x16, x17)
 else
 gd (few x14.2.1.length) <|
 some ((x14.1, srtL cf_57 x14.2.1, x14.2.2), 0)) k ((x2.1, x2.2.1, x2.2.2), (x3.1, x3.2.1, x3.2.2), x5, (x2.1, [], r9), x4, (x4.length : Int), 0)) k ((a0.1, a0.2.1, a0.2.2), ([], [], []), r0.1, [], r0.1, (r0.1.length : Int), 0)
theorem eq_fill_Make (k : Nat) (c_fill_Edges : TPl → Option (LPt × Int)) (c_fill_segs : TPl → Option LPt) (c_fill_Tri : LPt → Int → Int → Int → Option ((Int × PPt) × Bool)) (c_within_Third : LPt → LPt → Int → Int → Int → Option PPt) (c_fill_empty : LPt → (Int × PPt) → Option Bool) (a0 : TPl) : textF [⟨56, [], [], fun _ => none, some (.srt (.pair kI kPP) 57 cf_57)⟩, ⟨13, [.d kPl], [.sl kPP, kI], fun x => c_fill_Edges x, none⟩, ⟨46, [.d kPl], [.sl kPP], fun x => c_fill_segs x, none⟩, ⟨40, [.d kLP, .d kI, .d kI, .d kI], [.pair kI kPP, .bool], fun x => c_fill_Tri (x.1) (x.2.1) (x.2.2.1) (x.2.2.2), none⟩, ⟨54, [.d kLP, .d kLP, .d kI, .d kI, .d kI], [kI, kI], fun x => c_within_Third (x.1) (x.2.1) (x.2.2.1) (x.2.2.2.1) (x.2.2.2.2), none⟩, ⟨55, [.d kLP, .d (.pair kI kPP)], [.bool], fun x => c_fill_empty (x.1) (x.2), none⟩] tbm k Tryz.f15 an_fill_Make [.d kPl] [.pair kLP (.pair (.sl (.pair kI kPP)) kLP), kI] a0 = b_fill_Make k c_fill_Edges c_fill_segs c_fill_Tri c_within_Third c_fill_empty a0 := by kernel_rfl
def g_fill_Make (k : Nat) (a0 : TPl) : Option (TMs × Int) := b_fill_Make k (g_fill_Edges k) (g_fill_segs k) (g_fill_Tri k) (g_within_Third k) (g_fill_empty k) a0
theorem tells_fill_Make (k : Nat) : TellsF Tryz.prog 15 [.d kPl] [.pair kLP (.pair (.sl (.pair kI kPP)) kLP), kI] (fun x => g_fill_Make k x) := fun x y h => fun_tells tbm_ok mix (EsOk.cons (EntryOk.sort srt_56) (EsOk.cons (EntryOk.of rfl (tells_fill_Edges k)) (EsOk.cons (EntryOk.of rfl (tells_f_fill_segs k)) (EsOk.cons (EntryOk.of rfl (tells_fill_Tri k)) (EsOk.cons (EntryOk.of rfl (tells_within_Third k)) (EsOk.cons (EntryOk.of rfl (tells_fill_empty k)) (EsOk.nil _))))))) Tryz.func15 (N := k) (an := an_fill_Make) (by kernel_rfl) x y ((eq_fill_Make k (g_fill_Edges k) (g_fill_segs k) (g_fill_Tri k) (g_within_Third k) (g_fill_empty k) x).trans h)
def b_mix_fill_Make (k : Nat) (c_fill_Edges : TPl → Option (LPt × Int)) (c_fill_segs : TPl → Option LPt) (c_fill_Tri : LPt → Int → Int → Int → Option ((Int × PPt) × Bool)) (c_within_Third : LPt → LPt → Int → Int → Int → Option PPt) (c_fill_empty : LPt → (Int × PPt) → Option Bool) (a0 : TPl) : Option (LPt × (TMs × Int)) :=
 bnd (c_fill_Edges (a0.1, a0.2.1, a0.2.2)) fun r0 =>
 bif !(decide (r0.2 = 0)) then
 some ([], ([], [], []), r0.2)
 else
 loopN (α := (TPl × (TMs × (LPt × ((List (PPt × Bool)) × (LPt × PPt)))))) (fun (x2, x3, x4, x5, x6, x7, x8) next1 =>
 bif decide (x8 < x7) then
 gd (inb x8 x6.length) <|
 gd (!(hsM (.pair (.int .i64) (.int .i64)) .bool x5 ((rdD (0, 0) x6 x8).1, (rdD (0, 0) x6 x8).2))) <|
 next1 ((x2.1, x2.2.1, x2.2.2), (x3.1, x3.2.1, x3.2.2), x4, adM (.pair (.int .i64) (.int .i64)) .bool x5 ((rdD (0, 0) x6 x8).1, (rdD (0, 0) x6 x8).2) true, x6, x7, w64 (x8 + 1))
 else
 gd (decide (0 < (x2.1.length : Int))) <|
 gd (few x2.1.length) <|
 bnd (c_fill_segs (x2.1, x2.2.1, x2.2.2)) fun r9 =>
 loopN (α := (TPl × (TMs × ((List (PPt × Bool)) × (TMs × (LPt × PPt)))))) (fun (x11, x12, x13, x14, x15, x16, x17) next10 =>
 bif decide (x17 < x16) then
 gd (inb x17 x15.length) <|
 loopN (α := (TPl × (TMs × ((List (PPt × Bool)) × (TMs × (PPt × (Int × (LPt × PPt)))))))) (fun (x19, x20, x21, x22, x23, x24, x25, x26, x27) next18 =>
 bif decide (x24 < (x19.1.length : Int)) then
 meet (α := (TPl × (TMs × ((List (PPt × Bool)) × (TMs × (PPt × (Int × (LPt × PPt)))))))) (fun (y28, y29, y30, y31, y32, y33, y34, y35, y36) =>
 next18 ((y28.1, y28.2.1, y28.2.2), (y29.1, y29.2.1, y29.2.2), y30, (y31.1, y31.2.1, y31.2.2), (y32.1, y32.2), w64 (y33 + 1), y34, y35, y36)) fun j37 =>
 meet (α := (TPl × (TMs × ((List (PPt × Bool)) × (TMs × (PPt × (Int × (LPt × (Int × (Int × Bool)))))))))) (fun (y38, y39, y40, y41, y42, y43, y44, y45, y46, y47) =>
 bif y47 then
 j37 ((y38.1, y38.2.1, y38.2.2), (y39.1, y39.2.1, y39.2.2), y40, (y41.1, y41.2.1, y41.2.2), (y42.1, y42.2), y43, y44, y45, y46)
 else
 bnd (c_fill_Tri y38.1 y42.1 y42.2 y43) fun r48 =>
 bnd (c_within_Third y38.1 y38.2.1 y42.1 y42.2 y43) fun r49 =>
 meet (α := (TPl × (TMs × ((List (PPt × Bool)) × (TMs × (PPt × (Int × ((Int × PPt) × (LPt × (Int × (Int × Bool))))))))))) (fun (y50, y51, y52, y53, y54, y55, y56, y57, y58, y59, y60) =>
 meet (α := (TPl × (TMs × ((List (PPt × Bool)) × (TMs × (PPt × (Int × (LPt × PPt)))))))) (fun (y61, y62, y63, y64, y65, y66, y67, y68, y69) =>
 j37 ((y61.1, y61.2.1, y61.2.2), (y62.1, y62.2.1, y62.2.2), y63, (y64.1, y64.2.1, y64.2.2), (y65.1, y65.2), y66, y67, y68, y69)) fun j70 =>
 bif y60 then
 gd (few (y53.2.1.length + 1)) <|
 j70 ((y50.1, y50.2.1, y50.2.2), (y51.1, y51.2.1, y51.2.2), y52, (y53.1, y53.2.1 ++ [(y56.1, y56.2.1, y56.2.2)], y53.2.2), (y54.1, y54.2), y55, y57, y58, y59)
 else
 j70 ((y50.1, y50.2.1, y50.2.2), (y51.1, y51.2.1, y51.2.2), y52, (y53.1, y53.2.1, y53.2.2), (y54.1, y54.2), y55, y57, y58, y59)) fun j71 =>
 bif r48.2 then
 bif decide (r49.1 = 1) then
 bnd (c_fill_empty y38.1 (r48.1.1, r48.1.2.1, r48.1.2.2)) fun r72 =>
 j71 ((y38.1, y38.2.1, y38.2.2), (y39.1, y39.2.1, y39.2.2), y40, (y41.1, y41.2.1, y41.2.2), (y42.1, y42.2), y43, (r48.1.1, r48.1.2.1, r48.1.2.2), y44, y45, y46, r72)
 else
 j71 ((y38.1, y38.2.1, y38.2.2), (y39.1, y39.2.1, y39.2.2), y40, (y41.1, y41.2.1, y41.2.2), (y42.1, y42.2), y43, (r48.1.1, r48.1.2.1, r48.1.2.2), y44, y45, y46, false)
 else
 j71 ((y38.1, y38.2.1, y38.2.2), (y39.1, y39.2.1, y39.2.2), y40, (y41.1, y41.2.1, y41.2.2), (y42.1, y42.2), y43, (r48.1.1, r48.1.2.1, r48.1.2.2), y44, y45, y46, false)) fun j73 =>
 bif !(toT Bool (lkM (.pair (.int .i64) (.int .i64)) .bool x21 (x23.1, x24))) then
 j73 ((x19.1, x19.2.1, x19.2.2), (x20.1, x20.2.1, x20.2.2), x21, (x22.1, x22.2.1, x22.2.2), (x23.1, x23.2), x24, x25, x26, x27, true)
 else
 j73 ((x19.1, x19.2.1, x19.2.2), (x20.1, x20.2.1, x20.2.2), x21, (x22.1, x22.2.1, x22.2.2), (x23.1, x23.2), x24, x25, x26, x27, !(toT Bool (lkM (.pair (.int .i64) (.int .i64)) .bool x21 (x23.2, x24))))
 else
 next10 ((x19.1, x19.2.1, x19.2.2), (x20.1, x20.2.1, x20.2.2), x21, (x22.1, x22.2.1, x22.2.2), x25, x26, w64 (x27 + 1))) k ((x11.1, x11.2.1, x11.2.2), (x12.1, x12.2.1, x12.2.2), x13, (x14.1, x14.2.1, x14.2.2), ((rdD (0, 0) x15 x17).1, (rdD (0, 0) x15 x17).2), w64 ((rdD (0, 0) x15 x17).2 + 1), x15, x16, x17)
 else
 gd (few x14.2.1.length) <|
 some (x14.1, ([], srtL cf_57 x14.2.1, x14.2.2), 0)) k ((x2.1, x2.2.1, x2.2.2), (x3.1, x3.2.1, x3.2.2), x5, (x2.1, [], r9), x4, (x4.length : Int), 0)) k ((a0.1, a0.2.1, a0.2.2), ([], [], []), r0.1, [], r0.1, (r0.1.length : Int), 0)
theorem eqm_fill_Make (k : Nat) (c_fill_Edges : TPl → Option (LPt × Int)) (c_fill_segs : TPl → Option LPt) (c_fill_Tri : LPt → Int → Int → Int → Option ((Int × PPt) × Bool)) (c_within_Third : LPt → LPt → Int → Int → Int → Option PPt) (c_fill_empty : LPt → (Int × PPt) → Option Bool) (a0 : TPl) : textM [⟨56, [], [], fun _ => none, some (.srt (.pair kI kPP) 57 cf_57)⟩, ⟨13, [.d kPl], [.sl kPP, kI], fun x => c_fill_Edges x, none⟩, ⟨46, [.d kPl], [.sl kPP], fun x => c_fill_segs x, none⟩, ⟨40, [.d kLP, .d kI, .d kI, .d kI], [.pair kI kPP, .bool], fun x => c_fill_Tri (x.1) (x.2.1) (x.2.2.1) (x.2.2.2), none⟩, ⟨54, [.d kLP, .d kLP, .d kI, .d kI, .d kI], [kI, kI], fun x => c_within_Third (x.1) (x.2.1) (x.2.2.1) (x.2.2.2.1) (x.2.2.2.2), none⟩, ⟨55, [.d kLP, .d (.pair kI kPP)], [.bool], fun x => c_fill_empty (x.1) (x.2), none⟩] tbm k Tryz.f15 an_fill_Make [.d kPl] kPP 44 [.pair kLP (.pair (.sl (.pair kI kPP)) kLP), kI] a0 = b_mix_fill_Make k c_fill_Edges c_fill_segs c_fill_Tri c_within_Third c_fill_empty a0 := by kernel_rfl
def g_mix_fill_Make (k : Nat) (a0 : TPl) : Option (LPt × (TMs × Int)) := b_mix_fill_Make k (g_fill_Edges k) (g_fill_segs k) (g_fill_Tri k) (g_within_Third k) (g_fill_empty k) a0
theorem tells_mix_fill_Make (k : Nat) : TellsM Tryz.prog 15 [.d kPl] kPP 44 [.pair kLP (.pair (.sl (.pair kI kPP)) kLP), kI] (fun x => g_mix_fill_Make k x) := ⟨rfl, rfl, fun x y h => (fun_tellsM tbm_ok mix (EsOk.cons (EntryOk.sort srt_56) (EsOk.cons (EntryOk.of rfl (tells_fill_Edges k)) (EsOk.cons (EntryOk.of rfl (tells_f_fill_segs k)) (EsOk.cons (EntryOk.of rfl (tells_fill_Tri k)) (EsOk.cons (EntryOk.of rfl (tells_within_Third k)) (EsOk.cons (EntryOk.of rfl (tells_fill_empty k)) (EsOk.nil _))))))) Tryz.func15 (N := k) (an := an_fill_Make) rfl rfl (by kernel_rfl)).2.2 x y ((eqm_fill_Make k (g_fill_Edges k) (g_fill_segs k) (g_fill_Tri k) (g_within_Third k) (g_fill_empty k) x).trans h)⟩

end
end Go.Proofs.YtpkkcjmblocjdaaGreat.AM
