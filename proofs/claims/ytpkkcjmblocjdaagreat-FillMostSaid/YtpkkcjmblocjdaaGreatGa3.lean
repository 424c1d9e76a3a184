/- The functions, by their texts: written by a program. -/
import Derived.Test.YtpkkcjmblocjdaaGreatGa2
import Derived.Test.YtpkkcjmblocjdaaGreatSrt
set_option linter.unusedVariables false
set_option maxRecDepth 100000
namespace Go.Proofs.YtpkkcjmblocjdaaGreat.AM
open Go.RowKit Go.Proofs
noncomputable section
def an_within_right : Ann := .node none none .leaf (.node none none (.node none none .leaf (.node (some [(3, .box [.d (.pair kI kI)]), (4, .box [.d (.pair kI kI)]), (5, .box [.d (.pair kI kI)])]) none .leaf .leaf)) (.node none none (.node (some [(6, .d .bool)]) none .leaf .leaf) .leaf))
def b_within_right (k : Nat) (c_pred_Orient : (Int × Int) → (Int × Int) → (Int × Int) → Option Int) (a0 : (Int × Int)) (a1 : (Int × Int)) (a2 : (Int × Int)) : Option Bool :=
  meet (α := ((Int × Int) × ((Int × Int) × (Int × Int)))) (fun (y0, y1, y2, y3) =>
    meet (α := Bool) (fun y4 =>
     some y4) fun j5 =>
    bif decide (y0.2 ≤ y3) then
     bif decide (y3 < y1.2) then
      bnd (c_pred_Orient (y0.1, y0.2) (y1.1, y1.2) (y2, y3)) fun r6 =>
      j5 (decide (r6 > 0))
     else
      j5 false
    else
     j5 false) fun j7 =>
   bif decide (a0.2 > a1.2) then
    j7 ((a1.1, a1.2), (a0.1, a0.2), a2.1, a2.2)
   else
    j7 ((a0.1, a0.2), (a1.1, a1.2), a2.1, a2.2)
theorem eq_within_right (k : Nat) (c_pred_Orient : (Int × Int) → (Int × Int) → (Int × Int) → Option Int) (a0 : (Int × Int)) (a1 : (Int × Int)) (a2 : (Int × Int)) : textF [⟨81, [.d (.pair kI kI), .d (.pair kI kI), .d (.pair kI kI)], [kI], fun x => c_pred_Orient (x.1) (x.2.1) (x.2.2), none⟩] tb k Tryz.f160 an_within_right [.d (.pair kI kI), .d (.pair kI kI), .d (.pair kI kI)] [.bool] (a0, a1, a2) = b_within_right k c_pred_Orient a0 a1 a2 := by kernel_rfl
def g_within_right (k : Nat) (a0 : (Int × Int)) (a1 : (Int × Int)) (a2 : (Int × Int)) : Option Bool := b_within_right k (g_pred_Orient k) a0 a1 a2
theorem tells_within_right (k : Nat) : TellsF Tryz.prog 160 [.d (.pair kI kI), .d (.pair kI kI), .d (.pair kI kI)] [.bool] (fun x => g_within_right k (x.1) (x.2.1) (x.2.2)) := fun x y h => fun_tells tb_ok mix (es := [⟨81, [.d (.pair kI kI), .d (.pair kI kI), .d (.pair kI kI)], [kI], fun x => g_pred_Orient k (x.1) (x.2.1) (x.2.2), none⟩]) (EsOk.cons (EntryOk.of rfl (tells_pred_Orient k)) (EsOk.nil _)) Tryz.func160 (N := k) (an := an_within_right) (by kernel_rfl) x y ((eq_within_right k (g_pred_Orient k) (x.1) (x.2.1) (x.2.2)).trans h)

def an_within_where : Ann := .node none none .leaf (.node none none .leaf (.node none none (.node none none .leaf (.node none none (.node none (some [(3, .box [.d (.pair kI kI)]), (5, .d kI), (8, .d (.sl (.pair (.pair kI kI) (.pair kI kI)))), (9, .d kI), (10, .d kI)]) (.node none none .leaf (.node none none .leaf (.node none none (.node none none (.node none none .leaf (.node none none (.node none none .leaf (.node none none .leaf (.node none none .leaf (.node (some [(3, .box [.d (.pair kI kI)]), (5, .d kI), (8, .d (.sl (.pair (.pair kI kI) (.pair kI kI)))), (9, .d kI), (10, .d kI)]) none .leaf .leaf)))) .leaf)) .leaf) .leaf))) .leaf) .leaf)) .leaf))
def b_within_where (k : Nat) (c_meet_On : (Int × Int) → (Int × Int) → (Int × Int) → Option Bool) (c_within_right : (Int × Int) → (Int × Int) → (Int × Int) → Option Bool) (a0 : (List ((Int × Int) × (Int × Int)))) (a1 : (Int × Int)) : Option Int :=
  loopN (α := ((Int × Int) × (Int × ((List ((Int × Int) × (Int × Int))) × (Int × Int))))) (fun (x1, x2, x3, x4, x5) next0 =>
    bif decide (x5 < x4) then
     gd (inb x5 x3.length) <|
     bnd (c_meet_On ((rdD ((0, 0), 0, 0) x3 x5).1.1, (rdD ((0, 0), 0, 0) x3 x5).1.2) ((rdD ((0, 0), 0, 0) x3 x5).2.1, (rdD ((0, 0), 0, 0) x3 x5).2.2) (x1.1, x1.2)) fun r6 =>
     bif r6 then
      some 0
     else
      bnd (c_within_right ((rdD ((0, 0), 0, 0) x3 x5).1.1, (rdD ((0, 0), 0, 0) x3 x5).1.2) ((rdD ((0, 0), 0, 0) x3 x5).2.1, (rdD ((0, 0), 0, 0) x3 x5).2.2) (x1.1, x1.2)) fun r7 =>
      meet (α := ((Int × Int) × (Int × ((List ((Int × Int) × (Int × Int))) × (Int × Int))))) (fun (y8, y9, y10, y11, y12) =>
       next0 ((y8.1, y8.2), y9, y10, y11, w64 (y12 + 1))) fun j13 =>
      bif r7 then
       j13 ((x1.1, x1.2), w64 (0 - x2), x3, x4, x5)
      else
       j13 ((x1.1, x1.2), x2, x3, x4, x5)
    else
     some x2) k ((a1.1, a1.2), (-1), a0, (a0.length : Int), 0)
theorem eq_within_where (k : Nat) (c_meet_On : (Int × Int) → (Int × Int) → (Int × Int) → Option Bool) (c_within_right : (Int × Int) → (Int × Int) → (Int × Int) → Option Bool) (a0 : (List ((Int × Int) × (Int × Int)))) (a1 : (Int × Int)) : textF [⟨119, [.d (.pair kI kI), .d (.pair kI kI), .d (.pair kI kI)], [.bool], fun x => c_meet_On (x.1) (x.2.1) (x.2.2), none⟩, ⟨160, [.d (.pair kI kI), .d (.pair kI kI), .d (.pair kI kI)], [.bool], fun x => c_within_right (x.1) (x.2.1) (x.2.2), none⟩] tb k Tryz.f134 an_within_where [.d (.sl (.pair (.pair kI kI) (.pair kI kI))), .d (.pair kI kI)] [kI] (a0, a1) = b_within_where k c_meet_On c_within_right a0 a1 := by kernel_rfl
def g_within_where (k : Nat) (a0 : (List ((Int × Int) × (Int × Int)))) (a1 : (Int × Int)) : Option Int := b_within_where k (g_meet_On k) (g_within_right k) a0 a1
theorem tells_within_where (k : Nat) : TellsF Tryz.prog 134 [.d (.sl (.pair (.pair kI kI) (.pair kI kI))), .d (.pair kI kI)] [kI] (fun x => g_within_where k (x.1) (x.2)) := fun x y h => fun_tells tb_ok mix (es := [⟨119, [.d (.pair kI kI), .d (.pair kI kI), .d (.pair kI kI)], [.bool], fun x => g_meet_On k (x.1) (x.2.1) (x.2.2), none⟩, ⟨160, [.d (.pair kI kI), .d (.pair kI kI), .d (.pair kI kI)], [.bool], fun x => g_within_right k (x.1) (x.2.1) (x.2.2), none⟩]) (EsOk.cons (EntryOk.of rfl (tells_meet_On k)) (EsOk.cons (EntryOk.of rfl (tells_within_right k)) (EsOk.nil _))) Tryz.func134 (N := k) (an := an_within_where) (by kernel_rfl) x y ((eq_within_where k (g_meet_On k) (g_within_right k) (x.1) (x.2)).trans h)

def an_within_middle : Ann := .node none none .leaf (.node none none .leaf (.node none none .leaf (.node none none (.node none none .leaf (.node none none (.node none (some [(0, .d (.sl (.pair kI kI))), (1, .d (.sl (.pair kI kI))), (8, .d kI), (9, .box [.d (.pair kI kI)]), (16, .d (.sl kI)), (17, .d kI), (18, .d kI)]) (.node none none .leaf (.node none none .leaf (.node none none (.node none none (.node none none .leaf (.node none none (.node none none (.node (some [(0, .d (.sl (.pair kI kI))), (1, .d (.sl (.pair kI kI))), (8, .d kI), (9, .box [.d (.pair kI kI)]), (11, .d kI), (16, .d (.sl kI)), (17, .d kI), (18, .d kI), (38, .d .bool)]) none .leaf .leaf) .leaf) .leaf)) .leaf) .leaf))) .leaf) .leaf)) (.node none none .leaf (.node none none (.node none none (.node (some [(9, .box [.d (.pair kI kI)]), (12, .d (.sl (.pair (.pair kI kI) (.pair kI kI)))), (72, .d .bool)]) none .leaf .leaf) .leaf) .leaf)))))
def b_within_middle (k : Nat) (c_pred_Fits : (List (Int × Int)) → Option Bool) (c_within_fine : (List (Int × Int)) → (List (Int × Int)) → (Int × Unit) → Option ((List ((Int × Int) × (Int × Int))) × Bool)) (c_within_where : (List ((Int × Int) × (Int × Int))) → (Int × Int) → Option Int) (a0 : (List (Int × Int))) (a1 : (List (Int × Int))) (a2 : (List Int)) : Option (Int × Int) :=
  loopN (α := ((List (Int × Int)) × ((List (Int × Int)) × (Int × ((Int × Int) × ((List Int) × (Int × Int))))))) (fun (x1, x2, x3, x4, x5, x6, x7) next0 =>
    bif decide (x7 < x6) then
     gd (inb x7 x5.length) <|
     meet (α := ((List (Int × Int)) × ((List (Int × Int)) × (Int × ((Int × Int) × (Int × ((List Int) × (Int × (Int × Bool))))))))) (fun (y8, y9, y10, y11, y12, y13, y14, y15, y16) =>
      bif y16 then
       some (0, 2)
      else
       gd (inb y12 y8.length) <|
       gd (inb y12 y8.length) <|
       next0 (y8, y9, y10, (w64 (y11.1 + (rdD (0, 0) y8 y12).1), w64 (y11.2 + (rdD (0, 0) y8 y12).2)), y13, y14, w64 (y15 + 1))) fun j17 =>
     bif decide ((rdD 0 x5 x7) < 0) then
      j17 (x1, x2, x3, (x4.1, x4.2), rdD 0 x5 x7, x5, x6, x7, true)
     else
      bif decide ((rdD 0 x5 x7) ≥ (x1.length : Int)) then
       j17 (x1, x2, x3, (x4.1, x4.2), rdD 0 x5 x7, x5, x6, x7, true)
      else
       gd (inb (rdD 0 x5 x7) x1.length) <|
       bnd (c_pred_Fits [((rdD (0, 0) x1 (rdD 0 x5 x7)).1, (rdD (0, 0) x1 (rdD 0 x5 x7)).2)]) fun r18 =>
       j17 (x1, x2, x3, (x4.1, x4.2), rdD 0 x5 x7, x5, x6, x7, !r18)
    else
     bnd (c_within_fine x1 x2 (x3, ())) fun r19 =>
     meet (α := ((Int × Int) × ((List ((Int × Int) × (Int × Int))) × Bool))) (fun (y20, y21, y22) =>
      bif y22 then
       some (0, 2)
      else
       bnd (c_within_where y21 (y20.1, y20.2)) fun r23 =>
       some (r23, 0)) fun j24 =>
     bif !r19.2 then
      j24 ((x4.1, x4.2), r19.1, true)
     else
      bnd (c_pred_Fits [(x4.1, x4.2)]) fun r25 =>
      j24 ((x4.1, x4.2), r19.1, !r25)) k (a0, a1, (a2.length : Int), (0, 0), a2, (a2.length : Int), 0)
theorem eq_within_middle (k : Nat) (c_pred_Fits : (List (Int × Int)) → Option Bool) (c_within_fine : (List (Int × Int)) → (List (Int × Int)) → (Int × Unit) → Option ((List ((Int × Int) × (Int × Int))) × Bool)) (c_within_where : (List ((Int × Int) × (Int × Int))) → (Int × Int) → Option Int) (a0 : (List (Int × Int))) (a1 : (List (Int × Int))) (a2 : (List Int)) : textF [⟨108, [.d (.sl (.pair kI kI))], [.bool], fun x => c_pred_Fits x, none⟩, ⟨132, [.d (.sl (.pair kI kI)), .d (.sl (.pair kI kI)), .fn 133 [(.d kI)] []], [.sl (.pair (.pair kI kI) (.pair kI kI)), .bool], fun x => c_within_fine (x.1) (x.2.1) (x.2.2), none⟩, ⟨134, [.d (.sl (.pair (.pair kI kI) (.pair kI kI))), .d (.pair kI kI)], [kI], fun x => c_within_where (x.1) (x.2), none⟩] tb k Tryz.f91 an_within_middle [.d (.sl (.pair kI kI)), .d (.sl (.pair kI kI)), .d (.sl kI)] [kI, kI] (a0, a1, a2) = b_within_middle k c_pred_Fits c_within_fine c_within_where a0 a1 a2 := by kernel_rfl
def g_within_middle (k : Nat) (a0 : (List (Int × Int))) (a1 : (List (Int × Int))) (a2 : (List Int)) : Option (Int × Int) := b_within_middle k (g_pred_Fits k) (g_within_fine k) (g_within_where k) a0 a1 a2
theorem tells_within_middle (k : Nat) : TellsF Tryz.prog 91 [.d (.sl (.pair kI kI)), .d (.sl (.pair kI kI)), .d (.sl kI)] [kI, kI] (fun x => g_within_middle k (x.1) (x.2.1) (x.2.2)) := fun x y h => fun_tells tb_ok mix (es := [⟨108, [.d (.sl (.pair kI kI))], [.bool], fun x => g_pred_Fits k x, none⟩, ⟨132, [.d (.sl (.pair kI kI)), .d (.sl (.pair kI kI)), .fn 133 [(.d kI)] []], [.sl (.pair (.pair kI kI) (.pair kI kI)), .bool], fun x => g_within_fine k (x.1) (x.2.1) (x.2.2), none⟩, ⟨134, [.d (.sl (.pair (.pair kI kI) (.pair kI kI))), .d (.pair kI kI)], [kI], fun x => g_within_where k (x.1) (x.2), none⟩]) (EsOk.cons (EntryOk.of rfl (tells_pred_Fits k)) (EsOk.cons (EntryOk.of rfl (tells_within_fine k)) (EsOk.cons (EntryOk.of rfl (tells_within_where k)) (EsOk.nil _)))) Tryz.func91 (N := k) (an := an_within_middle) (by kernel_rfl) x y ((eq_within_middle k (g_pred_Fits k) (g_within_fine k) (g_within_where k) (x.1) (x.2.1) (x.2.2)).trans h)

def an_within_Halfway : Ann := .leaf
def b_within_Halfway (k : Nat) (c_within_middle : (List (Int × Int)) → (List (Int × Int)) → (List Int) → Option (Int × Int)) (a0 : (List (Int × Int))) (a1 : (List (Int × Int))) (a2 : Int) (a3 : Int) : Option (Int × Int) :=
  bnd (c_within_middle a0 a1 [a2, a3]) fun r0 =>
   some (r0.1, r0.2)
theorem eq_within_Halfway (k : Nat) (c_within_middle : (List (Int × Int)) → (List (Int × Int)) → (List Int) → Option (Int × Int)) (a0 : (List (Int × Int))) (a1 : (List (Int × Int))) (a2 : Int) (a3 : Int) : textF [⟨91, [.d (.sl (.pair kI kI)), .d (.sl (.pair kI kI)), .d (.sl kI)], [kI, kI], fun x => c_within_middle (x.1) (x.2.1) (x.2.2), none⟩] tb k Tryz.f86 an_within_Halfway [.d (.sl (.pair kI kI)), .d (.sl (.pair kI kI)), .d kI, .d kI] [kI, kI] (a0, a1, a2, a3) = b_within_Halfway k c_within_middle a0 a1 a2 a3 := by kernel_rfl
def g_within_Halfway (k : Nat) (a0 : (List (Int × Int))) (a1 : (List (Int × Int))) (a2 : Int) (a3 : Int) : Option (Int × Int) := b_within_Halfway k (g_within_middle k) a0 a1 a2 a3
theorem tells_within_Halfway (k : Nat) : TellsF Tryz.prog 86 [.d (.sl (.pair kI kI)), .d (.sl (.pair kI kI)), .d kI, .d kI] [kI, kI] (fun x => g_within_Halfway k (x.1) (x.2.1) (x.2.2.1) (x.2.2.2)) := fun x y h => fun_tells tb_ok mix (es := [⟨91, [.d (.sl (.pair kI kI)), .d (.sl (.pair kI kI)), .d (.sl kI)], [kI, kI], fun x => g_within_middle k (x.1) (x.2.1) (x.2.2), none⟩]) (EsOk.cons (EntryOk.of rfl (tells_within_middle k)) (EsOk.nil _)) Tryz.func86 (N := k) (an := an_within_Halfway) (by kernel_rfl) x y ((eq_within_Halfway k (g_within_middle k) (x.1) (x.2.1) (x.2.2.1) (x.2.2.2)).trans h)

def an_valid_out : Ann := .node none none .leaf (.node none none (.node none none .leaf (.node none none (.node none (some [(1, .box [.d (.pair (.sl (.pair kI kI)) (.pair (.sl (.pair kI kI)) (.sl (.pair kI kI))))]), (2, .box [.d (.pair kI (.pair kI kI))]), (8, .d (.sl (.pair kI kI))), (9, .d kI), (10, .d kI)]) .leaf .leaf) .leaf)) .leaf)
def b_valid_out (k : Nat) (c_within_Halfway : (List (Int × Int)) → (List (Int × Int)) → Int → Int → Option (Int × Int)) (a0 : ((List (Int × Int)) × ((List (Int × Int)) × (List (Int × Int))))) : Option (Int × (Int × Int)) :=
  loopN (α := (((List (Int × Int)) × ((List (Int × Int)) × (List (Int × Int)))) × ((Int × (Int × Int)) × ((List (Int × Int)) × (Int × Int))))) (fun (x1, x2, x3, x4, x5) next0 =>
    bif decide (x5 < x4) then
     gd (inb x5 x3.length) <|
     bnd (c_within_Halfway x1.1 x1.2.1 (rdD (0, 0) x3 x5).1 (rdD (0, 0) x3 x5).2) fun r6 =>
     bif !(decide (r6.1 = 1)) then
      some (7, x5, 0)
     else
      next0 ((x1.1, x1.2.1, x1.2.2), (x2.1, x2.2.1, x2.2.2), x3, x4, w64 (x5 + 1))
    else
     some (0, 0, 0)) k ((a0.1, a0.2.1, a0.2.2), (0, 0, 0), a0.2.2, (a0.2.2.length : Int), 0)
theorem eq_valid_out (k : Nat) (c_within_Halfway : (List (Int × Int)) → (List (Int × Int)) → Int → Int → Option (Int × Int)) (a0 : ((List (Int × Int)) × ((List (Int × Int)) × (List (Int × Int))))) : textF [⟨86, [.d (.sl (.pair kI kI)), .d (.sl (.pair kI kI)), .d kI, .d kI], [kI, kI], fun x => c_within_Halfway (x.1) (x.2.1) (x.2.2.1) (x.2.2.2), none⟩] tb k Tryz.f116 an_valid_out [.d (.pair (.sl (.pair kI kI)) (.pair (.sl (.pair kI kI)) (.sl (.pair kI kI))))] [.pair kI (.pair kI kI)] a0 = b_valid_out k c_within_Halfway a0 := by kernel_rfl
def g_valid_out (k : Nat) (a0 : ((List (Int × Int)) × ((List (Int × Int)) × (List (Int × Int))))) : Option (Int × (Int × Int)) := b_valid_out k (g_within_Halfway k) a0
theorem tells_valid_out (k : Nat) : TellsF Tryz.prog 116 [.d (.pair (.sl (.pair kI kI)) (.pair (.sl (.pair kI kI)) (.sl (.pair kI kI))))] [.pair kI (.pair kI kI)] (fun x => g_valid_out k x) := fun x y h => fun_tells tb_ok mix (es := [⟨86, [.d (.sl (.pair kI kI)), .d (.sl (.pair kI kI)), .d kI, .d kI], [kI, kI], fun x => g_within_Halfway k (x.1) (x.2.1) (x.2.2.1) (x.2.2.2), none⟩]) (EsOk.cons (EntryOk.of rfl (tells_within_Halfway k)) (EsOk.nil _)) Tryz.func116 (N := k) (an := an_valid_out) (by kernel_rfl) x y ((eq_valid_out k (g_within_Halfway k) x).trans h)

def an_within_same : Ann := .leaf
def g_within_same (k : Nat) (a0 : (Int × Int)) : Option (Int × Int) :=
  some (a0.1, a0.2)
theorem eq_within_same (k : Nat) (a0 : (Int × Int)) : textF [] tb k Tryz.f173 an_within_same [.d (.pair kI kI)] [.pair kI kI] a0 = g_within_same k a0 := by kernel_rfl
theorem tells_within_same (k : Nat) : TellsF Tryz.prog 173 [.d (.pair kI kI)] [.pair kI kI] (fun x => g_within_same k x) := fun x y h => fun_tells tb_ok mix (es := []) (EsOk.nil _) Tryz.func173 (N := k) (an := an_within_same) (by kernel_rfl) x y ((eq_within_same k x).trans h)

def an_within_fine_2 : Ann := .node none none .leaf (.node none none .leaf (.node none none (.node none none .leaf (.node none none (.node none (some [(0, .d (.sl (.pair kI kI))), (2, .fn 173 [] []), (8, .row (.pair (.pair kI kI) (.pair kI kI)) 177), (13, .d (.sl (.pair kI kI))), (14, .d kI), (15, .d kI)]) (.node none none .leaf (.node none none .leaf (.node none none (.node none none (.node none none .leaf (.node none none (.node none none (.node (some [(0, .d (.sl (.pair kI kI))), (2, .fn 173 [] []), (8, .row (.pair (.pair kI kI) (.pair kI kI)) 177), (10, .box [.d (.pair kI kI)]), (13, .d (.sl (.pair kI kI))), (14, .d kI), (15, .d kI), (68, .d .bool)]) none .leaf .leaf) .leaf) .leaf)) .leaf) .leaf))) .leaf) .leaf)) .leaf))
def b_within_fine_2 (k : Nat) (c_pred_Fits : (List (Int × Int)) → Option Bool) (c_within_same : (Int × Int) → Option (Int × Int)) (a0 : (List (Int × Int))) (a1 : (List (Int × Int))) (a2 : (Unit × Unit)) : Option ((List ((Int × Int) × (Int × Int))) × Bool) :=
  loopN (α := ((List (Int × Int)) × ((Unit × Unit) × ((List ((Int × Int) × (Int × Int))) × ((List (Int × Int)) × (Int × Int)))))) (fun (x1, x2, x3, x4, x5, x6) next0 =>
    bif decide (x6 < x5) then
     gd (inb x6 x4.length) <|
     meet (α := ((List (Int × Int)) × ((Unit × Unit) × ((List ((Int × Int) × (Int × Int))) × ((Int × Int) × ((List (Int × Int)) × (Int × (Int × Bool)))))))) (fun (y7, y8, y9, y10, y11, y12, y13, y14) =>
      bif y14 then
       some ([], false)
      else
       gd (inb y10.1 y7.length) <|
       bnd (c_within_same ((rdD (0, 0) y7 y10.1).1, (rdD (0, 0) y7 y10.1).2)) fun r15 =>
       gd (inb y10.2 y7.length) <|
       bnd (c_within_same ((rdD (0, 0) y7 y10.2).1, (rdD (0, 0) y7 y10.2).2)) fun r16 =>
       bnd (c_pred_Fits [(r15.1, r15.2), (r16.1, r16.2)]) fun r17 =>
       bif !r17 then
        some ([], false)
       else
        gd (few (y9.length + 1)) <|
        next0 (y7, ((), ()), y9 ++ [((r15.1, r15.2), r16.1, r16.2)], y11, y12, w64 (y13 + 1))) fun j18 =>
     bif decide ((rdD (0, 0) x4 x6).1 < 0) then
      j18 (x1, ((), ()), x3, ((rdD (0, 0) x4 x6).1, (rdD (0, 0) x4 x6).2), x4, x5, x6, true)
     else
      bif decide ((rdD (0, 0) x4 x6).1 ≥ (x1.length : Int)) then
       j18 (x1, ((), ()), x3, ((rdD (0, 0) x4 x6).1, (rdD (0, 0) x4 x6).2), x4, x5, x6, true)
      else
       bif decide ((rdD (0, 0) x4 x6).2 < 0) then
        j18 (x1, ((), ()), x3, ((rdD (0, 0) x4 x6).1, (rdD (0, 0) x4 x6).2), x4, x5, x6, true)
       else
        bif decide ((rdD (0, 0) x4 x6).2 ≥ (x1.length : Int)) then
         j18 (x1, ((), ()), x3, ((rdD (0, 0) x4 x6).1, (rdD (0, 0) x4 x6).2), x4, x5, x6, true)
        else
         gd (inb (rdD (0, 0) x4 x6).1 x1.length) <|
         gd (inb (rdD (0, 0) x4 x6).2 x1.length) <|
         bif (decide ((rdD (0, 0) x1 (rdD (0, 0) x4 x6).1).1 = (rdD (0, 0) x1 (rdD (0, 0) x4 x6).2).1)) && (decide ((rdD (0, 0) x1 (rdD (0, 0) x4 x6).1).2 = (rdD (0, 0) x1 (rdD (0, 0) x4 x6).2).2)) then
          j18 (x1, ((), ()), x3, ((rdD (0, 0) x4 x6).1, (rdD (0, 0) x4 x6).2), x4, x5, x6, true)
         else
          gd (inb (rdD (0, 0) x4 x6).1 x1.length) <|
          gd (inb (rdD (0, 0) x4 x6).2 x1.length) <|
          bnd (c_pred_Fits [((rdD (0, 0) x1 (rdD (0, 0) x4 x6).1).1, (rdD (0, 0) x1 (rdD (0, 0) x4 x6).1).2), ((rdD (0, 0) x1 (rdD (0, 0) x4 x6).2).1, (rdD (0, 0) x1 (rdD (0, 0) x4 x6).2).2)]) fun r19 =>
          j18 (x1, ((), ()), x3, ((rdD (0, 0) x4 x6).1, (rdD (0, 0) x4 x6).2), x4, x5, x6, !r19)
    else
     some (x3, true)) k (a0, ((), ()), [], a1, (a1.length : Int), 0)
theorem eq_within_fine_2 (k : Nat) (c_pred_Fits : (List (Int × Int)) → Option Bool) (c_within_same : (Int × Int) → Option (Int × Int)) (a0 : (List (Int × Int))) (a1 : (List (Int × Int))) (a2 : (Unit × Unit)) : textF [⟨108, [.d (.sl (.pair kI kI))], [.bool], fun x => c_pred_Fits x, none⟩, ⟨173, [.d (.pair kI kI)], [.pair kI kI], fun x => c_within_same x, none⟩] tb k Tryz.f132 an_within_fine_2 [.d (.sl (.pair kI kI)), .d (.sl (.pair kI kI)), .fn 173 [] []] [.sl (.pair (.pair kI kI) (.pair kI kI)), .bool] (a0, a1, a2) = b_within_fine_2 k c_pred_Fits c_within_same a0 a1 a2 := by kernel_rfl
def g_within_fine_2 (k : Nat) (a0 : (List (Int × Int))) (a1 : (List (Int × Int))) (a2 : (Unit × Unit)) : Option ((List ((Int × Int) × (Int × Int))) × Bool) := b_within_fine_2 k (g_pred_Fits k) (g_within_same k) a0 a1 a2
theorem tells_within_fine_2 (k : Nat) : TellsF Tryz.prog 132 [.d (.sl (.pair kI kI)), .d (.sl (.pair kI kI)), .fn 173 [] []] [.sl (.pair (.pair kI kI) (.pair kI kI)), .bool] (fun x => g_within_fine_2 k (x.1) (x.2.1) (x.2.2)) := fun x y h => fun_tells tb_ok mix (es := [⟨108, [.d (.sl (.pair kI kI))], [.bool], fun x => g_pred_Fits k x, none⟩, ⟨173, [.d (.pair kI kI)], [.pair kI kI], fun x => g_within_same k x, none⟩]) (EsOk.cons (EntryOk.of rfl (tells_pred_Fits k)) (EsOk.cons (EntryOk.of rfl (tells_within_same k)) (EsOk.nil _))) Tryz.func132 (N := k) (an := an_within_fine_2) (by kernel_rfl) x y ((eq_within_fine_2 k (g_pred_Fits k) (g_within_same k) (x.1) (x.2.1) (x.2.2)).trans h)

def an_within_At : Ann := .node none none .leaf (.node none none .leaf (.node none none (.node none none (.node (some [(5, .box [.d (.pair kI kI)]), (8, .d (.sl (.pair (.pair kI kI) (.pair kI kI)))), (23, .d .bool)]) none .leaf .leaf) .leaf) .leaf))
def b_within_At (k : Nat) (c_within_fine_2 : (List (Int × Int)) → (List (Int × Int)) → (Unit × Unit) → Option ((List ((Int × Int) × (Int × Int))) × Bool)) (c_pred_Fits : (List (Int × Int)) → Option Bool) (c_within_where : (List ((Int × Int) × (Int × Int))) → (Int × Int) → Option Int) (a0 : (List (Int × Int))) (a1 : (List (Int × Int))) (a2 : (Int × Int)) : Option (Int × Int) :=
  bnd (c_within_fine_2 a0 a1 ((), ())) fun r0 =>
   meet (α := ((Int × Int) × ((List ((Int × Int) × (Int × Int))) × Bool))) (fun (y1, y2, y3) =>
    bif y3 then
     some (0, 2)
    else
     bnd (c_within_where y2 (y1.1, y1.2)) fun r4 =>
     some (r4, 0)) fun j5 =>
   bif !r0.2 then
    j5 ((a2.1, a2.2), r0.1, true)
   else
    bnd (c_pred_Fits [(a2.1, a2.2)]) fun r6 =>
    j5 ((a2.1, a2.2), r0.1, !r6)
theorem eq_within_At (k : Nat) (c_within_fine_2 : (List (Int × Int)) → (List (Int × Int)) → (Unit × Unit) → Option ((List ((Int × Int) × (Int × Int))) × Bool)) (c_pred_Fits : (List (Int × Int)) → Option Bool) (c_within_where : (List ((Int × Int) × (Int × Int))) → (Int × Int) → Option Int) (a0 : (List (Int × Int))) (a1 : (List (Int × Int))) (a2 : (Int × Int)) : textF [⟨132, [.d (.sl (.pair kI kI)), .d (.sl (.pair kI kI)), .fn 173 [] []], [.sl (.pair (.pair kI kI) (.pair kI kI)), .bool], fun x => c_within_fine_2 (x.1) (x.2.1) (x.2.2), none⟩, ⟨108, [.d (.sl (.pair kI kI))], [.bool], fun x => c_pred_Fits x, none⟩, ⟨134, [.d (.sl (.pair (.pair kI kI) (.pair kI kI))), .d (.pair kI kI)], [kI], fun x => c_within_where (x.1) (x.2), none⟩] tb k Tryz.f153 an_within_At [.d (.sl (.pair kI kI)), .d (.sl (.pair kI kI)), .d (.pair kI kI)] [kI, kI] (a0, a1, a2) = b_within_At k c_within_fine_2 c_pred_Fits c_within_where a0 a1 a2 := by kernel_rfl
def g_within_At (k : Nat) (a0 : (List (Int × Int))) (a1 : (List (Int × Int))) (a2 : (Int × Int)) : Option (Int × Int) := b_within_At k (g_within_fine_2 k) (g_pred_Fits k) (g_within_where k) a0 a1 a2
theorem tells_within_At (k : Nat) : TellsF Tryz.prog 153 [.d (.sl (.pair kI kI)), .d (.sl (.pair kI kI)), .d (.pair kI kI)] [kI, kI] (fun x => g_within_At k (x.1) (x.2.1) (x.2.2)) := fun x y h => fun_tells tb_ok mix (es := [⟨132, [.d (.sl (.pair kI kI)), .d (.sl (.pair kI kI)), .fn 173 [] []], [.sl (.pair (.pair kI kI) (.pair kI kI)), .bool], fun x => g_within_fine_2 k (x.1) (x.2.1) (x.2.2), none⟩, ⟨108, [.d (.sl (.pair kI kI))], [.bool], fun x => g_pred_Fits k x, none⟩, ⟨134, [.d (.sl (.pair (.pair kI kI) (.pair kI kI))), .d (.pair kI kI)], [kI], fun x => g_within_where k (x.1) (x.2), none⟩]) (EsOk.cons (EntryOk.of rfl (tells_within_fine_2 k)) (EsOk.cons (EntryOk.of rfl (tells_pred_Fits k)) (EsOk.cons (EntryOk.of rfl (tells_within_where k)) (EsOk.nil _)))) Tryz.func153 (N := k) (an := an_within_At) (by kernel_rfl) x y ((eq_within_At k (g_within_fine_2 k) (g_pred_Fits k) (g_within_where k) (x.1) (x.2.1) (x.2.2)).trans h)

def an_valid_stray : Ann := .node none none .leaf (.node none none .leaf (.node none none (.node none none .leaf (.node none none (.node none (some [(1, .box [.d (.pair (.sl (.pair kI kI)) (.pair (.sl (.pair kI kI)) (.sl (.pair kI kI))))]), (2, .box [.d (.pair kI (.pair kI kI))]), (18, .d (.sl kI)), (19, .d kI), (20, .d kI)]) (.node none none .leaf (.node none none .leaf (.node none none (.node none none (.node none none .leaf (.node none none .leaf (.node none none (.node (some [(1, .box [.d (.pair (.sl (.pair kI kI)) (.pair (.sl (.pair kI kI)) (.sl (.pair kI kI))))]), (2, .box [.d (.pair kI (.pair kI kI))]), (5, .d kI), (18, .d (.sl kI)), (19, .d kI), (20, .d kI), (43, .d .bool)]) none .leaf .leaf) .leaf))) .leaf) .leaf))) .leaf) .leaf)) .leaf))
def b_valid_stray (k : Nat) (c_valid_all : ((List (Int × Int)) × ((List (Int × Int)) × (List (Int × Int)))) → Option (List (Int × Int))) (c_rings_Degrees : Int → (List (Int × Int)) → Option ((List Int) × Int)) (c_within_At : (List (Int × Int)) → (List (Int × Int)) → (Int × Int) → Option (Int × Int)) (a0 : ((List (Int × Int)) × ((List (Int × Int)) × (List (Int × Int))))) : Option (Int × (Int × Int)) :=
  bnd (c_valid_all (a0.1, a0.2.1, a0.2.2)) fun r0 =>
   bnd (c_rings_Degrees (a0.1.length : Int) r0) fun r1 =>
   loopN (α := (((List (Int × Int)) × ((List (Int × Int)) × (List (Int × Int)))) × ((Int × (Int × Int)) × ((List Int) × (Int × Int))))) (fun (x3, x4, x5, x6, x7) next2 =>
    bif decide (x7 < x6) then
     gd (inb x7 x5.length) <|
     gd (inb x7 x3.1.length) <|
     bnd (c_within_At x3.1 x3.2.1 ((rdD (0, 0) x3.1 x7).1, (rdD (0, 0) x3.1 x7).2)) fun r8 =>
     meet (α := (((List (Int × Int)) × ((List (Int × Int)) × (List (Int × Int)))) × ((Int × (Int × Int)) × (Int × ((List Int) × (Int × (Int × Bool))))))) (fun (y9, y10, y11, y12, y13, y14, y15) =>
      bif y15 then
       some (8, y11, 0)
      else
       next2 ((y9.1, y9.2.1, y9.2.2), (y10.1, y10.2.1, y10.2.2), y12, y13, w64 (y14 + 1))) fun j16 =>
     bif decide ((rdD 0 x5 x7) = 0) then
      j16 ((x3.1, x3.2.1, x3.2.2), (x4.1, x4.2.1, x4.2.2), x7, x5, x6, x7, !(decide (r8.1 = 1)))
     else
      j16 ((x3.1, x3.2.1, x3.2.2), (x4.1, x4.2.1, x4.2.2), x7, x5, x6, x7, false)
    else
     some (0, 0, 0)) k ((a0.1, a0.2.1, a0.2.2), (0, 0, 0), r1.1, (r1.1.length : Int), 0)
theorem eq_valid_stray (k : Nat) (c_valid_all : ((List (Int × Int)) × ((List (Int × Int)) × (List (Int × Int)))) → Option (List (Int × Int))) (c_rings_Degrees : Int → (List (Int × Int)) → Option ((List Int) × Int)) (c_within_At : (List (Int × Int)) → (List (Int × Int)) → (Int × Int) → Option (Int × Int)) (a0 : ((List (Int × Int)) × ((List (Int × Int)) × (List (Int × Int))))) : textF [⟨148, [.d (.pair (.sl (.pair kI kI)) (.pair (.sl (.pair kI kI)) (.sl (.pair kI kI))))], [.sl (.pair kI kI)], fun x => c_valid_all x, none⟩, ⟨152, [.d kI, .d (.sl (.pair kI kI))], [.sl kI, kI], fun x => c_rings_Degrees (x.1) (x.2), none⟩, ⟨153, [.d (.sl (.pair kI kI)), .d (.sl (.pair kI kI)), .d (.pair kI kI)], [kI, kI], fun x => c_within_At (x.1) (x.2.1) (x.2.2), none⟩] tb k Tryz.f117 an_valid_stray [.d (.pair (.sl (.pair kI kI)) (.pair (.sl (.pair kI kI)) (.sl (.pair kI kI))))] [.pair kI (.pair kI kI)] a0 = b_valid_stray k c_valid_all c_rings_Degrees c_within_At a0 := by kernel_rfl
def g_valid_stray (k : Nat) (a0 : ((List (Int × Int)) × ((List (Int × Int)) × (List (Int × Int))))) : Option (Int × (Int × Int)) := b_valid_stray k (g_valid_all k) (g_rings_Degrees k) (g_within_At k) a0
theorem tells_valid_stray (k : Nat) : TellsF Tryz.prog 117 [.d (.pair (.sl (.pair kI kI)) (.pair (.sl (.pair kI kI)) (.sl (.pair kI kI))))] [.pair kI (.pair kI kI)] (fun x => g_valid_stray k x) := fun x y h => fun_tells tb_ok mix (es := [⟨148, [.d (.pair (.sl (.pair kI kI)) (.pair (.sl (.pair kI kI)) (.sl (.pair kI kI))))], [.sl (.pair kI kI)], fun x => g_valid_all k x, none⟩, ⟨152, [.d kI, .d (.sl (.pair kI kI))], [.sl kI, kI], fun x => g_rings_Degrees k (x.1) (x.2), none⟩, ⟨153, [.d (.sl (.pair kI kI)), .d (.sl (.pair kI kI)), .d (.pair kI kI)], [kI, kI], fun x => g_within_At k (x.1) (x.2.1) (x.2.2), none⟩]) (EsOk.cons (EntryOk.of rfl (tells_valid_all k)) (EsOk.cons (EntryOk.of rfl (tells_rings_Degrees k)) (EsOk.cons (EntryOk.of rfl (tells_within_At k)) (EsOk.nil _)))) Tryz.func117 (N := k) (an := an_valid_stray) (by kernel_rfl) x y ((eq_valid_stray k (g_valid_all k) (g_rings_Degrees k) (g_within_At k) x).trans h)

def an_valid_First : Ann := .node none none .leaf (.node none none .leaf (.node none none (.node none none .leaf (.node none none (.node none (some [(1, .box [.d (.pair (.sl (.pair kI kI)) (.pair (.sl (.pair kI kI)) (.sl (.pair kI kI))))]), (2, .box [.d (.pair kI (.pair kI kI))]), (14, .con [111, 112, 113, 114, 115, 116, 117]), (15, .d kI)]) (.node none none .leaf (.node none none .leaf (.node none none (.node none none (.node none none .leaf (.node none none (.node (some [(1, .box [.d (.pair (.sl (.pair kI kI)) (.pair (.sl (.pair kI kI)) (.sl (.pair kI kI))))]), (2, .box [.d (.pair kI (.pair kI kI))]), (7, .box [.d (.pair kI (.pair kI kI))]), (14, .con [111, 112, 113, 114, 115, 116, 117]), (15, .d kI)]) none .leaf .leaf) .leaf)) .leaf) .leaf))) .leaf) .leaf)) .leaf))
def b_valid_First (k : Nat) (c_input_Check : ((List (Int × Int)) × ((List (Int × Int)) × (List (Int × Int)))) → Option Int) (c_valid_alike : ((List (Int × Int)) × ((List (Int × Int)) × (List (Int × Int)))) → Option (Int × (Int × Int))) (c_valid_point : ((List (Int × Int)) × ((List (Int × Int)) × (List (Int × Int)))) → Option (Int × (Int × Int))) (c_valid_meets : ((List (Int × Int)) × ((List (Int × Int)) × (List (Int × Int)))) → Option (Int × (Int × Int))) (c_valid_inside : ((List (Int × Int)) × ((List (Int × Int)) × (List (Int × Int)))) → Option (Int × (Int × Int))) (c_valid_ring : ((List (Int × Int)) × ((List (Int × Int)) × (List (Int × Int)))) → Option (Int × (Int × Int))) (c_valid_out : ((List (Int × Int)) × ((List (Int × Int)) × (List (Int × Int)))) → Option (Int × (Int × Int))) (c_valid_stray : ((List (Int × Int)) × ((List (Int × Int)) × (List (Int × Int)))) → Option (Int × (Int × Int))) (a0 : ((List (Int × Int)) × ((List (Int × Int)) × (List (Int × Int))))) : Option ((Int × (Int × Int)) × Int) :=
  bnd (c_input_Check (a0.1, a0.2.1, a0.2.2)) fun r0 =>
   bif !(decide (r0 = 0)) then
    some ((0, 0, 0), r0)
   else
    loopN (α := (((List (Int × Int)) × ((List (Int × Int)) × (List (Int × Int)))) × ((Int × (Int × Int)) × (Unit × Int)))) (fun (x2, x3, x4, x5) next1 =>
     bif decide (x5 < 7) then
      bif decide (x5 = 0) then
       meet (α := (((List (Int × Int)) × ((List (Int × Int)) × (List (Int × Int)))) × ((Int × (Int × Int)) × ((Int × (Int × Int)) × (Unit × Int))))) (fun (y6, y7, y8, y9, y10) =>
        bif !(decide (y8.1 = 0)) then
         some ((y8.1, y8.2.1, y8.2.2), 0)
        else
         next1 ((y6.1, y6.2.1, y6.2.2), (y7.1, y7.2.1, y7.2.2), (), w64 (y10 + 1))) fun j11 =>
       bnd (c_valid_alike (x2.1, x2.2.1, x2.2.2)) fun r12 =>
       j11 ((x2.1, x2.2.1, x2.2.2), (x3.1, x3.2.1, x3.2.2), (r12.1, r12.2.1, r12.2.2), (), x5)
      else
       bif decide (x5 = 1) then
        meet (α := (((List (Int × Int)) × ((List (Int × Int)) × (List (Int × Int)))) × ((Int × (Int × Int)) × ((Int × (Int × Int)) × (Unit × Int))))) (fun (y13, y14, y15, y16, y17) =>
         bif !(decide (y15.1 = 0)) then
          some ((y15.1, y15.2.1, y15.2.2), 0)
         else
          next1 ((y13.1, y13.2.1, y13.2.2), (y14.1, y14.2.1, y14.2.2), (), w64 (y17 + 1))) fun j18 =>
        bnd (c_valid_point (x2.1, x2.2.1, x2.2.2)) fun r19 =>
        j18 ((x2.1, x2.2.1, x2.2.2), (x3.1, x3.2.1, x3.2.2), (r19.1, r19.2.1, r19.2.2), (), x5)
       else
        bif decide (x5 = 2) then
         meet (α := (((List (Int × Int)) × ((List (Int × Int)) × (List (Int × Int)))) × ((Int × (Int × Int)) × ((Int × (Int × Int)) × (Unit × Int))))) (fun (y20, y21, y22, y23, y24) =>
          bif !(decide (y22.1 = 0)) then
           some ((y22.1, y22.2.1, y22.2.2), 0)
          else
           next1 ((y20.1, y20.2.1, y20.2.2), (y21.1, y21.2.1, y21.2.2), (), w64 (y24 + 1))) fun j25 =>
         bnd (c_valid_meets (x2.1, x2.2.1, x2.2.2)) fun r26 =>
         j25 ((x2.1, x2.2.1, x2.2.2), (x3.1, x3.2.1, x3.2.2), (r26.1, r26.2.1, r26.2.2), (), x5)
        else
         bif decide (x5 = 3) then
          meet (α := (((List (Int × Int)) × ((List (Int × Int)) × (List (Int × Int)))) × ((Int × (Int × Int)) × ((Int × (Int × Int)) × (Unit × Int))))) (fun (y27, y28, y29, y30, y31) =>
           bif !(decide (y29.1 = 0)) then
            some ((y29.1, y29.2.1, y29.2.2), 0)
           else
            next1 ((y27.1, y27.2.1, y27.2.2), (y28.1, y28.2.1, y28.2.2), (), w64 (y31 + 1))) fun j32 =>
          bnd (c_valid_inside (x2.1, x2.2.1, x2.2.2)) fun r33 =>
          j32 ((x2.1, x2.2.1, x2.2.2), (x3.1, x3.2.1, x3.2.2), (r33.1, r33.2.1, r33.2.2), (), x5)
         else
          bif decide (x5 = 4) then
           meet (α := (((List (Int × Int)) × ((List (Int × Int)) × (List (Int × Int)))) × ((Int × (Int × Int)) × ((Int × (Int × Int)) × (Unit × Int))))) (fun (y34, y35, y36, y37, y38) =>
            bif !(decide (y36.1 = 0)) then
             some ((y36.1, y36.2.1, y36.2.2), 0)
            else
             next1 ((y34.1, y34.2.1, y34.2.2), (y35.1, y35.2.1, y35.2.2), (), w64 (y38 + 1))) fun j39 =>
           bnd (c_valid_ring (x2.1, x2.2.1, x2.2.2)) fun r40 =>
           j39 ((x2.1, x2.2.1, x2.2.2), (x3.1, x3.2.1, x3.2.2), (r40.1, r40.2.1, r40.2.2), (), x5)
          else
           bif decide (x5 = 5) then
            meet (α := (((List (Int × Int)) × ((List (Int × Int)) × (List (Int × Int)))) × ((Int × (Int × Int)) × ((Int × (Int × Int)) × (Unit × Int))))) (fun (y41, y42, y43, y44, y45) =>
             bif !(decide (y43.1 = 0)) then
              some ((y43.1, y43.2.1, y43.2.2), 0)
             else
              next1 ((y41.1, y41.2.1, y41.2.2), (y42.1, y42.2.1, y42.2.2), (), w64 (y45 + 1))) fun j46 =>
            bnd (c_valid_out (x2.1, x2.2.1, x2.2.2)) fun r47 =>
            j46 ((x2.1, x2.2.1, x2.2.2), (x3.1, x3.2.1, x3.2.2), (r47.1, r47.2.1, r47.2.2), (), x5)
           else
            bif decide (x5 = 6) then
             meet (α := (((List (Int × Int)) × ((List (Int × Int)) × (List (Int × Int)))) × ((Int × (Int × Int)) × ((Int × (Int × Int)) × (Unit × Int))))) (fun (y48, y49, y50, y51, y52) =>
              bif !(decide (y50.1 = 0)) then
               some ((y50.1, y50.2.1, y50.2.2), 0)
              else
               next1 ((y48.1, y48.2.1, y48.2.2), (y49.1, y49.2.1, y49.2.2), (), w64 (y52 + 1))) fun j53 =>
             bnd (c_valid_stray (x2.1, x2.2.1, x2.2.2)) fun r54 =>
             j53 ((x2.1, x2.2.1, x2.2.2), (x3.1, x3.2.1, x3.2.2), (r54.1, r54.2.1, r54.2.2), (), x5)
            else
             none
     else
      some ((0, 0, 0), 0)) k ((a0.1, a0.2.1, a0.2.2), (0, 0, 0), (), 0)
theorem eq_valid_First (k : Nat) (c_input_Check : ((List (Int × Int)) × ((List (Int × Int)) × (List (Int × Int)))) → Option Int) (c_valid_alike : ((List (Int × Int)) × ((List (Int × Int)) × (List (Int × Int)))) → Option (Int × (Int × Int))) (c_valid_point : ((List (Int × Int)) × ((List (Int × Int)) × (List (Int × Int)))) → Option (Int × (Int × Int))) (c_valid_meets : ((List (Int × Int)) × ((List (Int × Int)) × (List (Int × Int)))) → Option (Int × (Int × Int))) (c_valid_inside : ((List (Int × Int)) × ((List (Int × Int)) × (List (Int × Int)))) → Option (Int × (Int × Int))) (c_valid_ring : ((List (Int × Int)) × ((List (Int × Int)) × (List (Int × Int)))) → Option (Int × (Int × Int))) (c_valid_out : ((List (Int × Int)) × ((List (Int × Int)) × (List (Int × Int)))) → Option (Int × (Int × Int))) (c_valid_stray : ((List (Int × Int)) × ((List (Int × Int)) × (List (Int × Int)))) → Option (Int × (Int × Int))) (a0 : ((List (Int × Int)) × ((List (Int × Int)) × (List (Int × Int))))) : textF [⟨110, [.d (.pair (.sl (.pair kI kI)) (.pair (.sl (.pair kI kI)) (.sl (.pair kI kI))))], [kI], fun x => c_input_Check x, none⟩, ⟨111, [.d (.pair (.sl (.pair kI kI)) (.pair (.sl (.pair kI kI)) (.sl (.pair kI kI))))], [.pair kI (.pair kI kI)], fun x => c_valid_alike x, none⟩, ⟨112, [.d (.pair (.sl (.pair kI kI)) (.pair (.sl (.pair kI kI)) (.sl (.pair kI kI))))], [.pair kI (.pair kI kI)], fun x => c_valid_point x, none⟩, ⟨113, [.d (.pair (.sl (.pair kI kI)) (.pair (.sl (.pair kI kI)) (.sl (.pair kI kI))))], [.pair kI (.pair kI kI)], fun x => c_valid_meets x, none⟩, ⟨114, [.d (.pair (.sl (.pair kI kI)) (.pair (.sl (.pair kI kI)) (.sl (.pair kI kI))))], [.pair kI (.pair kI kI)], fun x => c_valid_inside x, none⟩, ⟨115, [.d (.pair (.sl (.pair kI kI)) (.pair (.sl (.pair kI kI)) (.sl (.pair kI kI))))], [.pair kI (.pair kI kI)], fun x => c_valid_ring x, none⟩, ⟨116, [.d (.pair (.sl (.pair kI kI)) (.pair (.sl (.pair kI kI)) (.sl (.pair kI kI))))], [.pair kI (.pair kI kI)], fun x => c_valid_out x, none⟩, ⟨117, [.d (.pair (.sl (.pair kI kI)) (.pair (.sl (.pair kI kI)) (.sl (.pair kI kI))))], [.pair kI (.pair kI kI)], fun x => c_valid_stray x, none⟩] tb k Tryz.f82 an_valid_First [.d (.pair (.sl (.pair kI kI)) (.pair (.sl (.pair kI kI)) (.sl (.pair kI kI))))] [.pair kI (.pair kI kI), kI] a0 = b_valid_First k c_input_Check c_valid_alike c_valid_point c_valid_meets c_valid_inside c_valid_ring c_valid_out c_valid_stray a0 := by kernel_rfl
def g_valid_First (k : Nat) (a0 : ((List (Int × Int)) × ((List (Int × Int)) × (List (Int × Int))))) : Option ((Int × (Int × Int)) × Int) := b_valid_First k (g_input_Check k) (g_valid_alike k) (g_valid_point k) (g_valid_meets k) (g_valid_inside k) (g_valid_ring k) (g_valid_out k) (g_valid_stray k) a0
theorem tells_valid_First (k : Nat) : TellsF Tryz.prog 82 [.d (.pair (.sl (.pair kI kI)) (.pair (.sl (.pair kI kI)) (.sl (.pair kI kI))))] [.pair kI (.pair kI kI), kI] (fun x => g_valid_First k x) := fun x y h => fun_tells tb_ok mix (es := [⟨110, [.d (.pair (.sl (.pair kI kI)) (.pair (.sl (.pair kI kI)) (.sl (.pair kI kI))))], [kI], fun x => g_input_Check k x, none⟩, ⟨111, [.d (.pair (.sl (.pair kI kI)) (.pair (.sl (.pair kI kI)) (.sl (.pair kI kI))))], [.pair kI (.pair kI kI)], fun x => g_valid_alike k x, none⟩, ⟨112, [.d (.pair (.sl (.pair kI kI)) (.pair (.sl (.pair kI kI)) (.sl (.pair kI kI))))], [.pair kI (.pair kI kI)], fun x => g_valid_point k x, none⟩, ⟨113, [.d (.pair (.sl (.pair kI kI)) (.pair (.sl (.pair kI kI)) (.sl (.pair kI kI))))], [.pair kI (.pair kI kI)], fun x => g_valid_meets k x, none⟩, ⟨114, [.d (.pair (.sl (.pair kI kI)) (.pair (.sl (.pair kI kI)) (.sl (.pair kI kI))))], [.pair kI (.pair kI kI)], fun x => g_valid_inside k x, none⟩, ⟨115, [.d (.pair (.sl (.pair kI kI)) (.pair (.sl (.pair kI kI)) (.sl (.pair kI kI))))], [.pair kI (.pair kI kI)], fun x => g_valid_ring k x, none⟩, ⟨116, [.d (.pair (.sl (.pair kI kI)) (.pair (.sl (.pair kI kI)) (.sl (.pair kI kI))))], [.pair kI (.pair kI kI)], fun x => g_valid_out k x, none⟩, ⟨117, [.d (.pair (.sl (.pair kI kI)) (.pair (.sl (.pair kI kI)) (.sl (.pair kI kI))))], [.pair kI (.pair kI kI)], fun x => g_valid_stray k x, none⟩]) (EsOk.cons (EntryOk.of rfl (tells_input_Check k)) (EsOk.cons (EntryOk.of rfl (tells_valid_alike k)) (EsOk.cons (EntryOk.of rfl (tells_valid_point k)) (EsOk.cons (EntryOk.of rfl (tells_valid_meets k)) (EsOk.cons (EntryOk.of rfl (tells_valid_inside k)) (EsOk.cons (EntryOk.of rfl (tells_valid_ring k)) (EsOk.cons (EntryOk.of rfl (tells_valid_out k)) (EsOk.cons (EntryOk.of rfl (tells_valid_stray k)) (EsOk.nil _))))))))) Tryz.func82 (N := k) (an := an_valid_First) (by kernel_rfl) x y ((eq_valid_First k (g_input_Check k) (g_valid_alike k) (g_valid_point k) (g_valid_meets k) (g_valid_inside k) (g_valid_ring k) (g_valid_out k) (g_valid_stray k) x).trans h)

def an_fill_right : Ann := .node none none .leaf (.node none none .leaf (.node none none (.node (some [(2, .d .bool)]) none .leaf .leaf) .leaf))
def b_fill_right (k : Nat) (c_valid_First : ((List (Int × Int)) × ((List (Int × Int)) × (List (Int × Int)))) → Option ((Int × (Int × Int)) × Int)) (a0 : ((List (Int × Int)) × ((List (Int × Int)) × (List (Int × Int))))) : Option Bool :=
  bnd (c_valid_First (a0.1, a0.2.1, a0.2.2)) fun r0 =>
   meet (α := Bool) (fun y1 =>
    some y1) fun j2 =>
   bif decide (r0.2 = 0) then
    j2 (decide (r0.1.1 = 0))
   else
    j2 false
theorem eq_fill_right (k : Nat) (c_valid_First : ((List (Int × Int)) × ((List (Int × Int)) × (List (Int × Int)))) → Option ((Int × (Int × Int)) × Int)) (a0 : ((List (Int × Int)) × ((List (Int × Int)) × (List (Int × Int))))) : textF [⟨82, [.d (.pair (.sl (.pair kI kI)) (.pair (.sl (.pair kI kI)) (.sl (.pair kI kI))))], [.pair kI (.pair kI kI), kI], fun x => c_valid_First x, none⟩] tb k Tryz.f45 an_fill_right [.d (.pair (.sl (.pair kI kI)) (.pair (.sl (.pair kI kI)) (.sl (.pair kI kI))))] [.bool] a0 = b_fill_right k c_valid_First a0 := by kernel_rfl
def g_fill_right (k : Nat) (a0 : ((List (Int × Int)) × ((List (Int × Int)) × (List (Int × Int))))) : Option Bool := b_fill_right k (g_valid_First k) a0
theorem tells_fill_right (k : Nat) : TellsF Tryz.prog 45 [.d (.pair (.sl (.pair kI kI)) (.pair (.sl (.pair kI kI)) (.sl (.pair kI kI))))] [.bool] (fun x => g_fill_right k x) := fun x y h => fun_tells tb_ok mix (es := [⟨82, [.d (.pair (.sl (.pair kI kI)) (.pair (.sl (.pair kI kI)) (.sl (.pair kI kI))))], [.pair kI (.pair kI kI), kI], fun x => g_valid_First k x, none⟩]) (EsOk.cons (EntryOk.of rfl (tells_valid_First k)) (EsOk.nil _)) Tryz.func45 (N := k) (an := an_fill_right) (by kernel_rfl) x y ((eq_fill_right k (g_valid_First k) x).trans h)

def an_api_Seg : Ann := .node none none .leaf (.node none none .leaf (.node none none (.node none none .leaf (.node none none (.node none (some [(0, .d (.sl (.sl (.pair kI kI)))), (3, .d kI), (9, .d (.sl (.sl (.pair kI kI)))), (10, .d kI), (11, .d kI)]) (.node none none .leaf (.node none none .leaf (.node none none (.node none none (.node none none .leaf (.node none none .leaf (.node none none .leaf (.node (some [(0, .d (.sl (.sl (.pair kI kI)))), (3, .d kI), (9, .d (.sl (.sl (.pair kI kI)))), (10, .d kI), (11, .d kI)]) none .leaf .leaf)))) .leaf) .leaf))) .leaf) .leaf)) (.node none none .leaf (.node none none (.node none none .leaf (.node none none (.node none (some [(6, .row (.pair kI kI) 60), (25, .d (.sl (.sl (.pair kI kI)))), (26, .d kI), (27, .d kI)]) .leaf .leaf) .leaf)) .leaf))))
def g_api_Seg (k : Nat) (a0 : (List (List (Int × Int)))) : Option (List (Int × Int)) :=
  loopN (α := ((List (List (Int × Int))) × (Int × ((List (List (Int × Int))) × (Int × Int))))) (fun (x1, x2, x3, x4, x5) next0 =>
    bif decide (x5 < x4) then
     gd (inb x5 x3.length) <|
     meet (α := ((List (List (Int × Int))) × (Int × ((List (List (Int × Int))) × (Int × Int))))) (fun (y6, y7, y8, y9, y10) =>
      next0 (y6, y7, y8, y9, w64 (y10 + 1))) fun j11 =>
     bif decide ((w64 (x2 + ((rdD [] x3 x5).length : Int))) < 0) then
      none
     else
      j11 (x1, w64 (x2 + ((rdD [] x3 x5).length : Int)), x3, x4, x5)
    else
     gd (decide (0 ≤ x2)) <|
     gd (fewI x2) <|
     loopN (α := ((List (Int × Int)) × ((List (List (Int × Int))) × (Int × Int)))) (fun (x13, x14, x15, x16) next12 =>
      bif decide (x16 < x15) then
       gd (inb x16 x14.length) <|
       gd (few (x13.length + (rdD [] x14 x16).length)) <|
       next12 (x13 ++ (rdD [] x14 x16), x14, x15, w64 (x16 + 1))
      else
       some x13) k ([], x1, (x1.length : Int), 0)) k (a0, 0, a0, (a0.length : Int), 0)
theorem eq_api_Seg (k : Nat) (a0 : (List (List (Int × Int)))) : textF [⟨118, [], [], fun _ => none, some (.grw (.pair kI kI) 60)⟩] tb k Tryz.f83 an_api_Seg [.d (.sl (.sl (.pair kI kI)))] [.sl (.pair kI kI)] a0 = g_api_Seg k a0 := by kernel_rfl
theorem tells_api_Seg (k : Nat) : TellsF Tryz.prog 83 [.d (.sl (.sl (.pair kI kI)))] [.sl (.pair kI kI)] (fun x => g_api_Seg k x) := fun x y h => fun_tells tb_ok mix (es := [⟨118, [], [], fun _ => none, some (.grw (.pair kI kI) 60)⟩]) (EsOk.cons (EntryOk.grow grw_118) (EsOk.nil _)) Tryz.func83 (N := k) (an := an_api_Seg) (by kernel_rfl) x y ((eq_api_Seg k x).trans h)

def an_fill_up : Ann := .leaf
def g_fill_up (k : Nat) (a0 : (Int × Int)) : Option (Int × Int) :=
  some (mnI a0.1 a0.2, mxI a0.1 a0.2)
theorem eq_fill_up (k : Nat) (a0 : (Int × Int)) : textF [] tb k Tryz.f61 an_fill_up [.d (.pair kI kI)] [.pair kI kI] a0 = g_fill_up k a0 := by kernel_rfl
theorem tells_fill_up (k : Nat) : TellsF Tryz.prog 61 [.d (.pair kI kI)] [.pair kI kI] (fun x => g_fill_up k x) := fun x y h => fun_tells tb_ok mix (es := []) (EsOk.nil _) Tryz.func61 (N := k) (an := an_fill_up) (by kernel_rfl) x y ((eq_fill_up k x).trans h)

def an_fill_segs : Ann := .node none none .leaf (.node none none .leaf (.node none none (.node none none .leaf (.node none none (.node none (some [(3, .row (.pair kI kI) 60), (11, .d (.sl (.pair kI kI))), (12, .d kI), (13, .d kI)]) .leaf .leaf) .leaf)) .leaf))
def b_fill_segs (k : Nat) (c_api_Seg : (List (List (Int × Int))) → Option (List (Int × Int))) (c_fill_up : (Int × Int) → Option (Int × Int)) (a0 : ((List (Int × Int)) × ((List (Int × Int)) × (List (Int × Int))))) : Option (List (Int × Int)) :=
  bnd (c_api_Seg [a0.2.1, a0.2.2]) fun r0 =>
   loopN (α := ((List (Int × Int)) × ((List (Int × Int)) × (Int × Int)))) (fun (x2, x3, x4, x5) next1 =>
    bif decide (x5 < x4) then
     gd (inb x5 x3.length) <|
     bnd (c_fill_up ((rdD (0, 0) x3 x5).1, (rdD (0, 0) x3 x5).2)) fun r6 =>
     gd (few (x2.length + 1)) <|
     next1 (x2 ++ [(r6.1, r6.2)], x3, x4, w64 (x5 + 1))
    else
     gd (few x2.length) <|
     some (srtL cf_49 x2)) k ([], r0, (r0.length : Int), 0)
theorem eq_fill_segs (k : Nat) (c_api_Seg : (List (List (Int × Int))) → Option (List (Int × Int))) (c_fill_up : (Int × Int) → Option (Int × Int)) (a0 : ((List (Int × Int)) × ((List (Int × Int)) × (List (Int × Int))))) : textO [⟨48, [], [], fun _ => none, some (.srt (.pair kI kI) 49 cf_49)⟩, ⟨83, [.d (.sl (.sl (.pair kI kI)))], [.sl (.pair kI kI)], fun x => c_api_Seg x, none⟩, ⟨61, [.d (.pair kI kI)], [.pair kI kI], fun x => c_fill_up x, none⟩] tb k Tryz.f46 an_fill_segs [.d (.pair (.sl (.pair kI kI)) (.pair (.sl (.pair kI kI)) (.sl (.pair kI kI))))] (.pair kI kI) 60 a0 = b_fill_segs k c_api_Seg c_fill_up a0 := by kernel_rfl
def g_fill_segs (k : Nat) (a0 : ((List (Int × Int)) × ((List (Int × Int)) × (List (Int × Int))))) : Option (List (Int × Int)) := b_fill_segs k (g_api_Seg k) (g_fill_up k) a0
theorem tells_fill_segs (k : Nat) : TellsO Tryz.prog 46 [.d (.pair (.sl (.pair kI kI)) (.pair (.sl (.pair kI kI)) (.sl (.pair kI kI))))] (.pair kI kI) 60 (fun x => g_fill_segs k x) := ⟨rfl, rfl, fun x y h => (fun_tellsO tb_ok mix (es := [⟨48, [], [], fun _ => none, some (.srt (.pair kI kI) 49 cf_49)⟩, ⟨83, [.d (.sl (.sl (.pair kI kI)))], [.sl (.pair kI kI)], fun x => g_api_Seg k x, none⟩, ⟨61, [.d (.pair kI kI)], [.pair kI kI], fun x => g_fill_up k x, none⟩]) (EsOk.cons (EntryOk.sort srt_48) (EsOk.cons (EntryOk.of rfl (tells_api_Seg k)) (EsOk.cons (EntryOk.of rfl (tells_fill_up k)) (EsOk.nil _)))) Tryz.func46 (N := k) (an := an_fill_segs) rfl rfl (by kernel_rfl)).2.2 x y ((eq_fill_segs k (g_api_Seg k) (g_fill_up k) x).trans h)⟩
theorem eqf_fill_segs (k : Nat) (c_api_Seg : (List (List (Int × Int))) → Option (List (Int × Int))) (c_fill_up : (Int × Int) → Option (Int × Int)) (a0 : ((List (Int × Int)) × ((List (Int × Int)) × (List (Int × Int))))) : textF [⟨48, [], [], fun _ => none, some (.srt (.pair kI kI) 49 cf_49)⟩, ⟨83, [.d (.sl (.sl (.pair kI kI)))], [.sl (.pair kI kI)], fun x => c_api_Seg x, none⟩, ⟨61, [.d (.pair kI kI)], [.pair kI kI], fun x => c_fill_up x, none⟩] tb k Tryz.f46 an_fill_segs [.d (.pair (.sl (.pair kI kI)) (.pair (.sl (.pair kI kI)) (.sl (.pair kI kI))))] [.sl (.pair kI kI)] a0 = b_fill_segs k c_api_Seg c_fill_up a0 := by kernel_rfl
theorem tells_f_fill_segs (k : Nat) : TellsF Tryz.prog 46 [.d (.pair (.sl (.pair kI kI)) (.pair (.sl (.pair kI kI)) (.sl (.pair kI kI))))] [.sl (.pair kI kI)] (fun x => g_fill_segs k x) := fun x y h => fun_tells tb_ok mix (es := [⟨48, [], [], fun _ => none, some (.srt (.pair kI kI) 49 cf_49)⟩, ⟨83, [.d (.sl (.sl (.pair kI kI)))], [.sl (.pair kI kI)], fun x => g_api_Seg k x, none⟩, ⟨61, [.d (.pair kI kI)], [.pair kI kI], fun x => g_fill_up k x, none⟩]) (EsOk.cons (EntryOk.sort srt_48) (EsOk.cons (EntryOk.of rfl (tells_api_Seg k)) (EsOk.cons (EntryOk.of rfl (tells_fill_up k)) (EsOk.nil _)))) Tryz.func46 (N := k) (an := an_fill_segs) (by kernel_rfl) x y ((eqf_fill_segs k (g_api_Seg k) (g_fill_up k) x).trans h)

def an_fill_goes : Ann := .node none none .leaf (.node none none (.node none none .leaf (.node none none (.node none (some [(1, .d (.sl (.pair kI kI))), (2, .d kI), (3, .d kI), (4, .box [.d (.pair (.sl (.pair kI kI)) (.pair (.sl (.pair kI kI)) (.sl (.pair kI kI))))]), (18, .d (.sl (.pair kI kI))), (19, .d kI), (20, .d kI)]) .leaf .leaf) .leaf)) (.node none none (.node none none .leaf (.node none none (.node none (some [(2, .d kI), (3, .d kI), (4, .box [.d (.pair (.sl (.pair kI kI)) (.pair (.sl (.pair kI kI)) (.sl (.pair kI kI))))]), (37, .d (.sl (.pair kI kI))), (38, .d kI), (39, .d kI)]) .leaf .leaf) .leaf)) .leaf))
def b_fill_goes (k : Nat) (c_meet_Inside : (Int × Int) → (Int × Int) → (Int × Int) → Option Bool) (c_meet_Segs : (Int × Int) → (Int × Int) → (Int × Int) → (Int × Int) → Option (Int × Int)) (c_within_Halfway : (List (Int × Int)) → (List (Int × Int)) → Int → Int → Option (Int × Int)) (a0 : ((List (Int × Int)) × ((List (Int × Int)) × (List (Int × Int))))) (a1 : (List (Int × Int))) (a2 : Int) (a3 : Int) : Option Bool :=
  loopN (α := ((List (Int × Int)) × (Int × (Int × (((List (Int × Int)) × ((List (Int × Int)) × (List (Int × Int)))) × ((List (Int × Int)) × (Int × Int))))))) (fun (x1, x2, x3, x4, x5, x6, x7) next0 =>
    bif decide (x7 < x6) then
     gd (inb x7 x5.length) <|
     gd (inb x2 x4.1.length) <|
     gd (inb x3 x4.1.length) <|
     bnd (c_meet_Inside ((rdD (0, 0) x4.1 x2).1, (rdD (0, 0) x4.1 x2).2) ((rdD (0, 0) x4.1 x3).1, (rdD (0, 0) x4.1 x3).2) ((rdD (0, 0) x5 x7).1, (rdD (0, 0) x5 x7).2)) fun r8 =>
     bif r8 then
      some false
     else
      next0 (x1, x2, x3, (x4.1, x4.2.1, x4.2.2), x5, x6, w64 (x7 + 1))
    else
     loopN (α := (Int × (Int × (((List (Int × Int)) × ((List (Int × Int)) × (List (Int × Int)))) × ((List (Int × Int)) × (Int × Int)))))) (fun (x10, x11, x12, x13, x14, x15) next9 =>
      bif decide (x15 < x14) then
       gd (inb x15 x13.length) <|
       gd (inb x10 x12.1.length) <|
       gd (inb x11 x12.1.length) <|
       gd (inb (rdD (0, 0) x13 x15).1 x12.1.length) <|
       gd (inb (rdD (0, 0) x13 x15).2 x12.1.length) <|
       bnd (c_meet_Segs ((rdD (0, 0) x12.1 x10).1, (rdD (0, 0) x12.1 x10).2) ((rdD (0, 0) x12.1 x11).1, (rdD (0, 0) x12.1 x11).2) ((rdD (0, 0) x12.1 (rdD (0, 0) x13 x15).1).1, (rdD (0, 0) x12.1 (rdD (0, 0) x13 x15).1).2) ((rdD (0, 0) x12.1 (rdD (0, 0) x13 x15).2).1, (rdD (0, 0) x12.1 (rdD (0, 0) x13 x15).2).2)) fun r16 =>
       bif decide (r16.1 > 1) then
        some false
       else
        next9 (x10, x11, (x12.1, x12.2.1, x12.2.2), x13, x14, w64 (x15 + 1))
      else
       bnd (c_within_Halfway x12.1 x12.2.1 x10 x11) fun r17 =>
       some (decide (r17.1 = 1))) k (x2, x3, (x4.1, x4.2.1, x4.2.2), x1, (x1.length : Int), 0)) k (a1, a2, a3, (a0.1, a0.2.1, a0.2.2), a0.1, (a0.1.length : Int), 0)
theorem eq_fill_goes (k : Nat) (c_meet_Inside : (Int × Int) → (Int × Int) → (Int × Int) → Option Bool) (c_meet_Segs : (Int × Int) → (Int × Int) → (Int × Int) → (Int × Int) → Option (Int × Int)) (c_within_Halfway : (List (Int × Int)) → (List (Int × Int)) → Int → Int → Option (Int × Int)) (a0 : ((List (Int × Int)) × ((List (Int × Int)) × (List (Int × Int))))) (a1 : (List (Int × Int))) (a2 : Int) (a3 : Int) : textF [⟨84, [.d (.pair kI kI), .d (.pair kI kI), .d (.pair kI kI)], [.bool], fun x => c_meet_Inside (x.1) (x.2.1) (x.2.2), none⟩, ⟨85, [.d (.pair kI kI), .d (.pair kI kI), .d (.pair kI kI), .d (.pair kI kI)], [kI, kI], fun x => c_meet_Segs (x.1) (x.2.1) (x.2.2.1) (x.2.2.2), none⟩, ⟨86, [.d (.sl (.pair kI kI)), .d (.sl (.pair kI kI)), .d kI, .d kI], [kI, kI], fun x => c_within_Halfway (x.1) (x.2.1) (x.2.2.1) (x.2.2.2), none⟩] tb k Tryz.f47 an_fill_goes [.d (.pair (.sl (.pair kI kI)) (.pair (.sl (.pair kI kI)) (.sl (.pair kI kI)))), .d (.sl (.pair kI kI)), .d kI, .d kI] [.bool] (a0, a1, a2, a3) = b_fill_goes k c_meet_Inside c_meet_Segs c_within_Halfway a0 a1 a2 a3 := by kernel_rfl
def g_fill_goes (k : Nat) (a0 : ((List (Int × Int)) × ((List (Int × Int)) × (List (Int × Int))))) (a1 : (List (Int × Int))) (a2 : Int) (a3 : Int) : Option Bool := b_fill_goes k (g_meet_Inside k) (g_meet_Segs k) (g_within_Halfway k) a0 a1 a2 a3
theorem tells_fill_goes (k : Nat) : TellsF Tryz.prog 47 [.d (.pair (.sl (.pair kI kI)) (.pair (.sl (.pair kI kI)) (.sl (.pair kI kI)))), .d (.sl (.pair kI kI)), .d kI, .d kI] [.bool] (fun x => g_fill_goes k (x.1) (x.2.1) (x.2.2.1) (x.2.2.2)) := fun x y h => fun_tells tb_ok mix (es := [⟨84, [.d (.pair kI kI), .d (.pair kI kI), .d (.pair kI kI)], [.bool], fun x => g_meet_Inside k (x.1) (x.2.1) (x.2.2), none⟩, ⟨85, [.d (.pair kI kI), .d (.pair kI kI), .d (.pair kI kI), .d (.pair kI kI)], [kI, kI], fun x => g_meet_Segs k (x.1) (x.2.1) (x.2.2.1) (x.2.2.2), none⟩, ⟨86, [.d (.sl (.pair kI kI)), .d (.sl (.pair kI kI)), .d kI, .d kI], [kI, kI], fun x => g_within_Halfway k (x.1) (x.2.1) (x.2.2.1) (x.2.2.2), none⟩]) (EsOk.cons (EntryOk.of rfl (tells_meet_Inside k)) (EsOk.cons (EntryOk.of rfl (tells_meet_Segs k)) (EsOk.cons (EntryOk.of rfl (tells_within_Halfway k)) (EsOk.nil _)))) Tryz.func47 (N := k) (an := an_fill_goes) (by kernel_rfl) x y ((eq_fill_goes k (g_meet_Inside k) (g_meet_Segs k) (g_within_Halfway k) (x.1) (x.2.1) (x.2.2.1) (x.2.2.2)).trans h)

def an_fill_Edges : Ann := .node none none .leaf (.node none none .leaf (.node none none .leaf (.node none none (.node none none .leaf (.node none none (.node none (some [(1, .box [.d (.pair (.sl (.pair kI kI)) (.pair (.sl (.pair kI kI)) (.sl (.pair kI kI))))]), (4, .row (.pair kI kI) 60), (14, .d kI), (15, .d kI)]) (.node none none .leaf (.node none none .leaf (.node none none (.node none none (.node none none .leaf (.node none none .leaf (.node none none (.node none (some [(1, .box [.d (.pair (.sl (.pair kI kI)) (.pair (.sl (.pair kI kI)) (.sl (.pair kI kI))))]), (4, .row (.pair kI kI) 60), (5, .d kI), (6, .d kI), (14, .d kI), (15, .d kI)]) (.node none none .leaf (.node none none (.node none none (.node none none .leaf (.node (some [(1, .box [.d (.pair (.sl (.pair kI kI)) (.pair (.sl (.pair kI kI)) (.sl (.pair kI kI))))]), (4, .row (.pair kI kI) 60), (5, .d kI), (6, .d kI), (14, .d kI), (15, .d kI)]) none .leaf .leaf)) .leaf) .leaf)) .leaf) .leaf))) .leaf) .leaf))) .leaf) .leaf)) .leaf)))
def b_fill_Edges (k : Nat) (c_fill_right : ((List (Int × Int)) × ((List (Int × Int)) × (List (Int × Int)))) → Option Bool) (c_fill_segs : ((List (Int × Int)) × ((List (Int × Int)) × (List (Int × Int)))) → Option (List (Int × Int))) (c_fill_goes : ((List (Int × Int)) × ((List (Int × Int)) × (List (Int × Int)))) → (List (Int × Int)) → Int → Int → Option Bool) (a0 : ((List (Int × Int)) × ((List (Int × Int)) × (List (Int × Int))))) : Option ((List (Int × Int)) × Int) :=
  bnd (c_fill_right (a0.1, a0.2.1, a0.2.2)) fun r0 =>
   bif !r0 then
    some ([], 2)
   else
    bnd (c_fill_segs (a0.1, a0.2.1, a0.2.2)) fun r1 =>
    loopN (α := (((List (Int × Int)) × ((List (Int × Int)) × (List (Int × Int)))) × ((List (Int × Int)) × (Int × Int)))) (fun (x3, x4, x5, x6) next2 =>
     bif decide (x6 < x5) then
      loopN (α := (((List (Int × Int)) × ((List (Int × Int)) × (List (Int × Int)))) × ((List (Int × Int)) × (Int × (Int × (Int × Int)))))) (fun (x8, x9, x10, x11, x12, x13) next7 =>
       bif decide (x11 < (x8.1.length : Int)) then
        bnd (c_fill_goes (x8.1, x8.2.1, x8.2.2) x9 x10 x11) fun r14 =>
        meet (α := (((List (Int × Int)) × ((List (Int × Int)) × (List (Int × Int)))) × ((List (Int × Int)) × (Int × (Int × (Int × Int)))))) (fun (y15, y16, y17, y18, y19, y20) =>
         next7 ((y15.1, y15.2.1, y15.2.2), y16, y17, w64 (y18 + 1), y19, y20)) fun j21 =>
        bif r14 then
         gd (few (x9.length + 1)) <|
         j21 ((x8.1, x8.2.1, x8.2.2), x9 ++ [(x10, x11)], x10, x11, x12, x13)
        else
         j21 ((x8.1, x8.2.1, x8.2.2), x9, x10, x11, x12, x13)
       else
        next2 ((x8.1, x8.2.1, x8.2.2), x9, x12, w64 (x13 + 1))) k ((x3.1, x3.2.1, x3.2.2), x4, x6, w64 (x6 + 1), x5, x6)
     else
      gd (few x4.length) <|
      some (srtL cf_49 x4, 0)) k ((a0.1, a0.2.1, a0.2.2), r1, (a0.1.length : Int), 0)
theorem eq_fill_Edges (k : Nat) (c_fill_right : ((List (Int × Int)) × ((List (Int × Int)) × (List (Int × Int)))) → Option Bool) (c_fill_segs : ((List (Int × Int)) × ((List (Int × Int)) × (List (Int × Int)))) → Option (List (Int × Int))) (c_fill_goes : ((List (Int × Int)) × ((List (Int × Int)) × (List (Int × Int)))) → (List (Int × Int)) → Int → Int → Option Bool) (a0 : ((List (Int × Int)) × ((List (Int × Int)) × (List (Int × Int))))) : textF [⟨48, [], [], fun _ => none, some (.srt (.pair kI kI) 49 cf_49)⟩, ⟨45, [.d (.pair (.sl (.pair kI kI)) (.pair (.sl (.pair kI kI)) (.sl (.pair kI kI))))], [.bool], fun x => c_fill_right x, none⟩, ⟨46, [], [], fun _ => none, some (.own [.d (.pair (.sl (.pair kI kI)) (.pair (.sl (.pair kI kI)) (.sl (.pair kI kI))))] (.pair kI kI) 60 fun x => c_fill_segs x)⟩, ⟨47, [.d (.pair (.sl (.pair kI kI)) (.pair (.sl (.pair kI kI)) (.sl (.pair kI kI)))), .d (.sl (.pair kI kI)), .d kI, .d kI], [.bool], fun x => c_fill_goes (x.1) (x.2.1) (x.2.2.1) (x.2.2.2), none⟩] tb k Tryz.f13 an_fill_Edges [.d (.pair (.sl (.pair kI kI)) (.pair (.sl (.pair kI kI)) (.sl (.pair kI kI))))] [.sl (.pair kI kI), kI] a0 = b_fill_Edges k c_fill_right c_fill_segs c_fill_goes a0 := by kernel_rfl
def g_fill_Edges (k : Nat) (a0 : ((List (Int × Int)) × ((List (Int × Int)) × (List (Int × Int))))) : Option ((List (Int × Int)) × Int) := b_fill_Edges k (g_fill_right k) (g_fill_segs k) (g_fill_goes k) a0
theorem tells_fill_Edges (k : Nat) : TellsF Tryz.prog 13 [.d (.pair (.sl (.pair kI kI)) (.pair (.sl (.pair kI kI)) (.sl (.pair kI kI))))] [.sl (.pair kI kI), kI] (fun x => g_fill_Edges k x) := fun x y h => fun_tells tb_ok mix (es := [⟨48, [], [], fun _ => none, some (.srt (.pair kI kI) 49 cf_49)⟩, ⟨45, [.d (.pair (.sl (.pair kI kI)) (.pair (.sl (.pair kI kI)) (.sl (.pair kI kI))))], [.bool], fun x => g_fill_right k x, none⟩, ⟨46, [], [], fun _ => none, some (.own [.d (.pair (.sl (.pair kI kI)) (.pair (.sl (.pair kI kI)) (.sl (.pair kI kI))))] (.pair kI kI) 60 fun x => g_fill_segs k x)⟩, ⟨47, [.d (.pair (.sl (.pair kI kI)) (.pair (.sl (.pair kI kI)) (.sl (.pair kI kI)))), .d (.sl (.pair kI kI)), .d kI, .d kI], [.bool], fun x => g_fill_goes k (x.1) (x.2.1) (x.2.2.1) (x.2.2.2), none⟩]) (EsOk.cons (EntryOk.sort srt_48) (EsOk.cons (EntryOk.of rfl (tells_fill_right k)) (EsOk.cons (EntryOk.own (tells_fill_segs k)) (EsOk.cons (EntryOk.of rfl (tells_fill_goes k)) (EsOk.nil _))))) Tryz.func13 (N := k) (an := an_fill_Edges) (by kernel_rfl) x y ((eq_fill_Edges k (g_fill_right k) (g_fill_segs k) (g_fill_goes k) x).trans h)

def an_api_Point : Ann := .leaf
def g_api_Point (k : Nat) (a0 : (List (Int × Int))) : Option (List (Int × Int)) :=
  gd (decide (0 < (a0.length : Int))) <|
   gd (few (0 + a0.length)) <|
   some ([] ++ a0)
theorem eq_api_Point (k : Nat) (a0 : (List (Int × Int))) : textF [] tb k Tryz.f53 an_api_Point [.d (.sl (.pair kI kI))] [.sl (.pair kI kI)] a0 = g_api_Point k a0 := by kernel_rfl
theorem tells_api_Point (k : Nat) : TellsF Tryz.prog 53 [.d (.sl (.pair kI kI))] [.sl (.pair kI kI)] (fun x => g_api_Point k x) := fun x y h => fun_tells tb_ok mix (es := []) (EsOk.nil _) Tryz.func53 (N := k) (an := an_api_Point) (by kernel_rfl) x y ((eq_api_Point k x).trans h)

def an_fill_Tri : Ann := .node none none .leaf (.node none none (.node none none .leaf (.node none none (.node none (some [(0, .d (.sl (.pair kI kI))), (1, .d kI), (2, .d kI), (3, .d kI), (8, .box [.d (.pair kI (.pair kI kI))]), (15, .d (.pair kI (.pair kI kI))), (16, .d kI)]) (.node none none .leaf (.node none none .leaf (.node none none (.node none none (.node none none (.node (some [(0, .d (.sl (.pair kI kI))), (1, .d kI), (2, .d kI), (3, .d kI), (8, .box [.d (.pair kI (.pair kI kI))]), (11, .d kI), (15, .d (.pair kI (.pair kI kI))), (16, .d kI)]) none .leaf .leaf) (.node none none (.node (some [(0, .d (.sl (.pair kI kI))), (1, .d kI), (2, .d kI), (3, .d kI), (8, .box [.d (.pair kI (.pair kI kI))]), (15, .d (.pair kI (.pair kI kI))), (16, .d kI), (26, .d .bool)]) none .leaf .leaf) .leaf)) .leaf) .leaf))) .leaf) .leaf)) (.node none none (.node none none .leaf (.node none none (.node none none .leaf (.node none none .leaf (.node none none .leaf (.node (some [(1, .d kI), (2, .d kI), (3, .d kI), (8, .box [.d (.pair kI (.pair kI kI))])]) none .leaf .leaf)))) .leaf)) (.node none none (.node none none (.node none (some [(1, .d kI), (2, .d kI), (3, .d kI), (8, .box [.d (.pair kI (.pair kI kI))])]) (.node none none (.node none none (.node (some [(1, .d kI), (2, .d kI), (3, .d kI), (8, .box [.d (.pair kI (.pair kI kI))]), (56, .d .bool)]) none .leaf .leaf) .leaf) .leaf) .leaf) .leaf) .leaf)))
def b_fill_Tri (k : Nat) (c_pred_Orient : (Int × Int) → (Int × Int) → (Int × Int) → Option Int) (a0 : (List (Int × Int))) (a1 : Int) (a2 : Int) (a3 : Int) : Option ((Int × (Int × Int)) × Bool) :=
  loopN (α := ((List (Int × Int)) × (Int × (Int × (Int × ((Int × (Int × Int)) × ((Int × (Int × Int)) × Int))))))) (fun (x1, x2, x3, x4, x5, x6, x7) next0 =>
    bif decide (x7 < 3) then
     meet (α := ((List (Int × Int)) × (Int × (Int × (Int × ((Int × (Int × Int)) × (Int × ((Int × (Int × Int)) × Int)))))))) (fun (y8, y9, y10, y11, y12, y13, y14, y15) =>
      meet (α := ((List (Int × Int)) × (Int × (Int × (Int × ((Int × (Int × Int)) × ((Int × (Int × Int)) × (Int × Bool)))))))) (fun (y16, y17, y18, y19, y20, y21, y22, y23) =>
       bif y23 then
        some ((0, 0, 0), false)
       else
        next0 (y16, y17, y18, y19, (y20.1, y20.2.1, y20.2.2), (y21.1, y21.2.1, y21.2.2), w64 (y22 + 1))) fun j24 =>
      bif decide (y13 < 0) then
       j24 (y8, y9, y10, y11, (y12.1, y12.2.1, y12.2.2), (y14.1, y14.2.1, y14.2.2), y15, true)
      else
       j24 (y8, y9, y10, y11, (y12.1, y12.2.1, y12.2.2), (y14.1, y14.2.1, y14.2.2), y15, decide (y13 ≥ (y8.length : Int)))) fun j25 =>
     bif decide (x7 = 0) then
      j25 (x1, x2, x3, x4, (x5.1, x5.2.1, x5.2.2), x6.1, (x6.1, x6.2.1, x6.2.2), x7)
     else
      bif decide (x7 = 1) then
       j25 (x1, x2, x3, x4, (x5.1, x5.2.1, x5.2.2), x6.2.1, (x6.1, x6.2.1, x6.2.2), x7)
      else
       bif decide (x7 = 2) then
        j25 (x1, x2, x3, x4, (x5.1, x5.2.1, x5.2.2), x6.2.2, (x6.1, x6.2.1, x6.2.2), x7)
       else
        none
    else
     gd (inb x2 x1.length) <|
     gd (inb x3 x1.length) <|
     gd (inb x4 x1.length) <|
     bnd (c_pred_Orient ((rdD (0, 0) x1 x2).1, (rdD (0, 0) x1 x2).2) ((rdD (0, 0) x1 x3).1, (rdD (0, 0) x1 x3).2) ((rdD (0, 0) x1 x4).1, (rdD (0, 0) x1 x4).2)) fun r26 =>
     bif decide (r26 = 0) then
      some ((0, 0, 0), false)
     else
      meet (α := (Int × (Int × (Int × (Int × (Int × Int)))))) (fun (y27, y28, y29, y30, y31, y32) =>
       loopN (α := (Int × (Int × (Int × (Int × (Int × Int)))))) (fun (x34, x35, x36, x37, x38, x39) next33 =>
        meet (α := (Int × (Int × (Int × ((Int × (Int × Int)) × Bool))))) (fun (y40, y41, y42, y43, y44) =>
         bif y44 then
          next33 (y41, y42, y40, y43.1, y43.2.1, y43.2.2)
         else
          some ((y40, y41, y42), true)) fun j45 =>
        bif decide (x34 > x35) then
         j45 (x34, x35, x36, (x37, x38, x39), true)
        else
         j45 (x34, x35, x36, (x37, x38, x39), decide (x34 > x36))) k (y27, y28, y29, y30, y31, y32)) fun j46 =>
      bif decide (r26 = (-1)) then
       j46 (x2, x4, x3, x5.1, x5.2.1, x5.2.2)
      else
       j46 (x2, x3, x4, x5.1, x5.2.1, x5.2.2)) k (a0, a1, a2, a3, (0, 0, 0), (a1, a2, a3), 0)
theorem eq_fill_Tri (k : Nat) (c_pred_Orient : (Int × Int) → (Int × Int) → (Int × Int) → Option Int) (a0 : (List (Int × Int))) (a1 : Int) (a2 : Int) (a3 : Int) : textF [⟨81, [.d (.pair kI kI), .d (.pair kI kI), .d (.pair kI kI)], [kI], fun x => c_pred_Orient (x.1) (x.2.1) (x.2.2), none⟩] tb k Tryz.f40 an_fill_Tri [.d (.sl (.pair kI kI)), .d kI, .d kI, .d kI] [.pair kI (.pair kI kI), .bool] (a0, a1, a2, a3) = b_fill_Tri k c_pred_Orient a0 a1 a2 a3 := by kernel_rfl
def g_fill_Tri (k : Nat) (a0 : (List (Int × Int))) (a1 : Int) (a2 : Int) (a3 : Int) : Option ((Int × (Int × Int)) × Bool) := b_fill_Tri k (g_pred_Orient k) a0 a1 a2 a3
theorem tells_fill_Tri (k : Nat) : TellsF Tryz.prog 40 [.d (.sl (.pair kI kI)), .d kI, .d kI, .d kI] [.pair kI (.pair kI kI), .bool] (fun x => g_fill_Tri k (x.1) (x.2.1) (x.2.2.1) (x.2.2.2)) := fun x y h => fun_tells tb_ok mix (es := [⟨81, [.d (.pair kI kI), .d (.pair kI kI), .d (.pair kI kI)], [kI], fun x => g_pred_Orient k (x.1) (x.2.1) (x.2.2), none⟩]) (EsOk.cons (EntryOk.of rfl (tells_pred_Orient k)) (EsOk.nil _)) Tryz.func40 (N := k) (an := an_fill_Tri) (by kernel_rfl) x y ((eq_fill_Tri k (g_pred_Orient k) (x.1) (x.2.1) (x.2.2.1) (x.2.2.2)).trans h)

end
end Go.Proofs.YtpkkcjmblocjdaaGreat.AM
