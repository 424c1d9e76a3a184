/- The functions, by their texts: written by a program. -/
import Derived.Test.YtjbimhfhapnjeaaGa1
set_option linter.unusedVariables false
set_option maxRecDepth 100000
namespace Go.Proofs.Ytjbimhfhapnjeaa.AM
open Go.RowKit Go.Proofs
def an_within_where : Ann := .node none none .leaf (.node none none .leaf (.node none none (.node none none .leaf (.node none none (.node none (some [(3, .box [.d (.pair kI kI)]), (5, .d kI), (8, .d (.sl (.pair (.pair kI kI) (.pair kI kI)))), (9, .d kI), (10, .d kI)]) (.node none none .leaf (.node none none .leaf (.node none none (.node none none (.node none none .leaf (.node none none (.node none none .leaf (.node none none .leaf (.node none none .leaf (.node (some [(3, .box [.d (.pair kI kI)]), (5, .d kI), (8, .d (.sl (.pair (.pair kI kI) (.pair kI kI)))), (9, .d kI), (10, .d kI)]) none .leaf .leaf)))) .leaf)) .leaf) .leaf))) .leaf) .leaf)) .leaf))
def b_within_where (k : Nat) (c_meet_On : (Int × Int) → (Int × Int) → (Int × Int) → Option Bool) (c_within_right : (Int × Int) → (Int × Int) → (Int × Int) → Option Bool) (a0 : (List ((Int × Int) × (Int × Int)))) (a1 : (Int × Int)) : Option Int :=
  loopN (α := ((Int × Int) × (Int × ((List ((Int × Int) × (Int × Int))) × (Int × Int))))) (fun (x1, x2, x3, x4, x5) next0 =>
    bif decide (x5 < x4) then
     gd (inb x5 x3.length) <|
     bnd (c_meet_On ((rdD ((0, 0), 0, 0) x3 x5).1.1, (rdD ((0, 0), 0, 0) x3 x5).1.2) ((rdD ((0, 0), 0, 0) x3 x5).2.1, (rdD ((0, 0), 0, 0) x3 x5).2.2) (x1.1, x1.2)) fun r6 =>
     bif r6 then
      some 0
     else
      bnd (c_within_right ((rdD ((0, 0), 0, 0) x3 x5).1.1, (rdD ((0, 0), 0, 0) x3 x5).1.2) ((rdD ((0, 0), 0, 0) x3 x5).2.1, (rdD ((0, 0), 0, 0) x3 x5).2.2) (x1.1, x1.2)) fun r7 =>
      meet (α := ((Int × Int) × (Int × ((List ((Int × Int) × (Int × Int))) × (Int × Int))))) (fun (y8, y9, y10, y11, y12) =>
       next0 ((y8.1, y8.2), y9, y10, y11, w64 (y12 + 1))) fun j13 =>
      bif r7 then
       j13 ((x1.1, x1.2), w64 (0 - x2), x3, x4, x5)
      else
       j13 ((x1.1, x1.2), x2, x3, x4, x5)
    else
     some x2) k ((a1.1, a1.2), (-1), a0, (a0.length : Int), 0)
theorem eq_within_where (k : Nat) (c_meet_On : (Int × Int) → (Int × Int) → (Int × Int) → Option Bool) (c_within_right : (Int × Int) → (Int × Int) → (Int × Int) → Option Bool) (a0 : (List ((Int × Int) × (Int × Int)))) (a1 : (Int × Int)) : textF [⟨63, [.d (.pair kI kI), .d (.pair kI kI), .d (.pair kI kI)], [.bool], fun x => c_meet_On (x.1) (x.2.1) (x.2.2), none⟩, ⟨90, [.d (.pair kI kI), .d (.pair kI kI), .d (.pair kI kI)], [.bool], fun x => c_within_right (x.1) (x.2.1) (x.2.2), none⟩] tb k Try.f75 an_within_where [.d (.sl (.pair (.pair kI kI) (.pair kI kI))), .d (.pair kI kI)] [kI] (a0, a1) = b_within_where k c_meet_On c_within_right a0 a1 := by kernel_rfl
def g_within_where (k : Nat) (a0 : (List ((Int × Int) × (Int × Int)))) (a1 : (Int × Int)) : Option Int := b_within_where k (g_meet_On k) (g_within_right k) a0 a1
theorem tells_within_where (k : Nat) : TellsF Try.prog 75 [.d (.sl (.pair (.pair kI kI) (.pair kI kI))), .d (.pair kI kI)] [kI] (fun x => g_within_where k (x.1) (x.2)) := fun x y h => fun_tells tb_ok mix (es := [⟨63, [.d (.pair kI kI), .d (.pair kI kI), .d (.pair kI kI)], [.bool], fun x => g_meet_On k (x.1) (x.2.1) (x.2.2), none⟩, ⟨90, [.d (.pair kI kI), .d (.pair kI kI), .d (.pair kI kI)], [.bool], fun x => g_within_right k (x.1) (x.2.1) (x.2.2), none⟩]) (EsOk.cons (EntryOk.of rfl (tells_meet_On k)) (EsOk.cons (EntryOk.of rfl (tells_within_right k)) (EsOk.nil _))) Try.func75 (N := k) (an := an_within_where) (by kernel_rfl) x y ((eq_within_where k (g_meet_On k) (g_within_right k) (x.1) (x.2)).trans h)

def an_within_middle : Ann := .node none none .leaf (.node none none .leaf (.node none none .leaf (.node none none (.node none none .leaf (.node none none (.node none (some [(0, .d (.sl (.pair kI kI))), (1, .d (.sl (.pair kI kI))), (8, .d kI), (9, .box [.d (.pair kI kI)]), (16, .d (.sl kI)), (17, .d kI), (18, .d kI)]) (.node none none .leaf (.node none none .leaf (.node none none (.node none none (.node none none .leaf (.node none none (.node none none (.node (some [(0, .d (.sl (.pair kI kI))), (1, .d (.sl (.pair kI kI))), (8, .d kI), (9, .box [.d (.pair kI kI)]), (11, .d kI), (16, .d (.sl kI)), (17, .d kI), (18, .d kI), (38, .d .bool)]) none .leaf .leaf) .leaf) .leaf)) .leaf) .leaf))) .leaf) .leaf)) (.node none none .leaf (.node none none (.node none none (.node (some [(9, .box [.d (.pair kI kI)]), (12, .d (.sl (.pair (.pair kI kI) (.pair kI kI)))), (72, .d .bool)]) none .leaf .leaf) .leaf) .leaf)))))
def b_within_middle (k : Nat) (c_pred_Fits : (List (Int × Int)) → Option Bool) (c_within_fine : (List (Int × Int)) → (List (Int × Int)) → (Int × Unit) → Option ((List ((Int × Int) × (Int × Int))) × Bool)) (c_within_where : (List ((Int × Int) × (Int × Int))) → (Int × Int) → Option Int) (a0 : (List (Int × Int))) (a1 : (List (Int × Int))) (a2 : (List Int)) : Option (Int × Int) :=
  loopN (α := ((List (Int × Int)) × ((List (Int × Int)) × (Int × ((Int × Int) × ((List Int) × (Int × Int))))))) (fun (x1, x2, x3, x4, x5, x6, x7) next0 =>
    bif decide (x7 < x6) then
     gd (inb x7 x5.length) <|
     meet (α := ((List (Int × Int)) × ((List (Int × Int)) × (Int × ((Int × Int) × (Int × ((List Int) × (Int × (Int × Bool))))))))) (fun (y8, y9, y10, y11, y12, y13, y14, y15, y16) =>
      bif y16 then
       some (0, 2)
      else
       gd (inb y12 y8.length) <|
       gd (inb y12 y8.length) <|
       next0 (y8, y9, y10, (w64 (y11.1 + (rdD (0, 0) y8 y12).1), w64 (y11.2 + (rdD (0, 0) y8 y12).2)), y13, y14, w64 (y15 + 1))) fun j17 =>
     bif decide ((rdD 0 x5 x7) < 0) then
      j17 (x1, x2, x3, (x4.1, x4.2), rdD 0 x5 x7, x5, x6, x7, true)
     else
      bif decide ((rdD 0 x5 x7) ≥ (x1.length : Int)) then
       j17 (x1, x2, x3, (x4.1, x4.2), rdD 0 x5 x7, x5, x6, x7, true)
      else
       gd (inb (rdD 0 x5 x7) x1.length) <|
       bnd (c_pred_Fits [((rdD (0, 0) x1 (rdD 0 x5 x7)).1, (rdD (0, 0) x1 (rdD 0 x5 x7)).2)]) fun r18 =>
       j17 (x1, x2, x3, (x4.1, x4.2), rdD 0 x5 x7, x5, x6, x7, !r18)
    else
     bnd (c_within_fine x1 x2 (x3, ())) fun r19 =>
     meet (α := ((Int × Int) × ((List ((Int × Int) × (Int × Int))) × Bool))) (fun (y20, y21, y22) =>
      bif y22 then
       some (0, 2)
      else
       bnd (c_within_where y21 (y20.1, y20.2)) fun r23 =>
       some (r23, 0)) fun j24 =>
     bif !r19.2 then
      j24 ((x4.1, x4.2), r19.1, true)
     else
      bnd (c_pred_Fits [(x4.1, x4.2)]) fun r25 =>
      j24 ((x4.1, x4.2), r19.1, !r25)) k (a0, a1, (a2.length : Int), (0, 0), a2, (a2.length : Int), 0)
theorem eq_within_middle (k : Nat) (c_pred_Fits : (List (Int × Int)) → Option Bool) (c_within_fine : (List (Int × Int)) → (List (Int × Int)) → (Int × Unit) → Option ((List ((Int × Int) × (Int × Int))) × Bool)) (c_within_where : (List ((Int × Int) × (Int × Int))) → (Int × Int) → Option Int) (a0 : (List (Int × Int))) (a1 : (List (Int × Int))) (a2 : (List Int)) : textF [⟨65, [.d (.sl (.pair kI kI))], [.bool], fun x => c_pred_Fits x, none⟩, ⟨73, [.d (.sl (.pair kI kI)), .d (.sl (.pair kI kI)), .fn 80 [(.d kI)] []], [.sl (.pair (.pair kI kI) (.pair kI kI)), .bool], fun x => c_within_fine (x.1) (x.2.1) (x.2.2), none⟩, ⟨75, [.d (.sl (.pair (.pair kI kI) (.pair kI kI))), .d (.pair kI kI)], [kI], fun x => c_within_where (x.1) (x.2), none⟩] tb k Try.f64 an_within_middle [.d (.sl (.pair kI kI)), .d (.sl (.pair kI kI)), .d (.sl kI)] [kI, kI] (a0, a1, a2) = b_within_middle k c_pred_Fits c_within_fine c_within_where a0 a1 a2 := by kernel_rfl
def g_within_middle (k : Nat) (a0 : (List (Int × Int))) (a1 : (List (Int × Int))) (a2 : (List Int)) : Option (Int × Int) := b_within_middle k (g_pred_Fits k) (g_within_fine k) (g_within_where k) a0 a1 a2
theorem tells_within_middle (k : Nat) : TellsF Try.prog 64 [.d (.sl (.pair kI kI)), .d (.sl (.pair kI kI)), .d (.sl kI)] [kI, kI] (fun x => g_within_middle k (x.1) (x.2.1) (x.2.2)) := fun x y h => fun_tells tb_ok mix (es := [⟨65, [.d (.sl (.pair kI kI))], [.bool], fun x => g_pred_Fits k x, none⟩, ⟨73, [.d (.sl (.pair kI kI)), .d (.sl (.pair kI kI)), .fn 80 [(.d kI)] []], [.sl (.pair (.pair kI kI) (.pair kI kI)), .bool], fun x => g_within_fine k (x.1) (x.2.1) (x.2.2), none⟩, ⟨75, [.d (.sl (.pair (.pair kI kI) (.pair kI kI))), .d (.pair kI kI)], [kI], fun x => g_within_where k (x.1) (x.2), none⟩]) (EsOk.cons (EntryOk.of rfl (tells_pred_Fits k)) (EsOk.cons (EntryOk.of rfl (tells_within_fine k)) (EsOk.cons (EntryOk.of rfl (tells_within_where k)) (EsOk.nil _)))) Try.func64 (N := k) (an := an_within_middle) (by kernel_rfl) x y ((eq_within_middle k (g_pred_Fits k) (g_within_fine k) (g_within_where k) (x.1) (x.2.1) (x.2.2)).trans h)

def an_within_Halfway : Ann := .leaf
def b_within_Halfway (k : Nat) (c_within_middle : (List (Int × Int)) → (List (Int × Int)) → (List Int) → Option (Int × Int)) (a0 : (List (Int × Int))) (a1 : (List (Int × Int))) (a2 : Int) (a3 : Int) : Option (Int × Int) :=
  bnd (c_within_middle a0 a1 [a2, a3]) fun r0 =>
   some (r0.1, r0.2)
theorem eq_within_Halfway (k : Nat) (c_within_middle : (List (Int × Int)) → (List (Int × Int)) → (List Int) → Option (Int × Int)) (a0 : (List (Int × Int))) (a1 : (List (Int × Int))) (a2 : Int) (a3 : Int) : textF [⟨64, [.d (.sl (.pair kI kI)), .d (.sl (.pair kI kI)), .d (.sl kI)], [kI, kI], fun x => c_within_middle (x.1) (x.2.1) (x.2.2), none⟩] tb k Try.f43 an_within_Halfway [.d (.sl (.pair kI kI)), .d (.sl (.pair kI kI)), .d kI, .d kI] [kI, kI] (a0, a1, a2, a3) = b_within_Halfway k c_within_middle a0 a1 a2 a3 := by kernel_rfl
def g_within_Halfway (k : Nat) (a0 : (List (Int × Int))) (a1 : (List (Int × Int))) (a2 : Int) (a3 : Int) : Option (Int × Int) := b_within_Halfway k (g_within_middle k) a0 a1 a2 a3
theorem tells_within_Halfway (k : Nat) : TellsF Try.prog 43 [.d (.sl (.pair kI kI)), .d (.sl (.pair kI kI)), .d kI, .d kI] [kI, kI] (fun x => g_within_Halfway k (x.1) (x.2.1) (x.2.2.1) (x.2.2.2)) := fun x y h => fun_tells tb_ok mix (es := [⟨64, [.d (.sl (.pair kI kI)), .d (.sl (.pair kI kI)), .d (.sl kI)], [kI, kI], fun x => g_within_middle k (x.1) (x.2.1) (x.2.2), none⟩]) (EsOk.cons (EntryOk.of rfl (tells_within_middle k)) (EsOk.nil _)) Try.func43 (N := k) (an := an_within_Halfway) (by kernel_rfl) x y ((eq_within_Halfway k (g_within_middle k) (x.1) (x.2.1) (x.2.2.1) (x.2.2.2)).trans h)

def an_valid_out : Ann := .node none none .leaf (.node none none (.node none none .leaf (.node none none (.node none (some [(1, .box [.d (.pair (.sl (.pair kI kI)) (.pair (.sl (.pair kI kI)) (.sl (.pair kI kI))))]), (2, .box [.d (.pair kI (.pair kI kI))]), (8, .d (.sl (.pair kI kI))), (9, .d kI), (10, .d kI)]) .leaf .leaf) .leaf)) .leaf)
def b_valid_out (k : Nat) (c_within_Halfway : (List (Int × Int)) → (List (Int × Int)) → Int → Int → Option (Int × Int)) (a0 : ((List (Int × Int)) × ((List (Int × Int)) × (List (Int × Int))))) : Option (Int × (Int × Int)) :=
  loopN (α := (((List (Int × Int)) × ((List (Int × Int)) × (List (Int × Int)))) × ((Int × (Int × Int)) × ((List (Int × Int)) × (Int × Int))))) (fun (x1, x2, x3, x4, x5) next0 =>
    bif decide (x5 < x4) then
     gd (inb x5 x3.length) <|
     bnd (c_within_Halfway x1.1 x1.2.1 (rdD (0, 0) x3 x5).1 (rdD (0, 0) x3 x5).2) fun r6 =>
     bif !(decide (r6.1 = 1)) then
      some (7, x5, 0)
     else
      next0 ((x1.1, x1.2.1, x1.2.2), (x2.1, x2.2.1, x2.2.2), x3, x4, w64 (x5 + 1))
    else
     some (0, 0, 0)) k ((a0.1, a0.2.1, a0.2.2), (0, 0, 0), a0.2.2, (a0.2.2.length : Int), 0)
theorem eq_valid_out (k : Nat) (c_within_Halfway : (List (Int × Int)) → (List (Int × Int)) → Int → Int → Option (Int × Int)) (a0 : ((List (Int × Int)) × ((List (Int × Int)) × (List (Int × Int))))) : textF [⟨43, [.d (.sl (.pair kI kI)), .d (.sl (.pair kI kI)), .d kI, .d kI], [kI, kI], fun x => c_within_Halfway (x.1) (x.2.1) (x.2.2.1) (x.2.2.2), none⟩] tb k Try.f31 an_valid_out [.d (.pair (.sl (.pair kI kI)) (.pair (.sl (.pair kI kI)) (.sl (.pair kI kI))))] [.pair kI (.pair kI kI)] a0 = b_valid_out k c_within_Halfway a0 := by kernel_rfl
def g_valid_out (k : Nat) (a0 : ((List (Int × Int)) × ((List (Int × Int)) × (List (Int × Int))))) : Option (Int × (Int × Int)) := b_valid_out k (g_within_Halfway k) a0
theorem tells_valid_out (k : Nat) : TellsF Try.prog 31 [.d (.pair (.sl (.pair kI kI)) (.pair (.sl (.pair kI kI)) (.sl (.pair kI kI))))] [.pair kI (.pair kI kI)] (fun x => g_valid_out k x) := fun x y h => fun_tells tb_ok mix (es := [⟨43, [.d (.sl (.pair kI kI)), .d (.sl (.pair kI kI)), .d kI, .d kI], [kI, kI], fun x => g_within_Halfway k (x.1) (x.2.1) (x.2.2.1) (x.2.2.2), none⟩]) (EsOk.cons (EntryOk.of rfl (tells_within_Halfway k)) (EsOk.nil _)) Try.func31 (N := k) (an := an_valid_out) (by kernel_rfl) x y ((eq_valid_out k (g_within_Halfway k) x).trans h)

def an_within_same : Ann := .leaf
def g_within_same (k : Nat) (a0 : (Int × Int)) : Option (Int × Int) :=
  some (a0.1, a0.2)
theorem eq_within_same (k : Nat) (a0 : (Int × Int)) : textF [] tb k Try.f74 an_within_same [.d (.pair kI kI)] [.pair kI kI] a0 = g_within_same k a0 := by kernel_rfl
theorem tells_within_same (k : Nat) : TellsF Try.prog 74 [.d (.pair kI kI)] [.pair kI kI] (fun x => g_within_same k x) := fun x y h => fun_tells tb_ok mix (es := []) (EsOk.nil _) Try.func74 (N := k) (an := an_within_same) (by kernel_rfl) x y ((eq_within_same k x).trans h)

def an_within_fine_2 : Ann := .node none none .leaf (.node none none .leaf (.node none none (.node none none .leaf (.node none none (.node none (some [(0, .d (.sl (.pair kI kI))), (2, .fn 74 [] []), (8, .row (.pair (.pair kI kI) (.pair kI kI)) 78), (13, .d (.sl (.pair kI kI))), (14, .d kI), (15, .d kI)]) (.node none none .leaf (.node none none .leaf (.node none none (.node none none (.node none none .leaf (.node none none (.node none none (.node (some [(0, .d (.sl (.pair kI kI))), (2, .fn 74 [] []), (8, .row (.pair (.pair kI kI) (.pair kI kI)) 78), (10, .box [.d (.pair kI kI)]), (13, .d (.sl (.pair kI kI))), (14, .d kI), (15, .d kI), (68, .d .bool)]) none .leaf .leaf) .leaf) .leaf)) .leaf) .leaf))) .leaf) .leaf)) .leaf))
def b_within_fine_2 (k : Nat) (c_pred_Fits : (List (Int × Int)) → Option Bool) (c_within_same : (Int × Int) → Option (Int × Int)) (a0 : (List (Int × Int))) (a1 : (List (Int × Int))) (a2 : (Unit × Unit)) : Option ((List ((Int × Int) × (Int × Int))) × Bool) :=
  loopN (α := ((List (Int × Int)) × ((Unit × Unit) × ((List ((Int × Int) × (Int × Int))) × ((List (Int × Int)) × (Int × Int)))))) (fun (x1, x2, x3, x4, x5, x6) next0 =>
    bif decide (x6 < x5) then
     gd (inb x6 x4.length) <|
     meet (α := ((List (Int × Int)) × ((Unit × Unit) × ((List ((Int × Int) × (Int × Int))) × ((Int × Int) × ((List (Int × Int)) × (Int × (Int × Bool)))))))) (fun (y7, y8, y9, y10, y11, y12, y13, y14) =>
      bif y14 then
       some ([], false)
      else
       gd (inb y10.1 y7.length) <|
       bnd (c_within_same ((rdD (0, 0) y7 y10.1).1, (rdD (0, 0) y7 y10.1).2)) fun r15 =>
       gd (inb y10.2 y7.length) <|
       bnd (c_within_same ((rdD (0, 0) y7 y10.2).1, (rdD (0, 0) y7 y10.2).2)) fun r16 =>
       bnd (c_pred_Fits [(r15.1, r15.2), (r16.1, r16.2)]) fun r17 =>
       bif !r17 then
        some ([], false)
       else
        gd (few (y9.length + 1)) <|
        next0 (y7, ((), ()), y9 ++ [((r15.1, r15.2), r16.1, r16.2)], y11, y12, w64 (y13 + 1))) fun j18 =>
     bif decide ((rdD (0, 0) x4 x6).1 < 0) then
      j18 (x1, ((), ()), x3, ((rdD (0, 0) x4 x6).1, (rdD (0, 0) x4 x6).2), x4, x5, x6, true)
     else
      bif decide ((rdD (0, 0) x4 x6).1 ≥ (x1.length : Int)) then
       j18 (x1, ((), ()), x3, ((rdD (0, 0) x4 x6).1, (rdD (0, 0) x4 x6).2), x4, x5, x6, true)
      else
       bif decide ((rdD (0, 0) x4 x6).2 < 0) then
        j18 (x1, ((), ()), x3, ((rdD (0, 0) x4 x6).1, (rdD (0, 0) x4 x6).2), x4, x5, x6, true)
       else
        bif decide ((rdD (0, 0) x4 x6).2 ≥ (x1.length : Int)) then
         j18 (x1, ((), ()), x3, ((rdD (0, 0) x4 x6).1, (rdD (0, 0) x4 x6).2), x4, x5, x6, true)
        else
         gd (inb (rdD (0, 0) x4 x6).1 x1.length) <|
         gd (inb (rdD (0, 0) x4 x6).2 x1.length) <|
         bif (decide ((rdD (0, 0) x1 (rdD (0, 0) x4 x6).1).1 = (rdD (0, 0) x1 (rdD (0, 0) x4 x6).2).1)) && (decide ((rdD (0, 0) x1 (rdD (0, 0) x4 x6).1).2 = (rdD (0, 0) x1 (rdD (0, 0) x4 x6).2).2)) then
          j18 (x1, ((), ()), x3, ((rdD (0, 0) x4 x6).1, (rdD (0, 0) x4 x6).2), x4, x5, x6, true)
         else
          gd (inb (rdD (0, 0) x4 x6).1 x1.length) <|
          gd (inb (rdD (0, 0) x4 x6).2 x1.length) <|
          bnd (c_pred_Fits [((rdD (0, 0) x1 (rdD (0, 0) x4 x6).1).1, (rdD (0, 0) x1 (rdD (0, 0) x4 x6).1).2), ((rdD (0, 0) x1 (rdD (0, 0) x4 x6).2).1, (rdD (0, 0) x1 (rdD (0, 0) x4 x6).2).2)]) fun r19 =>
          j18 (x1, ((), ()), x3, ((rdD (0, 0) x4 x6).1, (rdD (0, 0) x4 x6).2), x4, x5, x6, !r19)
    else
     some (x3, true)) k (a0, ((), ()), [], a1, (a1.length : Int), 0)
theorem eq_within_fine_2 (k : Nat) (c_pred_Fits : (List (Int × Int)) → Option Bool) (c_within_same : (Int × Int) → Option (Int × Int)) (a0 : (List (Int × Int))) (a1 : (List (Int × Int))) (a2 : (Unit × Unit)) : textF [⟨65, [.d (.sl (.pair kI kI))], [.bool], fun x => c_pred_Fits x, none⟩, ⟨74, [.d (.pair kI kI)], [.pair kI kI], fun x => c_within_same x, none⟩] tb k Try.f73 an_within_fine_2 [.d (.sl (.pair kI kI)), .d (.sl (.pair kI kI)), .fn 74 [] []] [.sl (.pair (.pair kI kI) (.pair kI kI)), .bool] (a0, a1, a2) = b_within_fine_2 k c_pred_Fits c_within_same a0 a1 a2 := by kernel_rfl
def g_within_fine_2 (k : Nat) (a0 : (List (Int × Int))) (a1 : (List (Int × Int))) (a2 : (Unit × Unit)) : Option ((List ((Int × Int) × (Int × Int))) × Bool) := b_within_fine_2 k (g_pred_Fits k) (g_within_same k) a0 a1 a2
theorem tells_within_fine_2 (k : Nat) : TellsF Try.prog 73 [.d (.sl (.pair kI kI)), .d (.sl (.pair kI kI)), .fn 74 [] []] [.sl (.pair (.pair kI kI) (.pair kI kI)), .bool] (fun x => g_within_fine_2 k (x.1) (x.2.1) (x.2.2)) := fun x y h => fun_tells tb_ok mix (es := [⟨65, [.d (.sl (.pair kI kI))], [.bool], fun x => g_pred_Fits k x, none⟩, ⟨74, [.d (.pair kI kI)], [.pair kI kI], fun x => g_within_same k x, none⟩]) (EsOk.cons (EntryOk.of rfl (tells_pred_Fits k)) (EsOk.cons (EntryOk.of rfl (tells_within_same k)) (EsOk.nil _))) Try.func73 (N := k) (an := an_within_fine_2) (by kernel_rfl) x y ((eq_within_fine_2 k (g_pred_Fits k) (g_within_same k) (x.1) (x.2.1) (x.2.2)).trans h)

def an_within_At : Ann := .node none none .leaf (.node none none .leaf (.node none none (.node none none (.node (some [(5, .box [.d (.pair kI kI)]), (8, .d (.sl (.pair (.pair kI kI) (.pair kI kI)))), (23, .d .bool)]) none .leaf .leaf) .leaf) .leaf))
def b_within_At (k : Nat) (c_within_fine_2 : (List (Int × Int)) → (List (Int × Int)) → (Unit × Unit) → Option ((List ((Int × Int) × (Int × Int))) × Bool)) (c_pred_Fits : (List (Int × Int)) → Option Bool) (c_within_where : (List ((Int × Int) × (Int × Int))) → (Int × Int) → Option Int) (a0 : (List (Int × Int))) (a1 : (List (Int × Int))) (a2 : (Int × Int)) : Option (Int × Int) :=
  bnd (c_within_fine_2 a0 a1 ((), ())) fun r0 =>
   meet (α := ((Int × Int) × ((List ((Int × Int) × (Int × Int))) × Bool))) (fun (y1, y2, y3) =>
    bif y3 then
     some (0, 2)
    else
     bnd (c_within_where y2 (y1.1, y1.2)) fun r4 =>
     some (r4, 0)) fun j5 =>
   bif !r0.2 then
    j5 ((a2.1, a2.2), r0.1, true)
   else
    bnd (c_pred_Fits [(a2.1, a2.2)]) fun r6 =>
    j5 ((a2.1, a2.2), r0.1, !r6)
theorem eq_within_At (k : Nat) (c_within_fine_2 : (List (Int × Int)) → (List (Int × Int)) → (Unit × Unit) → Option ((List ((Int × Int) × (Int × Int))) × Bool)) (c_pred_Fits : (List (Int × Int)) → Option Bool) (c_within_where : (List ((Int × Int) × (Int × Int))) → (Int × Int) → Option Int) (a0 : (List (Int × Int))) (a1 : (List (Int × Int))) (a2 : (Int × Int)) : textF [⟨73, [.d (.sl (.pair kI kI)), .d (.sl (.pair kI kI)), .fn 74 [] []], [.sl (.pair (.pair kI kI) (.pair kI kI)), .bool], fun x => c_within_fine_2 (x.1) (x.2.1) (x.2.2), none⟩, ⟨65, [.d (.sl (.pair kI kI))], [.bool], fun x => c_pred_Fits x, none⟩, ⟨75, [.d (.sl (.pair (.pair kI kI) (.pair kI kI))), .d (.pair kI kI)], [kI], fun x => c_within_where (x.1) (x.2), none⟩] tb k Try.f53 an_within_At [.d (.sl (.pair kI kI)), .d (.sl (.pair kI kI)), .d (.pair kI kI)] [kI, kI] (a0, a1, a2) = b_within_At k c_within_fine_2 c_pred_Fits c_within_where a0 a1 a2 := by kernel_rfl
def g_within_At (k : Nat) (a0 : (List (Int × Int))) (a1 : (List (Int × Int))) (a2 : (Int × Int)) : Option (Int × Int) := b_within_At k (g_within_fine_2 k) (g_pred_Fits k) (g_within_where k) a0 a1 a2
theorem tells_within_At (k : Nat) : TellsF Try.prog 53 [.d (.sl (.pair kI kI)), .d (.sl (.pair kI kI)), .d (.pair kI kI)] [kI, kI] (fun x => g_within_At k (x.1) (x.2.1) (x.2.2)) := fun x y h => fun_tells tb_ok mix (es := [⟨73, [.d (.sl (.pair kI kI)), .d (.sl (.pair kI kI)), .fn 74 [] []], [.sl (.pair (.pair kI kI) (.pair kI kI)), .bool], fun x => g_within_fine_2 k (x.1) (x.2.1) (x.2.2), none⟩, ⟨65, [.d (.sl (.pair kI kI))], [.bool], fun x => g_pred_Fits k x, none⟩, ⟨75, [.d (.sl (.pair (.pair kI kI) (.pair kI kI))), .d (.pair kI kI)], [kI], fun x => g_within_where k (x.1) (x.2), none⟩]) (EsOk.cons (EntryOk.of rfl (tells_within_fine_2 k)) (EsOk.cons (EntryOk.of rfl (tells_pred_Fits k)) (EsOk.cons (EntryOk.of rfl (tells_within_where k)) (EsOk.nil _)))) Try.func53 (N := k) (an := an_within_At) (by kernel_rfl) x y ((eq_within_At k (g_within_fine_2 k) (g_pred_Fits k) (g_within_where k) (x.1) (x.2.1) (x.2.2)).trans h)

def an_valid_stray : Ann := .node none none .leaf (.node none none .leaf (.node none none (.node none none .leaf (.node none none (.node none (some [(1, .box [.d (.pair (.sl (.pair kI kI)) (.pair (.sl (.pair kI kI)) (.sl (.pair kI kI))))]), (2, .box [.d (.pair kI (.pair kI kI))]), (18, .d (.sl kI)), (19, .d kI), (20, .d kI)]) (.node none none .leaf (.node none none .leaf (.node none none (.node none none (.node none none .leaf (.node none none .leaf (.node none none (.node (some [(1, .box [.d (.pair (.sl (.pair kI kI)) (.pair (.sl (.pair kI kI)) (.sl (.pair kI kI))))]), (2, .box [.d (.pair kI (.pair kI kI))]), (5, .d kI), (18, .d (.sl kI)), (19, .d kI), (20, .d kI), (43, .d .bool)]) none .leaf .leaf) .leaf))) .leaf) .leaf))) .leaf) .leaf)) .leaf))
def b_valid_stray (k : Nat) (c_valid_all : ((List (Int × Int)) × ((List (Int × Int)) × (List (Int × Int)))) → Option (List (Int × Int))) (c_rings_Degrees : Int → (List (Int × Int)) → Option ((List Int) × Int)) (c_within_At : (List (Int × Int)) → (List (Int × Int)) → (Int × Int) → Option (Int × Int)) (a0 : ((List (Int × Int)) × ((List (Int × Int)) × (List (Int × Int))))) : Option (Int × (Int × Int)) :=
  bnd (c_valid_all (a0.1, a0.2.1, a0.2.2)) fun r0 =>
   bnd (c_rings_Degrees (a0.1.length : Int) r0) fun r1 =>
   loopN (α := (((List (Int × Int)) × ((List (Int × Int)) × (List (Int × Int)))) × ((Int × (Int × Int)) × ((List Int) × (Int × Int))))) (fun (x3, x4, x5, x6, x7) next2 =>
    bif decide (x7 < x6) then
     gd (inb x7 x5.length) <|
     gd (inb x7 x3.1.length) <|
     bnd (c_within_At x3.1 x3.2.1 ((rdD (0, 0) x3.1 x7).1, (rdD (0, 0) x3.1 x7).2)) fun r8 =>
     meet (α := (((List (Int × Int)) × ((List (Int × Int)) × (List (Int × Int)))) × ((Int × (Int × Int)) × (Int × ((List Int) × (Int × (Int × Bool))))))) (fun (y9, y10, y11, y12, y13, y14, y15) =>
      bif y15 then
       some (8, y11, 0)
      else
       next2 ((y9.1, y9.2.1, y9.2.2), (y10.1, y10.2.1, y10.2.2), y12, y13, w64 (y14 + 1))) fun j16 =>
     bif decide ((rdD 0 x5 x7) = 0) then
      j16 ((x3.1, x3.2.1, x3.2.2), (x4.1, x4.2.1, x4.2.2), x7, x5, x6, x7, !(decide (r8.1 = 1)))
     else
      j16 ((x3.1, x3.2.1, x3.2.2), (x4.1, x4.2.1, x4.2.2), x7, x5, x6, x7, false)
    else
     some (0, 0, 0)) k ((a0.1, a0.2.1, a0.2.2), (0, 0, 0), r1.1, (r1.1.length : Int), 0)
theorem eq_valid_stray (k : Nat) (c_valid_all : ((List (Int × Int)) × ((List (Int × Int)) × (List (Int × Int)))) → Option (List (Int × Int))) (c_rings_Degrees : Int → (List (Int × Int)) → Option ((List Int) × Int)) (c_within_At : (List (Int × Int)) → (List (Int × Int)) → (Int × Int) → Option (Int × Int)) (a0 : ((List (Int × Int)) × ((List (Int × Int)) × (List (Int × Int))))) : textF [⟨42, [.d (.pair (.sl (.pair kI kI)) (.pair (.sl (.pair kI kI)) (.sl (.pair kI kI))))], [.sl (.pair kI kI)], fun x => c_valid_all x, none⟩, ⟨52, [.d kI, .d (.sl (.pair kI kI))], [.sl kI, kI], fun x => c_rings_Degrees (x.1) (x.2), none⟩, ⟨53, [.d (.sl (.pair kI kI)), .d (.sl (.pair kI kI)), .d (.pair kI kI)], [kI, kI], fun x => c_within_At (x.1) (x.2.1) (x.2.2), none⟩] tb k Try.f32 an_valid_stray [.d (.pair (.sl (.pair kI kI)) (.pair (.sl (.pair kI kI)) (.sl (.pair kI kI))))] [.pair kI (.pair kI kI)] a0 = b_valid_stray k c_valid_all c_rings_Degrees c_within_At a0 := by kernel_rfl
def g_valid_stray (k : Nat) (a0 : ((List (Int × Int)) × ((List (Int × Int)) × (List (Int × Int))))) : Option (Int × (Int × Int)) := b_valid_stray k (g_valid_all k) (g_rings_Degrees k) (g_within_At k) a0
theorem tells_valid_stray (k : Nat) : TellsF Try.prog 32 [.d (.pair (.sl (.pair kI kI)) (.pair (.sl (.pair kI kI)) (.sl (.pair kI kI))))] [.pair kI (.pair kI kI)] (fun x => g_valid_stray k x) := fun x y h => fun_tells tb_ok mix (es := [⟨42, [.d (.pair (.sl (.pair kI kI)) (.pair (.sl (.pair kI kI)) (.sl (.pair kI kI))))], [.sl (.pair kI kI)], fun x => g_valid_all k x, none⟩, ⟨52, [.d kI, .d (.sl (.pair kI kI))], [.sl kI, kI], fun x => g_rings_Degrees k (x.1) (x.2), none⟩, ⟨53, [.d (.sl (.pair kI kI)), .d (.sl (.pair kI kI)), .d (.pair kI kI)], [kI, kI], fun x => g_within_At k (x.1) (x.2.1) (x.2.2), none⟩]) (EsOk.cons (EntryOk.of rfl (tells_valid_all k)) (EsOk.cons (EntryOk.of rfl (tells_rings_Degrees k)) (EsOk.cons (EntryOk.of rfl (tells_within_At k)) (EsOk.nil _)))) Try.func32 (N := k) (an := an_valid_stray) (by kernel_rfl) x y ((eq_valid_stray k (g_valid_all k) (g_rings_Degrees k) (g_within_At k) x).trans h)

def an_valid_First : Ann := .node none none .leaf (.node none none .leaf (.node none none (.node none none .leaf (.node none none (.node none (some [(1, .box [.d (.pair (.sl (.pair kI kI)) (.pair (.sl (.pair kI kI)) (.sl (.pair kI kI))))]), (2, .box [.d (.pair kI (.pair kI kI))]), (14, .con [26, 27, 28, 29, 30, 31, 32]), (15, .d kI)]) (.node none none .leaf (.node none none .leaf (.node none none (.node none none (.node none none .leaf (.node none none (.node (some [(1, .box [.d (.pair (.sl (.pair kI kI)) (.pair (.sl (.pair kI kI)) (.sl (.pair kI kI))))]), (2, .box [.d (.pair kI (.pair kI kI))]), (7, .box [.d (.pair kI (.pair kI kI))]), (14, .con [26, 27, 28, 29, 30, 31, 32]), (15, .d kI)]) none .leaf .leaf) .leaf)) .leaf) .leaf))) .leaf) .leaf)) .leaf))
def b_valid_First (k : Nat) (c_input_Check : ((List (Int × Int)) × ((List (Int × Int)) × (List (Int × Int)))) → Option Int) (c_valid_alike : ((List (Int × Int)) × ((List (Int × Int)) × (List (Int × Int)))) → Option (Int × (Int × Int))) (c_valid_point : ((List (Int × Int)) × ((List (Int × Int)) × (List (Int × Int)))) → Option (Int × (Int × Int))) (c_valid_meets : ((List (Int × Int)) × ((List (Int × Int)) × (List (Int × Int)))) → Option (Int × (Int × Int))) (c_valid_inside : ((List (Int × Int)) × ((List (Int × Int)) × (List (Int × Int)))) → Option (Int × (Int × Int))) (c_valid_ring : ((List (Int × Int)) × ((List (Int × Int)) × (List (Int × Int)))) → Option (Int × (Int × Int))) (c_valid_out : ((List (Int × Int)) × ((List (Int × Int)) × (List (Int × Int)))) → Option (Int × (Int × Int))) (c_valid_stray : ((List (Int × Int)) × ((List (Int × Int)) × (List (Int × Int)))) → Option (Int × (Int × Int))) (a0 : ((List (Int × Int)) × ((List (Int × Int)) × (List (Int × Int))))) : Option ((Int × (Int × Int)) × Int) :=
  bnd (c_input_Check (a0.1, a0.2.1, a0.2.2)) fun r0 =>
   bif !(decide (r0 = 0)) then
    some ((0, 0, 0), r0)
   else
    loopN (α := (((List (Int × Int)) × ((List (Int × Int)) × (List (Int × Int)))) × ((Int × (Int × Int)) × (Unit × Int)))) (fun (x2, x3, x4, x5) next1 =>
     bif decide (x5 < 7) then
      bif decide (x5 = 0) then
       meet (α := (((List (Int × Int)) × ((List (Int × Int)) × (List (Int × Int)))) × ((Int × (Int × Int)) × ((Int × (Int × Int)) × (Unit × Int))))) (fun (y6, y7, y8, y9, y10) =>
        bif !(decide (y8.1 = 0)) then
         some ((y8.1, y8.2.1, y8.2.2), 0)
        else
         next1 ((y6.1, y6.2.1, y6.2.2), (y7.1, y7.2.1, y7.2.2), (), w64 (y10 + 1))) fun j11 =>
       bnd (c_valid_alike (x2.1, x2.2.1, x2.2.2)) fun r12 =>
       j11 ((x2.1, x2.2.1, x2.2.2), (x3.1, x3.2.1, x3.2.2), (r12.1, r12.2.1, r12.2.2), (), x5)
      else
       bif decide (x5 = 1) then
        meet (α := (((List (Int × Int)) × ((List (Int × Int)) × (List (Int × Int)))) × ((Int × (Int × Int)) × ((Int × (Int × Int)) × (Unit × Int))))) (fun (y13, y14, y15, y16, y17) =>
         bif !(decide (y15.1 = 0)) then
          some ((y15.1, y15.2.1, y15.2.2), 0)
         else
          next1 ((y13.1, y13.2.1, y13.2.2), (y14.1, y14.2.1, y14.2.2), (), w64 (y17 + 1))) fun j18 =>
        bnd (c_valid_point (x2.1, x2.2.1, x2.2.2)) fun r19 =>
        j18 ((x2.1, x2.2.1, x2.2.2), (x3.1, x3.2.1, x3.2.2), (r19.1, r19.2.1, r19.2.2), (), x5)
       else
        bif decide (x5 = 2) then
         meet (α := (((List (Int × Int)) × ((List (Int × Int)) × (List (Int × Int)))) × ((Int × (Int × Int)) × ((Int × (Int × Int)) × (Unit × Int))))) (fun (y20, y21, y22, y23, y24) =>
          bif !(decide (y22.1 = 0)) then
           some ((y22.1, y22.2.1, y22.2.2), 0)
          else
           next1 ((y20.1, y20.2.1, y20.2.2), (y21.1, y21.2.1, y21.2.2), (), w64 (y24 + 1))) fun j25 =>
         bnd (c_valid_meets (x2.1, x2.2.1, x2.2.2)) fun r26 =>
         j25 ((x2.1, x2.2.1, x2.2.2), (x3.1, x3.2.1, x3.2.2), (r26.1, r26.2.1, r26.2.2), (), x5)
        else
         bif decide (x5 = 3) then
          meet (α := (((List (Int × Int)) × ((List (Int × Int)) × (List (Int × Int)))) × ((Int × (Int × Int)) × ((Int × (Int × Int)) × (Unit × Int))))) (fun (y27, y28, y29, y30, y31) =>
           bif !(decide (y29.1 = 0)) then
            some ((y29.1, y29.2.1, y29.2.2), 0)
           else
            next1 ((y27.1, y27.2.1, y27.2.2), (y28.1, y28.2.1, y28.2.2), (), w64 (y31 + 1))) fun j32 =>
          bnd (c_valid_inside (x2.1, x2.2.1, x2.2.2)) fun r33 =>
          j32 ((x2.1, x2.2.1, x2.2.2), (x3.1, x3.2.1, x3.2.2), (r33.1, r33.2.1, r33.2.2), (), x5)
         else
          bif decide (x5 = 4) then
           meet (α := (((List (Int × Int)) × ((List (Int × Int)) × (List (Int × Int)))) × ((Int × (Int × Int)) × ((Int × (Int × Int)) × (Unit × Int))))) (fun (y34, y35, y36, y37, y38) =>
            bif !(decide (y36.1 = 0)) then
             some ((y36.1, y36.2.1, y36.2.2), 0)
            else
             next1 ((y34.1, y34.2.1, y34.2.2), (y35.1, y35.2.1, y35.2.2), (), w64 (y38 + 1))) fun j39 =>
           bnd (c_valid_ring (x2.1, x2.2.1, x2.2.2)) fun r40 =>
           j39 ((x2.1, x2.2.1, x2.2.2), (x3.1, x3.2.1, x3.2.2), (r40.1, r40.2.1, r40.2.2), (), x5)
          else
           bif decide (x5 = 5) then
            meet (α := (((List (Int × Int)) × ((List (Int × Int)) × (List (Int × Int)))) × ((Int × (Int × Int)) × ((Int × (Int × Int)) × (Unit × Int))))) (fun (y41, y42, y43, y44, y45) =>
             bif !(decide (y43.1 = 0)) then
              some ((y43.1, y43.2.1, y43.2.2), 0)
             else
              next1 ((y41.1, y41.2.1, y41.2.2), (y42.1, y42.2.1, y42.2.2), (), w64 (y45 + 1))) fun j46 =>
            bnd (c_valid_out (x2.1, x2.2.1, x2.2.2)) fun r47 =>
            j46 ((x2.1, x2.2.1, x2.2.2), (x3.1, x3.2.1, x3.2.2), (r47.1, r47.2.1, r47.2.2), (), x5)
           else
            bif decide (x5 = 6) then
             meet (α := (((List (Int × Int)) × ((List (Int × Int)) × (List (Int × Int)))) × ((Int × (Int × Int)) × ((Int × (Int × Int)) × (Unit × Int))))) (fun (y48, y49, y50, y51, y52) =>
              bif !(decide (y50.1 = 0)) then
               some ((y50.1, y50.2.1, y50.2.2), 0)
              else
               next1 ((y48.1, y48.2.1, y48.2.2), (y49.1, y49.2.1, y49.2.2), (), w64 (y52 + 1))) fun j53 =>
             bnd (c_valid_stray (x2.1, x2.2.1, x2.2.2)) fun r54 =>
             j53 ((x2.1, x2.2.1, x2.2.2), (x3.1, x3.2.1, x3.2.2), (r54.1, r54.2.1, r54.2.2), (), x5)
            else
             none
     else
      some ((0, 0, 0), 0)) k ((a0.1, a0.2.1, a0.2.2), (0, 0, 0), (), 0)
theorem eq_valid_First (k : Nat) (c_input_Check : ((List (Int × Int)) × ((List (Int × Int)) × (List (Int × Int)))) → Option Int) (c_valid_alike : ((List (Int × Int)) × ((List (Int × Int)) × (List (Int × Int)))) → Option (Int × (Int × Int))) (c_valid_point : ((List (Int × Int)) × ((List (Int × Int)) × (List (Int × Int)))) → Option (Int × (Int × Int))) (c_valid_meets : ((List (Int × Int)) × ((List (Int × Int)) × (List (Int × Int)))) → Option (Int × (Int × Int))) (c_valid_inside : ((List (Int × Int)) × ((List (Int × Int)) × (List (Int × Int)))) → Option (Int × (Int × Int))) (c_valid_ring : ((List (Int × Int)) × ((List (Int × Int)) × (List (Int × Int)))) → Option (Int × (Int × Int))) (c_valid_out : ((List (Int × Int)) × ((List (Int × Int)) × (List (Int × Int)))) → Option (Int × (Int × Int))) (c_valid_stray : ((List (Int × Int)) × ((List (Int × Int)) × (List (Int × Int)))) → Option (Int × (Int × Int))) (a0 : ((List (Int × Int)) × ((List (Int × Int)) × (List (Int × Int))))) : textF [⟨25, [.d (.pair (.sl (.pair kI kI)) (.pair (.sl (.pair kI kI)) (.sl (.pair kI kI))))], [kI], fun x => c_input_Check x, none⟩, ⟨26, [.d (.pair (.sl (.pair kI kI)) (.pair (.sl (.pair kI kI)) (.sl (.pair kI kI))))], [.pair kI (.pair kI kI)], fun x => c_valid_alike x, none⟩, ⟨27, [.d (.pair (.sl (.pair kI kI)) (.pair (.sl (.pair kI kI)) (.sl (.pair kI kI))))], [.pair kI (.pair kI kI)], fun x => c_valid_point x, none⟩, ⟨28, [.d (.pair (.sl (.pair kI kI)) (.pair (.sl (.pair kI kI)) (.sl (.pair kI kI))))], [.pair kI (.pair kI kI)], fun x => c_valid_meets x, none⟩, ⟨29, [.d (.pair (.sl (.pair kI kI)) (.pair (.sl (.pair kI kI)) (.sl (.pair kI kI))))], [.pair kI (.pair kI kI)], fun x => c_valid_inside x, none⟩, ⟨30, [.d (.pair (.sl (.pair kI kI)) (.pair (.sl (.pair kI kI)) (.sl (.pair kI kI))))], [.pair kI (.pair kI kI)], fun x => c_valid_ring x, none⟩, ⟨31, [.d (.pair (.sl (.pair kI kI)) (.pair (.sl (.pair kI kI)) (.sl (.pair kI kI))))], [.pair kI (.pair kI kI)], fun x => c_valid_out x, none⟩, ⟨32, [.d (.pair (.sl (.pair kI kI)) (.pair (.sl (.pair kI kI)) (.sl (.pair kI kI))))], [.pair kI (.pair kI kI)], fun x => c_valid_stray x, none⟩] tb k Try.f13 an_valid_First [.d (.pair (.sl (.pair kI kI)) (.pair (.sl (.pair kI kI)) (.sl (.pair kI kI))))] [.pair kI (.pair kI kI), kI] a0 = b_valid_First k c_input_Check c_valid_alike c_valid_point c_valid_meets c_valid_inside c_valid_ring c_valid_out c_valid_stray a0 := by kernel_rfl
def g_valid_First (k : Nat) (a0 : ((List (Int × Int)) × ((List (Int × Int)) × (List (Int × Int))))) : Option ((Int × (Int × Int)) × Int) := b_valid_First k (g_input_Check k) (g_valid_alike k) (g_valid_point k) (g_valid_meets k) (g_valid_inside k) (g_valid_ring k) (g_valid_out k) (g_valid_stray k) a0
theorem tells_valid_First (k : Nat) : TellsF Try.prog 13 [.d (.pair (.sl (.pair kI kI)) (.pair (.sl (.pair kI kI)) (.sl (.pair kI kI))))] [.pair kI (.pair kI kI), kI] (fun x => g_valid_First k x) := fun x y h => fun_tells tb_ok mix (es := [⟨25, [.d (.pair (.sl (.pair kI kI)) (.pair (.sl (.pair kI kI)) (.sl (.pair kI kI))))], [kI], fun x => g_input_Check k x, none⟩, ⟨26, [.d (.pair (.sl (.pair kI kI)) (.pair (.sl (.pair kI kI)) (.sl (.pair kI kI))))], [.pair kI (.pair kI kI)], fun x => g_valid_alike k x, none⟩, ⟨27, [.d (.pair (.sl (.pair kI kI)) (.pair (.sl (.pair kI kI)) (.sl (.pair kI kI))))], [.pair kI (.pair kI kI)], fun x => g_valid_point k x, none⟩, ⟨28, [.d (.pair (.sl (.pair kI kI)) (.pair (.sl (.pair kI kI)) (.sl (.pair kI kI))))], [.pair kI (.pair kI kI)], fun x => g_valid_meets k x, none⟩, ⟨29, [.d (.pair (.sl (.pair kI kI)) (.pair (.sl (.pair kI kI)) (.sl (.pair kI kI))))], [.pair kI (.pair kI kI)], fun x => g_valid_inside k x, none⟩, ⟨30, [.d (.pair (.sl (.pair kI kI)) (.pair (.sl (.pair kI kI)) (.sl (.pair kI kI))))], [.pair kI (.pair kI kI)], fun x => g_valid_ring k x, none⟩, ⟨31, [.d (.pair (.sl (.pair kI kI)) (.pair (.sl (.pair kI kI)) (.sl (.pair kI kI))))], [.pair kI (.pair kI kI)], fun x => g_valid_out k x, none⟩, ⟨32, [.d (.pair (.sl (.pair kI kI)) (.pair (.sl (.pair kI kI)) (.sl (.pair kI kI))))], [.pair kI (.pair kI kI)], fun x => g_valid_stray k x, none⟩]) (EsOk.cons (EntryOk.of rfl (tells_input_Check k)) (EsOk.cons (EntryOk.of rfl (tells_valid_alike k)) (EsOk.cons (EntryOk.of rfl (tells_valid_point k)) (EsOk.cons (EntryOk.of rfl (tells_valid_meets k)) (EsOk.cons (EntryOk.of rfl (tells_valid_inside k)) (EsOk.cons (EntryOk.of rfl (tells_valid_ring k)) (EsOk.cons (EntryOk.of rfl (tells_valid_out k)) (EsOk.cons (EntryOk.of rfl (tells_valid_stray k)) (EsOk.nil _))))))))) Try.func13 (N := k) (an := an_valid_First) (by kernel_rfl) x y ((eq_valid_First k (g_input_Check k) (g_valid_alike k) (g_valid_point k) (g_valid_meets k) (g_valid_inside k) (g_valid_ring k) (g_valid_out k) (g_valid_stray k) x).trans h)

def an_valid_right : Ann := .node none none .leaf (.node none none .leaf (.node none none (.node (some [(2, .d .bool)]) none .leaf .leaf) .leaf))
def b_valid_right (k : Nat) (c_valid_First : ((List (Int × Int)) × ((List (Int × Int)) × (List (Int × Int)))) → Option ((Int × (Int × Int)) × Int)) (a0 : ((List (Int × Int)) × ((List (Int × Int)) × (List (Int × Int))))) : Option Bool :=
  bnd (c_valid_First (a0.1, a0.2.1, a0.2.2)) fun r0 =>
   meet (α := Bool) (fun y1 =>
    some y1) fun j2 =>
   bif decide (r0.2 = 0) then
    j2 (decide (r0.1.1 = 0))
   else
    j2 false
theorem eq_valid_right (k : Nat) (c_valid_First : ((List (Int × Int)) × ((List (Int × Int)) × (List (Int × Int)))) → Option ((Int × (Int × Int)) × Int)) (a0 : ((List (Int × Int)) × ((List (Int × Int)) × (List (Int × Int))))) : textF [⟨13, [.d (.pair (.sl (.pair kI kI)) (.pair (.sl (.pair kI kI)) (.sl (.pair kI kI))))], [.pair kI (.pair kI kI), kI], fun x => c_valid_First x, none⟩] tb k Try.f37 an_valid_right [.d (.pair (.sl (.pair kI kI)) (.pair (.sl (.pair kI kI)) (.sl (.pair kI kI))))] [.bool] a0 = b_valid_right k c_valid_First a0 := by kernel_rfl
def g_valid_right (k : Nat) (a0 : ((List (Int × Int)) × ((List (Int × Int)) × (List (Int × Int))))) : Option Bool := b_valid_right k (g_valid_First k) a0
theorem tells_valid_right (k : Nat) : TellsF Try.prog 37 [.d (.pair (.sl (.pair kI kI)) (.pair (.sl (.pair kI kI)) (.sl (.pair kI kI))))] [.bool] (fun x => g_valid_right k x) := fun x y h => fun_tells tb_ok mix (es := [⟨13, [.d (.pair (.sl (.pair kI kI)) (.pair (.sl (.pair kI kI)) (.sl (.pair kI kI))))], [.pair kI (.pair kI kI), kI], fun x => g_valid_First k x, none⟩]) (EsOk.cons (EntryOk.of rfl (tells_valid_First k)) (EsOk.nil _)) Try.func37 (N := k) (an := an_valid_right) (by kernel_rfl) x y ((eq_valid_right k (g_valid_First k) x).trans h)

def an_valid_Loops : Ann := .leaf
def b_valid_Loops (k : Nat) (c_valid_right : ((List (Int × Int)) × ((List (Int × Int)) × (List (Int × Int)))) → Option Bool) (c_rings_Rings : Int → (List (Int × Int)) → Option ((List (List Int)) × Int × Int)) (a0 : ((List (Int × Int)) × ((List (Int × Int)) × (List (Int × Int))))) : Option ((List (List Int)) × Int) :=
  bnd (c_valid_right (a0.1, a0.2.1, a0.2.2)) fun r0 =>
   bif !r0 then
    some ([], 2)
   else
    bnd (c_rings_Rings (a0.1.length : Int) a0.2.1) fun r1 =>
    some (r1.1, r1.2.2)
theorem eq_valid_Loops (k : Nat) (c_valid_right : ((List (Int × Int)) × ((List (Int × Int)) × (List (Int × Int)))) → Option Bool) (c_rings_Rings : Int → (List (Int × Int)) → Option ((List (List Int)) × Int × Int)) (a0 : ((List (Int × Int)) × ((List (Int × Int)) × (List (Int × Int))))) : textF [⟨37, [.d (.pair (.sl (.pair kI kI)) (.pair (.sl (.pair kI kI)) (.sl (.pair kI kI))))], [.bool], fun x => c_valid_right x, none⟩, ⟨38, [.d kI, .d (.sl (.pair kI kI))], [.sl (.sl kI), kI, kI], fun x => c_rings_Rings (x.1) (x.2), none⟩] tb k Try.f16 an_valid_Loops [.d (.pair (.sl (.pair kI kI)) (.pair (.sl (.pair kI kI)) (.sl (.pair kI kI))))] [.sl (.sl kI), kI] a0 = b_valid_Loops k c_valid_right c_rings_Rings a0 := by kernel_rfl
def g_valid_Loops (k : Nat) (a0 : ((List (Int × Int)) × ((List (Int × Int)) × (List (Int × Int))))) : Option ((List (List Int)) × Int) := b_valid_Loops k (g_valid_right k) (g_rings_Rings k) a0
theorem tells_valid_Loops (k : Nat) : TellsF Try.prog 16 [.d (.pair (.sl (.pair kI kI)) (.pair (.sl (.pair kI kI)) (.sl (.pair kI kI))))] [.sl (.sl kI), kI] (fun x => g_valid_Loops k x) := fun x y h => fun_tells tb_ok mix (es := [⟨37, [.d (.pair (.sl (.pair kI kI)) (.pair (.sl (.pair kI kI)) (.sl (.pair kI kI))))], [.bool], fun x => g_valid_right k x, none⟩, ⟨38, [.d kI, .d (.sl (.pair kI kI))], [.sl (.sl kI), kI, kI], fun x => g_rings_Rings k (x.1) (x.2), none⟩]) (EsOk.cons (EntryOk.of rfl (tells_valid_right k)) (EsOk.cons (EntryOk.of rfl (tells_rings_Rings k)) (EsOk.nil _))) Try.func16 (N := k) (an := an_valid_Loops) (by kernel_rfl) x y ((eq_valid_Loops k (g_valid_right k) (g_rings_Rings k) x).trans h)

def an_valid_Inside : Ann := .node none none .leaf (.node none none (.node none none (.node (some [(1, .d kI), (2, .d kI), (3, .box [.d (.pair (.sl (.pair kI kI)) (.pair (.sl (.pair kI kI)) (.sl (.pair kI kI))))]), (46, .d .bool)]) none .leaf .leaf) .leaf) (.node none none (.node none none .leaf (.node none none (.node none (some [(1, .d kI), (2, .d kI), (3, .box [.d (.pair (.sl (.pair kI kI)) (.pair (.sl (.pair kI kI)) (.sl (.pair kI kI))))]), (48, .d (.sl (.pair kI kI))), (49, .d kI), (50, .d kI)]) .leaf .leaf) .leaf)) (.node none none (.node none none .leaf (.node none none (.node none (some [(1, .d kI), (2, .d kI), (3, .box [.d (.pair (.sl (.pair kI kI)) (.pair (.sl (.pair kI kI)) (.sl (.pair kI kI))))]), (68, .d (.sl (.pair kI kI))), (69, .d kI), (70, .d kI)]) (.node none none .leaf (.node none none .leaf (.node none none (.node none none (.node none none .leaf (.node none none (.node none none (.node (some [(1, .d kI), (2, .d kI), (3, .box [.d (.pair (.sl (.pair kI kI)) (.pair (.sl (.pair kI kI)) (.sl (.pair kI kI))))]), (9, .d kI), (10, .box [.d (.pair kI kI)]), (68, .d (.sl (.pair kI kI))), (69, .d kI), (70, .d kI), (86, .d .bool)]) none .leaf .leaf) (.node none none (.node none none .leaf (.node none none (.node (some [(6, .d .bool)]) none .leaf .leaf) .leaf)) .leaf)) .leaf)) .leaf) .leaf))) .leaf) .leaf)) .leaf)))
def b_valid_Inside (k : Nat) (c_valid_right : ((List (Int × Int)) × ((List (Int × Int)) × (List (Int × Int)))) → Option Bool) (c_meet_Inside : (Int × Int) → (Int × Int) → (Int × Int) → Option Bool) (c_valid_all : ((List (Int × Int)) × ((List (Int × Int)) × (List (Int × Int)))) → Option (List (Int × Int))) (c_within_Halfway : (List (Int × Int)) → (List (Int × Int)) → Int → Int → Option (Int × Int)) (c_meet_Segs : (Int × Int) → (Int × Int) → (Int × Int) → (Int × Int) → Option (Int × Int)) (a0 : ((List (Int × Int)) × ((List (Int × Int)) × (List (Int × Int))))) (a1 : Int) (a2 : Int) : Option Bool :=
  meet (α := (Int × (Int × (((List (Int × Int)) × ((List (Int × Int)) × (List (Int × Int)))) × Bool)))) (fun (y0, y1, y2, y3) =>
    bif y3 then
     some false
    else
     loopN (α := (Int × (Int × (((List (Int × Int)) × ((List (Int × Int)) × (List (Int × Int)))) × ((List (Int × Int)) × (Int × Int)))))) (fun (x5, x6, x7, x8, x9, x10) next4 =>
      bif decide (x10 < x9) then
       gd (inb x10 x8.length) <|
       gd (inb x5 x7.1.length) <|
       gd (inb x6 x7.1.length) <|
       bnd (c_meet_Inside ((rdD (0, 0) x7.1 x5).1, (rdD (0, 0) x7.1 x5).2) ((rdD (0, 0) x7.1 x6).1, (rdD (0, 0) x7.1 x6).2) ((rdD (0, 0) x8 x10).1, (rdD (0, 0) x8 x10).2)) fun r11 =>
       bif r11 then
        some false
       else
        next4 (x5, x6, (x7.1, x7.2.1, x7.2.2), x8, x9, w64 (x10 + 1))
      else
       bnd (c_valid_all (x7.1, x7.2.1, x7.2.2)) fun r12 =>
       loopN (α := (Int × (Int × (((List (Int × Int)) × ((List (Int × Int)) × (List (Int × Int)))) × ((List (Int × Int)) × (Int × Int)))))) (fun (x14, x15, x16, x17, x18, x19) next13 =>
        bif decide (x19 < x18) then
         gd (inb x19 x17.length) <|
         meet (α := (Int × (Int × (((List (Int × Int)) × ((List (Int × Int)) × (List (Int × Int)))) × (Int × ((Int × Int) × ((List (Int × Int)) × (Int × (Int × Bool))))))))) (fun (y20, y21, y22, y23, y24, y25, y26, y27, y28) =>
          bif y28 then
           bnd (c_within_Halfway y22.1 y22.2.1 y20 y21) fun r29 =>
           meet (α := Bool) (fun y30 =>
            some y30) fun j31 =>
           bif decide (y23 < (y22.2.1.length : Int)) then
            j31 true
           else
            j31 (decide (r29.1 = 1))
          else
           gd (inb y20 y22.1.length) <|
           gd (inb y21 y22.1.length) <|
           gd (inb y24.1 y22.1.length) <|
           gd (inb y24.2 y22.1.length) <|
           bnd (c_meet_Segs ((rdD (0, 0) y22.1 y20).1, (rdD (0, 0) y22.1 y20).2) ((rdD (0, 0) y22.1 y21).1, (rdD (0, 0) y22.1 y21).2) ((rdD (0, 0) y22.1 y24.1).1, (rdD (0, 0) y22.1 y24.1).2) ((rdD (0, 0) y22.1 y24.2).1, (rdD (0, 0) y22.1 y24.2).2)) fun r32 =>
           bif decide (r32.1 > 1) then
            some false
           else
            next13 (y20, y21, (y22.1, y22.2.1, y22.2.2), y25, y26, w64 (y27 + 1))) fun j33 =>
         bif (decide ((rdD (0, 0) x17 x19).1 = x14)) && (decide ((rdD (0, 0) x17 x19).2 = x15)) then
          j33 (x14, x15, (x16.1, x16.2.1, x16.2.2), x19, ((rdD (0, 0) x17 x19).1, (rdD (0, 0) x17 x19).2), x17, x18, x19, true)
         else
          j33 (x14, x15, (x16.1, x16.2.1, x16.2.2), x19, ((rdD (0, 0) x17 x19).1, (rdD (0, 0) x17 x19).2), x17, x18, x19, (decide ((rdD (0, 0) x17 x19).1 = x15)) && (decide ((rdD (0, 0) x17 x19).2 = x14)))
        else
         bnd (c_within_Halfway x16.1 x16.2.1 x14 x15) fun r34 =>
         some (decide (r34.1 = 1))) k (x5, x6, (x7.1, x7.2.1, x7.2.2), r12, (r12.length : Int), 0)) k (y0, y1, (y2.1, y2.2.1, y2.2.2), y2.1, (y2.1.length : Int), 0)) fun j35 =>
   bnd (c_valid_right (a0.1, a0.2.1, a0.2.2)) fun r36 =>
   bif !r36 then
    j35 (a1, a2, (a0.1, a0.2.1, a0.2.2), true)
   else
    bif decide (a1 < 0) then
     j35 (a1, a2, (a0.1, a0.2.1, a0.2.2), true)
    else
     bif decide (a1 ≥ (a0.1.length : Int)) then
      j35 (a1, a2, (a0.1, a0.2.1, a0.2.2), true)
     else
      bif decide (a2 < 0) then
       j35 (a1, a2, (a0.1, a0.2.1, a0.2.2), true)
      else
       bif decide (a2 ≥ (a0.1.length : Int)) then
        j35 (a1, a2, (a0.1, a0.2.1, a0.2.2), true)
       else
        j35 (a1, a2, (a0.1, a0.2.1, a0.2.2), decide (a1 = a2))
theorem eq_valid_Inside (k : Nat) (c_valid_right : ((List (Int × Int)) × ((List (Int × Int)) × (List (Int × Int)))) → Option Bool) (c_meet_Inside : (Int × Int) → (Int × Int) → (Int × Int) → Option Bool) (c_valid_all : ((List (Int × Int)) × ((List (Int × Int)) × (List (Int × Int)))) → Option (List (Int × Int))) (c_within_Halfway : (List (Int × Int)) → (List (Int × Int)) → Int → Int → Option (Int × Int)) (c_meet_Segs : (Int × Int) → (Int × Int) → (Int × Int) → (Int × Int) → Option (Int × Int)) (a0 : ((List (Int × Int)) × ((List (Int × Int)) × (List (Int × Int))))) (a1 : Int) (a2 : Int) : textF [⟨37, [.d (.pair (.sl (.pair kI kI)) (.pair (.sl (.pair kI kI)) (.sl (.pair kI kI))))], [.bool], fun x => c_valid_right x, none⟩, ⟨41, [.d (.pair kI kI), .d (.pair kI kI), .d (.pair kI kI)], [.bool], fun x => c_meet_Inside (x.1) (x.2.1) (x.2.2), none⟩, ⟨42, [.d (.pair (.sl (.pair kI kI)) (.pair (.sl (.pair kI kI)) (.sl (.pair kI kI))))], [.sl (.pair kI kI)], fun x => c_valid_all x, none⟩, ⟨43, [.d (.sl (.pair kI kI)), .d (.sl (.pair kI kI)), .d kI, .d kI], [kI, kI], fun x => c_within_Halfway (x.1) (x.2.1) (x.2.2.1) (x.2.2.2), none⟩, ⟨44, [.d (.pair kI kI), .d (.pair kI kI), .d (.pair kI kI), .d (.pair kI kI)], [kI, kI], fun x => c_meet_Segs (x.1) (x.2.1) (x.2.2.1) (x.2.2.2), none⟩] tb k Try.f19 an_valid_Inside [.d (.pair (.sl (.pair kI kI)) (.pair (.sl (.pair kI kI)) (.sl (.pair kI kI)))), .d kI, .d kI] [.bool] (a0, a1, a2) = b_valid_Inside k c_valid_right c_meet_Inside c_valid_all c_within_Halfway c_meet_Segs a0 a1 a2 := by kernel_rfl
def g_valid_Inside (k : Nat) (a0 : ((List (Int × Int)) × ((List (Int × Int)) × (List (Int × Int))))) (a1 : Int) (a2 : Int) : Option Bool := b_valid_Inside k (g_valid_right k) (g_meet_Inside k) (g_valid_all k) (g_within_Halfway k) (g_meet_Segs k) a0 a1 a2
theorem tells_valid_Inside (k : Nat) : TellsF Try.prog 19 [.d (.pair (.sl (.pair kI kI)) (.pair (.sl (.pair kI kI)) (.sl (.pair kI kI)))), .d kI, .d kI] [.bool] (fun x => g_valid_Inside k (x.1) (x.2.1) (x.2.2)) := fun x y h => fun_tells tb_ok mix (es := [⟨37, [.d (.pair (.sl (.pair kI kI)) (.pair (.sl (.pair kI kI)) (.sl (.pair kI kI))))], [.bool], fun x => g_valid_right k x, none⟩, ⟨41, [.d (.pair kI kI), .d (.pair kI kI), .d (.pair kI kI)], [.bool], fun x => g_meet_Inside k (x.1) (x.2.1) (x.2.2), none⟩, ⟨42, [.d (.pair (.sl (.pair kI kI)) (.pair (.sl (.pair kI kI)) (.sl (.pair kI kI))))], [.sl (.pair kI kI)], fun x => g_valid_all k x, none⟩, ⟨43, [.d (.sl (.pair kI kI)), .d (.sl (.pair kI kI)), .d kI, .d kI], [kI, kI], fun x => g_within_Halfway k (x.1) (x.2.1) (x.2.2.1) (x.2.2.2), none⟩, ⟨44, [.d (.pair kI kI), .d (.pair kI kI), .d (.pair kI kI), .d (.pair kI kI)], [kI, kI], fun x => g_meet_Segs k (x.1) (x.2.1) (x.2.2.1) (x.2.2.2), none⟩]) (EsOk.cons (EntryOk.of rfl (tells_valid_right k)) (EsOk.cons (EntryOk.of rfl (tells_meet_Inside k)) (EsOk.cons (EntryOk.of rfl (tells_valid_all k)) (EsOk.cons (EntryOk.of rfl (tells_within_Halfway k)) (EsOk.cons (EntryOk.of rfl (tells_meet_Segs k)) (EsOk.nil _)))))) Try.func19 (N := k) (an := an_valid_Inside) (by kernel_rfl) x y ((eq_valid_Inside k (g_valid_right k) (g_meet_Inside k) (g_valid_all k) (g_within_Halfway k) (g_meet_Segs k) (x.1) (x.2.1) (x.2.2)).trans h)

def an_parquetlaw10_known : Ann := .node none none .leaf (.node none none .leaf (.node none none .leaf (.node none none .leaf (.node none none .leaf (.node none none .leaf (.node none none .leaf (.node none none .leaf (.node none none .leaf (.node none none .leaf (.node none none .leaf (.node none none (.node (some [(0, .d .bool)]) none .leaf .leaf) .leaf)))))))))))
def b_parquetlaw10_known (k : Nat) (c_valid_First : ((List (Int × Int)) × ((List (Int × Int)) × (List (Int × Int)))) → Option ((Int × (Int × Int)) × Int)) (c_valid_Loops : ((List (Int × Int)) × ((List (Int × Int)) × (List (Int × Int)))) → Option ((List (List Int)) × Int)) (c_valid_Inside : ((List (Int × Int)) × ((List (Int × Int)) × (List (Int × Int)))) → Int → Int → Option Bool) : Option Bool :=
  bnd (c_valid_First ([(0, 0), (4, 0), (4, 4), (0, 4)], [(0, 1), (1, 2), (2, 3), (3, 0)], [(0, 2)])) fun r0 =>
   bnd (c_valid_First ([(0, 0), (4, 0), (4, 4), (0, 4)], [(0, 1), (1, 2), (2, 3), (3, 0), (0, 2)], [])) fun r1 =>
   bnd (c_valid_First ([(0, 0), (4, 0), (4, 4), (0, 4)], dpL [(0, 1), (1, 2), (2, 3), (3, 0)] 1, [(0, 2)])) fun r2 =>
   bnd (c_valid_Loops ([(0, 0), (4, 0), (4, 4), (0, 4)], [(0, 1), (1, 2), (2, 3), (3, 0)], [(0, 2)])) fun r3 =>
   meet (α := Bool) (fun y4 =>
    some y4) fun j5 =>
   bif (decide (r0.1.1 = 0)) && ((decide (r0.1.2.1 = 0)) && (decide (r0.1.2.2 = 0))) then
    bif decide (r0.2 = 0) then
     bif (decide (r1.1.1 = 5)) && ((decide (r1.1.2.1 = 0)) && (decide (r1.1.2.2 = 0))) then
      bif decide (r1.2 = 0) then
       bif decide (r2.1.1 = 5) then
        bif decide (r2.2 = 0) then
         bif decide ((r3.1.length : Int) = 1) then
          bif decide (r3.2 = 0) then
           bnd (c_valid_Inside ([(0, 0), (4, 0), (4, 4), (0, 4)], [(0, 1), (1, 2), (2, 3), (3, 0)], [(0, 2)]) 0 1) fun r6 =>
           bif r6 then
            bnd (c_valid_Inside ([(0, 0), (4, 0), (4, 4), (0, 4)], [(0, 1), (1, 2), (2, 3), (3, 0)], [(0, 2)]) 1 3) fun r7 =>
            j5 (!r7)
           else
            j5 false
          else
           j5 false
         else
          j5 false
        else
         j5 false
       else
        j5 false
      else
       j5 false
     else
      j5 false
    else
     j5 false
   else
    j5 false
theorem eq_parquetlaw10_known (k : Nat) (c_valid_First : ((List (Int × Int)) × ((List (Int × Int)) × (List (Int × Int)))) → Option ((Int × (Int × Int)) × Int)) (c_valid_Loops : ((List (Int × Int)) × ((List (Int × Int)) × (List (Int × Int)))) → Option ((List (List Int)) × Int)) (c_valid_Inside : ((List (Int × Int)) × ((List (Int × Int)) × (List (Int × Int)))) → Int → Int → Option Bool) : textF [⟨24, [], [], fun _ => none, some (tb, Try.f24)⟩, ⟨13, [.d (.pair (.sl (.pair kI kI)) (.pair (.sl (.pair kI kI)) (.sl (.pair kI kI))))], [.pair kI (.pair kI kI), kI], fun x => c_valid_First x, none⟩, ⟨16, [.d (.pair (.sl (.pair kI kI)) (.pair (.sl (.pair kI kI)) (.sl (.pair kI kI))))], [.sl (.sl kI), kI], fun x => c_valid_Loops x, none⟩, ⟨19, [.d (.pair (.sl (.pair kI kI)) (.pair (.sl (.pair kI kI)) (.sl (.pair kI kI)))), .d kI, .d kI], [.bool], fun x => c_valid_Inside (x.1) (x.2.1) (x.2.2), none⟩] tb k Try.f11 an_parquetlaw10_known [] [.bool] () = b_parquetlaw10_known k c_valid_First c_valid_Loops c_valid_Inside := by kernel_rfl
def g_parquetlaw10_known (k : Nat) : Option Bool := b_parquetlaw10_known k (g_valid_First k) (g_valid_Loops k) (g_valid_Inside k)
theorem tells_parquetlaw10_known (k : Nat) : TellsF Try.prog 11 [] [.bool] (fun x => g_parquetlaw10_known k) := fun x y h => fun_tells tb_ok mix (es := [⟨24, [], [], fun _ => none, some (tb, Try.f24)⟩, ⟨13, [.d (.pair (.sl (.pair kI kI)) (.pair (.sl (.pair kI kI)) (.sl (.pair kI kI))))], [.pair kI (.pair kI kI), kI], fun x => g_valid_First k x, none⟩, ⟨16, [.d (.pair (.sl (.pair kI kI)) (.pair (.sl (.pair kI kI)) (.sl (.pair kI kI))))], [.sl (.sl kI), kI], fun x => g_valid_Loops k x, none⟩, ⟨19, [.d (.pair (.sl (.pair kI kI)) (.pair (.sl (.pair kI kI)) (.sl (.pair kI kI)))), .d kI, .d kI], [.bool], fun x => g_valid_Inside k (x.1) (x.2.1) (x.2.2), none⟩]) (EsOk.cons (EntryOk.go tb_ok mix Try.func24 (by kernel_rfl)) (EsOk.cons (EntryOk.of rfl (tells_valid_First k)) (EsOk.cons (EntryOk.of rfl (tells_valid_Loops k)) (EsOk.cons (EntryOk.of rfl (tells_valid_Inside k)) (EsOk.nil _))))) Try.func11 (N := k) (an := an_parquetlaw10_known) (by kernel_rfl) x y ((eq_parquetlaw10_known k (g_valid_First k) (g_valid_Loops k) (g_valid_Inside k)).trans h)

def an_parquetref05_Check : Ann := .node none none .leaf (.node none none .leaf (.node none none (.node none none (.node (some [(1, .box [.d (.pair (.sl (.pair kI kI)) (.pair (.sl (.pair kI kI)) (.sl (.pair kI kI))))]), (3, .d kI), (23, .d .bool)]) none .leaf .leaf) .leaf) (.node none none (.node none none .leaf (.node none none (.node none (some [(1, .box [.d (.pair (.sl (.pair kI kI)) (.pair (.sl (.pair kI kI)) (.sl (.pair kI kI))))]), (3, .d kI), (4, .d kI)]) (.node none none .leaf (.node none none (.node none none (.node none none (.node (some [(1, .box [.d (.pair (.sl (.pair kI kI)) (.pair (.sl (.pair kI kI)) (.sl (.pair kI kI))))]), (3, .d kI), (4, .d kI), (62, .d .bool)]) none .leaf .leaf) .leaf) .leaf) .leaf)) .leaf) .leaf)) (.node none none (.node none none .leaf (.node none none (.node none (some [(1, .box [.d (.pair (.sl (.pair kI kI)) (.pair (.sl (.pair kI kI)) (.sl (.pair kI kI))))]), (3, .d kI), (5, .d kI)]) (.node none none .leaf (.node none none (.node none none (.node none none .leaf (.node none none (.node none none .leaf (.node (some [(1, .box [.d (.pair (.sl (.pair kI kI)) (.pair (.sl (.pair kI kI)) (.sl (.pair kI kI))))]), (3, .d kI), (5, .d kI), (6, .box [.d (.pair kI kI)])]) none .leaf .leaf)) (.node none none (.node (some [(1, .box [.d (.pair (.sl (.pair kI kI)) (.pair (.sl (.pair kI kI)) (.sl (.pair kI kI))))]), (3, .d kI), (5, .d kI), (113, .d .bool)]) none .leaf .leaf) .leaf))) .leaf) .leaf)) .leaf) .leaf)) .leaf))))
def g_parquetref05_Check (k : Nat) (a0 : ((List (Int × Int)) × ((List (Int × Int)) × (List (Int × Int))))) : Option Int :=
  meet (α := (((List (Int × Int)) × ((List (Int × Int)) × (List (Int × Int)))) × (Int × Bool))) (fun (y0, y1, y2) =>
    bif y2 then
     some 2
    else
     loopN (α := (((List (Int × Int)) × ((List (Int × Int)) × (List (Int × Int)))) × (Int × Int))) (fun (x4, x5, x6) next3 =>
      bif decide (x6 < x5) then
       meet (α := (((List (Int × Int)) × ((List (Int × Int)) × (List (Int × Int)))) × (Int × (Int × Bool)))) (fun (y7, y8, y9, y10) =>
        bif y10 then
         some 2
        else
         next3 ((y7.1, y7.2.1, y7.2.2), y8, w64 (y9 + 1))) fun j11 =>
       gd (inb x6 x4.1.length) <|
       bif decide ((rdD (0, 0) x4.1 x6).1 > 1048576) then
        j11 ((x4.1, x4.2.1, x4.2.2), x5, x6, true)
       else
        gd (inb x6 x4.1.length) <|
        bif decide ((rdD (0, 0) x4.1 x6).1 < (-1048576)) then
         j11 ((x4.1, x4.2.1, x4.2.2), x5, x6, true)
        else
         gd (inb x6 x4.1.length) <|
         bif decide ((rdD (0, 0) x4.1 x6).2 > 1048576) then
          j11 ((x4.1, x4.2.1, x4.2.2), x5, x6, true)
         else
          gd (inb x6 x4.1.length) <|
          j11 ((x4.1, x4.2.1, x4.2.2), x5, x6, decide ((rdD (0, 0) x4.1 x6).2 < (-1048576)))
      else
       loopN (α := (((List (Int × Int)) × ((List (Int × Int)) × (List (Int × Int)))) × (Int × Int))) (fun (x13, x14, x15) next12 =>
        bif decide (x15 < (w64 ((x13.2.1.length : Int) + (x13.2.2.length : Int)))) then
         meet (α := (((List (Int × Int)) × ((List (Int × Int)) × (List (Int × Int)))) × (Int × (Int × (Int × Int))))) (fun (y16, y17, y18, y19, y20) =>
          meet (α := (((List (Int × Int)) × ((List (Int × Int)) × (List (Int × Int)))) × (Int × (Int × Bool)))) (fun (y21, y22, y23, y24) =>
           bif y24 then
            some 2
           else
            next12 ((y21.1, y21.2.1, y21.2.2), y22, w64 (y23 + 1))) fun j25 =>
          bif decide (y19 < 0) then
           j25 ((y16.1, y16.2.1, y16.2.2), y17, y18, true)
          else
           bif decide (y19 ≥ y17) then
            j25 ((y16.1, y16.2.1, y16.2.2), y17, y18, true)
           else
            bif decide (y20 < 0) then
             j25 ((y16.1, y16.2.1, y16.2.2), y17, y18, true)
            else
             j25 ((y16.1, y16.2.1, y16.2.2), y17, y18, decide (y20 ≥ y17))) fun j26 =>
         bif decide (x15 < (x13.2.1.length : Int)) then
          gd (inb x15 x13.2.1.length) <|
          j26 ((x13.1, x13.2.1, x13.2.2), x14, x15, (rdD (0, 0) x13.2.1 x15).1, (rdD (0, 0) x13.2.1 x15).2)
         else
          gd (inb (w64 (x15 - (x13.2.1.length : Int))) x13.2.2.length) <|
          j26 ((x13.1, x13.2.1, x13.2.2), x14, x15, (rdD (0, 0) x13.2.2 (w64 (x15 - (x13.2.1.length : Int)))).1, (rdD (0, 0) x13.2.2 (w64 (x15 - (x13.2.1.length : Int)))).2)
        else
         some 0) k ((x4.1, x4.2.1, x4.2.2), x5, 0)) k ((y0.1, y0.2.1, y0.2.2), y1, 0)) fun j27 =>
   bif decide ((a0.1.length : Int) > 200) then
    j27 ((a0.1, a0.2.1, a0.2.2), (a0.1.length : Int), true)
   else
    bif decide ((a0.2.1.length : Int) > 400) then
     j27 ((a0.1, a0.2.1, a0.2.2), (a0.1.length : Int), true)
    else
     j27 ((a0.1, a0.2.1, a0.2.2), (a0.1.length : Int), decide ((a0.2.2.length : Int) > 400))
theorem eq_parquetref05_Check (k : Nat) (a0 : ((List (Int × Int)) × ((List (Int × Int)) × (List (Int × Int))))) : textF [] tb k Try.f21 an_parquetref05_Check [.d (.pair (.sl (.pair kI kI)) (.pair (.sl (.pair kI kI)) (.sl (.pair kI kI))))] [kI] a0 = g_parquetref05_Check k a0 := by kernel_rfl
theorem tells_parquetref05_Check (k : Nat) : TellsF Try.prog 21 [.d (.pair (.sl (.pair kI kI)) (.pair (.sl (.pair kI kI)) (.sl (.pair kI kI))))] [kI] (fun x => g_parquetref05_Check k x) := fun x y h => fun_tells tb_ok mix (es := []) (EsOk.nil _) Try.func21 (N := k) (an := an_parquetref05_Check) (by kernel_rfl) x y ((eq_parquetref05_Check k x).trans h)

def an_parquetref10_All : Ann := .leaf
def g_parquetref10_All (k : Nat) (a0 : ((List (Int × Int)) × ((List (Int × Int)) × (List (Int × Int))))) : Option (List (Int × Int)) :=
  gd (few a0.2.1.length) <|
   gd (few (a0.2.1.length + a0.2.2.length)) <|
   some (a0.2.1 ++ a0.2.2)
theorem eq_parquetref10_All (k : Nat) (a0 : ((List (Int × Int)) × ((List (Int × Int)) × (List (Int × Int))))) : textF [] tb k Try.f23 an_parquetref10_All [.d (.pair (.sl (.pair kI kI)) (.pair (.sl (.pair kI kI)) (.sl (.pair kI kI))))] [.sl (.pair kI kI)] a0 = g_parquetref10_All k a0 := by kernel_rfl
theorem tells_parquetref10_All (k : Nat) : TellsF Try.prog 23 [.d (.pair (.sl (.pair kI kI)) (.pair (.sl (.pair kI kI)) (.sl (.pair kI kI))))] [.sl (.pair kI kI)] (fun x => g_parquetref10_All k x) := fun x y h => fun_tells tb_ok mix (es := []) (EsOk.nil _) Try.func23 (N := k) (an := an_parquetref10_All) (by kernel_rfl) x y ((eq_parquetref10_All k x).trans h)

end Go.Proofs.Ytjbimhfhapnjeaa.AM
