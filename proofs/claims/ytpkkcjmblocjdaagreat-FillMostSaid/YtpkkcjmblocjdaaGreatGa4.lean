/- The functions, by their texts: written by a program. -/
import Derived.Test.YtpkkcjmblocjdaaGreatGa3
import Derived.Test.YtpkkcjmblocjdaaGreatSrt
set_option linter.unusedVariables false
set_option maxRecDepth 100000
namespace Go.Proofs.YtpkkcjmblocjdaaGreat.AM
open Go.RowKit Go.Proofs
noncomputable section
def an_within_Third : Ann := .leaf
def b_within_Third (k : Nat) (c_within_middle : (List (Int × Int)) → (List (Int × Int)) → (List Int) → Option (Int × Int)) (a0 : (List (Int × Int))) (a1 : (List (Int × Int))) (a2 : Int) (a3 : Int) (a4 : Int) : Option (Int × Int) :=
  bnd (c_within_middle a0 a1 [a2, a3, a4]) fun r0 =>
   some (r0.1, r0.2)
theorem eq_within_Third (k : Nat) (c_within_middle : (List (Int × Int)) → (List (Int × Int)) → (List Int) → Option (Int × Int)) (a0 : (List (Int × Int))) (a1 : (List (Int × Int))) (a2 : Int) (a3 : Int) (a4 : Int) : textF [⟨91, [.d (.sl (.pair kI kI)), .d (.sl (.pair kI kI)), .d (.sl kI)], [kI, kI], fun x => c_within_middle (x.1) (x.2.1) (x.2.2), none⟩] tb k Tryz.f54 an_within_Third [.d (.sl (.pair kI kI)), .d (.sl (.pair kI kI)), .d kI, .d kI, .d kI] [kI, kI] (a0, a1, a2, a3, a4) = b_within_Third k c_within_middle a0 a1 a2 a3 a4 := by kernel_rfl
def g_within_Third (k : Nat) (a0 : (List (Int × Int))) (a1 : (List (Int × Int))) (a2 : Int) (a3 : Int) (a4 : Int) : Option (Int × Int) := b_within_Third k (g_within_middle k) a0 a1 a2 a3 a4
theorem tells_within_Third (k : Nat) : TellsF Tryz.prog 54 [.d (.sl (.pair kI kI)), .d (.sl (.pair kI kI)), .d kI, .d kI, .d kI] [kI, kI] (fun x => g_within_Third k (x.1) (x.2.1) (x.2.2.1) (x.2.2.2.1) (x.2.2.2.2)) := fun x y h => fun_tells tb_ok mix (es := [⟨91, [.d (.sl (.pair kI kI)), .d (.sl (.pair kI kI)), .d (.sl kI)], [kI, kI], fun x => g_within_middle k (x.1) (x.2.1) (x.2.2), none⟩]) (EsOk.cons (EntryOk.of rfl (tells_within_middle k)) (EsOk.nil _)) Tryz.func54 (N := k) (an := an_within_Third) (by kernel_rfl) x y ((eq_within_Third k (g_within_middle k) (x.1) (x.2.1) (x.2.2.1) (x.2.2.2.1) (x.2.2.2.2)).trans h)

def an_fill_in : Ann := .node none none .leaf (.node none none (.node (some [(6, .d .bool)]) none .leaf .leaf) .leaf)
def b_fill_in (k : Nat) (c_pred_Orient : (Int × Int) → (Int × Int) → (Int × Int) → Option Int) (a0 : (List (Int × Int))) (a1 : (Int × (Int × Int))) (a2 : (Int × Int)) : Option Bool :=
  meet (α := Bool) (fun y0 =>
    some y0) fun j1 =>
   gd (inb a1.1 a0.length) <|
   gd (inb a1.2.1 a0.length) <|
   bnd (c_pred_Orient ((rdD (0, 0) a0 a1.1).1, (rdD (0, 0) a0 a1.1).2) ((rdD (0, 0) a0 a1.2.1).1, (rdD (0, 0) a0 a1.2.1).2) (a2.1, a2.2)) fun r2 =>
   bif decide (r2 ≥ 0) then
    gd (inb a1.2.1 a0.length) <|
    gd (inb a1.2.2 a0.length) <|
    bnd (c_pred_Orient ((rdD (0, 0) a0 a1.2.1).1, (rdD (0, 0) a0 a1.2.1).2) ((rdD (0, 0) a0 a1.2.2).1, (rdD (0, 0) a0 a1.2.2).2) (a2.1, a2.2)) fun r3 =>
    bif decide (r3 ≥ 0) then
     gd (inb a1.2.2 a0.length) <|
     gd (inb a1.1 a0.length) <|
     bnd (c_pred_Orient ((rdD (0, 0) a0 a1.2.2).1, (rdD (0, 0) a0 a1.2.2).2) ((rdD (0, 0) a0 a1.1).1, (rdD (0, 0) a0 a1.1).2) (a2.1, a2.2)) fun r4 =>
     j1 (decide (r4 ≥ 0))
    else
     j1 false
   else
    j1 false
theorem eq_fill_in (k : Nat) (c_pred_Orient : (Int × Int) → (Int × Int) → (Int × Int) → Option Int) (a0 : (List (Int × Int))) (a1 : (Int × (Int × Int))) (a2 : (Int × Int)) : textF [⟨81, [.d (.pair kI kI), .d (.pair kI kI), .d (.pair kI kI)], [kI], fun x => c_pred_Orient (x.1) (x.2.1) (x.2.2), none⟩] tb k Tryz.f92 an_fill_in [.d (.sl (.pair kI kI)), .d (.pair kI (.pair kI kI)), .d (.pair kI kI)] [.bool] (a0, a1, a2) = b_fill_in k c_pred_Orient a0 a1 a2 := by kernel_rfl
def g_fill_in (k : Nat) (a0 : (List (Int × Int))) (a1 : (Int × (Int × Int))) (a2 : (Int × Int)) : Option Bool := b_fill_in k (g_pred_Orient k) a0 a1 a2
theorem tells_fill_in (k : Nat) : TellsF Tryz.prog 92 [.d (.sl (.pair kI kI)), .d (.pair kI (.pair kI kI)), .d (.pair kI kI)] [.bool] (fun x => g_fill_in k (x.1) (x.2.1) (x.2.2)) := fun x y h => fun_tells tb_ok mix (es := [⟨81, [.d (.pair kI kI), .d (.pair kI kI), .d (.pair kI kI)], [kI], fun x => g_pred_Orient k (x.1) (x.2.1) (x.2.2), none⟩]) (EsOk.cons (EntryOk.of rfl (tells_pred_Orient k)) (EsOk.nil _)) Tryz.func92 (N := k) (an := an_fill_in) (by kernel_rfl) x y ((eq_fill_in k (g_pred_Orient k) (x.1) (x.2.1) (x.2.2)).trans h)

def an_fill_empty : Ann := .node none none .leaf (.node none none (.node none none .leaf (.node none none (.node none (some [(0, .d (.sl (.pair kI kI))), (3, .box [.d (.pair kI (.pair kI kI))]), (7, .d (.sl (.pair kI kI))), (8, .d kI), (9, .d kI)]) (.node none none .leaf (.node none none .leaf (.node none none (.node none none (.node none none .leaf (.node none none (.node (some [(0, .d (.sl (.pair kI kI))), (3, .box [.d (.pair kI (.pair kI kI))]), (7, .d (.sl (.pair kI kI))), (8, .d kI), (9, .d kI), (35, .d .bool)]) none .leaf .leaf) .leaf)) .leaf) .leaf))) .leaf) .leaf)) .leaf)
def b_fill_empty (k : Nat) (c_fill_in : (List (Int × Int)) → (Int × (Int × Int)) → (Int × Int) → Option Bool) (a0 : (List (Int × Int))) (a1 : (Int × (Int × Int))) : Option Bool :=
  loopN (α := ((List (Int × Int)) × ((Int × (Int × Int)) × ((List (Int × Int)) × (Int × Int))))) (fun (x1, x2, x3, x4, x5) next0 =>
    bif decide (x5 < x4) then
     gd (inb x5 x3.length) <|
     meet (α := ((List (Int × Int)) × ((Int × (Int × Int)) × ((List (Int × Int)) × (Int × (Int × Bool)))))) (fun (y6, y7, y8, y9, y10, y11) =>
      bif y11 then
       some false
      else
       next0 (y6, (y7.1, y7.2.1, y7.2.2), y8, y9, w64 (y10 + 1))) fun j12 =>
     bif !(decide (x5 = x2.1)) then
      bif !(decide (x5 = x2.2.1)) then
       bif !(decide (x5 = x2.2.2)) then
        bnd (c_fill_in x1 (x2.1, x2.2.1, x2.2.2) ((rdD (0, 0) x3 x5).1, (rdD (0, 0) x3 x5).2)) fun r13 =>
        j12 (x1, (x2.1, x2.2.1, x2.2.2), x3, x4, x5, r13)
       else
        j12 (x1, (x2.1, x2.2.1, x2.2.2), x3, x4, x5, false)
      else
       j12 (x1, (x2.1, x2.2.1, x2.2.2), x3, x4, x5, false)
     else
      j12 (x1, (x2.1, x2.2.1, x2.2.2), x3, x4, x5, false)
    else
     some true) k (a0, (a1.1, a1.2.1, a1.2.2), a0, (a0.length : Int), 0)
theorem eq_fill_empty (k : Nat) (c_fill_in : (List (Int × Int)) → (Int × (Int × Int)) → (Int × Int) → Option Bool) (a0 : (List (Int × Int))) (a1 : (Int × (Int × Int))) : textF [⟨92, [.d (.sl (.pair kI kI)), .d (.pair kI (.pair kI kI)), .d (.pair kI kI)], [.bool], fun x => c_fill_in (x.1) (x.2.1) (x.2.2), none⟩] tb k Tryz.f55 an_fill_empty [.d (.sl (.pair kI kI)), .d (.pair kI (.pair kI kI))] [.bool] (a0, a1) = b_fill_empty k c_fill_in a0 a1 := by kernel_rfl
def g_fill_empty (k : Nat) (a0 : (List (Int × Int))) (a1 : (Int × (Int × Int))) : Option Bool := b_fill_empty k (g_fill_in k) a0 a1
theorem tells_fill_empty (k : Nat) : TellsF Tryz.prog 55 [.d (.sl (.pair kI kI)), .d (.pair kI (.pair kI kI))] [.bool] (fun x => g_fill_empty k (x.1) (x.2)) := fun x y h => fun_tells tb_ok mix (es := [⟨92, [.d (.sl (.pair kI kI)), .d (.pair kI (.pair kI kI)), .d (.pair kI kI)], [.bool], fun x => g_fill_in k (x.1) (x.2.1) (x.2.2), none⟩]) (EsOk.cons (EntryOk.of rfl (tells_fill_in k)) (EsOk.nil _)) Tryz.func55 (N := k) (an := an_fill_empty) (by kernel_rfl) x y ((eq_fill_empty k (g_fill_in k) (x.1) (x.2)).trans h)

def an_fill_Make : Ann := .node none none .leaf (.node none none .leaf (.node none none .leaf (.node none none .leaf (.node none none (.node none none .leaf (.node none none (.node none (some [(1, .box [.d (.pair (.sl (.pair kI kI)) (.pair (.sl (.pair kI kI)) (.sl (.pair kI kI))))]), (2, .box [.row (.pair kI kI) 44, .row (.pair kI (.pair kI kI)) 56, .row (.pair kI kI) 60]), (4, .d (.sl (.pair kI kI))), (6, .mp (.pair kI kI) .bool), (27, .d (.sl (.pair kI kI))), (28, .d kI), (29, .d kI)]) .leaf .leaf) .leaf)) (.node none none .leaf (.node none none (.node none none .leaf (.node none none (.node none (some [(1, .box [.d (.pair (.sl (.pair kI kI)) (.pair (.sl (.pair kI kI)) (.sl (.pair kI kI))))]), (2, .box [.row (.pair kI kI) 44, .row (.pair kI (.pair kI kI)) 56, .row (.pair kI kI) 60]), (6, .mp (.pair kI kI) .bool), (9, .box [.d (.sl (.pair kI kI)), .row (.pair kI (.pair kI kI)) 56, .d (.sl (.pair kI kI))]), (42, .d (.sl (.pair kI kI))), (43, .d kI), (44, .d kI)]) (.node none none .leaf (.node none none .leaf (.node none none (.node none none (.node none none .leaf (.node none none .leaf (.node none none (.node none (some [(1, .box [.d (.pair (.sl (.pair kI kI)) (.pair (.sl (.pair kI kI)) (.sl (.pair kI kI))))]), (2, .box [.row (.pair kI kI) 44, .row (.pair kI (.pair kI kI)) 56, .row (.pair kI kI) 60]), (6, .mp (.pair kI kI) .bool), (9, .box [.d (.sl (.pair kI kI)), .row (.pair kI (.pair kI kI)) 56, .d (.sl (.pair kI kI))]), (11, .box [.d (.pair kI kI)]), (12, .d kI), (42, .d (.sl (.pair kI kI))), (43, .d kI), (44, .d kI)]) (.node none none .leaf (.node none none (.node (some [(1, .box [.d (.pair (.sl (.pair kI kI)) (.pair (.sl (.pair kI kI)) (.sl (.pair kI kI))))]), (2, .box [.row (.pair kI kI) 44, .row (.pair kI (.pair kI kI)) 56, .row (.pair kI kI) 60]), (6, .mp (.pair kI kI) .bool), (9, .box [.d (.sl (.pair kI kI)), .row (.pair kI (.pair kI kI)) 56, .d (.sl (.pair kI kI))]), (11, .box [.d (.pair kI kI)]), (12, .d kI), (42, .d (.sl (.pair kI kI))), (43, .d kI), (44, .d kI)]) none (.node none none (.node none none (.node (some [(1, .box [.d (.pair (.sl (.pair kI kI)) (.pair (.sl (.pair kI kI)) (.sl (.pair kI kI))))]), (2, .box [.row (.pair kI kI) 44, .row (.pair kI (.pair kI kI)) 56, .row (.pair kI kI) 60]), (6, .mp (.pair kI kI) .bool), (9, .box [.d (.sl (.pair kI kI)), .row (.pair kI (.pair kI kI)) 56, .d (.sl (.pair kI kI))]), (11, .box [.d (.pair kI kI)]), (12, .d kI), (42, .d (.sl (.pair kI kI))), (43, .d kI), (44, .d kI), (73, .d .bool)]) none .leaf .leaf) .leaf) (.node none none .leaf (.node none none .leaf (.node none none (.node (some [(1, .box [.d (.pair (.sl (.pair kI kI)) (.pair (.sl (.pair kI kI)) (.sl (.pair kI kI))))]), (2, .box [.row (.pair kI kI) 44, .row (.pair kI (.pair kI kI)) 56, .row (.pair kI kI) 60]), (6, .mp (.pair kI kI) .bool), (9, .box [.d (.sl (.pair kI kI)), .row (.pair kI (.pair kI kI)) 56, .d (.sl (.pair kI kI))]), (11, .box [.d (.pair kI kI)]), (12, .d kI), (13, .box [.d (.pair kI (.pair kI kI))]), (42, .d (.sl (.pair kI kI))), (43, .d kI), (44, .d kI), (108, .d .bool)]) none .leaf .leaf) (.node (some [(1, .box [.d (.pair (.sl (.pair kI kI)) (.pair (.sl (.pair kI kI)) (.sl (.pair kI kI))))]), (2, .box [.row (.pair kI kI) 44, .row (.pair kI (.pair kI kI)) 56, .row (.pair kI kI) 60]), (6, .mp (.pair kI kI) .bool), (9, .box [.d (.sl (.pair kI kI)), .row (.pair kI (.pair kI kI)) 56, .d (.sl (.pair kI kI))]), (11, .box [.d (.pair kI kI)]), (12, .d kI), (42, .d (.sl (.pair kI kI))), (43, .d kI), (44, .d kI)]) none .leaf .leaf))))) .leaf) .leaf)) .leaf) .leaf))) .leaf) .leaf))) .leaf) .leaf)) .leaf))))))
def b_fill_Make (k : Nat) (c_fill_Edges : ((List (Int × Int)) × ((List (Int × Int)) × (List (Int × Int)))) → Option ((List (Int × Int)) × Int)) (c_api_Point : (List (Int × Int)) → Option (List (Int × Int))) (c_fill_segs : ((List (Int × Int)) × ((List (Int × Int)) × (List (Int × Int)))) → Option (List (Int × Int))) (c_fill_Tri : (List (Int × Int)) → Int → Int → Int → Option ((Int × (Int × Int)) × Bool)) (c_within_Third : (List (Int × Int)) → (List (Int × Int)) → Int → Int → Int → Option (Int × Int)) (c_fill_empty : (List (Int × Int)) → (Int × (Int × Int)) → Option Bool) (a0 : ((List (Int × Int)) × ((List (Int × Int)) × (List (Int × Int))))) : Option (((List (Int × Int)) × ((List (Int × (Int × Int))) × (List (Int × Int)))) × Int) :=
  bnd (c_fill_Edges (a0.1, a0.2.1, a0.2.2)) fun r0 =>
   bif !(decide (r0.2 = 0)) then
    some (([], [], []), r0.2)
   else
    loopN (α := (((List (Int × Int)) × ((List (Int × Int)) × (List (Int × Int)))) × (((List (Int × Int)) × ((List (Int × (Int × Int))) × (List (Int × Int)))) × ((List (Int × Int)) × ((List ((Int × Int) × Bool)) × ((List (Int × Int)) × (Int × Int))))))) (fun (x2, x3, x4, x5, x6, x7, x8) next1 =>
     bif decide (x8 < x7) then
      gd (inb x8 x6.length) <|
      gd (!(hsM (.pair (.int .i64) (.int .i64)) .bool x5 ((rdD (0, 0) x6 x8).1, (rdD (0, 0) x6 x8).2))) <|
      next1 ((x2.1, x2.2.1, x2.2.2), (x3.1, x3.2.1, x3.2.2), x4, adM (.pair (.int .i64) (.int .i64)) .bool x5 ((rdD (0, 0) x6 x8).1, (rdD (0, 0) x6 x8).2) true, x6, x7, w64 (x8 + 1))
     else
      bnd (c_api_Point x2.1) fun r9 =>
      bnd (c_fill_segs (x2.1, x2.2.1, x2.2.2)) fun r10 =>
      loopN (α := (((List (Int × Int)) × ((List (Int × Int)) × (List (Int × Int)))) × (((List (Int × Int)) × ((List (Int × (Int × Int))) × (List (Int × Int)))) × ((List ((Int × Int) × Bool)) × (((List (Int × Int)) × ((List (Int × (Int × Int))) × (List (Int × Int)))) × ((List (Int × Int)) × (Int × Int))))))) (fun (x12, x13, x14, x15, x16, x17, x18) next11 =>
       bif decide (x18 < x17) then
        gd (inb x18 x16.length) <|
        loopN (α := (((List (Int × Int)) × ((List (Int × Int)) × (List (Int × Int)))) × (((List (Int × Int)) × ((List (Int × (Int × Int))) × (List (Int × Int)))) × ((List ((Int × Int) × Bool)) × (((List (Int × Int)) × ((List (Int × (Int × Int))) × (List (Int × Int)))) × ((Int × Int) × (Int × ((List (Int × Int)) × (Int × Int))))))))) (fun (x20, x21, x22, x23, x24, x25, x26, x27, x28) next19 =>
         bif decide (x25 < (x20.1.length : Int)) then
          meet (α := (((List (Int × Int)) × ((List (Int × Int)) × (List (Int × Int)))) × (((List (Int × Int)) × ((List (Int × (Int × Int))) × (List (Int × Int)))) × ((List ((Int × Int) × Bool)) × (((List (Int × Int)) × ((List (Int × (Int × Int))) × (List (Int × Int)))) × ((Int × Int) × (Int × ((List (Int × Int)) × (Int × Int))))))))) (fun (y29, y30, y31, y32, y33, y34, y35, y36, y37) =>
           next19 ((y29.1, y29.2.1, y29.2.2), (y30.1, y30.2.1, y30.2.2), y31, (y32.1, y32.2.1, y32.2.2), (y33.1, y33.2), w64 (y34 + 1), y35, y36, y37)) fun j38 =>
          meet (α := (((List (Int × Int)) × ((List (Int × Int)) × (List (Int × Int)))) × (((List (Int × Int)) × ((List (Int × (Int × Int))) × (List (Int × Int)))) × ((List ((Int × Int) × Bool)) × (((List (Int × Int)) × ((List (Int × (Int × Int))) × (List (Int × Int)))) × ((Int × Int) × (Int × ((List (Int × Int)) × (Int × (Int × Bool)))))))))) (fun (y39, y40, y41, y42, y43, y44, y45, y46, y47, y48) =>
           bif y48 then
            j38 ((y39.1, y39.2.1, y39.2.2), (y40.1, y40.2.1, y40.2.2), y41, (y42.1, y42.2.1, y42.2.2), (y43.1, y43.2), y44, y45, y46, y47)
           else
            bnd (c_fill_Tri y39.1 y43.1 y43.2 y44) fun r49 =>
            bnd (c_within_Third y39.1 y39.2.1 y43.1 y43.2 y44) fun r50 =>
            meet (α := (((List (Int × Int)) × ((List (Int × Int)) × (List (Int × Int)))) × (((List (Int × Int)) × ((List (Int × (Int × Int))) × (List (Int × Int)))) × ((List ((Int × Int) × Bool)) × (((List (Int × Int)) × ((List (Int × (Int × Int))) × (List (Int × Int)))) × ((Int × Int) × (Int × ((Int × (Int × Int)) × ((List (Int × Int)) × (Int × (Int × Bool))))))))))) (fun (y51, y52, y53, y54, y55, y56, y57, y58, y59, y60, y61) =>
             meet (α := (((List (Int × Int)) × ((List (Int × Int)) × (List (Int × Int)))) × (((List (Int × Int)) × ((List (Int × (Int × Int))) × (List (Int × Int)))) × ((List ((Int × Int) × Bool)) × (((List (Int × Int)) × ((List (Int × (Int × Int))) × (List (Int × Int)))) × ((Int × Int) × (Int × ((List (Int × Int)) × (Int × Int))))))))) (fun (y62, y63, y64, y65, y66, y67, y68, y69, y70) =>
              j38 ((y62.1, y62.2.1, y62.2.2), (y63.1, y63.2.1, y63.2.2), y64, (y65.1, y65.2.1, y65.2.2), (y66.1, y66.2), y67, y68, y69, y70)) fun j71 =>
             bif y61 then
              gd (few (y54.2.1.length + 1)) <|
              j71 ((y51.1, y51.2.1, y51.2.2), (y52.1, y52.2.1, y52.2.2), y53, (y54.1, y54.2.1 ++ [(y57.1, y57.2.1, y57.2.2)], y54.2.2), (y55.1, y55.2), y56, y58, y59, y60)
             else
              j71 ((y51.1, y51.2.1, y51.2.2), (y52.1, y52.2.1, y52.2.2), y53, (y54.1, y54.2.1, y54.2.2), (y55.1, y55.2), y56, y58, y59, y60)) fun j72 =>
            bif r49.2 then
             bif decide (r50.1 = 1) then
              bnd (c_fill_empty y39.1 (r49.1.1, r49.1.2.1, r49.1.2.2)) fun r73 =>
              j72 ((y39.1, y39.2.1, y39.2.2), (y40.1, y40.2.1, y40.2.2), y41, (y42.1, y42.2.1, y42.2.2), (y43.1, y43.2), y44, (r49.1.1, r49.1.2.1, r49.1.2.2), y45, y46, y47, r73)
             else
              j72 ((y39.1, y39.2.1, y39.2.2), (y40.1, y40.2.1, y40.2.2), y41, (y42.1, y42.2.1, y42.2.2), (y43.1, y43.2), y44, (r49.1.1, r49.1.2.1, r49.1.2.2), y45, y46, y47, false)
            else
             j72 ((y39.1, y39.2.1, y39.2.2), (y40.1, y40.2.1, y40.2.2), y41, (y42.1, y42.2.1, y42.2.2), (y43.1, y43.2), y44, (r49.1.1, r49.1.2.1, r49.1.2.2), y45, y46, y47, false)) fun j74 =>
          bif !(toT Bool (lkM (.pair (.int .i64) (.int .i64)) .bool x22 (x24.1, x25))) then
           j74 ((x20.1, x20.2.1, x20.2.2), (x21.1, x21.2.1, x21.2.2), x22, (x23.1, x23.2.1, x23.2.2), (x24.1, x24.2), x25, x26, x27, x28, true)
          else
           j74 ((x20.1, x20.2.1, x20.2.2), (x21.1, x21.2.1, x21.2.2), x22, (x23.1, x23.2.1, x23.2.2), (x24.1, x24.2), x25, x26, x27, x28, !(toT Bool (lkM (.pair (.int .i64) (.int .i64)) .bool x22 (x24.2, x25))))
         else
          next11 ((x20.1, x20.2.1, x20.2.2), (x21.1, x21.2.1, x21.2.2), x22, (x23.1, x23.2.1, x23.2.2), x26, x27, w64 (x28 + 1))) k ((x12.1, x12.2.1, x12.2.2), (x13.1, x13.2.1, x13.2.2), x14, (x15.1, x15.2.1, x15.2.2), ((rdD (0, 0) x16 x18).1, (rdD (0, 0) x16 x18).2), w64 ((rdD (0, 0) x16 x18).2 + 1), x16, x17, x18)
       else
        gd (few x15.2.1.length) <|
        some ((x15.1, srtL cf_57 x15.2.1, x15.2.2), 0)) k ((x2.1, x2.2.1, x2.2.2), (x3.1, x3.2.1, x3.2.2), x5, (r9, [], r10), x4, (x4.length : Int), 0)) k ((a0.1, a0.2.1, a0.2.2), ([], [], []), r0.1, [], r0.1, (r0.1.length : Int), 0)
theorem eq_fill_Make (k : Nat) (c_fill_Edges : ((List (Int × Int)) × ((List (Int × Int)) × (List (Int × Int)))) → Option ((List (Int × Int)) × Int)) (c_api_Point : (List (Int × Int)) → Option (List (Int × Int))) (c_fill_segs : ((List (Int × Int)) × ((List (Int × Int)) × (List (Int × Int)))) → Option (List (Int × Int))) (c_fill_Tri : (List (Int × Int)) → Int → Int → Int → Option ((Int × (Int × Int)) × Bool)) (c_within_Third : (List (Int × Int)) → (List (Int × Int)) → Int → Int → Int → Option (Int × Int)) (c_fill_empty : (List (Int × Int)) → (Int × (Int × Int)) → Option Bool) (a0 : ((List (Int × Int)) × ((List (Int × Int)) × (List (Int × Int))))) : textF [⟨56, [], [], fun _ => none, some (.srt (.pair kI (.pair kI kI)) 57 cf_57)⟩, ⟨13, [.d (.pair (.sl (.pair kI kI)) (.pair (.sl (.pair kI kI)) (.sl (.pair kI kI))))], [.sl (.pair kI kI), kI], fun x => c_fill_Edges x, none⟩, ⟨53, [.d (.sl (.pair kI kI))], [.sl (.pair kI kI)], fun x => c_api_Point x, none⟩, ⟨46, [.d (.pair (.sl (.pair kI kI)) (.pair (.sl (.pair kI kI)) (.sl (.pair kI kI))))], [.sl (.pair kI kI)], fun x => c_fill_segs x, none⟩, ⟨40, [.d (.sl (.pair kI kI)), .d kI, .d kI, .d kI], [.pair kI (.pair kI kI), .bool], fun x => c_fill_Tri (x.1) (x.2.1) (x.2.2.1) (x.2.2.2), none⟩, ⟨54, [.d (.sl (.pair kI kI)), .d (.sl (.pair kI kI)), .d kI, .d kI, .d kI], [kI, kI], fun x => c_within_Third (x.1) (x.2.1) (x.2.2.1) (x.2.2.2.1) (x.2.2.2.2), none⟩, ⟨55, [.d (.sl (.pair kI kI)), .d (.pair kI (.pair kI kI))], [.bool], fun x => c_fill_empty (x.1) (x.2), none⟩] tbx k Tryz.f15 an_fill_Make [.d (.pair (.sl (.pair kI kI)) (.pair (.sl (.pair kI kI)) (.sl (.pair kI kI))))] [.pair (.sl (.pair kI kI)) (.pair (.sl (.pair kI (.pair kI kI))) (.sl (.pair kI kI))), kI] a0 = b_fill_Make k c_fill_Edges c_api_Point c_fill_segs c_fill_Tri c_within_Third c_fill_empty a0 := by kernel_rfl
def g_fill_Make (k : Nat) (a0 : ((List (Int × Int)) × ((List (Int × Int)) × (List (Int × Int))))) : Option (((List (Int × Int)) × ((List (Int × (Int × Int))) × (List (Int × Int)))) × Int) := b_fill_Make k (g_fill_Edges k) (g_api_Point k) (g_fill_segs k) (g_fill_Tri k) (g_within_Third k) (g_fill_empty k) a0
theorem tells_fill_Make (k : Nat) : TellsF Tryz.prog 15 [.d (.pair (.sl (.pair kI kI)) (.pair (.sl (.pair kI kI)) (.sl (.pair kI kI))))] [.pair (.sl (.pair kI kI)) (.pair (.sl (.pair kI (.pair kI kI))) (.sl (.pair kI kI))), kI] (fun x => g_fill_Make k x) := fun x y h => fun_tells tbx_ok mix (es := [⟨56, [], [], fun _ => none, some (.srt (.pair kI (.pair kI kI)) 57 cf_57)⟩, ⟨13, [.d (.pair (.sl (.pair kI kI)) (.pair (.sl (.pair kI kI)) (.sl (.pair kI kI))))], [.sl (.pair kI kI), kI], fun x => g_fill_Edges k x, none⟩, ⟨53, [.d (.sl (.pair kI kI))], [.sl (.pair kI kI)], fun x => g_api_Point k x, none⟩, ⟨46, [.d (.pair (.sl (.pair kI kI)) (.pair (.sl (.pair kI kI)) (.sl (.pair kI kI))))], [.sl (.pair kI kI)], fun x => g_fill_segs k x, none⟩, ⟨40, [.d (.sl (.pair kI kI)), .d kI, .d kI, .d kI], [.pair kI (.pair kI kI), .bool], fun x => g_fill_Tri k (x.1) (x.2.1) (x.2.2.1) (x.2.2.2), none⟩, ⟨54, [.d (.sl (.pair kI kI)), .d (.sl (.pair kI kI)), .d kI, .d kI, .d kI], [kI, kI], fun x => g_within_Third k (x.1) (x.2.1) (x.2.2.1) (x.2.2.2.1) (x.2.2.2.2), none⟩, ⟨55, [.d (.sl (.pair kI kI)), .d (.pair kI (.pair kI kI))], [.bool], fun x => g_fill_empty k (x.1) (x.2), none⟩]) (EsOk.cons (EntryOk.sort srt_56) (EsOk.cons (EntryOk.of rfl (tells_fill_Edges k)) (EsOk.cons (EntryOk.of rfl (tells_api_Point k)) (EsOk.cons (EntryOk.of rfl (tells_f_fill_segs k)) (EsOk.cons (EntryOk.of rfl (tells_fill_Tri k)) (EsOk.cons (EntryOk.of rfl (tells_within_Third k)) (EsOk.cons (EntryOk.of rfl (tells_fill_empty k)) (EsOk.nil _)))))))) Tryz.func15 (N := k) (an := an_fill_Make) (by kernel_rfl) x y ((eq_fill_Make k (g_fill_Edges k) (g_api_Point k) (g_fill_segs k) (g_fill_Tri k) (g_within_Third k) (g_fill_empty k) x).trans h)

def an_parquetref05_SameSegs : Ann := .node none none .leaf (.node none none .leaf (.node none none (.node none none .leaf (.node none none (.node none (some [(0, .d (.sl (.pair kI kI))), (1, .d (.sl (.pair kI kI))), (5, .d kI)]) .leaf .leaf) .leaf)) .leaf))
def g_parquetref05_SameSegs (k : Nat) (a0 : (List (Int × Int))) (a1 : (List (Int × Int))) : Option Bool :=
  bif !(decide ((a0.length : Int) = (a1.length : Int))) then
    some false
   else
    loopN (α := ((List (Int × Int)) × ((List (Int × Int)) × Int))) (fun (x1, x2, x3) next0 =>
     bif decide (x3 < (x1.length : Int)) then
      gd (inb x3 x1.length) <|
      gd (inb x3 x2.length) <|
      bif !((decide ((rdD (0, 0) x1 x3).1 = (rdD (0, 0) x2 x3).1)) && (decide ((rdD (0, 0) x1 x3).2 = (rdD (0, 0) x2 x3).2))) then
       some false
      else
       next0 (x1, x2, w64 (x3 + 1))
     else
      some true) k (a0, a1, 0)
theorem eq_parquetref05_SameSegs (k : Nat) (a0 : (List (Int × Int))) (a1 : (List (Int × Int))) : textF [] tb k Tryz.f17 an_parquetref05_SameSegs [.d (.sl (.pair kI kI)), .d (.sl (.pair kI kI))] [.bool] (a0, a1) = g_parquetref05_SameSegs k a0 a1 := by kernel_rfl
theorem tells_parquetref05_SameSegs (k : Nat) : TellsF Tryz.prog 17 [.d (.sl (.pair kI kI)), .d (.sl (.pair kI kI))] [.bool] (fun x => g_parquetref05_SameSegs k (x.1) (x.2)) := fun x y h => fun_tells tb_ok mix (es := []) (EsOk.nil _) Tryz.func17 (N := k) (an := an_parquetref05_SameSegs) (by kernel_rfl) x y ((eq_parquetref05_SameSegs k (x.1) (x.2)).trans h)

def an_parquetref12_SameTris : Ann := .node none none .leaf (.node none none .leaf (.node none none (.node none none .leaf (.node none none (.node none (some [(0, .d (.sl (.pair kI (.pair kI kI)))), (1, .d (.sl (.pair kI (.pair kI kI)))), (5, .d kI)]) .leaf .leaf) .leaf)) .leaf))
def g_parquetref12_SameTris (k : Nat) (a0 : (List (Int × (Int × Int)))) (a1 : (List (Int × (Int × Int)))) : Option Bool :=
  bif !(decide ((a0.length : Int) = (a1.length : Int))) then
    some false
   else
    loopN (α := ((List (Int × (Int × Int))) × ((List (Int × (Int × Int))) × Int))) (fun (x1, x2, x3) next0 =>
     bif decide (x3 < (x1.length : Int)) then
      gd (inb x3 x1.length) <|
      gd (inb x3 x2.length) <|
      bif !((decide ((rdD (0, 0, 0) x1 x3).1 = (rdD (0, 0, 0) x2 x3).1)) && ((decide ((rdD (0, 0, 0) x1 x3).2.1 = (rdD (0, 0, 0) x2 x3).2.1)) && (decide ((rdD (0, 0, 0) x1 x3).2.2 = (rdD (0, 0, 0) x2 x3).2.2)))) then
       some false
      else
       next0 (x1, x2, w64 (x3 + 1))
     else
      some true) k (a0, a1, 0)
theorem eq_parquetref12_SameTris (k : Nat) (a0 : (List (Int × (Int × Int)))) (a1 : (List (Int × (Int × Int)))) : textF [] tb k Tryz.f44 an_parquetref12_SameTris [.d (.sl (.pair kI (.pair kI kI))), .d (.sl (.pair kI (.pair kI kI)))] [.bool] (a0, a1) = g_parquetref12_SameTris k a0 a1 := by kernel_rfl
theorem tells_parquetref12_SameTris (k : Nat) : TellsF Tryz.prog 44 [.d (.sl (.pair kI (.pair kI kI))), .d (.sl (.pair kI (.pair kI kI)))] [.bool] (fun x => g_parquetref12_SameTris k (x.1) (x.2)) := fun x y h => fun_tells tb_ok mix (es := []) (EsOk.nil _) Tryz.func44 (N := k) (an := an_parquetref12_SameTris) (by kernel_rfl) x y ((eq_parquetref12_SameTris k (x.1) (x.2)).trans h)

def an_fill_edges : Ann := .leaf
def g_fill_edges (k : Nat) (a0 : (Int × (Int × Int))) : Option ((Int × Int) × ((Int × Int) × (Int × Int))) :=
  some ((a0.1, a0.2.1), (a0.2.1, a0.2.2), a0.2.2, a0.1)
theorem eq_fill_edges (k : Nat) (a0 : (Int × (Int × Int))) : textF [] tb k Tryz.f60 an_fill_edges [.d (.pair kI (.pair kI kI))] [.pair (.pair kI kI) (.pair (.pair kI kI) (.pair kI kI))] a0 = g_fill_edges k a0 := by kernel_rfl
theorem tells_fill_edges (k : Nat) : TellsF Tryz.prog 60 [.d (.pair kI (.pair kI kI))] [.pair (.pair kI kI) (.pair (.pair kI kI) (.pair kI kI))] (fun x => g_fill_edges k x) := fun x y h => fun_tells tb_ok mix (es := []) (EsOk.nil _) Tryz.func60 (N := k) (an := an_fill_edges) (by kernel_rfl) x y ((eq_fill_edges k x).trans h)

def an_fill_Check : Ann := .node none none .leaf (.node none none .leaf (.node none none (.node none none .leaf (.node none none (.node none (some [(1, .box [.d (.pair (.sl (.pair kI kI)) (.pair (.sl (.pair kI (.pair kI kI))) (.sl (.pair kI kI))))]), (3, .mp (.pair kI kI) .bool), (16, .d (.sl (.pair kI (.pair kI kI)))), (17, .d kI), (18, .d kI)]) (.node none none .leaf (.node none none .leaf (.node none none (.node none none (.node none none .leaf (.node none none (.node none none .leaf (.node none none (.node (some [(1, .box [.d (.pair (.sl (.pair kI kI)) (.pair (.sl (.pair kI (.pair kI kI))) (.sl (.pair kI kI))))]), (3, .mp (.pair kI kI) .bool), (5, .box [.d (.pair kI (.pair kI kI))]), (16, .d (.sl (.pair kI (.pair kI kI)))), (17, .d kI), (18, .d kI), (56, .d .bool)]) none .leaf .leaf) .leaf)) (.node none none .leaf (.node none none (.node none (some [(1, .box [.d (.pair (.sl (.pair kI kI)) (.pair (.sl (.pair kI (.pair kI kI))) (.sl (.pair kI kI))))]), (3, .mp (.pair kI kI) .bool), (16, .d (.sl (.pair kI (.pair kI kI)))), (17, .d kI), (18, .d kI), (58, .d (.pair (.pair kI kI) (.pair (.pair kI kI) (.pair kI kI)))), (59, .d kI)]) (.node none none .leaf (.node none none .leaf (.node none none (.node none none (.node none none (.node (some [(1, .box [.d (.pair (.sl (.pair kI kI)) (.pair (.sl (.pair kI (.pair kI kI))) (.sl (.pair kI kI))))]), (3, .mp (.pair kI kI) .bool), (9, .box [.d (.pair kI kI)]), (16, .d (.sl (.pair kI (.pair kI kI)))), (17, .d kI), (18, .d kI), (58, .d (.pair (.pair kI kI) (.pair (.pair kI kI) (.pair kI kI)))), (59, .d kI)]) none .leaf .leaf) .leaf) .leaf) .leaf))) .leaf) .leaf)))) .leaf) .leaf))) .leaf) .leaf)) (.node none none .leaf (.node none none (.node none none .leaf (.node none none (.node none (some [(1, .box [.d (.pair (.sl (.pair kI kI)) (.pair (.sl (.pair kI (.pair kI kI))) (.sl (.pair kI kI))))]), (3, .mp (.pair kI kI) .bool), (10, .mp (.pair kI kI) .bool), (71, .d (.sl (.pair kI kI))), (72, .d kI), (73, .d kI)]) (.node none none .leaf (.node none none .leaf (.node none none (.node none none (.node none none .leaf (.node none none (.node none none (.node (some [(1, .box [.d (.pair (.sl (.pair kI kI)) (.pair (.sl (.pair kI (.pair kI kI))) (.sl (.pair kI kI))))]), (3, .mp (.pair kI kI) .bool), (10, .mp (.pair kI kI) .bool), (12, .box [.d (.pair kI kI)]), (71, .d (.sl (.pair kI kI))), (72, .d kI), (73, .d kI), (113, .d .bool)]) none .leaf .leaf) .leaf) .leaf)) .leaf) .leaf))) .leaf) .leaf)) (.node none none (.node none none .leaf (.node none none (.node none (some [(3, .mpf (.pair kI kI) .bool), (10, .mp (.pair kI kI) .bool), (118, .it (.pair kI kI) .bool)]) (.node none none .leaf (.node none none .leaf (.node none none (.node none none .leaf (.node none none (.node (some [(3, .d (.mp (.pair kI kI) .bool)), (10, .mp (.pair kI kI) .bool), (118, .it (.pair kI kI) .bool), (137, .d .bool)]) none .leaf .leaf) .leaf)) .leaf))) .leaf) .leaf)) .leaf)))))
def b_fill_Check (k : Nat) (c_fill_Tri : (List (Int × Int)) → Int → Int → Int → Option ((Int × (Int × Int)) × Bool)) (c_fill_byTri : (Int × (Int × Int)) → (Int × (Int × Int)) → Option Int) (c_fill_edges : (Int × (Int × Int)) → Option ((Int × Int) × ((Int × Int) × (Int × Int)))) (c_fill_bySeg : (Int × Int) → (Int × Int) → Option Int) (c_fill_up : (Int × Int) → Option (Int × Int)) (a0 : ((List (Int × Int)) × ((List (Int × (Int × Int))) × (List (Int × Int))))) : Option Int :=
  loopN (α := (((List (Int × Int)) × ((List (Int × (Int × Int))) × (List (Int × Int)))) × ((List ((Int × Int) × Bool)) × ((List (Int × (Int × Int))) × (Int × Int))))) (fun (x1, x2, x3, x4, x5) next0 =>
    bif decide (x5 < x4) then
     gd (inb x5 x3.length) <|
     bnd (c_fill_Tri x1.1 (rdD (0, 0, 0) x3 x5).1 (rdD (0, 0, 0) x3 x5).2.1 (rdD (0, 0, 0) x3 x5).2.2) fun r6 =>
     meet (α := (((List (Int × Int)) × ((List (Int × (Int × Int))) × (List (Int × Int)))) × ((List ((Int × Int) × Bool)) × ((Int × (Int × Int)) × ((List (Int × (Int × Int))) × (Int × (Int × Bool))))))) (fun (y7, y8, y9, y10, y11, y12, y13) =>
      bif y13 then
       some 2
      else
       bnd (c_fill_edges (y9.1, y9.2.1, y9.2.2)) fun r14 =>
       loopN (α := (((List (Int × Int)) × ((List (Int × (Int × Int))) × (List (Int × Int)))) × ((List ((Int × Int) × Bool)) × ((List (Int × (Int × Int))) × (Int × (Int × (((Int × Int) × ((Int × Int) × (Int × Int))) × Int))))))) (fun (x16, x17, x18, x19, x20, x21, x22) next15 =>
        bif decide (x22 < 3) then
         meet (α := (((List (Int × Int)) × ((List (Int × (Int × Int))) × (List (Int × Int)))) × ((List ((Int × Int) × Bool)) × ((Int × Int) × ((List (Int × (Int × Int))) × (Int × (Int × (((Int × Int) × ((Int × Int) × (Int × Int))) × Int)))))))) (fun (y23, y24, y25, y26, y27, y28, y29, y30) =>
          bif toT Bool (lkM (.pair (.int .i64) (.int .i64)) .bool y24 (y25.1, y25.2)) then
           some 2
          else
           gd (!(hsM (.pair (.int .i64) (.int .i64)) .bool y24 (y25.1, y25.2))) <|
           next15 ((y23.1, y23.2.1, y23.2.2), adM (.pair (.int .i64) (.int .i64)) .bool y24 (y25.1, y25.2) true, y26, y27, y28, ((y29.1.1, y29.1.2), (y29.2.1.1, y29.2.1.2), y29.2.2.1, y29.2.2.2), w64 (y30 + 1))) fun j31 =>
         bif decide (x22 = 0) then
          j31 ((x16.1, x16.2.1, x16.2.2), x17, (x21.1.1, x21.1.2), x18, x19, x20, ((x21.1.1, x21.1.2), (x21.2.1.1, x21.2.1.2), x21.2.2.1, x21.2.2.2), x22)
         else
          bif decide (x22 = 1) then
           j31 ((x16.1, x16.2.1, x16.2.2), x17, (x21.2.1.1, x21.2.1.2), x18, x19, x20, ((x21.1.1, x21.1.2), (x21.2.1.1, x21.2.1.2), x21.2.2.1, x21.2.2.2), x22)
          else
           bif decide (x22 = 2) then
            j31 ((x16.1, x16.2.1, x16.2.2), x17, (x21.2.2.1, x21.2.2.2), x18, x19, x20, ((x21.1.1, x21.1.2), (x21.2.1.1, x21.2.1.2), x21.2.2.1, x21.2.2.2), x22)
           else
            none
        else
         next0 ((x16.1, x16.2.1, x16.2.2), x17, x18, x19, w64 (x20 + 1))) k ((y7.1, y7.2.1, y7.2.2), y8, y10, y11, y12, ((r14.1.1, r14.1.2), (r14.2.1.1, r14.2.1.2), r14.2.2.1, r14.2.2.2), 0)) fun j32 =>
     bif !r6.2 then
      j32 ((x1.1, x1.2.1, x1.2.2), x2, ((rdD (0, 0, 0) x3 x5).1, (rdD (0, 0, 0) x3 x5).2.1, (rdD (0, 0, 0) x3 x5).2.2), x3, x4, x5, true)
     else
      bif !((decide (r6.1.1 = (rdD (0, 0, 0) x3 x5).1)) && ((decide (r6.1.2.1 = (rdD (0, 0, 0) x3 x5).2.1)) && (decide (r6.1.2.2 = (rdD (0, 0, 0) x3 x5).2.2)))) then
       j32 ((x1.1, x1.2.1, x1.2.2), x2, ((rdD (0, 0, 0) x3 x5).1, (rdD (0, 0, 0) x3 x5).2.1, (rdD (0, 0, 0) x3 x5).2.2), x3, x4, x5, true)
      else
       bif decide (x5 > 0) then
        gd (inb (w64 (x5 - 1)) x1.2.1.length) <|
        bnd (c_fill_byTri ((rdD (0, 0, 0) x1.2.1 (w64 (x5 - 1))).1, (rdD (0, 0, 0) x1.2.1 (w64 (x5 - 1))).2.1, (rdD (0, 0, 0) x1.2.1 (w64 (x5 - 1))).2.2) ((rdD (0, 0, 0) x3 x5).1, (rdD (0, 0, 0) x3 x5).2.1, (rdD (0, 0, 0) x3 x5).2.2)) fun r33 =>
        j32 ((x1.1, x1.2.1, x1.2.2), x2, ((rdD (0, 0, 0) x3 x5).1, (rdD (0, 0, 0) x3 x5).2.1, (rdD (0, 0, 0) x3 x5).2.2), x3, x4, x5, decide (r33 ≥ 0))
       else
        j32 ((x1.1, x1.2.1, x1.2.2), x2, ((rdD (0, 0, 0) x3 x5).1, (rdD (0, 0, 0) x3 x5).2.1, (rdD (0, 0, 0) x3 x5).2.2), x3, x4, x5, false)
    else
     loopN (α := (((List (Int × Int)) × ((List (Int × (Int × Int))) × (List (Int × Int)))) × ((List ((Int × Int) × Bool)) × ((List ((Int × Int) × Bool)) × ((List (Int × Int)) × (Int × Int)))))) (fun (x35, x36, x37, x38, x39, x40) next34 =>
      bif decide (x40 < x39) then
       gd (inb x40 x38.length) <|
       meet (α := (((List (Int × Int)) × ((List (Int × (Int × Int))) × (List (Int × Int)))) × ((List ((Int × Int) × Bool)) × ((List ((Int × Int) × Bool)) × ((Int × Int) × ((List (Int × Int)) × (Int × (Int × Bool)))))))) (fun (y41, y42, y43, y44, y45, y46, y47, y48) =>
        bif y48 then
         some 2
        else
         gd (!(hsM (.pair (.int .i64) (.int .i64)) .bool y43 (y44.1, y44.2))) <|
         next34 ((y41.1, y41.2.1, y41.2.2), y42, adM (.pair (.int .i64) (.int .i64)) .bool y43 (y44.1, y44.2) true, y45, y46, w64 (y47 + 1))) fun j49 =>
       bif decide ((rdD (0, 0) x38 x40).1 ≥ (rdD (0, 0) x38 x40).2) then
        j49 ((x35.1, x35.2.1, x35.2.2), x36, x37, ((rdD (0, 0) x38 x40).1, (rdD (0, 0) x38 x40).2), x38, x39, x40, true)
       else
        bif decide (x40 > 0) then
         gd (inb (w64 (x40 - 1)) x35.2.2.length) <|
         bnd (c_fill_bySeg ((rdD (0, 0) x35.2.2 (w64 (x40 - 1))).1, (rdD (0, 0) x35.2.2 (w64 (x40 - 1))).2) ((rdD (0, 0) x38 x40).1, (rdD (0, 0) x38 x40).2)) fun r50 =>
         bif decide (r50 ≥ 0) then
          j49 ((x35.1, x35.2.1, x35.2.2), x36, x37, ((rdD (0, 0) x38 x40).1, (rdD (0, 0) x38 x40).2), x38, x39, x40, true)
         else
          bif !(toT Bool (lkM (.pair (.int .i64) (.int .i64)) .bool x36 ((rdD (0, 0) x38 x40).1, (rdD (0, 0) x38 x40).2))) then
           j49 ((x35.1, x35.2.1, x35.2.2), x36, x37, ((rdD (0, 0) x38 x40).1, (rdD (0, 0) x38 x40).2), x38, x39, x40, !(toT Bool (lkM (.pair (.int .i64) (.int .i64)) .bool x36 ((rdD (0, 0) x38 x40).2, (rdD (0, 0) x38 x40).1))))
          else
           j49 ((x35.1, x35.2.1, x35.2.2), x36, x37, ((rdD (0, 0) x38 x40).1, (rdD (0, 0) x38 x40).2), x38, x39, x40, false)
        else
         bif !(toT Bool (lkM (.pair (.int .i64) (.int .i64)) .bool x36 ((rdD (0, 0) x38 x40).1, (rdD (0, 0) x38 x40).2))) then
          j49 ((x35.1, x35.2.1, x35.2.2), x36, x37, ((rdD (0, 0) x38 x40).1, (rdD (0, 0) x38 x40).2), x38, x39, x40, !(toT Bool (lkM (.pair (.int .i64) (.int .i64)) .bool x36 ((rdD (0, 0) x38 x40).2, (rdD (0, 0) x38 x40).1))))
         else
          j49 ((x35.1, x35.2.1, x35.2.2), x36, x37, ((rdD (0, 0) x38 x40).1, (rdD (0, 0) x38 x40).2), x38, x39, x40, false)
      else
       loopN (α := ((List ((Int × Int) × Bool)) × ((List ((Int × Int) × Bool)) × (List ((Int × Int) × Bool))))) (fun (x52, x53, x54) next51 =>
        nxt x54 (
         some 0) (fun (e56, e57) r55 =>
         meet (α := ((List ((Int × Int) × Bool)) × ((List ((Int × Int) × Bool)) × ((List ((Int × Int) × Bool)) × Bool)))) (fun (y58, y59, y60, y61) =>
          bif y61 then
           some 2
          else
           next51 (y58, y59, y60)) fun j62 =>
         bif !(toT Bool (lkM (.pair (.int .i64) (.int .i64)) .bool x52 (e56.2, e56.1))) then
          bnd (c_fill_up (e56.1, e56.2)) fun r63 =>
          j62 (x52, x53, r55, !(toT Bool (lkM (.pair (.int .i64) (.int .i64)) .bool x53 (r63.1, r63.2))))
         else
          j62 (x52, x53, r55, false))) k (x36, x37, x36)) k ((x1.1, x1.2.1, x1.2.2), x2, [], x1.2.2, (x1.2.2.length : Int), 0)) k ((a0.1, a0.2.1, a0.2.2), [], a0.2.1, (a0.2.1.length : Int), 0)
theorem eq_fill_Check (k : Nat) (c_fill_Tri : (List (Int × Int)) → Int → Int → Int → Option ((Int × (Int × Int)) × Bool)) (c_fill_byTri : (Int × (Int × Int)) → (Int × (Int × Int)) → Option Int) (c_fill_edges : (Int × (Int × Int)) → Option ((Int × Int) × ((Int × Int) × (Int × Int)))) (c_fill_bySeg : (Int × Int) → (Int × Int) → Option Int) (c_fill_up : (Int × Int) → Option (Int × Int)) (a0 : ((List (Int × Int)) × ((List (Int × (Int × Int))) × (List (Int × Int))))) : textF [⟨40, [.d (.sl (.pair kI kI)), .d kI, .d kI, .d kI], [.pair kI (.pair kI kI), .bool], fun x => c_fill_Tri (x.1) (x.2.1) (x.2.2.1) (x.2.2.2), none⟩, ⟨57, [.d (.pair kI (.pair kI kI)), .d (.pair kI (.pair kI kI))], [kI], fun x => c_fill_byTri (x.1) (x.2), none⟩, ⟨60, [.d (.pair kI (.pair kI kI))], [.pair (.pair kI kI) (.pair (.pair kI kI) (.pair kI kI))], fun x => c_fill_edges x, none⟩, ⟨49, [.d (.pair kI kI), .d (.pair kI kI)], [kI], fun x => c_fill_bySeg (x.1) (x.2), none⟩, ⟨61, [.d (.pair kI kI)], [.pair kI kI], fun x => c_fill_up x, none⟩] tb k Tryz.f21 an_fill_Check [.d (.pair (.sl (.pair kI kI)) (.pair (.sl (.pair kI (.pair kI kI))) (.sl (.pair kI kI))))] [kI] a0 = b_fill_Check k c_fill_Tri c_fill_byTri c_fill_edges c_fill_bySeg c_fill_up a0 := by kernel_rfl
def g_fill_Check (k : Nat) (a0 : ((List (Int × Int)) × ((List (Int × (Int × Int))) × (List (Int × Int))))) : Option Int := b_fill_Check k (g_fill_Tri k) (g_fill_byTri k) (g_fill_edges k) (g_fill_bySeg k) (g_fill_up k) a0
theorem tells_fill_Check (k : Nat) : TellsF Tryz.prog 21 [.d (.pair (.sl (.pair kI kI)) (.pair (.sl (.pair kI (.pair kI kI))) (.sl (.pair kI kI))))] [kI] (fun x => g_fill_Check k x) := fun x y h => fun_tells tb_ok mix (es := [⟨40, [.d (.sl (.pair kI kI)), .d kI, .d kI, .d kI], [.pair kI (.pair kI kI), .bool], fun x => g_fill_Tri k (x.1) (x.2.1) (x.2.2.1) (x.2.2.2), none⟩, ⟨57, [.d (.pair kI (.pair kI kI)), .d (.pair kI (.pair kI kI))], [kI], fun x => g_fill_byTri k (x.1) (x.2), none⟩, ⟨60, [.d (.pair kI (.pair kI kI))], [.pair (.pair kI kI) (.pair (.pair kI kI) (.pair kI kI))], fun x => g_fill_edges k x, none⟩, ⟨49, [.d (.pair kI kI), .d (.pair kI kI)], [kI], fun x => g_fill_bySeg k (x.1) (x.2), none⟩, ⟨61, [.d (.pair kI kI)], [.pair kI kI], fun x => g_fill_up k x, none⟩]) (EsOk.cons (EntryOk.of rfl (tells_fill_Tri k)) (EsOk.cons (EntryOk.of rfl (tells_fill_byTri k)) (EsOk.cons (EntryOk.of rfl (tells_fill_edges k)) (EsOk.cons (EntryOk.of rfl (tells_fill_bySeg k)) (EsOk.cons (EntryOk.of rfl (tells_fill_up k)) (EsOk.nil _)))))) Tryz.func21 (N := k) (an := an_fill_Check) (by kernel_rfl) x y ((eq_fill_Check k (g_fill_Tri k) (g_fill_byTri k) (g_fill_edges k) (g_fill_bySeg k) (g_fill_up k) x).trans h)

def an_parquetlaw12_known : Ann := .node none none .leaf (.node none none .leaf (.node none none .leaf (.node none none .leaf (.node none none .leaf (.node none none (.node (some [(0, .d .bool)]) none .leaf .leaf) .leaf)))))
def b_parquetlaw12_known (k : Nat) (c_fill_Edges : ((List (Int × Int)) × ((List (Int × Int)) × (List (Int × Int)))) → Option ((List (Int × Int)) × Int)) (c_fill_Make : ((List (Int × Int)) × ((List (Int × Int)) × (List (Int × Int)))) → Option (((List (Int × Int)) × ((List (Int × (Int × Int))) × (List (Int × Int)))) × Int)) (c_parquetref05_SameSegs : (List (Int × Int)) → (List (Int × Int)) → Option Bool) (c_parquetref12_SameTris : (List (Int × (Int × Int))) → (List (Int × (Int × Int))) → Option Bool) (c_fill_Check : ((List (Int × Int)) × ((List (Int × (Int × Int))) × (List (Int × Int)))) → Option Int) : Option Bool :=
  bnd (c_fill_Edges ([(0, 0), (4, 0), (4, 4), (0, 4)], [(0, 1), (1, 2), (2, 3), (3, 0)], [])) fun r0 =>
   bnd (c_fill_Make ([(0, 0), (4, 0), (4, 4), (0, 4)], [(0, 1), (1, 2), (2, 3), (3, 0)], [])) fun r1 =>
   bnd (c_fill_Make ([], [], [])) fun r2 =>
   meet (α := Bool) (fun y3 =>
    some y3) fun j4 =>
   bnd (c_parquetref05_SameSegs r0.1 [(0, 1), (0, 2), (0, 3), (1, 2), (2, 3)]) fun r5 =>
   bif r5 then
    bif decide (r0.2 = 0) then
     bnd (c_parquetref12_SameTris r1.1.2.1 [(0, 1, 2), (0, 2, 3)]) fun r6 =>
     bif r6 then
      bif decide (r1.2 = 0) then
       bnd (c_fill_Check (r1.1.1, r1.1.2.1, r1.1.2.2)) fun r7 =>
       bif decide (r7 = 0) then
        j4 (decide (r2.2 = 2))
       else
        j4 false
      else
       j4 false
     else
      j4 false
    else
     j4 false
   else
    j4 false
theorem eq_parquetlaw12_known (k : Nat) (c_fill_Edges : ((List (Int × Int)) × ((List (Int × Int)) × (List (Int × Int)))) → Option ((List (Int × Int)) × Int)) (c_fill_Make : ((List (Int × Int)) × ((List (Int × Int)) × (List (Int × Int)))) → Option (((List (Int × Int)) × ((List (Int × (Int × Int))) × (List (Int × Int)))) × Int)) (c_parquetref05_SameSegs : (List (Int × Int)) → (List (Int × Int)) → Option Bool) (c_parquetref12_SameTris : (List (Int × (Int × Int))) → (List (Int × (Int × Int))) → Option Bool) (c_fill_Check : ((List (Int × Int)) × ((List (Int × (Int × Int))) × (List (Int × Int)))) → Option Int) : textF [⟨13, [.d (.pair (.sl (.pair kI kI)) (.pair (.sl (.pair kI kI)) (.sl (.pair kI kI))))], [.sl (.pair kI kI), kI], fun x => c_fill_Edges x, none⟩, ⟨15, [.d (.pair (.sl (.pair kI kI)) (.pair (.sl (.pair kI kI)) (.sl (.pair kI kI))))], [.pair (.sl (.pair kI kI)) (.pair (.sl (.pair kI (.pair kI kI))) (.sl (.pair kI kI))), kI], fun x => c_fill_Make x, none⟩, ⟨17, [.d (.sl (.pair kI kI)), .d (.sl (.pair kI kI))], [.bool], fun x => c_parquetref05_SameSegs (x.1) (x.2), none⟩, ⟨44, [.d (.sl (.pair kI (.pair kI kI))), .d (.sl (.pair kI (.pair kI kI)))], [.bool], fun x => c_parquetref12_SameTris (x.1) (x.2), none⟩, ⟨21, [.d (.pair (.sl (.pair kI kI)) (.pair (.sl (.pair kI (.pair kI kI))) (.sl (.pair kI kI))))], [kI], fun x => c_fill_Check x, none⟩] tb k Tryz.f11 an_parquetlaw12_known [] [.bool] () = b_parquetlaw12_known k c_fill_Edges c_fill_Make c_parquetref05_SameSegs c_parquetref12_SameTris c_fill_Check := by kernel_rfl
def g_parquetlaw12_known (k : Nat) : Option Bool := b_parquetlaw12_known k (g_fill_Edges k) (g_fill_Make k) (g_parquetref05_SameSegs k) (g_parquetref12_SameTris k) (g_fill_Check k)
theorem tells_parquetlaw12_known (k : Nat) : TellsF Tryz.prog 11 [] [.bool] (fun x => g_parquetlaw12_known k) := fun x y h => fun_tells tb_ok mix (es := [⟨13, [.d (.pair (.sl (.pair kI kI)) (.pair (.sl (.pair kI kI)) (.sl (.pair kI kI))))], [.sl (.pair kI kI), kI], fun x => g_fill_Edges k x, none⟩, ⟨15, [.d (.pair (.sl (.pair kI kI)) (.pair (.sl (.pair kI kI)) (.sl (.pair kI kI))))], [.pair (.sl (.pair kI kI)) (.pair (.sl (.pair kI (.pair kI kI))) (.sl (.pair kI kI))), kI], fun x => g_fill_Make k x, none⟩, ⟨17, [.d (.sl (.pair kI kI)), .d (.sl (.pair kI kI))], [.bool], fun x => g_parquetref05_SameSegs k (x.1) (x.2), none⟩, ⟨44, [.d (.sl (.pair kI (.pair kI kI))), .d (.sl (.pair kI (.pair kI kI)))], [.bool], fun x => g_parquetref12_SameTris k (x.1) (x.2), none⟩, ⟨21, [.d (.pair (.sl (.pair kI kI)) (.pair (.sl (.pair kI (.pair kI kI))) (.sl (.pair kI kI))))], [kI], fun x => g_fill_Check k x, none⟩]) (EsOk.cons (EntryOk.of rfl (tells_fill_Edges k)) (EsOk.cons (EntryOk.of rfl (tells_fill_Make k)) (EsOk.cons (EntryOk.of rfl (tells_parquetref05_SameSegs k)) (EsOk.cons (EntryOk.of rfl (tells_parquetref12_SameTris k)) (EsOk.cons (EntryOk.of rfl (tells_fill_Check k)) (EsOk.nil _)))))) Tryz.func11 (N := k) (an := an_parquetlaw12_known) (by kernel_rfl) x y ((eq_parquetlaw12_known k (g_fill_Edges k) (g_fill_Make k) (g_parquetref05_SameSegs k) (g_parquetref12_SameTris k) (g_fill_Check k)).trans h)

def an_parquetref03_Fits : Ann := .node none none .leaf (.node none none (.node (some [(2, .d .bool)]) none .leaf .leaf) .leaf)
def g_parquetref03_Fits (k : Nat) (a0 : (Int × Int)) : Option Bool :=
  meet (α := Bool) (fun y0 =>
    some y0) fun j1 =>
   bif decide (a0.1 ≥ (-4294967296)) then
    bif decide (a0.1 ≤ 4294967296) then
     bif decide (a0.2 ≥ (-4294967296)) then
      j1 (decide (a0.2 ≤ 4294967296))
     else
      j1 false
    else
     j1 false
   else
    j1 false
theorem eq_parquetref03_Fits (k : Nat) (a0 : (Int × Int)) : textF [] tb k Tryz.f72 an_parquetref03_Fits [.d (.pair kI kI)] [.bool] a0 = g_parquetref03_Fits k a0 := by kernel_rfl
theorem tells_parquetref03_Fits (k : Nat) : TellsF Tryz.prog 72 [.d (.pair kI kI)] [.bool] (fun x => g_parquetref03_Fits k x) := fun x y h => fun_tells tb_ok mix (es := []) (EsOk.nil _) Tryz.func72 (N := k) (an := an_parquetref03_Fits) (by kernel_rfl) x y ((eq_parquetref03_Fits k x).trans h)

def an_parquetref01_trim : Ann := .node none none .leaf (.node none none .leaf (.node none none (.node none none (.node none (some [(0, .d .bool), (1, .d (.sl kI)), (4, .box [.d .bool, .row kI 3]), (5, .d kI)]) (.node none none (.node none none (.node (some [(0, .d .bool), (1, .d (.sl kI)), (4, .box [.d .bool, .row kI 3]), (5, .d kI), (17, .d .bool)]) none .leaf .leaf) .leaf) .leaf) .leaf) .leaf) (.node none none (.node (some [(4, .box [.d (.pair .bool (.sl kI))])]) none .leaf .leaf) .leaf)))
def g_parquetref01_trim (k : Nat) (a0 : Bool) (a1 : (List Int)) : Option (Bool × (List Int)) :=
  loopN (α := (Bool × ((List Int) × ((Bool × (List Int)) × Int)))) (fun (x1, x2, x3, x4) next0 =>
    meet (α := (Bool × ((List Int) × ((Bool × (List Int)) × (Int × Bool))))) (fun (y5, y6, y7, y8, y9) =>
     bif y9 then
      next0 (y5, y6, (y7.1, y7.2), w64 (y8 - 1))
     else
      meet (α := (Bool × (List Int))) (fun (y10, y11) =>
       some (y10, y11)) fun j12 =>
      bif y5 then
       gd (decide (0 ≤ y8)) <|
       gd (decide (y8 ≤ (y6.length : Int))) <|
       j12 (decide (y8 > 0), tkL y6 y8)
      else
       gd (decide (0 ≤ y8)) <|
       gd (decide (y8 ≤ (y6.length : Int))) <|
       j12 (false, tkL y6 y8)) fun j13 =>
    bif decide (x4 > 0) then
     gd (inb (w64 (x4 - 1)) x2.length) <|
     j13 (x1, x2, (x3.1, x3.2), x4, decide ((rdD 0 x2 (w64 (x4 - 1))) = 0))
    else
     j13 (x1, x2, (x3.1, x3.2), x4, false)) k (a0, a1, (false, []), (a1.length : Int))
theorem eq_parquetref01_trim (k : Nat) (a0 : Bool) (a1 : (List Int)) : textF [] tb k Tryz.f98 an_parquetref01_trim [.d .bool, .d (.sl kI)] [.pair .bool (.sl kI)] (a0, a1) = g_parquetref01_trim k a0 a1 := by kernel_rfl
theorem tells_parquetref01_trim (k : Nat) : TellsF Tryz.prog 98 [.d .bool, .d (.sl kI)] [.pair .bool (.sl kI)] (fun x => g_parquetref01_trim k (x.1) (x.2)) := fun x y h => fun_tells tb_ok mix (es := []) (EsOk.nil _) Tryz.func98 (N := k) (an := an_parquetref01_trim) (by kernel_rfl) x y ((eq_parquetref01_trim k (x.1) (x.2)).trans h)

def an_parquetref01_Small : Ann := .node none none .leaf (.node none none .leaf (.node none none .leaf (.node none none (.node none none (.node none (some [(0, .d kI), (2, .box [.d .bool, .row kI 3]), (3, .row kI 3), (4, .d kI)]) (.node none none .leaf (.node none none (.node none none .leaf (.node none none (.node none none .leaf (.node (some [(0, .d kI), (2, .box [.d .bool, .row kI 3]), (3, .row kI 3), (4, .d kI), (5, .d kI)]) none .leaf .leaf)) .leaf)) .leaf)) .leaf) .leaf) .leaf)))
def b_parquetref01_Small (k : Nat) (c_parquetref01_trim : Bool → (List Int) → Option (Bool × (List Int))) (a0 : Int) : Option (Bool × (List Int)) :=
  loopN (α := (Int × ((Bool × (List Int)) × ((List Int) × Int)))) (fun (x1, x2, x3, x4) next0 =>
    bif !(decide (x4 = 0)) then
     meet (α := (Int × ((Bool × (List Int)) × ((List Int) × (Int × Int))))) (fun (y5, y6, y7, y8, y9) =>
      gd (few (y7.length + 1)) <|
      next0 (y5, (y6.1, y6.2), y7 ++ [y9], w64 (y8.tdiv 65536))) fun j10 =>
     bif decide ((x4.tmod 65536) < 0) then
      j10 (x1, (x2.1, x2.2), x3, x4, w64 (0 - (x4.tmod 65536)))
     else
      j10 (x1, (x2.1, x2.2), x3, x4, x4.tmod 65536)
    else
     bnd (c_parquetref01_trim (decide (x1 < 0)) x3) fun r11 =>
     some (r11.1, r11.2)) k (a0, (false, []), [], a0)
theorem eq_parquetref01_Small (k : Nat) (c_parquetref01_trim : Bool → (List Int) → Option (Bool × (List Int))) (a0 : Int) : textF [⟨98, [.d .bool, .d (.sl kI)], [.pair .bool (.sl kI)], fun x => c_parquetref01_trim (x.1) (x.2), none⟩] tb k Tryz.f102 an_parquetref01_Small [.d kI] [.pair .bool (.sl kI)] a0 = b_parquetref01_Small k c_parquetref01_trim a0 := by kernel_rfl
def g_parquetref01_Small (k : Nat) (a0 : Int) : Option (Bool × (List Int)) := b_parquetref01_Small k (g_parquetref01_trim k) a0
theorem tells_parquetref01_Small (k : Nat) : TellsF Tryz.prog 102 [.d kI] [.pair .bool (.sl kI)] (fun x => g_parquetref01_Small k x) := fun x y h => fun_tells tb_ok mix (es := [⟨98, [.d .bool, .d (.sl kI)], [.pair .bool (.sl kI)], fun x => g_parquetref01_trim k (x.1) (x.2), none⟩]) (EsOk.cons (EntryOk.of rfl (tells_parquetref01_trim k)) (EsOk.nil _)) Tryz.func102 (N := k) (an := an_parquetref01_Small) (by kernel_rfl) x y ((eq_parquetref01_Small k (g_parquetref01_trim k) x).trans h)

def an_parquetref03_num : Ann := .leaf
def b_parquetref03_num (k : Nat) (c_parquetref01_Small : Int → Option (Bool × (List Int))) (a0 : Int) : Option (Bool × (List Int)) :=
  bnd (c_parquetref01_Small a0) fun r0 =>
   some (r0.1, r0.2)
theorem eq_parquetref03_num (k : Nat) (c_parquetref01_Small : Int → Option (Bool × (List Int))) (a0 : Int) : textF [⟨102, [.d kI], [.pair .bool (.sl kI)], fun x => c_parquetref01_Small x, none⟩] tb k Tryz.f101 an_parquetref03_num [.d kI] [.pair .bool (.sl kI)] a0 = b_parquetref03_num k c_parquetref01_Small a0 := by kernel_rfl
def g_parquetref03_num (k : Nat) (a0 : Int) : Option (Bool × (List Int)) := b_parquetref03_num k (g_parquetref01_Small k) a0
theorem tells_parquetref03_num (k : Nat) : TellsF Tryz.prog 101 [.d kI] [.pair .bool (.sl kI)] (fun x => g_parquetref03_num k x) := fun x y h => fun_tells tb_ok mix (es := [⟨102, [.d kI], [.pair .bool (.sl kI)], fun x => g_parquetref01_Small k x, none⟩]) (EsOk.cons (EntryOk.of rfl (tells_parquetref01_Small k)) (EsOk.nil _)) Tryz.func101 (N := k) (an := an_parquetref03_num) (by kernel_rfl) x y ((eq_parquetref03_num k (g_parquetref01_Small k) x).trans h)

def an_parquetref01_digit : Ann := .leaf
def g_parquetref01_digit (k : Nat) (a0 : (List Int)) (a1 : Int) : Option Int :=
  bif decide (a1 < (a0.length : Int)) then
    gd (inb a1 a0.length) <|
    some (rdD 0 a0 a1)
   else
    some 0
theorem eq_parquetref01_digit (k : Nat) (a0 : (List Int)) (a1 : Int) : textF [] tb k Tryz.f97 an_parquetref01_digit [.d (.sl kI), .d kI] [kI] (a0, a1) = g_parquetref01_digit k a0 a1 := by kernel_rfl
theorem tells_parquetref01_digit (k : Nat) : TellsF Tryz.prog 97 [.d (.sl kI), .d kI] [kI] (fun x => g_parquetref01_digit k (x.1) (x.2)) := fun x y h => fun_tells tb_ok mix (es := []) (EsOk.nil _) Tryz.func97 (N := k) (an := an_parquetref01_digit) (by kernel_rfl) x y ((eq_parquetref01_digit k (x.1) (x.2)).trans h)

def an_parquetref01_Num_Times : Ann := .node none none .leaf (.node none none .leaf (.node none none (.node none none .leaf (.node none none (.node none (some [(2, .box [.d (.pair .bool (.sl kI))]), (3, .box [.d (.pair .bool (.sl kI))]), (4, .box [.d .bool, .row kI 3]), (5, .row kI 3), (6, .d kI)]) (.node none none .leaf (.node none none (.node none none (.node none none .leaf (.node none none .leaf (.node none none (.node none (some [(2, .box [.d (.pair .bool (.sl kI))]), (3, .box [.d (.pair .bool (.sl kI))]), (4, .box [.d .bool, .row kI 3]), (5, .row kI 3), (6, .d kI), (7, .d kI), (8, .d kI)]) (.node none none (.node none none (.node (some [(2, .box [.d (.pair .bool (.sl kI))]), (3, .box [.d (.pair .bool (.sl kI))]), (4, .box [.d .bool, .row kI 3]), (5, .row kI 3), (6, .d kI), (7, .d kI), (8, .d kI), (34, .d .bool)]) none .leaf .leaf) .leaf) .leaf) .leaf) .leaf))) .leaf) .leaf)) .leaf) .leaf)) .leaf))
def b_parquetref01_Num_Times (k : Nat) (c_parquetref01_digit : (List Int) → Int → Option Int) (c_parquetref01_trim : Bool → (List Int) → Option (Bool × (List Int))) (a0 : (Bool × (List Int))) (a1 : (Bool × (List Int))) : Option (Bool × (List Int)) :=
  gd (decide (0 ≤ (w64 ((w64 ((a0.2.length : Int) + (a1.2.length : Int))) + 1)))) <|
   gd (fewI (w64 ((w64 ((a0.2.length : Int) + (a1.2.length : Int))) + 1))) <|
   loopN (α := ((Bool × (List Int)) × ((Bool × (List Int)) × ((Bool × (List Int)) × ((List Int) × Int))))) (fun (x1, x2, x3, x4, x5) next0 =>
    bif decide (x5 < (x1.2.length : Int)) then
     loopN (α := ((Bool × (List Int)) × ((Bool × (List Int)) × ((Bool × (List Int)) × ((List Int) × (Int × (Int × Int))))))) (fun (x7, x8, x9, x10, x11, x12, x13) next6 =>
      meet (α := ((Bool × (List Int)) × ((Bool × (List Int)) × ((Bool × (List Int)) × ((List Int) × (Int × (Int × (Int × Bool)))))))) (fun (y14, y15, y16, y17, y18, y19, y20, y21) =>
       bif y21 then
        gd (inb (w64 (y18 + y20)) y17.length) <|
        gd (inb y18 y14.2.length) <|
        bnd (c_parquetref01_digit y15.2 y20) fun r22 =>
        gd (inb (w64 (y18 + y20)) y17.length) <|
        next6 ((y14.1, y14.2), (y15.1, y15.2), (y16.1, y16.2), stL y17 (w64 (y18 + y20)) ((w64 ((w64 ((rdD 0 y17 (w64 (y18 + y20))) + (w64 ((rdD 0 y14.2 y18) * r22)))) + y19)).tmod 65536), y18, w64 ((w64 ((w64 ((rdD 0 y17 (w64 (y18 + y20))) + (w64 ((rdD 0 y14.2 y18) * r22)))) + y19)).tdiv 65536), w64 (y20 + 1))
       else
        next0 ((y14.1, y14.2), (y15.1, y15.2), (y16.1, y16.2), y17, w64 (y18 + 1))) fun j23 =>
      bif decide (x13 < (x8.2.length : Int)) then
       j23 ((x7.1, x7.2), (x8.1, x8.2), (x9.1, x9.2), x10, x11, x12, x13, true)
      else
       j23 ((x7.1, x7.2), (x8.1, x8.2), (x9.1, x9.2), x10, x11, x12, x13, decide (x12 > 0))) k ((x1.1, x1.2), (x2.1, x2.2), (x3.1, x3.2), x4, x5, 0, 0)
    else
     bnd (c_parquetref01_trim (!(x1.1 == x2.1)) x4) fun r24 =>
     some (r24.1, r24.2)) k ((a0.1, a0.2), (a1.1, a1.2), (false, []), rpL (w64 ((w64 ((a0.2.length : Int) + (a1.2.length : Int))) + 1)) 0, 0)
theorem eq_parquetref01_Num_Times (k : Nat) (c_parquetref01_digit : (List Int) → Int → Option Int) (c_parquetref01_trim : Bool → (List Int) → Option (Bool × (List Int))) (a0 : (Bool × (List Int))) (a1 : (Bool × (List Int))) : textF [⟨97, [.d (.sl kI), .d kI], [kI], fun x => c_parquetref01_digit (x.1) (x.2), none⟩, ⟨98, [.d .bool, .d (.sl kI)], [.pair .bool (.sl kI)], fun x => c_parquetref01_trim (x.1) (x.2), none⟩] tb k Tryz.f103 an_parquetref01_Num_Times [.d (.pair .bool (.sl kI)), .d (.pair .bool (.sl kI))] [.pair .bool (.sl kI)] (a0, a1) = b_parquetref01_Num_Times k c_parquetref01_digit c_parquetref01_trim a0 a1 := by kernel_rfl
def g_parquetref01_Num_Times (k : Nat) (a0 : (Bool × (List Int))) (a1 : (Bool × (List Int))) : Option (Bool × (List Int)) := b_parquetref01_Num_Times k (g_parquetref01_digit k) (g_parquetref01_trim k) a0 a1
theorem tells_parquetref01_Num_Times (k : Nat) : TellsF Tryz.prog 103 [.d (.pair .bool (.sl kI)), .d (.pair .bool (.sl kI))] [.pair .bool (.sl kI)] (fun x => g_parquetref01_Num_Times k (x.1) (x.2)) := fun x y h => fun_tells tb_ok mix (es := [⟨97, [.d (.sl kI), .d kI], [kI], fun x => g_parquetref01_digit k (x.1) (x.2), none⟩, ⟨98, [.d .bool, .d (.sl kI)], [.pair .bool (.sl kI)], fun x => g_parquetref01_trim k (x.1) (x.2), none⟩]) (EsOk.cons (EntryOk.of rfl (tells_parquetref01_digit k)) (EsOk.cons (EntryOk.of rfl (tells_parquetref01_trim k)) (EsOk.nil _))) Tryz.func103 (N := k) (an := an_parquetref01_Num_Times) (by kernel_rfl) x y ((eq_parquetref01_Num_Times k (g_parquetref01_digit k) (g_parquetref01_trim k) (x.1) (x.2)).trans h)

def an_parquetref01_Num_Neg : Ann := .node none none .leaf (.node none none (.node (some [(2, .box [.d (.pair .bool (.sl kI))])]) none .leaf .leaf) .leaf)
def g_parquetref01_Num_Neg (k : Nat) (a0 : (Bool × (List Int))) : Option (Bool × (List Int)) :=
  meet (α := (Bool × (List Int))) (fun (y0, y1) =>
    some (y0, y1)) fun j2 =>
   bif !a0.1 then
    j2 (decide ((a0.2.length : Int) > 0), a0.2)
   else
    j2 (false, a0.2)
theorem eq_parquetref01_Num_Neg (k : Nat) (a0 : (Bool × (List Int))) : textF [] tb k Tryz.f66 an_parquetref01_Num_Neg [.d (.pair .bool (.sl kI))] [.pair .bool (.sl kI)] a0 = g_parquetref01_Num_Neg k a0 := by kernel_rfl
theorem tells_parquetref01_Num_Neg (k : Nat) : TellsF Tryz.prog 66 [.d (.pair .bool (.sl kI))] [.pair .bool (.sl kI)] (fun x => g_parquetref01_Num_Neg k x) := fun x y h => fun_tells tb_ok mix (es := []) (EsOk.nil _) Tryz.func66 (N := k) (an := an_parquetref01_Num_Neg) (by kernel_rfl) x y ((eq_parquetref01_Num_Neg k x).trans h)

def an_parquetref01_size : Ann := .node none none .leaf (.node none none .leaf (.node none none (.node none none .leaf (.node none none (.node none (some [(0, .d (.sl kI)), (1, .d (.sl kI)), (5, .d kI)]) .leaf .leaf) .leaf)) .leaf))
def g_parquetref01_size (k : Nat) (a0 : (List Int)) (a1 : (List Int)) : Option Int :=
  bif !(decide ((a0.length : Int) = (a1.length : Int))) then
    some (w64 ((a0.length : Int) - (a1.length : Int)))
   else
    loopN (α := ((List Int) × ((List Int) × Int))) (fun (x1, x2, x3) next0 =>
     bif decide (x3 ≥ 0) then
      gd (inb x3 x1.length) <|
      gd (inb x3 x2.length) <|
      bif !(decide ((rdD 0 x1 x3) = (rdD 0 x2 x3))) then
       gd (inb x3 x1.length) <|
       gd (inb x3 x2.length) <|
       some (w64 ((rdD 0 x1 x3) - (rdD 0 x2 x3)))
      else
       next0 (x1, x2, w64 (x3 - 1))
     else
      some 0) k (a0, a1, w64 ((a0.length : Int) - 1))
theorem eq_parquetref01_size (k : Nat) (a0 : (List Int)) (a1 : (List Int)) : textF [] tb k Tryz.f99 an_parquetref01_size [.d (.sl kI), .d (.sl kI)] [kI] (a0, a1) = g_parquetref01_size k a0 a1 := by kernel_rfl
theorem tells_parquetref01_size (k : Nat) : TellsF Tryz.prog 99 [.d (.sl kI), .d (.sl kI)] [kI] (fun x => g_parquetref01_size k (x.1) (x.2)) := fun x y h => fun_tells tb_ok mix (es := []) (EsOk.nil _) Tryz.func99 (N := k) (an := an_parquetref01_size) (by kernel_rfl) x y ((eq_parquetref01_size k (x.1) (x.2)).trans h)

def an_parquetref01_Num_Plus : Ann := .node none none .leaf (.node none none .leaf (.node none none .leaf (.node none none (.node none none .leaf (.node none none (.node none none (.node none none .leaf (.node none none (.node none (some [(2, .box [.d (.pair .bool (.sl kI))]), (3, .box [.d (.pair .bool (.sl kI))]), (4, .box [.d .bool, .row kI 3]), (5, .row kI 3), (6, .d kI), (7, .d kI)]) (.node none none (.node none none (.node (some [(2, .box [.d (.pair .bool (.sl kI))]), (3, .box [.d (.pair .bool (.sl kI))]), (4, .box [.d .bool, .row kI 3]), (5, .row kI 3), (6, .d kI), (7, .d kI), (33, .d .bool)]) none .leaf .leaf) .leaf) .leaf) .leaf) .leaf)) .leaf) .leaf)) (.node none none .leaf (.node none none .leaf (.node none none (.node none none .leaf (.node (some [(4, .box [.d .bool, .row kI 3]), (5, .row kI 3), (6, .d kI), (9, .box [.d (.pair .bool (.sl kI))]), (10, .box [.d (.pair .bool (.sl kI))])]) none .leaf .leaf)) (.node none none (.node none none .leaf (.node none none (.node none (some [(4, .box [.d .bool, .row kI 3]), (5, .row kI 3), (6, .d kI), (9, .box [.d (.pair .bool (.sl kI))]), (10, .box [.d (.pair .bool (.sl kI))]), (11, .d kI)]) (.node none none .leaf (.node none none (.node none none (.node none none .leaf (.node none none .leaf (.node none none (.node none none .leaf (.node (some [(4, .box [.d .bool, .row kI 3]), (5, .row kI 3), (6, .d kI), (9, .box [.d (.pair .bool (.sl kI))]), (10, .box [.d (.pair .bool (.sl kI))]), (11, .d kI), (12, .d kI)]) none .leaf .leaf)) .leaf))) .leaf) .leaf)) .leaf) .leaf)) .leaf)))))))
def b_parquetref01_Num_Plus (k : Nat) (c_parquetref01_digit : (List Int) → Int → Option Int) (c_parquetref01_trim : Bool → (List Int) → Option (Bool × (List Int))) (c_parquetref01_size : (List Int) → (List Int) → Option Int) (a0 : (Bool × (List Int))) (a1 : (Bool × (List Int))) : Option (Bool × (List Int)) :=
  bif a0.1 == a1.1 then
    loopN (α := ((Bool × (List Int)) × ((Bool × (List Int)) × ((Bool × (List Int)) × ((List Int) × (Int × Int)))))) (fun (x1, x2, x3, x4, x5, x6) next0 =>
     meet (α := ((Bool × (List Int)) × ((Bool × (List Int)) × ((Bool × (List Int)) × ((List Int) × (Int × (Int × Bool))))))) (fun (y7, y8, y9, y10, y11, y12, y13) =>
      bif y13 then
       bnd (c_parquetref01_digit y7.2 y12) fun r14 =>
       bnd (c_parquetref01_digit y8.2 y12) fun r15 =>
       gd (few (y10.length + 1)) <|
       next0 ((y7.1, y7.2), (y8.1, y8.2), (y9.1, y9.2), y10 ++ [(w64 ((w64 (r14 + r15)) + y11)).tmod 65536], w64 ((w64 ((w64 (r14 + r15)) + y11)).tdiv 65536), w64 (y12 + 1))
      else
       bnd (c_parquetref01_trim y7.1 y10) fun r16 =>
       some (r16.1, r16.2)) fun j17 =>
     bif decide (x6 < (x1.2.length : Int)) then
      j17 ((x1.1, x1.2), (x2.1, x2.2), (x3.1, x3.2), x4, x5, x6, true)
     else
      bif decide (x6 < (x2.2.length : Int)) then
       j17 ((x1.1, x1.2), (x2.1, x2.2), (x3.1, x3.2), x4, x5, x6, true)
      else
       j17 ((x1.1, x1.2), (x2.1, x2.2), (x3.1, x3.2), x4, x5, x6, decide (x5 > 0))) k ((a0.1, a0.2), (a1.1, a1.2), (false, []), [], 0, 0)
   else
    bnd (c_parquetref01_size a0.2 a1.2) fun r18 =>
    meet (α := ((Bool × (List Int)) × ((List Int) × (Int × ((Bool × (List Int)) × (Bool × (List Int))))))) (fun (y19, y20, y21, y22, y23, y24) =>
     loopN (α := ((Bool × (List Int)) × ((List Int) × (Int × ((Bool × (List Int)) × ((Bool × (List Int)) × Int)))))) (fun (x26, x27, x28, x29, x30, x31) next25 =>
      bif decide (x31 < (x29.2.length : Int)) then
       gd (inb x31 x29.2.length) <|
       bnd (c_parquetref01_digit x30.2 x31) fun r32 =>
       meet (α := ((Bool × (List Int)) × ((List Int) × (Int × ((Bool × (List Int)) × ((Bool × (List Int)) × (Int × Int))))))) (fun (y33, y34, y35, y36, y37, y38, y39) =>
        gd (few (y34.length + 1)) <|
        next25 ((y33.1, y33.2), y34 ++ [y39], y35, (y36.1, y36.2), (y37.1, y37.2), w64 (y38 + 1))) fun j40 =>
       bif decide ((w64 ((w64 ((rdD 0 x29.2 x31) - r32)) - x28)) < 0) then
        j40 ((x26.1, x26.2), x27, 1, (x29.1, x29.2), (x30.1, x30.2), x31, w64 ((w64 ((w64 ((rdD 0 x29.2 x31) - r32)) - x28)) + 65536))
       else
        j40 ((x26.1, x26.2), x27, 0, (x29.1, x29.2), (x30.1, x30.2), x31, w64 ((w64 ((rdD 0 x29.2 x31) - r32)) - x28))
      else
       bnd (c_parquetref01_trim x29.1 x27) fun r41 =>
       some (r41.1, r41.2)) k ((y19.1, y19.2), y20, y21, (y22.1, y22.2), (y23, y24), 0)) fun j42 =>
    bif decide (r18 < 0) then
     j42 ((false, []), [], 0, (a1.1, a1.2), a0.1, a0.2)
    else
     j42 ((false, []), [], 0, (a0.1, a0.2), a1.1, a1.2)
theorem eq_parquetref01_Num_Plus (k : Nat) (c_parquetref01_digit : (List Int) → Int → Option Int) (c_parquetref01_trim : Bool → (List Int) → Option (Bool × (List Int))) (c_parquetref01_size : (List Int) → (List Int) → Option Int) (a0 : (Bool × (List Int))) (a1 : (Bool × (List Int))) : textF [⟨97, [.d (.sl kI), .d kI], [kI], fun x => c_parquetref01_digit (x.1) (x.2), none⟩, ⟨98, [.d .bool, .d (.sl kI)], [.pair .bool (.sl kI)], fun x => c_parquetref01_trim (x.1) (x.2), none⟩, ⟨99, [.d (.sl kI), .d (.sl kI)], [kI], fun x => c_parquetref01_size (x.1) (x.2), none⟩] tb k Tryz.f64 an_parquetref01_Num_Plus [.d (.pair .bool (.sl kI)), .d (.pair .bool (.sl kI))] [.pair .bool (.sl kI)] (a0, a1) = b_parquetref01_Num_Plus k c_parquetref01_digit c_parquetref01_trim c_parquetref01_size a0 a1 := by kernel_rfl
def g_parquetref01_Num_Plus (k : Nat) (a0 : (Bool × (List Int))) (a1 : (Bool × (List Int))) : Option (Bool × (List Int)) := b_parquetref01_Num_Plus k (g_parquetref01_digit k) (g_parquetref01_trim k) (g_parquetref01_size k) a0 a1
theorem tells_parquetref01_Num_Plus (k : Nat) : TellsF Tryz.prog 64 [.d (.pair .bool (.sl kI)), .d (.pair .bool (.sl kI))] [.pair .bool (.sl kI)] (fun x => g_parquetref01_Num_Plus k (x.1) (x.2)) := fun x y h => fun_tells tb_ok mix (es := [⟨97, [.d (.sl kI), .d kI], [kI], fun x => g_parquetref01_digit k (x.1) (x.2), none⟩, ⟨98, [.d .bool, .d (.sl kI)], [.pair .bool (.sl kI)], fun x => g_parquetref01_trim k (x.1) (x.2), none⟩, ⟨99, [.d (.sl kI), .d (.sl kI)], [kI], fun x => g_parquetref01_size k (x.1) (x.2), none⟩]) (EsOk.cons (EntryOk.of rfl (tells_parquetref01_digit k)) (EsOk.cons (EntryOk.of rfl (tells_parquetref01_trim k)) (EsOk.cons (EntryOk.of rfl (tells_parquetref01_size k)) (EsOk.nil _)))) Tryz.func64 (N := k) (an := an_parquetref01_Num_Plus) (by kernel_rfl) x y ((eq_parquetref01_Num_Plus k (g_parquetref01_digit k) (g_parquetref01_trim k) (g_parquetref01_size k) (x.1) (x.2)).trans h)

end
end Go.Proofs.YtpkkcjmblocjdaaGreat.AM
