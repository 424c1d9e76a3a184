/- The functions, by their texts: written by a program. -/
import Derived.Test.YtiejhpighhjgiaaGa2
import Derived.Test.YtiejhpighhjgiaaSrt
set_option linter.unusedVariables false
set_option maxRecDepth 100000
namespace Go.Proofs.Ytiejhpighhjgiaa.AM
open Go.RowKit Go.Proofs
noncomputable section
def an_parquetref03_Orient : Ann := .node none none .leaf (.node none none (.node none none (.node (some [(3, .box [.d (.pair kI kI)]), (4, .box [.d (.pair kI kI)]), (5, .box [.d (.pair kI kI)]), (19, .d .bool)]) none .leaf .leaf) .leaf) .leaf)
def b_parquetref03_Orient (k : Nat) (c_parquetref03_Fits : (Int × Int) → Option Bool) (c_parquetref03_Area : (Int × Int) → (Int × Int) → (Int × Int) → Option (Bool × (List Int))) (c_parquetref01_Num_Sign : (Bool × (List Int)) → Option Int) (a0 : (Int × Int)) (a1 : (Int × Int)) (a2 : (Int × Int)) : Option Int :=
  meet (α := ((Int × Int) × ((Int × Int) × ((Int × Int) × Bool)))) (fun (y0, y1, y2, y3) =>
    bif y3 then
     some 0
    else
     bnd (c_parquetref03_Area (y0.1, y0.2) (y1.1, y1.2) (y2.1, y2.2)) fun r4 =>
     bnd (c_parquetref01_Num_Sign (r4.1, r4.2)) fun r5 =>
     some r5) fun j6 =>
   bnd (c_parquetref03_Fits (a0.1, a0.2)) fun r7 =>
   bif !r7 then
    j6 ((a0.1, a0.2), (a1.1, a1.2), (a2.1, a2.2), true)
   else
    bnd (c_parquetref03_Fits (a1.1, a1.2)) fun r8 =>
    bif !r8 then
     j6 ((a0.1, a0.2), (a1.1, a1.2), (a2.1, a2.2), true)
    else
     bnd (c_parquetref03_Fits (a2.1, a2.2)) fun r9 =>
     j6 ((a0.1, a0.2), (a1.1, a1.2), (a2.1, a2.2), !r9)
theorem eq_parquetref03_Orient (k : Nat) (c_parquetref03_Fits : (Int × Int) → Option Bool) (c_parquetref03_Area : (Int × Int) → (Int × Int) → (Int × Int) → Option (Bool × (List Int))) (c_parquetref01_Num_Sign : (Bool × (List Int)) → Option Int) (a0 : (Int × Int)) (a1 : (Int × Int)) (a2 : (Int × Int)) : textF [⟨46, [.d (.pair kI kI)], [.bool], fun x => c_parquetref03_Fits x, none⟩, ⟨48, [.d (.pair kI kI), .d (.pair kI kI), .d (.pair kI kI)], [.pair .bool (.sl kI)], fun x => c_parquetref03_Area (x.1) (x.2.1) (x.2.2), none⟩, ⟨39, [.d (.pair .bool (.sl kI))], [kI], fun x => c_parquetref01_Num_Sign x, none⟩] tb k Try.f50 an_parquetref03_Orient [.d (.pair kI kI), .d (.pair kI kI), .d (.pair kI kI)] [kI] (a0, a1, a2) = b_parquetref03_Orient k c_parquetref03_Fits c_parquetref03_Area c_parquetref01_Num_Sign a0 a1 a2 := by kernel_rfl
def g_parquetref03_Orient (k : Nat) (a0 : (Int × Int)) (a1 : (Int × Int)) (a2 : (Int × Int)) : Option Int := b_parquetref03_Orient k (g_parquetref03_Fits k) (g_parquetref03_Area k) (g_parquetref01_Num_Sign k) a0 a1 a2
theorem tells_parquetref03_Orient (k : Nat) : TellsF Try.prog 50 [.d (.pair kI kI), .d (.pair kI kI), .d (.pair kI kI)] [kI] (fun x => g_parquetref03_Orient k (x.1) (x.2.1) (x.2.2)) := fun x y h => fun_tells tb_ok mix (es := [⟨46, [.d (.pair kI kI)], [.bool], fun x => g_parquetref03_Fits k x, none⟩, ⟨48, [.d (.pair kI kI), .d (.pair kI kI), .d (.pair kI kI)], [.pair .bool (.sl kI)], fun x => g_parquetref03_Area k (x.1) (x.2.1) (x.2.2), none⟩, ⟨39, [.d (.pair .bool (.sl kI))], [kI], fun x => g_parquetref01_Num_Sign k x, none⟩]) (EsOk.cons (EntryOk.of rfl (tells_parquetref03_Fits k)) (EsOk.cons (EntryOk.of rfl (tells_parquetref03_Area k)) (EsOk.cons (EntryOk.of rfl (tells_parquetref01_Num_Sign k)) (EsOk.nil _)))) Try.func50 (N := k) (an := an_parquetref03_Orient) (by kernel_rfl) x y ((eq_parquetref03_Orient k (g_parquetref03_Fits k) (g_parquetref03_Area k) (g_parquetref01_Num_Sign k) (x.1) (x.2.1) (x.2.2)).trans h)

def an_parquetref03_Convex : Ann := .node none none .leaf (.node none none (.node none none .leaf (.node none none (.node none (some [(0, .d (.sl (.pair kI kI))), (3, .d kI)]) (.node none none .leaf (.node none none (.node none none (.node none none .leaf (.node none none (.node none (some [(0, .d (.sl (.pair kI kI))), (3, .d kI), (4, .d kI)]) (.node none none .leaf (.node none none (.node none none (.node none none .leaf (.node none none (.node none (some [(0, .d (.sl (.pair kI kI))), (3, .d kI), (4, .d kI), (5, .d kI)]) .leaf .leaf) .leaf)) .leaf) .leaf)) .leaf) .leaf)) .leaf) .leaf)) .leaf) .leaf)) .leaf)
def b_parquetref03_Convex (k : Nat) (c_parquetref03_Orient : (Int × Int) → (Int × Int) → (Int × Int) → Option Int) (a0 : (List (Int × Int))) : Option Bool :=
  loopN (α := ((List (Int × Int)) × Int)) (fun (x1, x2) next0 =>
    bif decide (x2 < (x1.length : Int)) then
     loopN (α := ((List (Int × Int)) × (Int × Int))) (fun (x4, x5, x6) next3 =>
      bif decide (x6 < (x4.length : Int)) then
       loopN (α := ((List (Int × Int)) × (Int × (Int × Int)))) (fun (x8, x9, x10, x11) next7 =>
        bif decide (x11 < (x8.length : Int)) then
         gd (inb x9 x8.length) <|
         gd (inb x10 x8.length) <|
         gd (inb x11 x8.length) <|
         bnd (c_parquetref03_Orient ((rdD (0, 0) x8 x9).1, (rdD (0, 0) x8 x9).2) ((rdD (0, 0) x8 x10).1, (rdD (0, 0) x8 x10).2) ((rdD (0, 0) x8 x11).1, (rdD (0, 0) x8 x11).2)) fun r12 =>
         bif !(decide (r12 = 1)) then
          some false
         else
          next7 (x8, x9, x10, w64 (x11 + 1))
        else
         next3 (x8, x9, w64 (x10 + 1))) k (x4, x5, x6, w64 (x6 + 1))
      else
       next0 (x4, w64 (x5 + 1))) k (x1, x2, w64 (x2 + 1))
    else
     some (decide ((x1.length : Int) ≥ 3))) k (a0, 0)
theorem eq_parquetref03_Convex (k : Nat) (c_parquetref03_Orient : (Int × Int) → (Int × Int) → (Int × Int) → Option Int) (a0 : (List (Int × Int))) : textF [⟨50, [.d (.pair kI kI), .d (.pair kI kI), .d (.pair kI kI)], [kI], fun x => c_parquetref03_Orient (x.1) (x.2.1) (x.2.2), none⟩] tb k Try.f42 an_parquetref03_Convex [.d (.sl (.pair kI kI))] [.bool] a0 = b_parquetref03_Convex k c_parquetref03_Orient a0 := by kernel_rfl
def g_parquetref03_Convex (k : Nat) (a0 : (List (Int × Int))) : Option Bool := b_parquetref03_Convex k (g_parquetref03_Orient k) a0
theorem tells_parquetref03_Convex (k : Nat) : TellsF Try.prog 42 [.d (.sl (.pair kI kI))] [.bool] (fun x => g_parquetref03_Convex k x) := fun x y h => fun_tells tb_ok mix (es := [⟨50, [.d (.pair kI kI), .d (.pair kI kI), .d (.pair kI kI)], [kI], fun x => g_parquetref03_Orient k (x.1) (x.2.1) (x.2.2), none⟩]) (EsOk.cons (EntryOk.of rfl (tells_parquetref03_Orient k)) (EsOk.nil _)) Try.func42 (N := k) (an := an_parquetref03_Convex) (by kernel_rfl) x y ((eq_parquetref03_Convex k (g_parquetref03_Orient k) x).trans h)

def an_parquetref19_Convex : Ann := .node none none .leaf (.node none none (.node none none .leaf (.node none none (.node none (some [(0, .d (.sl (.pair kI kI))), (1, .d (.sl (.sl kI))), (5, .d kI)]) (.node none none .leaf (.node none none (.node none none (.node none none .leaf (.node none none (.node none none .leaf (.node none none (.node none (some [(0, .d (.sl (.pair kI kI))), (1, .d (.sl (.sl kI))), (5, .d kI), (6, .row (.pair kI kI) 33), (7, .d kI)]) (.node none none .leaf (.node none none (.node none none (.node none none (.node none none (.node (some [(0, .d (.sl (.pair kI kI))), (1, .d (.sl (.sl kI))), (5, .d kI), (6, .row (.pair kI kI) 33), (7, .d kI), (42, .d .bool)]) none .leaf .leaf) .leaf) .leaf) .leaf) .leaf)) .leaf) .leaf)) .leaf)) .leaf) .leaf)) .leaf) .leaf)) .leaf)
def b_parquetref19_Convex (k : Nat) (c_parquetref03_Convex : (List (Int × Int)) → Option Bool) (a0 : (List (Int × Int))) (a1 : (List (List Int))) : Option Bool :=
  loopN (α := ((List (Int × Int)) × ((List (List Int)) × Int))) (fun (x1, x2, x3) next0 =>
    bif decide (x3 < (x2.length : Int)) then
     loopN (α := ((List (Int × Int)) × ((List (List Int)) × (Int × ((List (Int × Int)) × Int))))) (fun (x5, x6, x7, x8, x9) next4 =>
      gd (inb x7 x6.length) <|
      bif decide (x9 < ((rdD [] x6 x7).length : Int)) then
       meet (α := ((List (Int × Int)) × ((List (List Int)) × (Int × ((List (Int × Int)) × (Int × Bool)))))) (fun (y10, y11, y12, y13, y14, y15) =>
        bif y15 then
         some false
        else
         gd (inb y12 y11.length) <|
         gd (inb y14 (rdD [] y11 y12).length) <|
         gd (inb (rdD 0 (rdD [] y11 y12) y14) y10.length) <|
         gd (few (y13.length + 1)) <|
         next4 (y10, y11, y12, y13 ++ [((rdD (0, 0) y10 (rdD 0 (rdD [] y11 y12) y14)).1, (rdD (0, 0) y10 (rdD 0 (rdD [] y11 y12) y14)).2)], w64 (y14 + 1))) fun j16 =>
       gd (inb x7 x6.length) <|
       gd (inb x9 (rdD [] x6 x7).length) <|
       bif decide ((rdD 0 (rdD [] x6 x7) x9) < 0) then
        j16 (x5, x6, x7, x8, x9, true)
       else
        gd (inb x7 x6.length) <|
        gd (inb x9 (rdD [] x6 x7).length) <|
        j16 (x5, x6, x7, x8, x9, decide ((rdD 0 (rdD [] x6 x7) x9) ≥ (x5.length : Int)))
      else
       bnd (c_parquetref03_Convex x8) fun r17 =>
       bif !r17 then
        some false
       else
        next0 (x5, x6, w64 (x7 + 1))) k (x1, x2, x3, [], 0)
    else
     some true) k (a0, a1, 0)
theorem eq_parquetref19_Convex (k : Nat) (c_parquetref03_Convex : (List (Int × Int)) → Option Bool) (a0 : (List (Int × Int))) (a1 : (List (List Int))) : textF [⟨42, [.d (.sl (.pair kI kI))], [.bool], fun x => c_parquetref03_Convex x, none⟩] tb k Try.f22 an_parquetref19_Convex [.d (.sl (.pair kI kI)), .d (.sl (.sl kI))] [.bool] (a0, a1) = b_parquetref19_Convex k c_parquetref03_Convex a0 a1 := by kernel_rfl
def g_parquetref19_Convex (k : Nat) (a0 : (List (Int × Int))) (a1 : (List (List Int))) : Option Bool := b_parquetref19_Convex k (g_parquetref03_Convex k) a0 a1
theorem tells_parquetref19_Convex (k : Nat) : TellsF Try.prog 22 [.d (.sl (.pair kI kI)), .d (.sl (.sl kI))] [.bool] (fun x => g_parquetref19_Convex k (x.1) (x.2)) := fun x y h => fun_tells tb_ok mix (es := [⟨42, [.d (.sl (.pair kI kI))], [.bool], fun x => g_parquetref03_Convex k x, none⟩]) (EsOk.cons (EntryOk.of rfl (tells_parquetref03_Convex k)) (EsOk.nil _)) Try.func22 (N := k) (an := an_parquetref19_Convex) (by kernel_rfl) x y ((eq_parquetref19_Convex k (g_parquetref03_Convex k) (x.1) (x.2)).trans h)

def an_parquetlaw20_HalveWhole : Ann := .node none none .leaf (.node none none .leaf (.node none none .leaf (.node none none (.node none none .leaf (.node none none (.node none none (.node (some [(4, .d .bool)]) none .leaf .leaf) .leaf) .leaf)) (.node none none .leaf (.node none none (.node none none .leaf (.node none none (.node none (some [(0, .d (.sl (.pair kI kI))), (1, .d (.sl (.sl kI))), (5, .d (.sl (.pair kI kI))), (6, .d (.sl (.sl kI))), (8, .d kI), (9, .d kI)]) .leaf .leaf) .leaf)) (.node none none (.node none none (.node (some [(0, .d (.sl (.pair kI kI))), (1, .d (.sl (.sl kI))), (5, .d (.sl (.pair kI kI))), (6, .d (.sl (.sl kI))), (58, .d .bool)]) none .leaf .leaf) .leaf) (.node none none (.node none none .leaf (.node none none (.node none (some [(0, .d (.sl (.pair kI kI))), (1, .d (.sl (.sl kI))), (5, .d (.sl (.pair kI kI))), (6, .d (.sl (.sl kI))), (10, .d kI)]) .leaf .leaf) .leaf)) (.node none none .leaf (.node none none (.node (some [(4, .d .bool)]) none .leaf .leaf) .leaf)))))))))
def b_parquetlaw20_HalveWhole (k : Nat) (c_parquetlaw20_many : (List (Int × Int)) → (List (List Int)) → Option Bool) (c_parquetlaw20_known : Option Bool) (c_halve_Run : (List (Int × Int)) → (List (List Int)) → Option ((List (Int × Int)) × (List (List Int)) × Int)) (c_parquetref11_Check : Int → (List (List Int)) → Option Int) (c_parquetlaw20_area : (List (Int × Int)) → (List (List Int)) → Option (Bool × (List Int))) (c_parquetref01_Small : Int → Option (Bool × (List Int))) (c_parquetref01_Num_Times : (Bool × (List Int)) → (Bool × (List Int)) → Option (Bool × (List Int))) (c_parquetref01_Num_Cmp : (Bool × (List Int)) → (Bool × (List Int)) → Option Int) (c_parquetref19_Convex : (List (Int × Int)) → (List (List Int)) → Option Bool) (a0 : (List (Int × Int))) (a1 : (List (List Int))) : Option Bool :=
  bnd (c_parquetlaw20_many a0 a1) fun r0 =>
   bif r0 then
    bnd (c_parquetlaw20_known) fun r1 =>
    some r1
   else
    bnd (c_halve_Run a0 a1) fun r2 =>
    bif !(decide (r2.2.2 = 0)) then
     meet (α := Bool) (fun y3 =>
      some y3) fun j4 =>
     bif decide ((r2.1.length : Int) = 0) then
      bif decide ((r2.2.1.length : Int) = 0) then
       bnd (c_parquetlaw20_known) fun r5 =>
       j4 r5
      else
       j4 false
     else
      j4 false
    else
     loopN (α := ((List (Int × Int)) × ((List (List Int)) × ((List (Int × Int)) × ((List (List Int)) × (Int × Int)))))) (fun (x7, x8, x9, x10, x11, x12) next6 =>
      bif decide (x12 < (x8.length : Int)) then
       gd (inb x12 x8.length) <|
       next6 (x7, x8, x9, x10, w64 (x11 + ((rdD [] x8 x12).length : Int)), w64 (x12 + 1))
      else
       meet (α := ((List (Int × Int)) × ((List (List Int)) × ((List (Int × Int)) × ((List (List Int)) × Bool))))) (fun (y13, y14, y15, y16, y17) =>
        bif y17 then
         some false
        else
         loopN (α := ((List (Int × Int)) × ((List (List Int)) × ((List (Int × Int)) × ((List (List Int)) × Int))))) (fun (x19, x20, x21, x22, x23) next18 =>
          bif decide (x23 < (x22.length : Int)) then
           gd (inb x23 x22.length) <|
           bif !(decide (((rdD [] x22 x23).length : Int) = 4)) then
            some false
           else
            next18 (x19, x20, x21, x22, w64 (x23 + 1))
          else
           bnd (c_parquetlaw20_area x21 x22) fun r24 =>
           bnd (c_parquetref01_Small 144) fun r25 =>
           bnd (c_parquetlaw20_area x19 x20) fun r26 =>
           bnd (c_parquetref01_Num_Times (r25.1, r25.2) (r26.1, r26.2)) fun r27 =>
           bnd (c_parquetref01_Num_Cmp (r24.1, r24.2) (r27.1, r27.2)) fun r28 =>
           bif !(decide (r28 = 0)) then
            some false
           else
            meet (α := Bool) (fun y29 =>
             some y29) fun j30 =>
            bnd (c_parquetref19_Convex x19 x20) fun r31 =>
            bif !r31 then
             bnd (c_parquetlaw20_known) fun r32 =>
             j30 r32
            else
             bnd (c_parquetref19_Convex x21 x22) fun r33 =>
             bif r33 then
              bnd (c_parquetlaw20_known) fun r34 =>
              j30 r34
             else
              j30 false) k (y13, y14, y15, y16, 0)) fun j35 =>
       bif !(decide ((x10.length : Int) = x11)) then
        j35 (x7, x8, x9, x10, true)
       else
        bnd (c_parquetref11_Check (x9.length : Int) x10) fun r36 =>
        j35 (x7, x8, x9, x10, !(decide (r36 = 0)))) k (a0, a1, r2.1, r2.2.1, 0, 0)
theorem eq_parquetlaw20_HalveWhole (k : Nat) (c_parquetlaw20_many : (List (Int × Int)) → (List (List Int)) → Option Bool) (c_parquetlaw20_known : Option Bool) (c_halve_Run : (List (Int × Int)) → (List (List Int)) → Option ((List (Int × Int)) × (List (List Int)) × Int)) (c_parquetref11_Check : Int → (List (List Int)) → Option Int) (c_parquetlaw20_area : (List (Int × Int)) → (List (List Int)) → Option (Bool × (List Int))) (c_parquetref01_Small : Int → Option (Bool × (List Int))) (c_parquetref01_Num_Times : (Bool × (List Int)) → (Bool × (List Int)) → Option (Bool × (List Int))) (c_parquetref01_Num_Cmp : (Bool × (List Int)) → (Bool × (List Int)) → Option Int) (c_parquetref19_Convex : (List (Int × Int)) → (List (List Int)) → Option Bool) (a0 : (List (Int × Int))) (a1 : (List (List Int))) : textF [⟨9, [.d (.sl (.pair kI kI)), .d (.sl (.sl kI))], [.bool], fun x => c_parquetlaw20_many (x.1) (x.2), none⟩, ⟨10, [], [.bool], fun x => c_parquetlaw20_known, none⟩, ⟨11, [.d (.sl (.pair kI kI)), .d (.sl (.sl kI))], [.sl (.pair kI kI), .sl (.sl kI), kI], fun x => c_halve_Run (x.1) (x.2), none⟩, ⟨17, [.d kI, .d (.sl (.sl kI))], [kI], fun x => c_parquetref11_Check (x.1) (x.2), none⟩, ⟨18, [.d (.sl (.pair kI kI)), .d (.sl (.sl kI))], [.pair .bool (.sl kI)], fun x => c_parquetlaw20_area (x.1) (x.2), none⟩, ⟨20, [.d kI], [.pair .bool (.sl kI)], fun x => c_parquetref01_Small x, none⟩, ⟨21, [.d (.pair .bool (.sl kI)), .d (.pair .bool (.sl kI))], [.pair .bool (.sl kI)], fun x => c_parquetref01_Num_Times (x.1) (x.2), none⟩, ⟨19, [.d (.pair .bool (.sl kI)), .d (.pair .bool (.sl kI))], [kI], fun x => c_parquetref01_Num_Cmp (x.1) (x.2), none⟩, ⟨22, [.d (.sl (.pair kI kI)), .d (.sl (.sl kI))], [.bool], fun x => c_parquetref19_Convex (x.1) (x.2), none⟩] tb k Try.f4 an_parquetlaw20_HalveWhole [.d (.sl (.pair kI kI)), .d (.sl (.sl kI))] [.bool] (a0, a1) = b_parquetlaw20_HalveWhole k c_parquetlaw20_many c_parquetlaw20_known c_halve_Run c_parquetref11_Check c_parquetlaw20_area c_parquetref01_Small c_parquetref01_Num_Times c_parquetref01_Num_Cmp c_parquetref19_Convex a0 a1 := by kernel_rfl
def g_parquetlaw20_HalveWhole (k : Nat) (a0 : (List (Int × Int))) (a1 : (List (List Int))) : Option Bool := b_parquetlaw20_HalveWhole k (g_parquetlaw20_many k) (g_parquetlaw20_known k) (g_halve_Run k) (g_parquetref11_Check k) (g_parquetlaw20_area k) (g_parquetref01_Small k) (g_parquetref01_Num_Times k) (g_parquetref01_Num_Cmp k) (g_parquetref19_Convex k) a0 a1
theorem tells_parquetlaw20_HalveWhole (k : Nat) : TellsF Try.prog 4 [.d (.sl (.pair kI kI)), .d (.sl (.sl kI))] [.bool] (fun x => g_parquetlaw20_HalveWhole k (x.1) (x.2)) := fun x y h => fun_tells tb_ok mix (es := [⟨9, [.d (.sl (.pair kI kI)), .d (.sl (.sl kI))], [.bool], fun x => g_parquetlaw20_many k (x.1) (x.2), none⟩, ⟨10, [], [.bool], fun x => g_parquetlaw20_known k, none⟩, ⟨11, [.d (.sl (.pair kI kI)), .d (.sl (.sl kI))], [.sl (.pair kI kI), .sl (.sl kI), kI], fun x => g_halve_Run k (x.1) (x.2), none⟩, ⟨17, [.d kI, .d (.sl (.sl kI))], [kI], fun x => g_parquetref11_Check k (x.1) (x.2), none⟩, ⟨18, [.d (.sl (.pair kI kI)), .d (.sl (.sl kI))], [.pair .bool (.sl kI)], fun x => g_parquetlaw20_area k (x.1) (x.2), none⟩, ⟨20, [.d kI], [.pair .bool (.sl kI)], fun x => g_parquetref01_Small k x, none⟩, ⟨21, [.d (.pair .bool (.sl kI)), .d (.pair .bool (.sl kI))], [.pair .bool (.sl kI)], fun x => g_parquetref01_Num_Times k (x.1) (x.2), none⟩, ⟨19, [.d (.pair .bool (.sl kI)), .d (.pair .bool (.sl kI))], [kI], fun x => g_parquetref01_Num_Cmp k (x.1) (x.2), none⟩, ⟨22, [.d (.sl (.pair kI kI)), .d (.sl (.sl kI))], [.bool], fun x => g_parquetref19_Convex k (x.1) (x.2), none⟩]) (EsOk.cons (EntryOk.of rfl (tells_parquetlaw20_many k)) (EsOk.cons (EntryOk.of rfl (tells_parquetlaw20_known k)) (EsOk.cons (EntryOk.of rfl (tells_halve_Run k)) (EsOk.cons (EntryOk.of rfl (tells_parquetref11_Check k)) (EsOk.cons (EntryOk.of rfl (tells_parquetlaw20_area k)) (EsOk.cons (EntryOk.of rfl (tells_parquetref01_Small k)) (EsOk.cons (EntryOk.of rfl (tells_parquetref01_Num_Times k)) (EsOk.cons (EntryOk.of rfl (tells_parquetref01_Num_Cmp k)) (EsOk.cons (EntryOk.of rfl (tells_parquetref19_Convex k)) (EsOk.nil _)))))))))) Try.func4 (N := k) (an := an_parquetlaw20_HalveWhole) (by kernel_rfl) x y ((eq_parquetlaw20_HalveWhole k (g_parquetlaw20_many k) (g_parquetlaw20_known k) (g_halve_Run k) (g_parquetref11_Check k) (g_parquetlaw20_area k) (g_parquetref01_Small k) (g_parquetref01_Num_Times k) (g_parquetref01_Num_Cmp k) (g_parquetref19_Convex k) (x.1) (x.2)).trans h)

def an_parquetref11_Count : Ann := .node none none .leaf (.node none none .leaf (.node none none .leaf (.node none none .leaf (.node none none .leaf (.node none none (.node none none .leaf (.node none none (.node none (some [(0, .d (.sl (.sl kI))), (6, .d (.sl (.pair kI kI))), (7, .d kI), (8, .d kI)]) (.node none none .leaf (.node none none (.node none none (.node none none .leaf (.node none none (.node none none .leaf (.node none none (.node none (some [(0, .d (.sl (.sl kI))), (6, .d (.sl (.pair kI kI))), (7, .d kI), (8, .d kI), (9, .d .bool), (10, .d kI)]) (.node none none .leaf (.node none none (.node none none (.node (some [(0, .d (.sl (.sl kI))), (6, .d (.sl (.pair kI kI))), (7, .d kI), (8, .d kI), (9, .d .bool), (10, .d kI)]) none .leaf .leaf) .leaf) .leaf)) .leaf) .leaf)) (.node none none .leaf (.node (some [(0, .d (.sl (.sl kI))), (6, .d (.sl (.pair kI kI))), (7, .d kI), (8, .d kI)]) none .leaf .leaf)))) .leaf) .leaf)) .leaf) .leaf)) .leaf)))))
def b_parquetref11_Count (k : Nat) (c_parquetref11_Check : Int → (List (List Int)) → Option Int) (c_parquetref11_all : (List (List Int)) → Option (List (Int × Int))) (c_parquetref11_Edges : (List (List Int)) → Option (List (Int × Int))) (a0 : (List (List Int))) : Option (Int × Int × Int) :=
  bnd (c_parquetref11_Check 1048576 a0) fun r0 =>
   bif !(decide (r0 = 0)) then
    some (0, 0, 0)
   else
    bnd (c_parquetref11_all a0) fun r1 =>
    loopN (α := ((List (List Int)) × ((List (Int × Int)) × (Int × Int)))) (fun (x3, x4, x5, x6) next2 =>
     bif decide (x6 < (x4.length : Int)) then
      loopN (α := ((List (List Int)) × ((List (Int × Int)) × (Int × (Int × (Bool × Int)))))) (fun (x8, x9, x10, x11, x12, x13) next7 =>
       bif decide (x13 < x11) then
        meet (α := ((List (List Int)) × ((List (Int × Int)) × (Int × (Int × (Bool × Int)))))) (fun (y14, y15, y16, y17, y18, y19) =>
         next7 (y14, y15, y16, y17, y18, w64 (y19 + 1))) fun j20 =>
        bif x12 then
         gd (inb x13 x9.length) <|
         gd (inb x11 x9.length) <|
         j20 (x8, x9, x10, x11, !(decide ((rdD (0, 0) x9 x13).1 = (rdD (0, 0) x9 x11).1)), x13)
        else
         j20 (x8, x9, x10, x11, false, x13)
       else
        meet (α := ((List (List Int)) × ((List (Int × Int)) × (Int × Int)))) (fun (y21, y22, y23, y24) =>
         next2 (y21, y22, y23, w64 (y24 + 1))) fun j25 =>
        bif x12 then
         j25 (x8, x9, w64 (x10 + 1), x11)
        else
         j25 (x8, x9, x10, x11)) k (x3, x4, x5, x6, true, 0)
     else
      bnd (c_parquetref11_Edges x3) fun r26 =>
      some (x5, (r26.length : Int), (x3.length : Int))) k (a0, r1, 0, 0)
theorem eq_parquetref11_Count (k : Nat) (c_parquetref11_Check : Int → (List (List Int)) → Option Int) (c_parquetref11_all : (List (List Int)) → Option (List (Int × Int))) (c_parquetref11_Edges : (List (List Int)) → Option (List (Int × Int))) (a0 : (List (List Int))) : textF [⟨17, [.d kI, .d (.sl (.sl kI))], [kI], fun x => c_parquetref11_Check (x.1) (x.2), none⟩, ⟨35, [.d (.sl (.sl kI))], [.sl (.pair kI kI)], fun x => c_parquetref11_all x, none⟩, ⟨32, [.d (.sl (.sl kI))], [.sl (.pair kI kI)], fun x => c_parquetref11_Edges x, none⟩] tb k Try.f23 an_parquetref11_Count [.d (.sl (.sl kI))] [kI, kI, kI] a0 = b_parquetref11_Count k c_parquetref11_Check c_parquetref11_all c_parquetref11_Edges a0 := by kernel_rfl
def g_parquetref11_Count (k : Nat) (a0 : (List (List Int))) : Option (Int × Int × Int) := b_parquetref11_Count k (g_parquetref11_Check k) (g_parquetref11_all k) (g_parquetref11_Edges k) a0
theorem tells_parquetref11_Count (k : Nat) : TellsF Try.prog 23 [.d (.sl (.sl kI))] [kI, kI, kI] (fun x => g_parquetref11_Count k x) := fun x y h => fun_tells tb_ok mix (es := [⟨17, [.d kI, .d (.sl (.sl kI))], [kI], fun x => g_parquetref11_Check k (x.1) (x.2), none⟩, ⟨35, [.d (.sl (.sl kI))], [.sl (.pair kI kI)], fun x => g_parquetref11_all k x, none⟩, ⟨32, [.d (.sl (.sl kI))], [.sl (.pair kI kI)], fun x => g_parquetref11_Edges k x, none⟩]) (EsOk.cons (EntryOk.of rfl (tells_parquetref11_Check k)) (EsOk.cons (EntryOk.of rfl (tells_parquetref11_all k)) (EsOk.cons (EntryOk.of rfl (tells_parquetref11_Edges k)) (EsOk.nil _)))) Try.func23 (N := k) (an := an_parquetref11_Count) (by kernel_rfl) x y ((eq_parquetref11_Count k (g_parquetref11_Check k) (g_parquetref11_all k) (g_parquetref11_Edges k) x).trans h)

def an_parquetref11_Rims : Ann := .node none none .leaf (.node none none .leaf (.node none none .leaf (.node none none .leaf (.node none none .leaf (.node none none (.node none none .leaf (.node none none (.node none (some [(7, .d (.sl (.pair kI kI))), (8, .row (.pair kI kI) 63), (9, .d kI)]) (.node none none .leaf (.node none none (.node none none (.node none none .leaf (.node none none (.node none none .leaf (.node none none (.node none (some [(7, .d (.sl (.pair kI kI))), (8, .row (.pair kI kI) 63), (9, .d kI), (10, .d .bool), (11, .d kI)]) (.node none none .leaf (.node none none (.node none none (.node (some [(7, .d (.sl (.pair kI kI))), (8, .row (.pair kI kI) 63), (9, .d kI), (10, .d .bool), (11, .d kI)]) none .leaf .leaf) .leaf) .leaf)) .leaf) .leaf)) (.node none none .leaf (.node (some [(7, .d (.sl (.pair kI kI))), (8, .row (.pair kI kI) 63), (9, .d kI)]) none .leaf .leaf)))) .leaf) .leaf)) .leaf) .leaf)) (.node none none (.node none none .leaf (.node none none (.node none (some [(8, .row (.pair kI kI) 63), (12, .d kI)]) (.node none none .leaf (.node none none (.node none none (.node none none .leaf (.node none none (.node none (some [(8, .row (.pair kI kI) 63), (12, .d kI), (13, .d kI)]) .leaf .leaf) .leaf)) .leaf) .leaf)) .leaf) .leaf)) (.node none none .leaf (.node none none .leaf (.node none none (.node none (some [(8, .row (.pair kI kI) 63), (14, .row (.sl kI) 24), (15, .row .bool 4)]) (.node none none (.node none none .leaf (.node none none (.node none none .leaf (.node none none (.node none (some [(8, .row (.pair kI kI) 63), (14, .row (.sl kI) 24), (15, .row .bool 4), (16, .d kI), (17, .d kI)]) (.node none none .leaf (.node none none (.node none none (.node none none (.node (some [(8, .row (.pair kI kI) 63), (14, .row (.sl kI) 24), (15, .row .bool 4), (16, .d kI), (17, .d kI), (129, .d .bool)]) none .leaf .leaf) (.node (some [(8, .row (.pair kI kI) 63), (14, .row (.sl kI) 24), (15, .row .bool 4), (16, .d kI), (17, .d kI)]) none .leaf .leaf)) .leaf) .leaf)) .leaf) .leaf)) (.node none none .leaf (.node none none .leaf (.node none none (.node none none (.node none (some [(8, .row (.pair kI kI) 63), (14, .row (.sl kI) 24), (15, .row .bool 4), (16, .d kI), (18, .row kI 3)]) (.node none none .leaf (.node none none (.node none none .leaf (.node none none .leaf (.node none none .leaf (.node none none .leaf (.node none none .leaf (.node none none (.node none (some [(8, .row (.pair kI kI) 63), (14, .row (.sl kI) 24), (15, .row .bool 4), (16, .d kI), (18, .row kI 3), (19, .d kI), (20, .d kI)]) (.node none none .leaf (.node none none (.node none none (.node none none (.node (some [(8, .row (.pair kI kI) 63), (14, .row (.sl kI) 24), (15, .row .bool 4), (16, .d kI), (18, .row kI 3), (19, .d kI), (20, .d kI), (171, .d .bool)]) none .leaf .leaf) (.node (some [(8, .row (.pair kI kI) 63), (14, .row (.sl kI) 24), (15, .row .bool 4), (16, .d kI), (18, .row kI 3), (19, .d kI), (20, .d kI)]) none .leaf .leaf)) .leaf) .leaf)) .leaf) .leaf)))))) .leaf)) .leaf) .leaf) .leaf))))) .leaf) .leaf) .leaf)))))))))
def b_parquetref11_Rims (k : Nat) (c_parquetref11_Check : Int → (List (List Int)) → Option Int) (c_parquetref11_all : (List (List Int)) → Option (List (Int × Int))) (a0 : Int) (a1 : (List (List Int))) : Option ((List (List Int)) × Int) :=
  bnd (c_parquetref11_Check a0 a1) fun r0 =>
   bif !(decide (r0 = 0)) then
    some ([], r0)
   else
    bnd (c_parquetref11_all a1) fun r1 =>
    loopN (α := ((List (Int × Int)) × ((List (Int × Int)) × Int))) (fun (x3, x4, x5) next2 =>
     bif decide (x5 < (x3.length : Int)) then
      loopN (α := ((List (Int × Int)) × ((List (Int × Int)) × (Int × (Bool × Int))))) (fun (x7, x8, x9, x10, x11) next6 =>
       bif decide (x11 < (x7.length : Int)) then
        meet (α := ((List (Int × Int)) × ((List (Int × Int)) × (Int × (Bool × Int))))) (fun (y12, y13, y14, y15, y16) =>
         next6 (y12, y13, y14, y15, w64 (y16 + 1))) fun j17 =>
        bif x10 then
         j17 (x7, x8, x9, true, x11)
        else
         gd (inb x11 x7.length) <|
         gd (inb x9 x7.length) <|
         bif decide ((rdD (0, 0) x7 x11).1 = (rdD (0, 0) x7 x9).2) then
          gd (inb x11 x7.length) <|
          gd (inb x9 x7.length) <|
          j17 (x7, x8, x9, decide ((rdD (0, 0) x7 x11).2 = (rdD (0, 0) x7 x9).1), x11)
         else
          j17 (x7, x8, x9, false, x11)
       else
        meet (α := ((List (Int × Int)) × ((List (Int × Int)) × Int))) (fun (y18, y19, y20) =>
         next2 (y18, y19, w64 (y20 + 1))) fun j21 =>
        bif !x10 then
         gd (inb x9 x7.length) <|
         gd (few (x8.length + 1)) <|
         j21 (x7, x8 ++ [((rdD (0, 0) x7 x9).1, (rdD (0, 0) x7 x9).2)], x9)
        else
         j21 (x7, x8, x9)) k (x3, x4, x5, false, 0)
     else
      loopN (α := ((List (Int × Int)) × Int)) (fun (x23, x24) next22 =>
       bif decide (x24 < (x23.length : Int)) then
        loopN (α := ((List (Int × Int)) × (Int × Int))) (fun (x26, x27, x28) next25 =>
         bif decide (x28 < x27) then
          gd (inb x27 x26.length) <|
          gd (inb x28 x26.length) <|
          bif decide ((rdD (0, 0) x26 x27).1 = (rdD (0, 0) x26 x28).1) then
           some ([], 81)
          else
           next25 (x26, x27, w64 (x28 + 1))
         else
          next22 (x26, w64 (x27 + 1))) k (x23, x24, 0)
       else
        gd (decide (0 ≤ (x23.length : Int))) <|
        gd (fewI (x23.length : Int)) <|
        loopN (α := ((List (Int × Int)) × ((List (List Int)) × (List Bool)))) (fun (x30, x31, x32) next29 =>
         loopN (α := ((List (Int × Int)) × ((List (List Int)) × ((List Bool) × (Int × Int))))) (fun (x34, x35, x36, x37, x38) next33 =>
          bif decide (x38 < (x34.length : Int)) then
           meet (α := ((List (Int × Int)) × ((List (List Int)) × ((List Bool) × (Int × (Int × Bool)))))) (fun (y39, y40, y41, y42, y43, y44) =>
            meet (α := ((List (Int × Int)) × ((List (List Int)) × ((List Bool) × (Int × Int))))) (fun (y45, y46, y47, y48, y49) =>
             next33 (y45, y46, y47, y48, w64 (y49 + 1))) fun j50 =>
            bif y44 then
             j50 (y39, y40, y41, y43, y43)
            else
             j50 (y39, y40, y41, y42, y43)) fun j51 =>
           gd (inb x38 x36.length) <|
           bif !(rdD false x36 x38) then
            bif decide (x37 < 0) then
             j51 (x34, x35, x36, x37, x38, true)
            else
             gd (inb x38 x34.length) <|
             gd (inb x37 x34.length) <|
             j51 (x34, x35, x36, x37, x38, decide ((rdD (0, 0) x34 x38).1 < (rdD (0, 0) x34 x37).1))
           else
            j51 (x34, x35, x36, x37, x38, false)
          else
           bif decide (x37 < 0) then
            some (x35, 0)
           else
            loopN (α := ((List (Int × Int)) × ((List (List Int)) × ((List Bool) × (Int × (List Int)))))) (fun (x53, x54, x55, x56, x57) next52 =>
             bif decide (x56 ≥ 0) then
              gd (inb x56 x55.length) <|
              gd (inb x56 x53.length) <|
              gd (few (x57.length + 1)) <|
              gd (inb x56 x53.length) <|
              loopN (α := ((List (Int × Int)) × ((List (List Int)) × ((List Bool) × (Int × ((List Int) × (Int × Int))))))) (fun (x59, x60, x61, x62, x63, x64, x65) next58 =>
               bif decide (x65 < (x59.length : Int)) then
                meet (α := ((List (Int × Int)) × ((List (List Int)) × ((List Bool) × (Int × ((List Int) × (Int × (Int × Bool)))))))) (fun (y66, y67, y68, y69, y70, y71, y72, y73) =>
                 meet (α := ((List (Int × Int)) × ((List (List Int)) × ((List Bool) × (Int × ((List Int) × (Int × Int))))))) (fun (y74, y75, y76, y77, y78, y79, y80) =>
                  next58 (y74, y75, y76, y77, y78, y79, w64 (y80 + 1))) fun j81 =>
                 bif y73 then
                  j81 (y66, y67, y68, y72, y70, y71, y72)
                 else
                  j81 (y66, y67, y68, y69, y70, y71, y72)) fun j82 =>
                gd (inb x65 x61.length) <|
                bif !(rdD false x61 x65) then
                 gd (inb x65 x59.length) <|
                 j82 (x59, x60, x61, x62, x63, x64, x65, decide ((rdD (0, 0) x59 x65).1 = x64))
                else
                 j82 (x59, x60, x61, x62, x63, x64, x65, false)
               else
                next52 (x59, x60, x61, x62, x63)) k (x53, x54, stL x55 x56 true, (-1), x57 ++ [(rdD (0, 0) x53 x56).1], (rdD (0, 0) x53 x56).2, 0)
             else
              gd (few (x54.length + 1)) <|
              next29 (x53, x54 ++ [x57], x55)) k (x34, x35, x36, x37, [])) k (x30, x31, x32, (-1), 0)) k (x23, [], rpL (x23.length : Int) false)) k (x4, 0)) k (r1, [], 0)
theorem eq_parquetref11_Rims (k : Nat) (c_parquetref11_Check : Int → (List (List Int)) → Option Int) (c_parquetref11_all : (List (List Int)) → Option (List (Int × Int))) (a0 : Int) (a1 : (List (List Int))) : textF [⟨17, [.d kI, .d (.sl (.sl kI))], [kI], fun x => c_parquetref11_Check (x.1) (x.2), none⟩, ⟨35, [.d (.sl (.sl kI))], [.sl (.pair kI kI)], fun x => c_parquetref11_all x, none⟩] tb k Try.f24 an_parquetref11_Rims [.d kI, .d (.sl (.sl kI))] [.sl (.sl kI), kI] (a0, a1) = b_parquetref11_Rims k c_parquetref11_Check c_parquetref11_all a0 a1 := by kernel_rfl
def g_parquetref11_Rims (k : Nat) (a0 : Int) (a1 : (List (List Int))) : Option ((List (List Int)) × Int) := b_parquetref11_Rims k (g_parquetref11_Check k) (g_parquetref11_all k) a0 a1
theorem tells_parquetref11_Rims (k : Nat) : TellsF Try.prog 24 [.d kI, .d (.sl (.sl kI))] [.sl (.sl kI), kI] (fun x => g_parquetref11_Rims k (x.1) (x.2)) := fun x y h => fun_tells tb_ok mix (es := [⟨17, [.d kI, .d (.sl (.sl kI))], [kI], fun x => g_parquetref11_Check k (x.1) (x.2), none⟩, ⟨35, [.d (.sl (.sl kI))], [.sl (.pair kI kI)], fun x => g_parquetref11_all k x, none⟩]) (EsOk.cons (EntryOk.of rfl (tells_parquetref11_Check k)) (EsOk.cons (EntryOk.of rfl (tells_parquetref11_all k)) (EsOk.nil _))) Try.func24 (N := k) (an := an_parquetref11_Rims) (by kernel_rfl) x y ((eq_parquetref11_Rims k (g_parquetref11_Check k) (g_parquetref11_all k) (x.1) (x.2)).trans h)

def an_parquetref11_has : Ann := .node none none .leaf (.node none none (.node none none .leaf (.node none none (.node none (some [(0, .d (.sl kI)), (1, .d kI), (2, .d kI), (7, .d kI)]) (.node none none .leaf (.node none none (.node none none (.node none none .leaf (.node none none (.node none none .leaf (.node (some [(0, .d (.sl kI)), (1, .d kI), (2, .d kI), (7, .d kI), (8, .d kI)]) none .leaf .leaf)) (.node none none (.node (some [(0, .d (.sl kI)), (1, .d kI), (2, .d kI), (7, .d kI), (34, .d .bool)]) none .leaf .leaf) .leaf))) .leaf) .leaf)) .leaf) .leaf)) .leaf)
def g_parquetref11_has (k : Nat) (a0 : (List Int)) (a1 : Int) (a2 : Int) : Option Bool :=
  loopN (α := ((List Int) × (Int × (Int × Int)))) (fun (x1, x2, x3, x4) next0 =>
    bif decide (x4 < (x1.length : Int)) then
     meet (α := ((List Int) × (Int × (Int × (Int × Int))))) (fun (y5, y6, y7, y8, y9) =>
      meet (α := ((List Int) × (Int × (Int × (Int × Bool))))) (fun (y10, y11, y12, y13, y14) =>
       bif y14 then
        some true
       else
        next0 (y10, y11, y12, w64 (y13 + 1))) fun j15 =>
      gd (inb y8 y5.length) <|
      bif decide ((rdD 0 y5 y8) = y6) then
       gd (inb y9 y5.length) <|
       j15 (y5, y6, y7, y8, decide ((rdD 0 y5 y9) = y7))
      else
       j15 (y5, y6, y7, y8, false)) fun j16 =>
     bif decide ((w64 (x4 + 1)) = (x1.length : Int)) then
      j16 (x1, x2, x3, x4, 0)
     else
      j16 (x1, x2, x3, x4, w64 (x4 + 1))
    else
     some false) k (a0, a1, a2, 0)
theorem eq_parquetref11_has (k : Nat) (a0 : (List Int)) (a1 : Int) (a2 : Int) : textF [] tb k Try.f43 an_parquetref11_has [.d (.sl kI), .d kI, .d kI] [.bool] (a0, a1, a2) = g_parquetref11_has k a0 a1 a2 := by kernel_rfl
theorem tells_parquetref11_has (k : Nat) : TellsF Try.prog 43 [.d (.sl kI), .d kI, .d kI] [.bool] (fun x => g_parquetref11_has k (x.1) (x.2.1) (x.2.2)) := fun x y h => fun_tells tb_ok mix (es := []) (EsOk.nil _) Try.func43 (N := k) (an := an_parquetref11_has) (by kernel_rfl) x y ((eq_parquetref11_has k (x.1) (x.2.1) (x.2.2)).trans h)

def an_parquetref11_Parts : Ann := .node none none .leaf (.node none none .leaf (.node none none .leaf (.node none none .leaf (.node none none (.node none none .leaf (.node none none (.node none (some [(0, .d (.sl (.sl kI))), (4, .row kI 3), (5, .d kI)]) .leaf .leaf) .leaf)) (.node none none (.node none none .leaf (.node none none (.node none (some [(0, .d (.sl (.sl kI))), (4, .row kI 3), (6, .d kI)]) (.node none none .leaf (.node none none (.node none none (.node none none .leaf (.node none none (.node none (some [(0, .d (.sl (.sl kI))), (4, .row kI 3), (6, .d kI), (7, .d kI)]) (.node none none .leaf (.node none none (.node none none (.node none none .leaf (.node none none (.node none (some [(0, .d (.sl (.sl kI))), (4, .row kI 3), (6, .d kI), (7, .d kI), (8, .d kI)]) (.node none none .leaf (.node none none (.node none none (.node none none .leaf (.node none none (.node none none .leaf (.node (some [(0, .d (.sl (.sl kI))), (4, .row kI 3), (6, .d kI), (7, .d kI), (8, .d kI), (9, .d kI)]) none .leaf .leaf)) (.node none none .leaf (.node none none (.node none (some [(0, .d (.sl (.sl kI))), (4, .row kI 3), (6, .d kI), (7, .d kI), (8, .d kI), (9, .d kI), (10, .d kI)]) (.node none none .leaf (.node none none (.node none none (.node none none .leaf (.node (some [(0, .d (.sl (.sl kI))), (4, .row kI 3), (6, .d kI), (7, .d kI), (8, .d kI), (9, .d kI), (10, .d kI)]) none .leaf .leaf)) .leaf) .leaf)) .leaf) .leaf)))) .leaf) .leaf)) .leaf) .leaf)) .leaf) .leaf)) .leaf) .leaf)) .leaf) .leaf)) .leaf) .leaf)) (.node none none .leaf (.node none none .leaf (.node none none (.node none none .leaf (.node none none (.node none (some [(0, .d (.sl (.sl kI))), (4, .row kI 3), (11, .row kI 3), (12, .d kI), (13, .d kI)]) (.node none none .leaf (.node none none (.node none none (.node none none .leaf (.node (some [(0, .d (.sl (.sl kI))), (4, .row kI 3), (11, .row kI 3), (12, .d kI), (13, .d kI)]) none .leaf .leaf)) .leaf) .leaf)) .leaf) .leaf)) (.node none none (.node none none .leaf (.node none none (.node none (some [(0, .d (.sl (.sl kI))), (4, .row kI 3), (11, .row kI 3), (14, .d kI)]) .leaf .leaf) .leaf)) .leaf)))))))))
def b_parquetref11_Parts (k : Nat) (c_parquetref11_Check : Int → (List (List Int)) → Option Int) (c_parquetref11_has : (List Int) → Int → Int → Option Bool) (a0 : (List (List Int))) : Option (List Int) :=
  bnd (c_parquetref11_Check 1048576 a0) fun r0 =>
   bif !(decide (r0 = 0)) then
    some []
   else
    gd (decide (0 ≤ (a0.length : Int))) <|
    gd (fewI (a0.length : Int)) <|
    loopN (α := ((List (List Int)) × ((List Int) × Int))) (fun (x2, x3, x4) next1 =>
     bif decide (x4 < (x2.length : Int)) then
      gd (inb x4 x3.length) <|
      next1 (x2, stL x3 x4 x4, w64 (x4 + 1))
     else
      loopN (α := ((List (List Int)) × ((List Int) × Int))) (fun (x6, x7, x8) next5 =>
       bif decide (x8 < (x6.length : Int)) then
        loopN (α := ((List (List Int)) × ((List Int) × (Int × Int)))) (fun (x10, x11, x12, x13) next9 =>
         bif decide (x13 < (x10.length : Int)) then
          loopN (α := ((List (List Int)) × ((List Int) × (Int × (Int × Int))))) (fun (x15, x16, x17, x18, x19) next14 =>
           gd (inb x18 x15.length) <|
           bif decide (x19 < ((rdD [] x15 x18).length : Int)) then
            gd (inb x18 x15.length) <|
            gd (inb 0 (rdD [] x15 x18).length) <|
            gd (inb x18 x15.length) <|
            meet (α := ((List (List Int)) × ((List Int) × (Int × (Int × (Int × Int)))))) (fun (y20, y21, y22, y23, y24, y25) =>
             loopN (α := ((List (List Int)) × ((List Int) × (Int × (Int × (Int × (Int × Int))))))) (fun (x27, x28, x29, x30, x31, x32, x33) next26 =>
              bif decide (x33 < (x27.length : Int)) then
               gd (inb x33 x27.length) <|
               gd (inb x30 x27.length) <|
               gd (inb x31 (rdD [] x27 x30).length) <|
               bnd (c_parquetref11_has (rdD [] x27 x33) x32 (rdD 0 (rdD [] x27 x30) x31)) fun r34 =>
               meet (α := ((List (List Int)) × ((List Int) × (Int × (Int × (Int × (Int × Int))))))) (fun (y35, y36, y37, y38, y39, y40, y41) =>
                next26 (y35, y36, y37, y38, y39, y40, w64 (y41 + 1))) fun j42 =>
               bif r34 then
                gd (inb x30 x28.length) <|
                gd (inb x33 x28.length) <|
                gd (inb x30 x28.length) <|
                gd (inb x30 x28.length) <|
                gd (inb x33 x28.length) <|
                j42 (x27, stL (stL x28 x30 (mnI (rdD 0 x28 x30) (rdD 0 x28 x33))) x33 (rdD 0 (stL x28 x30 (mnI (rdD 0 x28 x30) (rdD 0 x28 x33))) x30), x29, x30, x31, x32, x33)
               else
                j42 (x27, x28, x29, x30, x31, x32, x33)
              else
               next14 (x27, x28, x29, x30, w64 (x31 + 1))) k (y20, y21, y22, y23, y24, y25, 0)) fun j43 =>
            bif decide ((w64 (x19 + 1)) < ((rdD [] x15 x18).length : Int)) then
             gd (inb x18 x15.length) <|
             gd (inb (w64 (x19 + 1)) (rdD [] x15 x18).length) <|
             j43 (x15, x16, x17, x18, x19, rdD 0 (rdD [] x15 x18) (w64 (x19 + 1)))
            else
             j43 (x15, x16, x17, x18, x19, rdD 0 (rdD [] x15 x18) 0)
           else
            next9 (x15, x16, x17, w64 (x18 + 1))) k (x10, x11, x12, x13, 0)
         else
          next5 (x10, x11, w64 (x12 + 1))) k (x6, x7, x8, 0)
       else
        gd (decide (0 ≤ (x6.length : Int))) <|
        gd (fewI (x6.length : Int)) <|
        loopN (α := ((List (List Int)) × ((List Int) × ((List Int) × (Int × Int))))) (fun (x45, x46, x47, x48, x49) next44 =>
         bif decide (x49 < (x45.length : Int)) then
          gd (inb x49 x46.length) <|
          meet (α := ((List (List Int)) × ((List Int) × ((List Int) × (Int × Int))))) (fun (y50, y51, y52, y53, y54) =>
           next44 (y50, y51, y52, y53, w64 (y54 + 1))) fun j55 =>
          bif decide ((rdD 0 x46 x49) = x49) then
           gd (inb x49 x47.length) <|
           j55 (x45, x46, stL x47 x49 x48, w64 (x48 + 1), x49)
          else
           j55 (x45, x46, x47, x48, x49)
         else
          loopN (α := ((List (List Int)) × ((List Int) × ((List Int) × Int)))) (fun (x57, x58, x59, x60) next56 =>
           bif decide (x60 < (x57.length : Int)) then
            gd (inb x60 x58.length) <|
            gd (inb (rdD 0 x58 x60) x59.length) <|
            gd (inb x60 x58.length) <|
            next56 (x57, stL x58 x60 (rdD 0 x59 (rdD 0 x58 x60)), x59, w64 (x60 + 1))
           else
            some x58) k (x45, x46, x47, 0)) k (x6, x7, rpL (x6.length : Int) 0, 0, 0)) k (x2, x3, 0)) k (a0, rpL (a0.length : Int) 0, 0)
theorem eq_parquetref11_Parts (k : Nat) (c_parquetref11_Check : Int → (List (List Int)) → Option Int) (c_parquetref11_has : (List Int) → Int → Int → Option Bool) (a0 : (List (List Int))) : textF [⟨17, [.d kI, .d (.sl (.sl kI))], [kI], fun x => c_parquetref11_Check (x.1) (x.2), none⟩, ⟨43, [.d (.sl kI), .d kI, .d kI], [.bool], fun x => c_parquetref11_has (x.1) (x.2.1) (x.2.2), none⟩] tb k Try.f25 an_parquetref11_Parts [.d (.sl (.sl kI))] [.sl kI] a0 = b_parquetref11_Parts k c_parquetref11_Check c_parquetref11_has a0 := by kernel_rfl
def g_parquetref11_Parts (k : Nat) (a0 : (List (List Int))) : Option (List Int) := b_parquetref11_Parts k (g_parquetref11_Check k) (g_parquetref11_has k) a0
theorem tells_parquetref11_Parts (k : Nat) : TellsF Try.prog 25 [.d (.sl (.sl kI))] [.sl kI] (fun x => g_parquetref11_Parts k x) := fun x y h => fun_tells tb_ok mix (es := [⟨17, [.d kI, .d (.sl (.sl kI))], [kI], fun x => g_parquetref11_Check k (x.1) (x.2), none⟩, ⟨43, [.d (.sl kI), .d kI, .d kI], [.bool], fun x => g_parquetref11_has k (x.1) (x.2.1) (x.2.2), none⟩]) (EsOk.cons (EntryOk.of rfl (tells_parquetref11_Check k)) (EsOk.cons (EntryOk.of rfl (tells_parquetref11_has k)) (EsOk.nil _))) Try.func25 (N := k) (an := an_parquetref11_Parts) (by kernel_rfl) x y ((eq_parquetref11_Parts k (g_parquetref11_Check k) (g_parquetref11_has k) x).trans h)

def an_parquetlaw20_HalveEuler : Ann := .node none none .leaf (.node none none (.node none none (.node (some [(0, .d (.sl (.pair kI kI))), (1, .d (.sl (.sl kI))), (33, .d .bool)]) none .leaf .leaf) .leaf) (.node none none .leaf (.node none none .leaf (.node none none .leaf (.node none none .leaf (.node none none .leaf (.node none none (.node none none .leaf (.node none none (.node none (some [(0, .d (.sl (.pair kI kI))), (1, .d (.sl (.sl kI))), (5, .d (.sl (.pair kI kI))), (6, .d (.sl (.sl kI))), (9, .d kI), (10, .d kI), (12, .d kI), (13, .d kI), (14, .d kI), (15, .d kI)]) .leaf .leaf) .leaf)) (.node none none (.node none none (.node (some [(0, .d (.sl (.pair kI kI))), (1, .d (.sl (.sl kI))), (5, .d (.sl (.pair kI kI))), (6, .d (.sl (.sl kI))), (91, .d .bool)]) none .leaf .leaf) .leaf) (.node none none .leaf (.node none none .leaf (.node none none (.node none none (.node (some [(1, .d (.sl (.sl kI))), (6, .d (.sl (.sl kI))), (16, .d (.sl (.sl kI))), (18, .d (.sl (.sl kI))), (115, .d .bool)]) none .leaf .leaf) .leaf) (.node none none (.node none none .leaf (.node none none (.node none (some [(1, .d (.sl (.sl kI))), (6, .d (.sl (.sl kI))), (16, .d (.sl (.sl kI))), (18, .d (.sl (.sl kI))), (20, .d kI)]) (.node none none .leaf (.node none none (.node none none (.node none none (.node (some [(1, .d (.sl (.sl kI))), (6, .d (.sl (.sl kI))), (16, .d (.sl (.sl kI))), (18, .d (.sl (.sl kI))), (20, .d kI), (148, .d .bool)]) none .leaf .leaf) .leaf) .leaf) .leaf)) .leaf) .leaf)) (.node none none .leaf (.node none none .leaf (.node none none .leaf (.node none none (.node none none .leaf (.node none none (.node none (some [(1, .d (.sl (.sl kI))), (21, .d (.sl kI)), (22, .d (.sl kI)), (23, .d kI), (24, .d kI)]) (.node none none .leaf (.node none none (.node none none (.node none none .leaf (.node none none (.node none (some [(1, .d (.sl (.sl kI))), (21, .d (.sl kI)), (22, .d (.sl kI)), (23, .d kI), (24, .d kI), (25, .d kI)]) (.node none none .leaf (.node none none (.node none none (.node none none (.node none none (.node (some [(1, .d (.sl (.sl kI))), (21, .d (.sl kI)), (22, .d (.sl kI)), (23, .d kI), (24, .d kI), (25, .d kI), (182, .d .bool)]) none .leaf .leaf) .leaf) .leaf) .leaf) .leaf)) .leaf) .leaf)) .leaf) .leaf)) .leaf) .leaf)) .leaf))))))))))))))))
def b_parquetlaw20_HalveEuler (k : Nat) (c_parquetlaw20_many : (List (Int × Int)) → (List (List Int)) → Option Bool) (c_parquetlaw20_known : Option Bool) (c_halve_Run : (List (Int × Int)) → (List (List Int)) → Option ((List (Int × Int)) × (List (List Int)) × Int)) (c_parquetref11_Count : (List (List Int)) → Option (Int × Int × Int)) (c_parquetref11_Rims : Int → (List (List Int)) → Option ((List (List Int)) × Int)) (c_parquetref11_Parts : (List (List Int)) → Option (List Int)) (a0 : (List (Int × Int))) (a1 : (List (List Int))) : Option Bool :=
  meet (α := ((List (Int × Int)) × ((List (List Int)) × Bool))) (fun (y0, y1, y2) =>
    bif y2 then
     bnd (c_parquetlaw20_known) fun r3 =>
     some r3
    else
     bnd (c_halve_Run y0 y1) fun r4 =>
     bif !(decide (r4.2.2 = 0)) then
      bnd (c_parquetlaw20_known) fun r5 =>
      some r5
     else
      bnd (c_parquetref11_Count y1) fun r6 =>
      bnd (c_parquetref11_Count r4.2.1) fun r7 =>
      loopN (α := ((List (Int × Int)) × ((List (List Int)) × ((List (Int × Int)) × ((List (List Int)) × (Int × (Int × (Int × (Int × (Int × Int)))))))))) (fun (x9, x10, x11, x12, x13, x14, x15, x16, x17, x18) next8 =>
       bif decide (x18 < (x10.length : Int)) then
        gd (inb x18 x10.length) <|
        next8 (x9, x10, x11, x12, x13, x14, x15, x16, w64 (x17 + ((rdD [] x10 x18).length : Int)), w64 (x18 + 1))
       else
        meet (α := ((List (Int × Int)) × ((List (List Int)) × ((List (Int × Int)) × ((List (List Int)) × Bool))))) (fun (y19, y20, y21, y22, y23) =>
         bif y23 then
          some false
         else
          bnd (c_parquetref11_Rims (y19.length : Int) y20) fun r24 =>
          bnd (c_parquetref11_Rims (y21.length : Int) y22) fun r25 =>
          meet (α := ((List (List Int)) × ((List (List Int)) × ((List (List Int)) × ((List (List Int)) × Bool))))) (fun (y26, y27, y28, y29, y30) =>
           bif y30 then
            some false
           else
            loopN (α := ((List (List Int)) × ((List (List Int)) × ((List (List Int)) × ((List (List Int)) × Int))))) (fun (x32, x33, x34, x35, x36) next31 =>
             bif decide (x36 < (x34.length : Int)) then
              meet (α := ((List (List Int)) × ((List (List Int)) × ((List (List Int)) × ((List (List Int)) × (Int × Bool)))))) (fun (y37, y38, y39, y40, y41, y42) =>
               bif y42 then
                some false
               else
                next31 (y37, y38, y39, y40, w64 (y41 + 1))) fun j43 =>
              gd (inb x36 x35.length) <|
              gd (inb x36 x34.length) <|
              bif !(decide (((rdD [] x35 x36).length : Int) = (w64 (2 * ((rdD [] x34 x36).length : Int))))) then
               j43 (x32, x33, x34, x35, x36, true)
              else
               gd (inb x36 x35.length) <|
               gd (inb 0 (rdD [] x35 x36).length) <|
               gd (inb x36 x34.length) <|
               gd (inb 0 (rdD [] x34 x36).length) <|
               j43 (x32, x33, x34, x35, x36, !(decide ((rdD 0 (rdD [] x35 x36) 0) = (rdD 0 (rdD [] x34 x36) 0))))
             else
              bnd (c_parquetref11_Parts x32) fun r44 =>
              bnd (c_parquetref11_Parts x33) fun r45 =>
              loopN (α := ((List (List Int)) × ((List Int) × ((List Int) × (Int × Int))))) (fun (x47, x48, x49, x50, x51) next46 =>
               bif decide (x51 < (x47.length : Int)) then
                loopN (α := ((List (List Int)) × ((List Int) × ((List Int) × (Int × (Int × Int)))))) (fun (x53, x54, x55, x56, x57, x58) next52 =>
                 gd (inb x57 x53.length) <|
                 bif decide (x58 < ((rdD [] x53 x57).length : Int)) then
                  meet (α := ((List (List Int)) × ((List Int) × ((List Int) × (Int × (Int × (Int × Bool))))))) (fun (y59, y60, y61, y62, y63, y64, y65) =>
                   bif y65 then
                    some false
                   else
                    next52 (y59, y60, y61, w64 (y62 + 1), y63, w64 (y64 + 1))) fun j66 =>
                  bif decide (x56 ≥ (x55.length : Int)) then
                   j66 (x53, x54, x55, x56, x57, x58, true)
                  else
                   gd (inb x56 x55.length) <|
                   gd (inb x57 x54.length) <|
                   j66 (x53, x54, x55, x56, x57, x58, !(decide ((rdD 0 x55 x56) = (rdD 0 x54 x57))))
                 else
                  next46 (x53, x54, x55, x56, w64 (x57 + 1))) k (x47, x48, x49, x50, x51, 0)
               else
                bnd (c_parquetlaw20_known) fun r67 =>
                some r67) k (x32, r44, r45, 0, 0)) k (y26, y27, y28, y29, 0)) fun j68 =>
          bif !(decide (r24.2 = r25.2)) then
           j68 (y20, y22, r24.1, r25.1, true)
          else
           j68 (y20, y22, r24.1, r25.1, !(decide ((r24.1.length : Int) = (r25.1.length : Int))))) fun j69 =>
        bif !(decide ((x11.length : Int) = (w64 ((w64 ((x9.length : Int) + x13)) + x14)))) then
         j69 (x9, x10, x11, x12, true)
        else
         bif !(decide (x15 = (w64 ((w64 (2 * x13)) + x17)))) then
          j69 (x9, x10, x11, x12, true)
         else
          j69 (x9, x10, x11, x12, !(decide (x16 = x17)))) k (y0, y1, r4.1, r4.2.1, r6.2.1, r6.2.2, r7.2.1, r7.2.2, 0, 0)) fun j70 =>
   bnd (c_parquetlaw20_many a0 a1) fun r71 =>
   bif r71 then
    j70 (a0, a1, true)
   else
    j70 (a0, a1, decide ((a1.length : Int) > 16))
theorem eq_parquetlaw20_HalveEuler (k : Nat) (c_parquetlaw20_many : (List (Int × Int)) → (List (List Int)) → Option Bool) (c_parquetlaw20_known : Option Bool) (c_halve_Run : (List (Int × Int)) → (List (List Int)) → Option ((List (Int × Int)) × (List (List Int)) × Int)) (c_parquetref11_Count : (List (List Int)) → Option (Int × Int × Int)) (c_parquetref11_Rims : Int → (List (List Int)) → Option ((List (List Int)) × Int)) (c_parquetref11_Parts : (List (List Int)) → Option (List Int)) (a0 : (List (Int × Int))) (a1 : (List (List Int))) : textF [⟨9, [.d (.sl (.pair kI kI)), .d (.sl (.sl kI))], [.bool], fun x => c_parquetlaw20_many (x.1) (x.2), none⟩, ⟨10, [], [.bool], fun x => c_parquetlaw20_known, none⟩, ⟨11, [.d (.sl (.pair kI kI)), .d (.sl (.sl kI))], [.sl (.pair kI kI), .sl (.sl kI), kI], fun x => c_halve_Run (x.1) (x.2), none⟩, ⟨23, [.d (.sl (.sl kI))], [kI, kI, kI], fun x => c_parquetref11_Count x, none⟩, ⟨24, [.d kI, .d (.sl (.sl kI))], [.sl (.sl kI), kI], fun x => c_parquetref11_Rims (x.1) (x.2), none⟩, ⟨25, [.d (.sl (.sl kI))], [.sl kI], fun x => c_parquetref11_Parts x, none⟩] tb k Try.f5 an_parquetlaw20_HalveEuler [.d (.sl (.pair kI kI)), .d (.sl (.sl kI))] [.bool] (a0, a1) = b_parquetlaw20_HalveEuler k c_parquetlaw20_many c_parquetlaw20_known c_halve_Run c_parquetref11_Count c_parquetref11_Rims c_parquetref11_Parts a0 a1 := by kernel_rfl
def g_parquetlaw20_HalveEuler (k : Nat) (a0 : (List (Int × Int))) (a1 : (List (List Int))) : Option Bool := b_parquetlaw20_HalveEuler k (g_parquetlaw20_many k) (g_parquetlaw20_known k) (g_halve_Run k) (g_parquetref11_Count k) (g_parquetref11_Rims k) (g_parquetref11_Parts k) a0 a1
theorem tells_parquetlaw20_HalveEuler (k : Nat) : TellsF Try.prog 5 [.d (.sl (.pair kI kI)), .d (.sl (.sl kI))] [.bool] (fun x => g_parquetlaw20_HalveEuler k (x.1) (x.2)) := fun x y h => fun_tells tb_ok mix (es := [⟨9, [.d (.sl (.pair kI kI)), .d (.sl (.sl kI))], [.bool], fun x => g_parquetlaw20_many k (x.1) (x.2), none⟩, ⟨10, [], [.bool], fun x => g_parquetlaw20_known k, none⟩, ⟨11, [.d (.sl (.pair kI kI)), .d (.sl (.sl kI))], [.sl (.pair kI kI), .sl (.sl kI), kI], fun x => g_halve_Run k (x.1) (x.2), none⟩, ⟨23, [.d (.sl (.sl kI))], [kI, kI, kI], fun x => g_parquetref11_Count k x, none⟩, ⟨24, [.d kI, .d (.sl (.sl kI))], [.sl (.sl kI), kI], fun x => g_parquetref11_Rims k (x.1) (x.2), none⟩, ⟨25, [.d (.sl (.sl kI))], [.sl kI], fun x => g_parquetref11_Parts k x, none⟩]) (EsOk.cons (EntryOk.of rfl (tells_parquetlaw20_many k)) (EsOk.cons (EntryOk.of rfl (tells_parquetlaw20_known k)) (EsOk.cons (EntryOk.of rfl (tells_halve_Run k)) (EsOk.cons (EntryOk.of rfl (tells_parquetref11_Count k)) (EsOk.cons (EntryOk.of rfl (tells_parquetref11_Rims k)) (EsOk.cons (EntryOk.of rfl (tells_parquetref11_Parts k)) (EsOk.nil _))))))) Try.func5 (N := k) (an := an_parquetlaw20_HalveEuler) (by kernel_rfl) x y ((eq_parquetlaw20_HalveEuler k (g_parquetlaw20_many k) (g_parquetlaw20_known k) (g_halve_Run k) (g_parquetref11_Count k) (g_parquetref11_Rims k) (g_parquetref11_Parts k) (x.1) (x.2)).trans h)

def an_parquetlaw20_HalveCorners : Ann := .node none none .leaf (.node none none .leaf (.node none none .leaf (.node none none .leaf (.node none none .leaf (.node none none (.node none none .leaf (.node none none (.node none (some [(0, .d (.sl (.pair kI kI))), (1, .d (.sl (.sl kI))), (5, .d (.sl (.pair kI kI))), (6, .d (.sl (.sl kI))), (8, .d kI), (9, .d kI)]) (.node none none .leaf (.node none none (.node none none (.node none none .leaf (.node none none .leaf (.node none none .leaf (.node none none (.node none (some [(0, .d (.sl (.pair kI kI))), (1, .d (.sl (.sl kI))), (5, .d (.sl (.pair kI kI))), (6, .d (.sl (.sl kI))), (8, .d kI), (9, .d kI), (10, .d kI), (11, .box [.d (.pair kI kI)]), (12, .d kI), (13, .d kI)]) (.node none none .leaf (.node none none (.node none none (.node none none (.node none none (.node (some [(0, .d (.sl (.pair kI kI))), (1, .d (.sl (.sl kI))), (5, .d (.sl (.pair kI kI))), (6, .d (.sl (.sl kI))), (8, .d kI), (9, .d kI), (10, .d kI), (11, .box [.d (.pair kI kI)]), (12, .d kI), (13, .d kI), (74, .d .bool)]) none .leaf .leaf) .leaf) (.node none none (.node none none .leaf (.node none none (.node none (some [(0, .d (.sl (.pair kI kI))), (1, .d (.sl (.sl kI))), (5, .d (.sl (.pair kI kI))), (6, .d (.sl (.sl kI))), (8, .d kI), (9, .d kI), (10, .d kI), (11, .box [.d (.pair kI kI)]), (12, .d kI), (13, .d kI), (14, .d kI)]) (.node none none .leaf (.node none none (.node none none (.node none none (.node (some [(0, .d (.sl (.pair kI kI))), (1, .d (.sl (.sl kI))), (5, .d (.sl (.pair kI kI))), (6, .d (.sl (.sl kI))), (8, .d kI), (9, .d kI), (10, .d kI), (11, .box [.d (.pair kI kI)]), (12, .d kI), (13, .d kI), (14, .d kI), (98, .d .bool)]) none .leaf .leaf) .leaf) .leaf) .leaf)) .leaf) .leaf)) (.node none none .leaf (.node none none .leaf (.node none none .leaf (.node none none .leaf (.node none none .leaf (.node none none (.node none none (.node (some [(0, .d (.sl (.pair kI kI))), (1, .d (.sl (.sl kI))), (5, .d (.sl (.pair kI kI))), (6, .d (.sl (.sl kI))), (8, .d kI), (9, .d kI), (10, .d kI), (11, .box [.d (.pair kI kI)]), (12, .d kI), (13, .d kI), (234, .d .bool)]) none .leaf .leaf) .leaf) .leaf)))))))) .leaf) .leaf)) .leaf) .leaf)))) .leaf) .leaf)) .leaf) .leaf)) (.node none none (.node (some [(4, .d .bool)]) none .leaf .leaf) .leaf))))))
def b_parquetlaw20_HalveCorners (k : Nat) (c_parquetlaw20_many : (List (Int × Int)) → (List (List Int)) → Option Bool) (c_parquetlaw20_known : Option Bool) (c_halve_Run : (List (Int × Int)) → (List (List Int)) → Option ((List (Int × Int)) × (List (List Int)) × Int)) (c_halve_Middle : (List (Int × Int)) → (List Int) → Option ((Int × Int) × Int)) (a0 : (List (Int × Int))) (a1 : (List (List Int))) : Option Bool :=
  bnd (c_parquetlaw20_many a0 a1) fun r0 =>
   bif r0 then
    bnd (c_parquetlaw20_known) fun r1 =>
    some r1
   else
    bnd (c_halve_Run a0 a1) fun r2 =>
    bif !(decide (r2.2.2 = 0)) then
     bnd (c_parquetlaw20_known) fun r3 =>
     some r3
    else
     loopN (α := ((List (Int × Int)) × ((List (List Int)) × ((List (Int × Int)) × ((List (List Int)) × (Int × Int)))))) (fun (x5, x6, x7, x8, x9, x10) next4 =>
      bif decide (x10 < (x6.length : Int)) then
       gd (inb x10 x6.length) <|
       gd (inb x10 x6.length) <|
       bnd (c_halve_Middle x5 (rdD [] x6 x10)) fun r11 =>
       loopN (α := ((List (Int × Int)) × ((List (List Int)) × ((List (Int × Int)) × ((List (List Int)) × (Int × (Int × (Int × ((Int × Int) × (Int × Int)))))))))) (fun (x13, x14, x15, x16, x17, x18, x19, x20, x21, x22) next12 =>
        bif decide (x22 < x19) then
         meet (α := ((List (Int × Int)) × ((List (List Int)) × ((List (Int × Int)) × ((List (List Int)) × (Int × (Int × (Int × ((Int × Int) × (Int × (Int × Bool))))))))))) (fun (y23, y24, y25, y26, y27, y28, y29, y30, y31, y32, y33) =>
          bif y33 then
           some false
          else
           loopN (α := ((List (Int × Int)) × ((List (List Int)) × ((List (Int × Int)) × ((List (List Int)) × (Int × (Int × (Int × ((Int × Int) × (Int × (Int × Int))))))))))) (fun (x35, x36, x37, x38, x39, x40, x41, x42, x43, x44, x45) next34 =>
            bif decide (x45 < 4) then
             meet (α := ((List (Int × Int)) × ((List (List Int)) × ((List (Int × Int)) × ((List (List Int)) × (Int × (Int × (Int × ((Int × Int) × (Int × (Int × (Int × Bool)))))))))))) (fun (y46, y47, y48, y49, y50, y51, y52, y53, y54, y55, y56, y57) =>
              bif y57 then
               some false
              else
               next34 (y46, y47, y48, y49, y50, y51, y52, (y53.1, y53.2), y54, y55, w64 (y56 + 1))) fun j58 =>
             gd (inb x39 x38.length) <|
             gd (inb x45 (rdD [] x38 x39).length) <|
             bif decide ((rdD 0 (rdD [] x38 x39) x45) < 0) then
              j58 (x35, x36, x37, x38, x39, x40, x41, (x42.1, x42.2), x43, x44, x45, true)
             else
              gd (inb x39 x38.length) <|
              gd (inb x45 (rdD [] x38 x39).length) <|
              j58 (x35, x36, x37, x38, x39, x40, x41, (x42.1, x42.2), x43, x44, x45, decide ((rdD 0 (rdD [] x38 x39) x45) ≥ (x37.length : Int)))
            else
             gd (inb x40 x36.length) <|
             gd (inb x44 (rdD [] x36 x40).length) <|
             gd (inb (rdD 0 (rdD [] x36 x40) x44) x35.length) <|
             gd (inb x40 x36.length) <|
             gd (!(decide (x41 = 0))) <|
             gd (inb ((w64 (x44 + 1)).tmod x41) (rdD [] x36 x40).length) <|
             gd (inb (rdD 0 (rdD [] x36 x40) ((w64 (x44 + 1)).tmod x41)) x35.length) <|
             gd (inb x40 x36.length) <|
             gd (!(decide (x41 = 0))) <|
             gd (inb ((w64 ((w64 (x44 + x41)) - 1)).tmod x41) (rdD [] x36 x40).length) <|
             gd (inb (rdD 0 (rdD [] x36 x40) ((w64 ((w64 (x44 + x41)) - 1)).tmod x41)) x35.length) <|
             gd (inb x39 x38.length) <|
             gd (inb 1 (rdD [] x38 x39).length) <|
             gd (inb (rdD 0 (rdD [] x38 x39) 1) x37.length) <|
             gd (inb x39 x38.length) <|
             gd (inb 3 (rdD [] x38 x39).length) <|
             gd (inb (rdD 0 (rdD [] x38 x39) 3) x37.length) <|
             meet (α := ((List (Int × Int)) × ((List (List Int)) × ((List (Int × Int)) × ((List (List Int)) × (Int × (Int × (Int × ((Int × Int) × (Int × (Int × Bool))))))))))) (fun (y59, y60, y61, y62, y63, y64, y65, y66, y67, y68, y69) =>
              bif y69 then
               some false
              else
               next12 (y59, y60, y61, y62, w64 (y63 + 1), y64, y65, (y66.1, y66.2), y67, w64 (y68 + 1))) fun j70 =>
             gd (inb x39 x38.length) <|
             gd (inb 0 (rdD [] x38 x39).length) <|
             gd (inb x40 x36.length) <|
             gd (inb x44 (rdD [] x36 x40).length) <|
             bif !(decide ((rdD 0 (rdD [] x38 x39) 0) = (rdD 0 (rdD [] x36 x40) x44))) then
              j70 (x35, x36, x37, x38, x39, x40, x41, (x42.1, x42.2), x43, x44, true)
             else
              gd (inb x39 x38.length) <|
              gd (inb 0 (rdD [] x38 x39).length) <|
              gd (inb (rdD 0 (rdD [] x38 x39) 0) x37.length) <|
              bif !((decide ((rdD (0, 0) x37 (rdD 0 (rdD [] x38 x39) 0)).1 = (w64 (12 * (rdD (0, 0) x35 (rdD 0 (rdD [] x36 x40) x44)).1)))) && (decide ((rdD (0, 0) x37 (rdD 0 (rdD [] x38 x39) 0)).2 = (w64 (12 * (rdD (0, 0) x35 (rdD 0 (rdD [] x36 x40) x44)).2))))) then
               j70 (x35, x36, x37, x38, x39, x40, x41, (x42.1, x42.2), x43, x44, true)
              else
               gd (inb x39 x38.length) <|
               gd (inb 2 (rdD [] x38 x39).length) <|
               gd (inb (rdD 0 (rdD [] x38 x39) 2) x37.length) <|
               bif !((decide ((rdD (0, 0) x37 (rdD 0 (rdD [] x38 x39) 2)).1 = x42.1)) && (decide ((rdD (0, 0) x37 (rdD 0 (rdD [] x38 x39) 2)).2 = x42.2))) then
                j70 (x35, x36, x37, x38, x39, x40, x41, (x42.1, x42.2), x43, x44, true)
               else
                bif !((decide ((rdD (0, 0) x37 (rdD 0 (rdD [] x38 x39) 1)).1 = (w64 (6 * (w64 ((rdD (0, 0) x35 (rdD 0 (rdD [] x36 x40) x44)).1 + (rdD (0, 0) x35 (rdD 0 (rdD [] x36 x40) ((w64 (x44 + 1)).tmod x41))).1)))))) && (decide ((rdD (0, 0) x37 (rdD 0 (rdD [] x38 x39) 1)).2 = (w64 (6 * (w64 ((rdD (0, 0) x35 (rdD 0 (rdD [] x36 x40) x44)).2 + (rdD (0, 0) x35 (rdD 0 (rdD [] x36 x40) ((w64 (x44 + 1)).tmod x41))).2))))))) then
                 j70 (x35, x36, x37, x38, x39, x40, x41, (x42.1, x42.2), x43, x44, true)
                else
                 j70 (x35, x36, x37, x38, x39, x40, x41, (x42.1, x42.2), x43, x44, !((decide ((rdD (0, 0) x37 (rdD 0 (rdD [] x38 x39) 3)).1 = (w64 (6 * (w64 ((rdD (0, 0) x35 (rdD 0 (rdD [] x36 x40) x44)).1 + (rdD (0, 0) x35 (rdD 0 (rdD [] x36 x40) ((w64 ((w64 (x44 + x41)) - 1)).tmod x41))).1)))))) && (decide ((rdD (0, 0) x37 (rdD 0 (rdD [] x38 x39) 3)).2 = (w64 (6 * (w64 ((rdD (0, 0) x35 (rdD 0 (rdD [] x36 x40) x44)).2 + (rdD (0, 0) x35 (rdD 0 (rdD [] x36 x40) ((w64 ((w64 (x44 + x41)) - 1)).tmod x41))).2))))))))) k (y23, y24, y25, y26, y27, y28, y29, (y30.1, y30.2), y31, y32, 0)) fun j71 =>
         bif decide (x17 ≥ (x16.length : Int)) then
          j71 (x13, x14, x15, x16, x17, x18, x19, (x20.1, x20.2), x21, x22, true)
         else
          gd (inb x17 x16.length) <|
          bif !(decide (((rdD [] x16 x17).length : Int) = 4)) then
           j71 (x13, x14, x15, x16, x17, x18, x19, (x20.1, x20.2), x21, x22, true)
          else
           j71 (x13, x14, x15, x16, x17, x18, x19, (x20.1, x20.2), x21, x22, !(decide (x21 = 0)))
        else
         next4 (x13, x14, x15, x16, x17, w64 (x18 + 1))) k (x5, x6, x7, x8, x9, x10, ((rdD [] x6 x10).length : Int), (r11.1.1, r11.1.2), r11.2, 0)
      else
       meet (α := Bool) (fun y72 =>
        some y72) fun j73 =>
       bif decide (x9 = (x8.length : Int)) then
        bnd (c_parquetlaw20_known) fun r74 =>
        j73 r74
       else
        j73 false) k (a0, a1, r2.1, r2.2.1, 0, 0)
theorem eq_parquetlaw20_HalveCorners (k : Nat) (c_parquetlaw20_many : (List (Int × Int)) → (List (List Int)) → Option Bool) (c_parquetlaw20_known : Option Bool) (c_halve_Run : (List (Int × Int)) → (List (List Int)) → Option ((List (Int × Int)) × (List (List Int)) × Int)) (c_halve_Middle : (List (Int × Int)) → (List Int) → Option ((Int × Int) × Int)) (a0 : (List (Int × Int))) (a1 : (List (List Int))) : textF [⟨9, [.d (.sl (.pair kI kI)), .d (.sl (.sl kI))], [.bool], fun x => c_parquetlaw20_many (x.1) (x.2), none⟩, ⟨10, [], [.bool], fun x => c_parquetlaw20_known, none⟩, ⟨11, [.d (.sl (.pair kI kI)), .d (.sl (.sl kI))], [.sl (.pair kI kI), .sl (.sl kI), kI], fun x => c_halve_Run (x.1) (x.2), none⟩, ⟨13, [.d (.sl (.pair kI kI)), .d (.sl kI)], [.pair kI kI, kI], fun x => c_halve_Middle (x.1) (x.2), none⟩] tb k Try.f6 an_parquetlaw20_HalveCorners [.d (.sl (.pair kI kI)), .d (.sl (.sl kI))] [.bool] (a0, a1) = b_parquetlaw20_HalveCorners k c_parquetlaw20_many c_parquetlaw20_known c_halve_Run c_halve_Middle a0 a1 := by kernel_rfl
def g_parquetlaw20_HalveCorners (k : Nat) (a0 : (List (Int × Int))) (a1 : (List (List Int))) : Option Bool := b_parquetlaw20_HalveCorners k (g_parquetlaw20_many k) (g_parquetlaw20_known k) (g_halve_Run k) (g_halve_Middle k) a0 a1
theorem tells_parquetlaw20_HalveCorners (k : Nat) : TellsF Try.prog 6 [.d (.sl (.pair kI kI)), .d (.sl (.sl kI))] [.bool] (fun x => g_parquetlaw20_HalveCorners k (x.1) (x.2)) := fun x y h => fun_tells tb_ok mix (es := [⟨9, [.d (.sl (.pair kI kI)), .d (.sl (.sl kI))], [.bool], fun x => g_parquetlaw20_many k (x.1) (x.2), none⟩, ⟨10, [], [.bool], fun x => g_parquetlaw20_known k, none⟩, ⟨11, [.d (.sl (.pair kI kI)), .d (.sl (.sl kI))], [.sl (.pair kI kI), .sl (.sl kI), kI], fun x => g_halve_Run k (x.1) (x.2), none⟩, ⟨13, [.d (.sl (.pair kI kI)), .d (.sl kI)], [.pair kI kI, kI], fun x => g_halve_Middle k (x.1) (x.2), none⟩]) (EsOk.cons (EntryOk.of rfl (tells_parquetlaw20_many k)) (EsOk.cons (EntryOk.of rfl (tells_parquetlaw20_known k)) (EsOk.cons (EntryOk.of rfl (tells_halve_Run k)) (EsOk.cons (EntryOk.of rfl (tells_halve_Middle k)) (EsOk.nil _))))) Try.func6 (N := k) (an := an_parquetlaw20_HalveCorners) (by kernel_rfl) x y ((eq_parquetlaw20_HalveCorners k (g_parquetlaw20_many k) (g_parquetlaw20_known k) (g_halve_Run k) (g_halve_Middle k) (x.1) (x.2)).trans h)

end
end Go.Proofs.Ytiejhpighhjgiaa.AM
