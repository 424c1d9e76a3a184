/- The functions, by their texts: written by a program. -/
import Derived.Test.YtgbgihofehmjpaaGa2
set_option linter.unusedVariables false
set_option maxRecDepth 100000
namespace Go.Proofs.Ytgbgihofehmjpaa.AM
open Go.RowKit Go.Proofs
def an_parquetlaw09_WithinBox : Ann := .node none none .leaf (.node none none .leaf (.node none none .leaf (.node none none .leaf (.node none none (.node none none (.node (some [(4, .box [.d (.pair kI kI)]), (7, .box [.d (.pair kI kI)]), (9, .d kI), (10, .d kI), (11, .row (.pair kI kI) 25), (91, .d .bool)]) none .leaf .leaf) .leaf) (.node none none .leaf (.node none none .leaf (.node none none (.node (some [(4, .box [.d (.pair kI kI)]), (7, .box [.d (.pair kI kI)]), (9, .d kI), (10, .d kI), (11, .d (.sl (.pair kI kI))), (12, .d (.sl (.pair kI kI))), (13, .d kI), (14, .d kI), (15, .d .bool)]) none .leaf .leaf) (.node none none (.node (some [(7, .box [.d (.pair kI kI)]), (11, .d (.sl (.pair kI kI))), (12, .d (.sl (.pair kI kI))), (13, .d kI), (14, .d kI), (15, .d .bool), (16, .d .bool)]) none .leaf .leaf) (.node none none .leaf (.node none none (.node none none .leaf (.node (some [(7, .box [.d (.pair kI kI)]), (11, .d (.sl (.pair kI kI))), (12, .d (.sl (.pair kI kI))), (13, .d kI), (14, .d kI), (15, .d .bool), (17, .d kI)]) none .leaf .leaf)) (.node none none (.node none none .leaf (.node (some [(7, .box [.d (.pair kI kI)]), (11, .d (.sl (.pair kI kI))), (12, .d (.sl (.pair kI kI))), (13, .d kI), (14, .d kI), (15, .d .bool), (17, .d kI)]) none .leaf .leaf)) (.node none none (.node none none (.node (some [(7, .box [.d (.pair kI kI)]), (11, .d (.sl (.pair kI kI))), (12, .d (.sl (.pair kI kI))), (15, .d .bool), (171, .d .bool)]) none .leaf .leaf) .leaf) (.node none none .leaf (.node none none .leaf (.node none none (.node none none (.node (some [(7, .box [.d (.pair kI kI)]), (200, .d .bool)]) none .leaf .leaf) .leaf) (.node none none (.node (some [(8, .d .bool)]) none .leaf .leaf) .leaf))))))))))))))))
def b_parquetlaw09_WithinBox (k : Nat) (c_parquetlaw09_known : Option Bool) (c_parquetlaw09_ring : (List (Int × Int)) → Option (List (Int × Int))) (c_within_At : (List (Int × Int)) → (List (Int × Int)) → (Int × Int) → Option (Int × Int)) (c_within_Halfway : (List (Int × Int)) → (List (Int × Int)) → Int → Int → Option (Int × Int)) (c_within_Third : (List (Int × Int)) → (List (Int × Int)) → Int → Int → Int → Option (Int × Int)) (c_parquetref03_Fits : (Int × Int) → Option Bool) (a0 : (Int × Int)) (a1 : Int) (a2 : Int) (a3 : (Int × Int)) : Option Bool :=
  meet (α := ((Int × Int) × ((Int × Int) × (Int × (Int × ((List (Int × Int)) × Bool)))))) (fun (y0, y1, y2, y3, y4, y5) =>
    bif y5 then
     bnd (c_parquetlaw09_known) fun r6 =>
     some r6
    else
     gd (decide (4 ≤ (y4.length : Int))) <|
     bnd (c_parquetlaw09_ring (tkL y4 4)) fun r7 =>
     bnd (c_within_At y4 r7 (y1.1, y1.2)) fun r8 =>
     meet (α := ((Int × Int) × ((Int × Int) × (Int × (Int × ((List (Int × Int)) × ((List (Int × Int)) × (Int × (Int × Bool))))))))) (fun (y9, y10, y11, y12, y13, y14, y15, y16, y17) =>
      meet (α := ((Int × Int) × ((List (Int × Int)) × ((List (Int × Int)) × (Int × (Int × (Bool × Bool))))))) (fun (y18, y19, y20, y21, y22, y23, y24) =>
       meet (α := ((Int × Int) × ((List (Int × Int)) × ((List (Int × Int)) × (Int × (Int × (Bool × Int))))))) (fun (y25, y26, y27, y28, y29, y30, y31) =>
        meet (α := ((Int × Int) × ((List (Int × Int)) × ((List (Int × Int)) × (Int × (Int × (Bool × Int))))))) (fun (y32, y33, y34, y35, y36, y37, y38) =>
         meet (α := ((Int × Int) × ((List (Int × Int)) × ((List (Int × Int)) × (Bool × Bool))))) (fun (y39, y40, y41, y42, y43) =>
          bif y43 then
           some false
          else
           bnd (c_within_Halfway y40 y41 0 4) fun r44 =>
           bnd (c_within_Third y40 y41 1 4 4) fun r45 =>
           meet (α := ((Int × Int) × Bool)) (fun (y46, y47) =>
            bif y47 then
             some false
            else
             meet (α := Bool) (fun y48 =>
              some y48) fun j49 =>
             bnd (c_parquetref03_Fits (y46.1, y46.2)) fun r50 =>
             bif r50 then
              bnd (c_parquetlaw09_known) fun r51 =>
              j49 r51
             else
              j49 false) fun j52 =>
           bif !(decide (r44.2 = 0)) then
            j52 ((y39.1, y39.2), true)
           else
            bif !(decide (r45.2 = 0)) then
             j52 ((y39.1, y39.2), true)
            else
             bif y42 then
              bif !(decide (r44.1 = 1)) then
               j52 ((y39.1, y39.2), true)
              else
               j52 ((y39.1, y39.2), !(decide (r45.1 = 1)))
             else
              j52 ((y39.1, y39.2), false)) fun j53 =>
         bif !(decide (y35 = y38)) then
          j53 ((y32.1, y32.2), y33, y34, y37, true)
         else
          j53 ((y32.1, y32.2), y33, y34, y37, !(decide (y36 = 0)))) fun j54 =>
        bif y30 then
         j54 ((y25.1, y25.2), y26, y27, y28, y29, y30, 1)
        else
         j54 ((y25.1, y25.2), y26, y27, y28, y29, y30, y31)) fun j55 =>
       bif y24 then
        j55 ((y18.1, y18.2), y19, y20, y21, y22, y23, 0)
       else
        j55 ((y18.1, y18.2), y19, y20, y21, y22, y23, (-1))) fun j56 =>
      bif decide (y10.1 ≥ y9.1) then
       bif decide (y10.1 ≤ (w64 (y9.1 + y11))) then
        bif decide (y10.2 ≥ y9.2) then
         j56 ((y10.1, y10.2), y13, y14, y15, y16, y17, decide (y10.2 ≤ (w64 (y9.2 + y12))))
        else
         j56 ((y10.1, y10.2), y13, y14, y15, y16, y17, false)
       else
        j56 ((y10.1, y10.2), y13, y14, y15, y16, y17, false)
      else
       j56 ((y10.1, y10.2), y13, y14, y15, y16, y17, false)) fun j57 =>
     bif decide (y1.1 > y0.1) then
      bif decide (y1.1 < (w64 (y0.1 + y2))) then
       bif decide (y1.2 > y0.2) then
        j57 ((y0.1, y0.2), (y1.1, y1.2), y2, y3, y4, r7, r8.1, r8.2, decide (y1.2 < (w64 (y0.2 + y3))))
       else
        j57 ((y0.1, y0.2), (y1.1, y1.2), y2, y3, y4, r7, r8.1, r8.2, false)
      else
       j57 ((y0.1, y0.2), (y1.1, y1.2), y2, y3, y4, r7, r8.1, r8.2, false)
     else
      j57 ((y0.1, y0.2), (y1.1, y1.2), y2, y3, y4, r7, r8.1, r8.2, false)) fun j58 =>
   bif decide (a0.1 > 1073741824) then
    j58 ((a0.1, a0.2), (a3.1, a3.2), w64 (1 + (w64 a1)), w64 (1 + (w64 a2)), [(a0.1, a0.2), (w64 (a0.1 + (w64 (1 + (w64 a1)))), a0.2), (w64 (a0.1 + (w64 (1 + (w64 a1)))), w64 (a0.2 + (w64 (1 + (w64 a2))))), (a0.1, w64 (a0.2 + (w64 (1 + (w64 a2))))), (a3.1, a3.2)], true)
   else
    bif decide (a0.1 < (-1073741824)) then
     j58 ((a0.1, a0.2), (a3.1, a3.2), w64 (1 + (w64 a1)), w64 (1 + (w64 a2)), [(a0.1, a0.2), (w64 (a0.1 + (w64 (1 + (w64 a1)))), a0.2), (w64 (a0.1 + (w64 (1 + (w64 a1)))), w64 (a0.2 + (w64 (1 + (w64 a2))))), (a0.1, w64 (a0.2 + (w64 (1 + (w64 a2))))), (a3.1, a3.2)], true)
    else
     bif decide (a0.2 > 1073741824) then
      j58 ((a0.1, a0.2), (a3.1, a3.2), w64 (1 + (w64 a1)), w64 (1 + (w64 a2)), [(a0.1, a0.2), (w64 (a0.1 + (w64 (1 + (w64 a1)))), a0.2), (w64 (a0.1 + (w64 (1 + (w64 a1)))), w64 (a0.2 + (w64 (1 + (w64 a2))))), (a0.1, w64 (a0.2 + (w64 (1 + (w64 a2))))), (a3.1, a3.2)], true)
     else
      bif decide (a0.2 < (-1073741824)) then
       j58 ((a0.1, a0.2), (a3.1, a3.2), w64 (1 + (w64 a1)), w64 (1 + (w64 a2)), [(a0.1, a0.2), (w64 (a0.1 + (w64 (1 + (w64 a1)))), a0.2), (w64 (a0.1 + (w64 (1 + (w64 a1)))), w64 (a0.2 + (w64 (1 + (w64 a2))))), (a0.1, w64 (a0.2 + (w64 (1 + (w64 a2))))), (a3.1, a3.2)], true)
      else
       bif decide (a3.1 > 1073741824) then
        j58 ((a0.1, a0.2), (a3.1, a3.2), w64 (1 + (w64 a1)), w64 (1 + (w64 a2)), [(a0.1, a0.2), (w64 (a0.1 + (w64 (1 + (w64 a1)))), a0.2), (w64 (a0.1 + (w64 (1 + (w64 a1)))), w64 (a0.2 + (w64 (1 + (w64 a2))))), (a0.1, w64 (a0.2 + (w64 (1 + (w64 a2))))), (a3.1, a3.2)], true)
       else
        bif decide (a3.1 < (-1073741824)) then
         j58 ((a0.1, a0.2), (a3.1, a3.2), w64 (1 + (w64 a1)), w64 (1 + (w64 a2)), [(a0.1, a0.2), (w64 (a0.1 + (w64 (1 + (w64 a1)))), a0.2), (w64 (a0.1 + (w64 (1 + (w64 a1)))), w64 (a0.2 + (w64 (1 + (w64 a2))))), (a0.1, w64 (a0.2 + (w64 (1 + (w64 a2))))), (a3.1, a3.2)], true)
        else
         bif decide (a3.2 > 1073741824) then
          j58 ((a0.1, a0.2), (a3.1, a3.2), w64 (1 + (w64 a1)), w64 (1 + (w64 a2)), [(a0.1, a0.2), (w64 (a0.1 + (w64 (1 + (w64 a1)))), a0.2), (w64 (a0.1 + (w64 (1 + (w64 a1)))), w64 (a0.2 + (w64 (1 + (w64 a2))))), (a0.1, w64 (a0.2 + (w64 (1 + (w64 a2))))), (a3.1, a3.2)], true)
         else
          j58 ((a0.1, a0.2), (a3.1, a3.2), w64 (1 + (w64 a1)), w64 (1 + (w64 a2)), [(a0.1, a0.2), (w64 (a0.1 + (w64 (1 + (w64 a1)))), a0.2), (w64 (a0.1 + (w64 (1 + (w64 a1)))), w64 (a0.2 + (w64 (1 + (w64 a2))))), (a0.1, w64 (a0.2 + (w64 (1 + (w64 a2))))), (a3.1, a3.2)], decide (a3.2 < (-1073741824)))
theorem eq_parquetlaw09_WithinBox (k : Nat) (c_parquetlaw09_known : Option Bool) (c_parquetlaw09_ring : (List (Int × Int)) → Option (List (Int × Int))) (c_within_At : (List (Int × Int)) → (List (Int × Int)) → (Int × Int) → Option (Int × Int)) (c_within_Halfway : (List (Int × Int)) → (List (Int × Int)) → Int → Int → Option (Int × Int)) (c_within_Third : (List (Int × Int)) → (List (Int × Int)) → Int → Int → Int → Option (Int × Int)) (c_parquetref03_Fits : (Int × Int) → Option Bool) (a0 : (Int × Int)) (a1 : Int) (a2 : Int) (a3 : (Int × Int)) : textF [⟨11, [], [.bool], fun x => c_parquetlaw09_known⟩, ⟨17, [.d (.sl (.pair kI kI))], [.sl (.pair kI kI)], fun x => c_parquetlaw09_ring x⟩, ⟨12, [.d (.sl (.pair kI kI)), .d (.sl (.pair kI kI)), .d (.pair kI kI)], [kI, kI], fun x => c_within_At (x.1) (x.2.1) (x.2.2)⟩, ⟨14, [.d (.sl (.pair kI kI)), .d (.sl (.pair kI kI)), .d kI, .d kI], [kI, kI], fun x => c_within_Halfway (x.1) (x.2.1) (x.2.2.1) (x.2.2.2)⟩, ⟨16, [.d (.sl (.pair kI kI)), .d (.sl (.pair kI kI)), .d kI, .d kI, .d kI], [kI, kI], fun x => c_within_Third (x.1) (x.2.1) (x.2.2.1) (x.2.2.2.1) (x.2.2.2.2)⟩, ⟨19, [.d (.pair kI kI)], [.bool], fun x => c_parquetref03_Fits x⟩] tb k Try.f7 an_parquetlaw09_WithinBox [.d (.pair kI kI), .d (.int .u16), .d (.int .u16), .d (.pair kI kI)] [.bool] (a0, a1, a2, a3) = b_parquetlaw09_WithinBox k c_parquetlaw09_known c_parquetlaw09_ring c_within_At c_within_Halfway c_within_Third c_parquetref03_Fits a0 a1 a2 a3 := by kernel_rfl
def g_parquetlaw09_WithinBox (k : Nat) (a0 : (Int × Int)) (a1 : Int) (a2 : Int) (a3 : (Int × Int)) : Option Bool := b_parquetlaw09_WithinBox k (g_parquetlaw09_known k) (g_parquetlaw09_ring k) (g_within_At k) (g_within_Halfway k) (g_within_Third k) (g_parquetref03_Fits k) a0 a1 a2 a3
theorem tells_parquetlaw09_WithinBox (k : Nat) : TellsF Try.prog 7 [.d (.pair kI kI), .d (.int .u16), .d (.int .u16), .d (.pair kI kI)] [.bool] (fun x => g_parquetlaw09_WithinBox k (x.1) (x.2.1) (x.2.2.1) (x.2.2.2)) := fun x y h => fun_tells tb_ok mix (es := [⟨11, [], [.bool], fun x => g_parquetlaw09_known k⟩, ⟨17, [.d (.sl (.pair kI kI))], [.sl (.pair kI kI)], fun x => g_parquetlaw09_ring k x⟩, ⟨12, [.d (.sl (.pair kI kI)), .d (.sl (.pair kI kI)), .d (.pair kI kI)], [kI, kI], fun x => g_within_At k (x.1) (x.2.1) (x.2.2)⟩, ⟨14, [.d (.sl (.pair kI kI)), .d (.sl (.pair kI kI)), .d kI, .d kI], [kI, kI], fun x => g_within_Halfway k (x.1) (x.2.1) (x.2.2.1) (x.2.2.2)⟩, ⟨16, [.d (.sl (.pair kI kI)), .d (.sl (.pair kI kI)), .d kI, .d kI, .d kI], [kI, kI], fun x => g_within_Third k (x.1) (x.2.1) (x.2.2.1) (x.2.2.2.1) (x.2.2.2.2)⟩, ⟨19, [.d (.pair kI kI)], [.bool], fun x => g_parquetref03_Fits k x⟩]) (EsOk.cons ⟨rfl, tells_parquetlaw09_known k⟩ (EsOk.cons ⟨rfl, tells_parquetlaw09_ring k⟩ (EsOk.cons ⟨rfl, tells_within_At k⟩ (EsOk.cons ⟨rfl, tells_within_Halfway k⟩ (EsOk.cons ⟨rfl, tells_within_Third k⟩ (EsOk.cons ⟨rfl, tells_parquetref03_Fits k⟩ (EsOk.nil _))))))) Try.func7 (N := k) (an := an_parquetlaw09_WithinBox) (by kernel_rfl) x y ((eq_parquetlaw09_WithinBox k (g_parquetlaw09_known k) (g_parquetlaw09_ring k) (g_within_At k) (g_within_Halfway k) (g_within_Third k) (g_parquetref03_Fits k) (x.1) (x.2.1) (x.2.2.1) (x.2.2.2)).trans h)

def an_parquetref04_Inside : Ann := .node none none .leaf (.node none none (.node (some [(6, .d .bool)]) none .leaf .leaf) .leaf)
def b_parquetref04_Inside (k : Nat) (c_parquetref04_on : (Int × Int) → (Int × Int) → (Int × Int) → Option Bool) (a0 : (Int × Int)) (a1 : (Int × Int)) (a2 : (Int × Int)) : Option Bool :=
  meet (α := Bool) (fun y0 =>
    some y0) fun j1 =>
   bnd (c_parquetref04_on (a0.1, a0.2) (a1.1, a1.2) (a2.1, a2.2)) fun r2 =>
   bif r2 then
    bif !((decide (a2.1 = a0.1)) && (decide (a2.2 = a0.2))) then
     j1 (!((decide (a2.1 = a1.1)) && (decide (a2.2 = a1.2))))
    else
     j1 false
   else
    j1 false
theorem eq_parquetref04_Inside (k : Nat) (c_parquetref04_on : (Int × Int) → (Int × Int) → (Int × Int) → Option Bool) (a0 : (Int × Int)) (a1 : (Int × Int)) (a2 : (Int × Int)) : textF [⟨32, [.d (.pair kI kI), .d (.pair kI kI), .d (.pair kI kI)], [.bool], fun x => c_parquetref04_on (x.1) (x.2.1) (x.2.2)⟩] tb k Try.f20 an_parquetref04_Inside [.d (.pair kI kI), .d (.pair kI kI), .d (.pair kI kI)] [.bool] (a0, a1, a2) = b_parquetref04_Inside k c_parquetref04_on a0 a1 a2 := by kernel_rfl
def g_parquetref04_Inside (k : Nat) (a0 : (Int × Int)) (a1 : (Int × Int)) (a2 : (Int × Int)) : Option Bool := b_parquetref04_Inside k (g_parquetref04_on k) a0 a1 a2
theorem tells_parquetref04_Inside (k : Nat) : TellsF Try.prog 20 [.d (.pair kI kI), .d (.pair kI kI), .d (.pair kI kI)] [.bool] (fun x => g_parquetref04_Inside k (x.1) (x.2.1) (x.2.2)) := fun x y h => fun_tells tb_ok mix (es := [⟨32, [.d (.pair kI kI), .d (.pair kI kI), .d (.pair kI kI)], [.bool], fun x => g_parquetref04_on k (x.1) (x.2.1) (x.2.2)⟩]) (EsOk.cons ⟨rfl, tells_parquetref04_on k⟩ (EsOk.nil _)) Try.func20 (N := k) (an := an_parquetref04_Inside) (by kernel_rfl) x y ((eq_parquetref04_Inside k (g_parquetref04_on k) (x.1) (x.2.1) (x.2.2)).trans h)

def an_parquetlaw09_WithinSplit : Ann := .node none none .leaf (.node none none (.node none none (.node (some [(0, .d (.sl (.pair kI kI))), (1, .d kI), (6, .box [.d (.pair kI kI)]), (7, .box [.d (.pair kI kI)]), (27, .d .bool)]) none .leaf .leaf) .leaf) (.node none none .leaf (.node none none .leaf (.node none none .leaf (.node none none .leaf (.node none none .leaf (.node none none .leaf (.node none none .leaf (.node none none .leaf (.node none none .leaf (.node none none .leaf (.node none none .leaf (.node none none .leaf (.node none none (.node none none (.node (some [(0, .d (.sl (.pair kI kI))), (11, .row (.pair kI kI) 25), (12, .d kI), (106, .d .bool)]) none .leaf .leaf) .leaf) (.node none none .leaf (.node none none .leaf (.node none none (.node (some [(8, .d .bool)]) none .leaf .leaf) .leaf)))))))))))))))))
def b_parquetlaw09_WithinSplit (k : Nat) (c_parquetlaw09_known : Option Bool) (c_parquetref04_Inside : (Int × Int) → (Int × Int) → (Int × Int) → Option Bool) (c_parquetlaw09_ring : (List (Int × Int)) → Option (List (Int × Int))) (c_within_At : (List (Int × Int)) → (List (Int × Int)) → (Int × Int) → Option (Int × Int)) (c_within_Halfway : (List (Int × Int)) → (List (Int × Int)) → Int → Int → Option (Int × Int)) (c_within_Third : (List (Int × Int)) → (List (Int × Int)) → Int → Int → Int → Option (Int × Int)) (a0 : (List (Int × Int))) (a1 : Int) (a2 : (Int × Int)) (a3 : (Int × Int)) : Option Bool :=
  meet (α := ((List (Int × Int)) × (Int × ((Int × Int) × ((Int × Int) × Bool))))) (fun (y0, y1, y2, y3, y4) =>
    bif y4 then
     bnd (c_parquetlaw09_known) fun r5 =>
     some r5
    else
     gd (!(decide ((IntKind.wrap .u64 (y0.length : Int)) = 0))) <|
     gd (inb (w64 ((IntKind.wrap .u64 y1).tmod (IntKind.wrap .u64 (y0.length : Int)))) y0.length) <|
     gd (!(decide ((y0.length : Int) = 0))) <|
     gd (inb ((w64 ((w64 ((IntKind.wrap .u64 y1).tmod (IntKind.wrap .u64 (y0.length : Int)))) + 1)).tmod (y0.length : Int)) y0.length) <|
     bnd (c_parquetref04_Inside ((rdD (0, 0) y0 (w64 ((IntKind.wrap .u64 y1).tmod (IntKind.wrap .u64 (y0.length : Int))))).1, (rdD (0, 0) y0 (w64 ((IntKind.wrap .u64 y1).tmod (IntKind.wrap .u64 (y0.length : Int))))).2) ((rdD (0, 0) y0 ((w64 ((w64 ((IntKind.wrap .u64 y1).tmod (IntKind.wrap .u64 (y0.length : Int)))) + 1)).tmod (y0.length : Int))).1, (rdD (0, 0) y0 ((w64 ((w64 ((IntKind.wrap .u64 y1).tmod (IntKind.wrap .u64 (y0.length : Int)))) + 1)).tmod (y0.length : Int))).2) (y2.1, y2.2)) fun r6 =>
     bif !r6 then
      bnd (c_parquetlaw09_known) fun r7 =>
      some r7
     else
      gd (decide (0 ≤ (w64 ((w64 ((IntKind.wrap .u64 y1).tmod (IntKind.wrap .u64 (y0.length : Int)))) + 1)))) <|
      gd (decide ((w64 ((w64 ((IntKind.wrap .u64 y1).tmod (IntKind.wrap .u64 (y0.length : Int)))) + 1)) ≤ (y0.length : Int))) <|
      gd (few (tkL y0 (w64 ((w64 ((IntKind.wrap .u64 y1).tmod (IntKind.wrap .u64 (y0.length : Int)))) + 1))).length) <|
      gd (few ((tkL y0 (w64 ((w64 ((IntKind.wrap .u64 y1).tmod (IntKind.wrap .u64 (y0.length : Int)))) + 1))).length + 1)) <|
      gd (decide (0 ≤ (w64 ((w64 ((IntKind.wrap .u64 y1).tmod (IntKind.wrap .u64 (y0.length : Int)))) + 1)))) <|
      gd (decide ((w64 ((w64 ((IntKind.wrap .u64 y1).tmod (IntKind.wrap .u64 (y0.length : Int)))) + 1)) ≤ (y0.length : Int))) <|
      gd (few (((tkL y0 (w64 ((w64 ((IntKind.wrap .u64 y1).tmod (IntKind.wrap .u64 (y0.length : Int)))) + 1))) ++ [(y2.1, y2.2)]).length + (dpL y0 (w64 ((w64 ((IntKind.wrap .u64 y1).tmod (IntKind.wrap .u64 (y0.length : Int)))) + 1))).length)) <|
      gd (few ((((tkL y0 (w64 ((w64 ((IntKind.wrap .u64 y1).tmod (IntKind.wrap .u64 (y0.length : Int)))) + 1))) ++ [(y2.1, y2.2)]) ++ (dpL y0 (w64 ((w64 ((IntKind.wrap .u64 y1).tmod (IntKind.wrap .u64 (y0.length : Int)))) + 1)))).length + 1)) <|
      gd (few y0.length) <|
      gd (few (y0.length + 1)) <|
      bnd (c_parquetlaw09_ring y0) fun r8 =>
      bnd (c_within_At (y0 ++ [(y3.1, y3.2)]) r8 (y3.1, y3.2)) fun r9 =>
      gd (decide (0 ≤ (w64 ((y0.length : Int) + 1)))) <|
      gd (decide ((w64 ((y0.length : Int) + 1)) ≤ (((((tkL y0 (w64 ((w64 ((IntKind.wrap .u64 y1).tmod (IntKind.wrap .u64 (y0.length : Int)))) + 1))) ++ [(y2.1, y2.2)]) ++ (dpL y0 (w64 ((w64 ((IntKind.wrap .u64 y1).tmod (IntKind.wrap .u64 (y0.length : Int)))) + 1)))) ++ [(y3.1, y3.2)]).length : Int))) <|
      bnd (c_parquetlaw09_ring (tkL ((((tkL y0 (w64 ((w64 ((IntKind.wrap .u64 y1).tmod (IntKind.wrap .u64 (y0.length : Int)))) + 1))) ++ [(y2.1, y2.2)]) ++ (dpL y0 (w64 ((w64 ((IntKind.wrap .u64 y1).tmod (IntKind.wrap .u64 (y0.length : Int)))) + 1)))) ++ [(y3.1, y3.2)]) (w64 ((y0.length : Int) + 1)))) fun r10 =>
      bnd (c_within_At ((((tkL y0 (w64 ((w64 ((IntKind.wrap .u64 y1).tmod (IntKind.wrap .u64 (y0.length : Int)))) + 1))) ++ [(y2.1, y2.2)]) ++ (dpL y0 (w64 ((w64 ((IntKind.wrap .u64 y1).tmod (IntKind.wrap .u64 (y0.length : Int)))) + 1)))) ++ [(y3.1, y3.2)]) r10 (y3.1, y3.2)) fun r11 =>
      meet (α := ((List (Int × Int)) × ((List (Int × Int)) × (Int × Bool)))) (fun (y12, y13, y14, y15) =>
       bif y15 then
        some false
       else
        bnd (c_parquetlaw09_ring y12) fun r16 =>
        bnd (c_within_Halfway y13 r16 (y12.length : Int) (y12.length : Int)) fun r17 =>
        bnd (c_parquetlaw09_ring y12) fun r18 =>
        bnd (c_within_Third y13 r18 (y12.length : Int) (y12.length : Int) (y12.length : Int)) fun r19 =>
        meet (α := Bool) (fun y20 =>
         some y20) fun j21 =>
        bif !(decide (r17.2 = 0)) then
         bif !(decide (r19.2 = 0)) then
          bnd (c_parquetlaw09_known) fun r22 =>
          j21 r22
         else
          bif decide (r19.1 = y14) then
           bnd (c_parquetlaw09_known) fun r23 =>
           j21 r23
          else
           j21 false
        else
         bif decide (r17.1 = y14) then
          bif !(decide (r19.2 = 0)) then
           bnd (c_parquetlaw09_known) fun r24 =>
           j21 r24
          else
           bif decide (r19.1 = y14) then
            bnd (c_parquetlaw09_known) fun r25 =>
            j21 r25
           else
            j21 false
         else
          j21 false) fun j26 =>
      bif !(decide (r9.1 = r11.1)) then
       j26 (y0, y0 ++ [(y3.1, y3.2)], r9.1, true)
      else
       j26 (y0, y0 ++ [(y3.1, y3.2)], r9.1, !(decide (r9.2 = r11.2)))) fun j27 =>
   bif decide ((a0.length : Int) > 60) then
    j27 (a0, a1, (a2.1, a2.2), (a3.1, a3.2), true)
   else
    j27 (a0, a1, (a2.1, a2.2), (a3.1, a3.2), decide ((a0.length : Int) < 3))
theorem eq_parquetlaw09_WithinSplit (k : Nat) (c_parquetlaw09_known : Option Bool) (c_parquetref04_Inside : (Int × Int) → (Int × Int) → (Int × Int) → Option Bool) (c_parquetlaw09_ring : (List (Int × Int)) → Option (List (Int × Int))) (c_within_At : (List (Int × Int)) → (List (Int × Int)) → (Int × Int) → Option (Int × Int)) (c_within_Halfway : (List (Int × Int)) → (List (Int × Int)) → Int → Int → Option (Int × Int)) (c_within_Third : (List (Int × Int)) → (List (Int × Int)) → Int → Int → Int → Option (Int × Int)) (a0 : (List (Int × Int))) (a1 : Int) (a2 : (Int × Int)) (a3 : (Int × Int)) : textF [⟨11, [], [.bool], fun x => c_parquetlaw09_known⟩, ⟨20, [.d (.pair kI kI), .d (.pair kI kI), .d (.pair kI kI)], [.bool], fun x => c_parquetref04_Inside (x.1) (x.2.1) (x.2.2)⟩, ⟨17, [.d (.sl (.pair kI kI))], [.sl (.pair kI kI)], fun x => c_parquetlaw09_ring x⟩, ⟨12, [.d (.sl (.pair kI kI)), .d (.sl (.pair kI kI)), .d (.pair kI kI)], [kI, kI], fun x => c_within_At (x.1) (x.2.1) (x.2.2)⟩, ⟨14, [.d (.sl (.pair kI kI)), .d (.sl (.pair kI kI)), .d kI, .d kI], [kI, kI], fun x => c_within_Halfway (x.1) (x.2.1) (x.2.2.1) (x.2.2.2)⟩, ⟨16, [.d (.sl (.pair kI kI)), .d (.sl (.pair kI kI)), .d kI, .d kI, .d kI], [kI, kI], fun x => c_within_Third (x.1) (x.2.1) (x.2.2.1) (x.2.2.2.1) (x.2.2.2.2)⟩] tb k Try.f8 an_parquetlaw09_WithinSplit [.d (.sl (.pair kI kI)), .d kI, .d (.pair kI kI), .d (.pair kI kI)] [.bool] (a0, a1, a2, a3) = b_parquetlaw09_WithinSplit k c_parquetlaw09_known c_parquetref04_Inside c_parquetlaw09_ring c_within_At c_within_Halfway c_within_Third a0 a1 a2 a3 := by kernel_rfl
def g_parquetlaw09_WithinSplit (k : Nat) (a0 : (List (Int × Int))) (a1 : Int) (a2 : (Int × Int)) (a3 : (Int × Int)) : Option Bool := b_parquetlaw09_WithinSplit k (g_parquetlaw09_known k) (g_parquetref04_Inside k) (g_parquetlaw09_ring k) (g_within_At k) (g_within_Halfway k) (g_within_Third k) a0 a1 a2 a3
theorem tells_parquetlaw09_WithinSplit (k : Nat) : TellsF Try.prog 8 [.d (.sl (.pair kI kI)), .d kI, .d (.pair kI kI), .d (.pair kI kI)] [.bool] (fun x => g_parquetlaw09_WithinSplit k (x.1) (x.2.1) (x.2.2.1) (x.2.2.2)) := fun x y h => fun_tells tb_ok mix (es := [⟨11, [], [.bool], fun x => g_parquetlaw09_known k⟩, ⟨20, [.d (.pair kI kI), .d (.pair kI kI), .d (.pair kI kI)], [.bool], fun x => g_parquetref04_Inside k (x.1) (x.2.1) (x.2.2)⟩, ⟨17, [.d (.sl (.pair kI kI))], [.sl (.pair kI kI)], fun x => g_parquetlaw09_ring k x⟩, ⟨12, [.d (.sl (.pair kI kI)), .d (.sl (.pair kI kI)), .d (.pair kI kI)], [kI, kI], fun x => g_within_At k (x.1) (x.2.1) (x.2.2)⟩, ⟨14, [.d (.sl (.pair kI kI)), .d (.sl (.pair kI kI)), .d kI, .d kI], [kI, kI], fun x => g_within_Halfway k (x.1) (x.2.1) (x.2.2.1) (x.2.2.2)⟩, ⟨16, [.d (.sl (.pair kI kI)), .d (.sl (.pair kI kI)), .d kI, .d kI, .d kI], [kI, kI], fun x => g_within_Third k (x.1) (x.2.1) (x.2.2.1) (x.2.2.2.1) (x.2.2.2.2)⟩]) (EsOk.cons ⟨rfl, tells_parquetlaw09_known k⟩ (EsOk.cons ⟨rfl, tells_parquetref04_Inside k⟩ (EsOk.cons ⟨rfl, tells_parquetlaw09_ring k⟩ (EsOk.cons ⟨rfl, tells_within_At k⟩ (EsOk.cons ⟨rfl, tells_within_Halfway k⟩ (EsOk.cons ⟨rfl, tells_within_Third k⟩ (EsOk.nil _))))))) Try.func8 (N := k) (an := an_parquetlaw09_WithinSplit) (by kernel_rfl) x y ((eq_parquetlaw09_WithinSplit k (g_parquetlaw09_known k) (g_parquetref04_Inside k) (g_parquetlaw09_ring k) (g_within_At k) (g_within_Halfway k) (g_within_Third k) (x.1) (x.2.1) (x.2.2.1) (x.2.2.2)).trans h)

def an_within_segs : Ann := .node none none .leaf (.node none none .leaf (.node none none (.node none none .leaf (.node none none (.node none (some [(0, .d (.sl kI)), (3, .row (.pair kI kI) 44), (6, .d (.sl kI)), (7, .d kI), (8, .d kI)]) .leaf .leaf) .leaf)) .leaf))
def g_within_segs (k : Nat) (a0 : (List Int)) : Option (List (Int × Int)) :=
  loopN (α := ((List Int) × ((List (Int × Int)) × ((List Int) × (Int × Int))))) (fun (x1, x2, x3, x4, x5) next0 =>
    bif decide (x5 < x4) then
     gd (inb x5 x3.length) <|
     gd (!(decide ((x1.length : Int) = 0))) <|
     gd (inb ((w64 (x5 + 1)).tmod (x1.length : Int)) x1.length) <|
     gd (few (x2.length + 1)) <|
     next0 (x1, x2 ++ [(rdD 0 x3 x5, rdD 0 x1 ((w64 (x5 + 1)).tmod (x1.length : Int)))], x3, x4, w64 (x5 + 1))
    else
     some x2) k (a0, [], a0, (a0.length : Int), 0)
theorem eq_within_segs (k : Nat) (a0 : (List Int)) : textF [] tb k Try.f33 an_within_segs [.d (.sl kI)] [.sl (.pair kI kI)] a0 = g_within_segs k a0 := by kernel_rfl
theorem tells_within_segs (k : Nat) : TellsF Try.prog 33 [.d (.sl kI)] [.sl (.pair kI kI)] (fun x => g_within_segs k x) := fun x y h => fun_tells tb_ok mix (es := []) (EsOk.nil _) Try.func33 (N := k) (an := an_within_segs) (by kernel_rfl) x y ((eq_within_segs k x).trans h)

def an_within_Deep : Ann := .node none none .leaf (.node none none (.node none none .leaf (.node none none (.node none (some [(0, .d (.sl (.pair kI kI))), (1, .d (.sl (.sl kI))), (18, .d (.sl (.sl kI))), (19, .d kI), (20, .d kI)]) (.node none none .leaf (.node none none .leaf (.node none none (.node none none (.node none none .leaf (.node none none .leaf (.node none none (.node (some [(0, .d (.sl (.pair kI kI))), (1, .d (.sl (.sl kI))), (18, .d (.sl (.sl kI))), (19, .d kI), (20, .d kI), (37, .d .bool)]) none .leaf .leaf) .leaf))) .leaf) .leaf))) .leaf) .leaf)) (.node none none .leaf (.node none none (.node none none .leaf (.node none none (.node none (some [(0, .d (.sl (.pair kI kI))), (1, .d (.sl (.sl kI))), (10, .row kI 3), (39, .d (.sl (.sl kI))), (40, .d kI), (41, .d kI)]) (.node none none .leaf (.node none none .leaf (.node none none (.node none none (.node none none .leaf (.node none none .leaf (.node none none (.node none none .leaf (.node none none (.node none (some [(0, .d (.sl (.pair kI kI))), (1, .d (.sl (.sl kI))), (10, .row kI 3), (11, .d kI), (12, .d (.sl kI)), (13, .d kI), (39, .d (.sl (.sl kI))), (40, .d kI), (41, .d kI), (46, .d (.sl (.sl kI))), (47, .d kI), (48, .d kI)]) (.node none none .leaf (.node none none .leaf (.node none none (.node none none (.node none none .leaf (.node none none .leaf (.node none none (.node (some [(0, .d (.sl (.pair kI kI))), (1, .d (.sl (.sl kI))), (10, .row kI 3), (11, .d kI), (12, .d (.sl kI)), (13, .d kI), (39, .d (.sl (.sl kI))), (40, .d kI), (41, .d kI), (46, .d (.sl (.sl kI))), (47, .d kI), (48, .d kI), (72, .d .bool)]) none .leaf .leaf) (.node (some [(0, .d (.sl (.pair kI kI))), (1, .d (.sl (.sl kI))), (10, .row kI 3), (11, .d kI), (12, .d (.sl kI)), (13, .d kI), (39, .d (.sl (.sl kI))), (40, .d kI), (41, .d kI), (46, .d (.sl (.sl kI))), (47, .d kI), (48, .d kI)]) none .leaf .leaf)))) .leaf) .leaf))) .leaf) .leaf)) .leaf))) .leaf) .leaf))) .leaf) .leaf)) .leaf)))
def b_within_Deep (k : Nat) (c_within_segs : (List Int) → Option (List (Int × Int))) (c_within_fine : (List (Int × Int)) → (List (Int × Int)) → (Unit × Unit) → Option ((List ((Int × Int) × (Int × Int))) × Bool)) (c_within_At : (List (Int × Int)) → (List (Int × Int)) → (Int × Int) → Option (Int × Int)) (a0 : (List (Int × Int))) (a1 : (List (List Int))) : Option ((List Int) × Int) :=
  loopN (α := ((List (Int × Int)) × ((List (List Int)) × ((List (List Int)) × (Int × Int))))) (fun (x1, x2, x3, x4, x5) next0 =>
    bif decide (x5 < x4) then
     gd (inb x5 x3.length) <|
     bnd (c_within_segs (rdD [] x3 x5)) fun r6 =>
     bnd (c_within_fine x1 r6 ((), ())) fun r7 =>
     meet (α := ((List (Int × Int)) × ((List (List Int)) × ((List (List Int)) × (Int × (Int × Bool)))))) (fun (y8, y9, y10, y11, y12, y13) =>
      bif y13 then
       some ([], 2)
      else
       next0 (y8, y9, y10, y11, w64 (y12 + 1))) fun j14 =>
     bif !r7.2 then
      j14 (x1, x2, x3, x4, x5, true)
     else
      j14 (x1, x2, x3, x4, x5, decide (((rdD [] x3 x5).length : Int) = 0))
    else
     loopN (α := ((List (Int × Int)) × ((List (List Int)) × ((List Int) × ((List (List Int)) × (Int × Int)))))) (fun (x16, x17, x18, x19, x20, x21) next15 =>
      bif decide (x21 < x20) then
       gd (inb x21 x19.length) <|
       loopN (α := ((List (Int × Int)) × ((List (List Int)) × ((List Int) × (Int × ((List Int) × (Int × ((List (List Int)) × (Int × (Int × ((List (List Int)) × (Int × Int)))))))))))) (fun (x23, x24, x25, x26, x27, x28, x29, x30, x31, x32, x33, x34) next22 =>
        bif decide (x34 < x33) then
         gd (inb x34 x32.length) <|
         bnd (c_within_segs (rdD [] x32 x34)) fun r35 =>
         gd (inb 0 x27.length) <|
         gd (inb (rdD 0 x27 0) x23.length) <|
         bnd (c_within_At x23 r35 ((rdD (0, 0) x23 (rdD 0 x27 0)).1, (rdD (0, 0) x23 (rdD 0 x27 0)).2)) fun r36 =>
         meet (α := ((List (Int × Int)) × ((List (List Int)) × ((List Int) × (Int × ((List Int) × (Int × ((List (List Int)) × (Int × (Int × ((List (List Int)) × (Int × (Int × Bool))))))))))))) (fun (y37, y38, y39, y40, y41, y42, y43, y44, y45, y46, y47, y48, y49) =>
          meet (α := ((List (Int × Int)) × ((List (List Int)) × ((List Int) × (Int × ((List Int) × (Int × ((List (List Int)) × (Int × (Int × ((List (List Int)) × (Int × Int)))))))))))) (fun (y50, y51, y52, y53, y54, y55, y56, y57, y58, y59, y60, y61) =>
           next22 (y50, y51, y52, y53, y54, y55, y56, y57, y58, y59, y60, w64 (y61 + 1))) fun j62 =>
          bif y49 then
           j62 (y37, y38, y39, y40, y41, w64 (y42 + 1), y43, y44, y45, y46, y47, y48)
          else
           j62 (y37, y38, y39, y40, y41, y42, y43, y44, y45, y46, y47, y48)) fun j63 =>
         bif !(decide (x34 = x26)) then
          j63 (x23, x24, x25, x26, x27, x28, x29, x30, x31, x32, x33, x34, decide (r36.1 = 1))
         else
          j63 (x23, x24, x25, x26, x27, x28, x29, x30, x31, x32, x33, x34, false)
        else
         gd (few (x25.length + 1)) <|
         next15 (x23, x24, x25 ++ [x28], x29, x30, w64 (x31 + 1))) k (x16, x17, x18, x21, rdD [] x19 x21, 0, x19, x20, x21, x17, (x17.length : Int), 0)
      else
       some (x18, 0)) k (x1, x2, [], x2, (x2.length : Int), 0)) k (a0, a1, a1, (a1.length : Int), 0)
theorem eq_within_Deep (k : Nat) (c_within_segs : (List Int) → Option (List (Int × Int))) (c_within_fine : (List (Int × Int)) → (List (Int × Int)) → (Unit × Unit) → Option ((List ((Int × Int) × (Int × Int))) × Bool)) (c_within_At : (List (Int × Int)) → (List (Int × Int)) → (Int × Int) → Option (Int × Int)) (a0 : (List (Int × Int))) (a1 : (List (List Int))) : textF [⟨33, [.d (.sl kI)], [.sl (.pair kI kI)], fun x => c_within_segs x⟩, ⟨25, [.d (.sl (.pair kI kI)), .d (.sl (.pair kI kI)), .fn 26 [] []], [.sl (.pair (.pair kI kI) (.pair kI kI)), .bool], fun x => c_within_fine (x.1) (x.2.1) (x.2.2)⟩, ⟨12, [.d (.sl (.pair kI kI)), .d (.sl (.pair kI kI)), .d (.pair kI kI)], [kI, kI], fun x => c_within_At (x.1) (x.2.1) (x.2.2)⟩] tb k Try.f21 an_within_Deep [.d (.sl (.pair kI kI)), .d (.sl (.sl kI))] [.sl kI, kI] (a0, a1) = b_within_Deep k c_within_segs c_within_fine c_within_At a0 a1 := by kernel_rfl
def g_within_Deep (k : Nat) (a0 : (List (Int × Int))) (a1 : (List (List Int))) : Option ((List Int) × Int) := b_within_Deep k (g_within_segs k) (g_within_fine k) (g_within_At k) a0 a1
theorem tells_within_Deep (k : Nat) : TellsF Try.prog 21 [.d (.sl (.pair kI kI)), .d (.sl (.sl kI))] [.sl kI, kI] (fun x => g_within_Deep k (x.1) (x.2)) := fun x y h => fun_tells tb_ok mix (es := [⟨33, [.d (.sl kI)], [.sl (.pair kI kI)], fun x => g_within_segs k x⟩, ⟨25, [.d (.sl (.pair kI kI)), .d (.sl (.pair kI kI)), .fn 26 [] []], [.sl (.pair (.pair kI kI) (.pair kI kI)), .bool], fun x => g_within_fine k (x.1) (x.2.1) (x.2.2)⟩, ⟨12, [.d (.sl (.pair kI kI)), .d (.sl (.pair kI kI)), .d (.pair kI kI)], [kI, kI], fun x => g_within_At k (x.1) (x.2.1) (x.2.2)⟩]) (EsOk.cons ⟨rfl, tells_within_segs k⟩ (EsOk.cons ⟨rfl, tells_within_fine k⟩ (EsOk.cons ⟨rfl, tells_within_At k⟩ (EsOk.nil _)))) Try.func21 (N := k) (an := an_within_Deep) (by kernel_rfl) x y ((eq_within_Deep k (g_within_segs k) (g_within_fine k) (g_within_At k) (x.1) (x.2)).trans h)

def an_parquetref09_Segs : Ann := .node none none .leaf (.node none none .leaf (.node none none (.node none none .leaf (.node none none (.node none (some [(0, .d (.sl kI)), (3, .row (.pair kI kI) 44), (4, .d kI)]) (.node none none .leaf (.node none none (.node none none (.node none none .leaf (.node none none (.node none none .leaf (.node (some [(0, .d (.sl kI)), (3, .row (.pair kI kI) 44), (4, .d kI), (5, .d kI)]) none .leaf .leaf)) .leaf)) .leaf) .leaf)) .leaf) .leaf)) .leaf))
def g_parquetref09_Segs (k : Nat) (a0 : (List Int)) : Option (List (Int × Int)) :=
  loopN (α := ((List Int) × ((List (Int × Int)) × Int))) (fun (x1, x2, x3) next0 =>
    bif decide (x3 < (x1.length : Int)) then
     meet (α := ((List Int) × ((List (Int × Int)) × (Int × Int)))) (fun (y4, y5, y6, y7) =>
      gd (inb y6 y4.length) <|
      gd (inb y7 y4.length) <|
      gd (few (y5.length + 1)) <|
      next0 (y4, y5 ++ [(rdD 0 y4 y6, rdD 0 y4 y7)], w64 (y6 + 1))) fun j8 =>
     bif decide ((w64 (x3 + 1)) = (x1.length : Int)) then
      j8 (x1, x2, x3, 0)
     else
      j8 (x1, x2, x3, w64 (x3 + 1))
    else
     some x2) k (a0, [], 0)
theorem eq_parquetref09_Segs (k : Nat) (a0 : (List Int)) : textF [] tb k Try.f34 an_parquetref09_Segs [.d (.sl kI)] [.sl (.pair kI kI)] a0 = g_parquetref09_Segs k a0 := by kernel_rfl
theorem tells_parquetref09_Segs (k : Nat) : TellsF Try.prog 34 [.d (.sl kI)] [.sl (.pair kI kI)] (fun x => g_parquetref09_Segs k x) := fun x y h => fun_tells tb_ok mix (es := []) (EsOk.nil _) Try.func34 (N := k) (an := an_parquetref09_Segs) (by kernel_rfl) x y ((eq_parquetref09_Segs k x).trans h)

def an_parquetref09_Deep : Ann := .node none none .leaf (.node none none (.node none none .leaf (.node none none (.node none (some [(0, .d (.sl (.pair kI kI))), (1, .d (.sl (.sl kI))), (6, .d kI)]) (.node none none .leaf (.node none none (.node none none (.node none none (.node (some [(0, .d (.sl (.pair kI kI))), (1, .d (.sl (.sl kI))), (6, .d kI), (32, .d .bool)]) none .leaf .leaf) .leaf) .leaf) .leaf)) .leaf) .leaf)) (.node none none .leaf (.node none none (.node none none .leaf (.node none none (.node none (some [(0, .d (.sl (.pair kI kI))), (1, .d (.sl (.sl kI))), (7, .row kI 3), (8, .d kI)]) (.node none none .leaf (.node none none (.node none none (.node none none .leaf (.node none none (.node none none .leaf (.node none none (.node none (some [(0, .d (.sl (.pair kI kI))), (1, .d (.sl (.sl kI))), (7, .row kI 3), (8, .d kI), (9, .d kI), (10, .d kI)]) (.node none none .leaf (.node none none (.node none none (.node none none (.node (some [(0, .d (.sl (.pair kI kI))), (1, .d (.sl (.sl kI))), (7, .row kI 3), (8, .d kI), (9, .d kI), (10, .d kI), (66, .d .bool)]) none .leaf .leaf) (.node (some [(0, .d (.sl (.pair kI kI))), (1, .d (.sl (.sl kI))), (7, .row kI 3), (8, .d kI), (9, .d kI), (10, .d kI)]) none .leaf .leaf)) .leaf) .leaf)) .leaf) .leaf)) .leaf)) .leaf) .leaf)) .leaf) .leaf)) .leaf)))
def b_parquetref09_Deep (k : Nat) (c_parquetref09_Segs : (List Int) → Option (List (Int × Int))) (c_parquetref09_Check : (List (Int × Int)) → (List (Int × Int)) → Int → Option Bool) (c_parquetref09_Where : (List (Int × Int)) → (List (Int × Int)) → Int → (Int × Int) → Option Int) (a0 : (List (Int × Int))) (a1 : (List (List Int))) : Option ((List Int) × Int) :=
  loopN (α := ((List (Int × Int)) × ((List (List Int)) × Int))) (fun (x1, x2, x3) next0 =>
    bif decide (x3 < (x2.length : Int)) then
     meet (α := ((List (Int × Int)) × ((List (List Int)) × (Int × Bool)))) (fun (y4, y5, y6, y7) =>
      bif y7 then
       some ([], 2)
      else
       next0 (y4, y5, w64 (y6 + 1))) fun j8 =>
     gd (inb x3 x2.length) <|
     bif decide (((rdD [] x2 x3).length : Int) = 0) then
      j8 (x1, x2, x3, true)
     else
      gd (inb x3 x2.length) <|
      bnd (c_parquetref09_Segs (rdD [] x2 x3)) fun r9 =>
      bnd (c_parquetref09_Check x1 r9 1) fun r10 =>
      j8 (x1, x2, x3, !r10)
    else
     loopN (α := ((List (Int × Int)) × ((List (List Int)) × ((List Int) × Int)))) (fun (x12, x13, x14, x15) next11 =>
      bif decide (x15 < (x13.length : Int)) then
       loopN (α := ((List (Int × Int)) × ((List (List Int)) × ((List Int) × (Int × (Int × Int)))))) (fun (x17, x18, x19, x20, x21, x22) next16 =>
        bif decide (x22 < (x18.length : Int)) then
         meet (α := ((List (Int × Int)) × ((List (List Int)) × ((List Int) × (Int × (Int × (Int × Bool))))))) (fun (y23, y24, y25, y26, y27, y28, y29) =>
          meet (α := ((List (Int × Int)) × ((List (List Int)) × ((List Int) × (Int × (Int × Int)))))) (fun (y30, y31, y32, y33, y34, y35) =>
           next16 (y30, y31, y32, y33, y34, w64 (y35 + 1))) fun j36 =>
          bif y29 then
           j36 (y23, y24, y25, y26, w64 (y27 + 1), y28)
          else
           j36 (y23, y24, y25, y26, y27, y28)) fun j37 =>
         bif !(decide (x22 = x20)) then
          gd (inb x22 x18.length) <|
          bnd (c_parquetref09_Segs (rdD [] x18 x22)) fun r38 =>
          gd (inb x20 x18.length) <|
          gd (inb 0 (rdD [] x18 x20).length) <|
          gd (inb (rdD 0 (rdD [] x18 x20) 0) x17.length) <|
          bnd (c_parquetref09_Where x17 r38 1 ((rdD (0, 0) x17 (rdD 0 (rdD [] x18 x20) 0)).1, (rdD (0, 0) x17 (rdD 0 (rdD [] x18 x20) 0)).2)) fun r39 =>
          j37 (x17, x18, x19, x20, x21, x22, decide (r39 = 1))
         else
          j37 (x17, x18, x19, x20, x21, x22, false)
        else
         gd (few (x19.length + 1)) <|
         next11 (x17, x18, x19 ++ [x21], w64 (x20 + 1))) k (x12, x13, x14, x15, 0, 0)
      else
       some (x14, 0)) k (x1, x2, [], 0)) k (a0, a1, 0)
theorem eq_parquetref09_Deep (k : Nat) (c_parquetref09_Segs : (List Int) → Option (List (Int × Int))) (c_parquetref09_Check : (List (Int × Int)) → (List (Int × Int)) → Int → Option Bool) (c_parquetref09_Where : (List (Int × Int)) → (List (Int × Int)) → Int → (Int × Int) → Option Int) (a0 : (List (Int × Int))) (a1 : (List (List Int))) : textF [⟨34, [.d (.sl kI)], [.sl (.pair kI kI)], fun x => c_parquetref09_Segs x⟩, ⟨29, [.d (.sl (.pair kI kI)), .d (.sl (.pair kI kI)), .d kI], [.bool], fun x => c_parquetref09_Check (x.1) (x.2.1) (x.2.2)⟩, ⟨30, [.d (.sl (.pair kI kI)), .d (.sl (.pair kI kI)), .d kI, .d (.pair kI kI)], [kI], fun x => c_parquetref09_Where (x.1) (x.2.1) (x.2.2.1) (x.2.2.2)⟩] tb k Try.f22 an_parquetref09_Deep [.d (.sl (.pair kI kI)), .d (.sl (.sl kI))] [.sl kI, kI] (a0, a1) = b_parquetref09_Deep k c_parquetref09_Segs c_parquetref09_Check c_parquetref09_Where a0 a1 := by kernel_rfl
def g_parquetref09_Deep (k : Nat) (a0 : (List (Int × Int))) (a1 : (List (List Int))) : Option ((List Int) × Int) := b_parquetref09_Deep k (g_parquetref09_Segs k) (g_parquetref09_Check k) (g_parquetref09_Where k) a0 a1
theorem tells_parquetref09_Deep (k : Nat) : TellsF Try.prog 22 [.d (.sl (.pair kI kI)), .d (.sl (.sl kI))] [.sl kI, kI] (fun x => g_parquetref09_Deep k (x.1) (x.2)) := fun x y h => fun_tells tb_ok mix (es := [⟨34, [.d (.sl kI)], [.sl (.pair kI kI)], fun x => g_parquetref09_Segs k x⟩, ⟨29, [.d (.sl (.pair kI kI)), .d (.sl (.pair kI kI)), .d kI], [.bool], fun x => g_parquetref09_Check k (x.1) (x.2.1) (x.2.2)⟩, ⟨30, [.d (.sl (.pair kI kI)), .d (.sl (.pair kI kI)), .d kI, .d (.pair kI kI)], [kI], fun x => g_parquetref09_Where k (x.1) (x.2.1) (x.2.2.1) (x.2.2.2)⟩]) (EsOk.cons ⟨rfl, tells_parquetref09_Segs k⟩ (EsOk.cons ⟨rfl, tells_parquetref09_Check k⟩ (EsOk.cons ⟨rfl, tells_parquetref09_Where k⟩ (EsOk.nil _)))) Try.func22 (N := k) (an := an_parquetref09_Deep) (by kernel_rfl) x y ((eq_parquetref09_Deep k (g_parquetref09_Segs k) (g_parquetref09_Check k) (g_parquetref09_Where k) (x.1) (x.2)).trans h)

def an_parquetref00_SameInts : Ann := .node none none .leaf (.node none none .leaf (.node none none (.node none none .leaf (.node none none (.node none (some [(0, .d (.sl kI)), (1, .d (.sl kI)), (5, .d kI)]) .leaf .leaf) .leaf)) .leaf))
def g_parquetref00_SameInts (k : Nat) (a0 : (List Int)) (a1 : (List Int)) : Option Bool :=
  bif !(decide ((a0.length : Int) = (a1.length : Int))) then
    some false
   else
    loopN (α := ((List Int) × ((List Int) × Int))) (fun (x1, x2, x3) next0 =>
     bif decide (x3 < (x1.length : Int)) then
      gd (inb x3 x1.length) <|
      gd (inb x3 x2.length) <|
      bif !(decide ((rdD 0 x1 x3) = (rdD 0 x2 x3))) then
       some false
      else
       next0 (x1, x2, w64 (x3 + 1))
     else
      some true) k (a0, a1, 0)
theorem eq_parquetref00_SameInts (k : Nat) (a0 : (List Int)) (a1 : (List Int)) : textF [] tb k Try.f23 an_parquetref00_SameInts [.d (.sl kI), .d (.sl kI)] [.bool] (a0, a1) = g_parquetref00_SameInts k a0 a1 := by kernel_rfl
theorem tells_parquetref00_SameInts (k : Nat) : TellsF Try.prog 23 [.d (.sl kI), .d (.sl kI)] [.bool] (fun x => g_parquetref00_SameInts k (x.1) (x.2)) := fun x y h => fun_tells tb_ok mix (es := []) (EsOk.nil _) Try.func23 (N := k) (an := an_parquetref00_SameInts) (by kernel_rfl) x y ((eq_parquetref00_SameInts k (x.1) (x.2)).trans h)

def an_parquetlaw09_WithinDeep : Ann := .node none none .leaf (.node none none .leaf (.node none none (.node none none .leaf (.node none none (.node none (some [(0, .d (.sl (.pair kI kI))), (1, .d (.sl (.sl kI))), (5, .d kI), (6, .d kI)]) (.node none none (.node none none (.node (some [(0, .d (.sl (.pair kI kI))), (1, .d (.sl (.sl kI))), (5, .d kI), (6, .d kI), (20, .d .bool)]) none .leaf .leaf) .leaf) .leaf) .leaf) .leaf)) (.node none none (.node none none (.node (some [(0, .d (.sl (.pair kI kI))), (1, .d (.sl (.sl kI))), (37, .d .bool)]) none .leaf .leaf) .leaf) (.node none none .leaf (.node none none .leaf (.node none none (.node (some [(4, .d .bool)]) none .leaf .leaf) .leaf))))))
def b_parquetlaw09_WithinDeep (k : Nat) (c_parquetlaw09_known : Option Bool) (c_within_Deep : (List (Int × Int)) → (List (List Int)) → Option ((List Int) × Int)) (c_parquetref09_Deep : (List (Int × Int)) → (List (List Int)) → Option ((List Int) × Int)) (c_parquetref00_SameInts : (List Int) → (List Int) → Option Bool) (a0 : (List (Int × Int))) (a1 : (List (List Int))) : Option Bool :=
  loopN (α := ((List (Int × Int)) × ((List (List Int)) × (Int × Int)))) (fun (x1, x2, x3, x4) next0 =>
    meet (α := ((List (Int × Int)) × ((List (List Int)) × (Int × (Int × Bool))))) (fun (y5, y6, y7, y8, y9) =>
     bif y9 then
      gd (inb y8 y6.length) <|
      next0 (y5, y6, w64 (y7 + (mnI ((rdD [] y6 y8).length : Int) 300)), w64 (y8 + 1))
     else
      meet (α := ((List (Int × Int)) × ((List (List Int)) × Bool))) (fun (y10, y11, y12) =>
       bif y12 then
        bnd (c_parquetlaw09_known) fun r13 =>
        some r13
       else
        bnd (c_within_Deep y10 y11) fun r14 =>
        bnd (c_parquetref09_Deep y10 y11) fun r15 =>
        meet (α := Bool) (fun y16 =>
         some y16) fun j17 =>
        bnd (c_parquetref00_SameInts r14.1 r15.1) fun r18 =>
        bif r18 then
         bif decide (r14.2 = r15.2) then
          bnd (c_parquetlaw09_known) fun r19 =>
          j17 r19
         else
          j17 false
        else
         j17 false) fun j20 =>
      bif decide (y7 ≥ 300) then
       j20 (y5, y6, true)
      else
       j20 (y5, y6, decide ((y5.length : Int) > 200))) fun j21 =>
    bif decide (x4 < (x2.length : Int)) then
     j21 (x1, x2, x3, x4, decide (x3 < 300))
    else
     j21 (x1, x2, x3, x4, false)) k (a0, a1, (a1.length : Int), 0)
theorem eq_parquetlaw09_WithinDeep (k : Nat) (c_parquetlaw09_known : Option Bool) (c_within_Deep : (List (Int × Int)) → (List (List Int)) → Option ((List Int) × Int)) (c_parquetref09_Deep : (List (Int × Int)) → (List (List Int)) → Option ((List Int) × Int)) (c_parquetref00_SameInts : (List Int) → (List Int) → Option Bool) (a0 : (List (Int × Int))) (a1 : (List (List Int))) : textF [⟨11, [], [.bool], fun x => c_parquetlaw09_known⟩, ⟨21, [.d (.sl (.pair kI kI)), .d (.sl (.sl kI))], [.sl kI, kI], fun x => c_within_Deep (x.1) (x.2)⟩, ⟨22, [.d (.sl (.pair kI kI)), .d (.sl (.sl kI))], [.sl kI, kI], fun x => c_parquetref09_Deep (x.1) (x.2)⟩, ⟨23, [.d (.sl kI), .d (.sl kI)], [.bool], fun x => c_parquetref00_SameInts (x.1) (x.2)⟩] tb k Try.f9 an_parquetlaw09_WithinDeep [.d (.sl (.pair kI kI)), .d (.sl (.sl kI))] [.bool] (a0, a1) = b_parquetlaw09_WithinDeep k c_parquetlaw09_known c_within_Deep c_parquetref09_Deep c_parquetref00_SameInts a0 a1 := by kernel_rfl
def g_parquetlaw09_WithinDeep (k : Nat) (a0 : (List (Int × Int))) (a1 : (List (List Int))) : Option Bool := b_parquetlaw09_WithinDeep k (g_parquetlaw09_known k) (g_within_Deep k) (g_parquetref09_Deep k) (g_parquetref00_SameInts k) a0 a1
theorem tells_parquetlaw09_WithinDeep (k : Nat) : TellsF Try.prog 9 [.d (.sl (.pair kI kI)), .d (.sl (.sl kI))] [.bool] (fun x => g_parquetlaw09_WithinDeep k (x.1) (x.2)) := fun x y h => fun_tells tb_ok mix (es := [⟨11, [], [.bool], fun x => g_parquetlaw09_known k⟩, ⟨21, [.d (.sl (.pair kI kI)), .d (.sl (.sl kI))], [.sl kI, kI], fun x => g_within_Deep k (x.1) (x.2)⟩, ⟨22, [.d (.sl (.pair kI kI)), .d (.sl (.sl kI))], [.sl kI, kI], fun x => g_parquetref09_Deep k (x.1) (x.2)⟩, ⟨23, [.d (.sl kI), .d (.sl kI)], [.bool], fun x => g_parquetref00_SameInts k (x.1) (x.2)⟩]) (EsOk.cons ⟨rfl, tells_parquetlaw09_known k⟩ (EsOk.cons ⟨rfl, tells_within_Deep k⟩ (EsOk.cons ⟨rfl, tells_parquetref09_Deep k⟩ (EsOk.cons ⟨rfl, tells_parquetref00_SameInts k⟩ (EsOk.nil _))))) Try.func9 (N := k) (an := an_parquetlaw09_WithinDeep) (by kernel_rfl) x y ((eq_parquetlaw09_WithinDeep k (g_parquetlaw09_known k) (g_within_Deep k) (g_parquetref09_Deep k) (g_parquetref00_SameInts k) (x.1) (x.2)).trans h)

end Go.Proofs.Ytgbgihofehmjpaa.AM
