/- The functions, by their texts: written by a program. -/
import Derived.Test.YtpkkcjmblocjdaaGreatGa5
import Derived.Test.YtpkkcjmblocjdaaGreatSrt
set_option linter.unusedVariables false
set_option maxRecDepth 100000
namespace Go.Proofs.YtpkkcjmblocjdaaGreat.AM
open Go.RowKit Go.Proofs
noncomputable section
def an_parquetref10_All : Ann := .leaf
def g_parquetref10_All (k : Nat) (a0 : ((List (Int × Int)) × ((List (Int × Int)) × (List (Int × Int))))) : Option (List (Int × Int)) :=
  gd (few a0.2.1.length) <|
   gd (few (a0.2.1.length + a0.2.2.length)) <|
   some (a0.2.1 ++ a0.2.2)
theorem eq_parquetref10_All (k : Nat) (a0 : ((List (Int × Int)) × ((List (Int × Int)) × (List (Int × Int))))) : textF [] tb k Tryz.f27 an_parquetref10_All [.d (.pair (.sl (.pair kI kI)) (.pair (.sl (.pair kI kI)) (.sl (.pair kI kI))))] [.sl (.pair kI kI)] a0 = g_parquetref10_All k a0 := by kernel_rfl
theorem tells_parquetref10_All (k : Nat) : TellsF Tryz.prog 27 [.d (.pair (.sl (.pair kI kI)) (.pair (.sl (.pair kI kI)) (.sl (.pair kI kI))))] [.sl (.pair kI kI)] (fun x => g_parquetref10_All k x) := fun x y h => fun_tells tb_ok mix (es := []) (EsOk.nil _) Tryz.func27 (N := k) (an := an_parquetref10_All) (by kernel_rfl) x y ((eq_parquetref10_All k x).trans h)

def an_parquetref04_on : Ann := .node none none .leaf (.node none none .leaf (.node none none (.node (some [(6, .d .bool)]) none .leaf .leaf) .leaf))
def b_parquetref04_on (k : Nat) (c_parquetref01_Small : Int → Option (Bool × (List Int))) (c_parquetref01_Num_Times : (Bool × (List Int)) → (Bool × (List Int)) → Option (Bool × (List Int))) (c_parquetref01_Num_Plus : (Bool × (List Int)) → (Bool × (List Int)) → Option (Bool × (List Int))) (c_parquetref03_Fits : (Int × Int) → Option Bool) (c_parquetref03_Orient : (Int × Int) → (Int × Int) → (Int × Int) → Option Int) (c_parquetref01_Num_Sign : (Bool × (List Int)) → Option Int) (a0 : (Int × Int)) (a1 : (Int × Int)) (a2 : (Int × Int)) : Option Bool :=
  bnd (c_parquetref01_Small (w64 (a2.1 - a0.1))) fun r0 =>
   bnd (c_parquetref01_Small (w64 (a1.1 - a2.1))) fun r1 =>
   bnd (c_parquetref01_Num_Times (r0.1, r0.2) (r1.1, r1.2)) fun r2 =>
   bnd (c_parquetref01_Small (w64 (a2.2 - a0.2))) fun r3 =>
   bnd (c_parquetref01_Small (w64 (a1.2 - a2.2))) fun r4 =>
   bnd (c_parquetref01_Num_Times (r3.1, r3.2) (r4.1, r4.2)) fun r5 =>
   bnd (c_parquetref01_Num_Plus (r2.1, r2.2) (r5.1, r5.2)) fun r6 =>
   meet (α := Bool) (fun y7 =>
    some y7) fun j8 =>
   bif !((decide (a0.1 = a1.1)) && (decide (a0.2 = a1.2))) then
    bnd (c_parquetref03_Fits (a0.1, a0.2)) fun r9 =>
    bif r9 then
     bnd (c_parquetref03_Fits (a1.1, a1.2)) fun r10 =>
     bif r10 then
      bnd (c_parquetref03_Fits (a2.1, a2.2)) fun r11 =>
      bif r11 then
       bnd (c_parquetref03_Orient (a0.1, a0.2) (a1.1, a1.2) (a2.1, a2.2)) fun r12 =>
       bif decide (r12 = 0) then
        bnd (c_parquetref01_Num_Sign (r6.1, r6.2)) fun r13 =>
        j8 (decide (r13 ≥ 0))
       else
        j8 false
      else
       j8 false
     else
      j8 false
    else
     j8 false
   else
    j8 false
theorem eq_parquetref04_on (k : Nat) (c_parquetref01_Small : Int → Option (Bool × (List Int))) (c_parquetref01_Num_Times : (Bool × (List Int)) → (Bool × (List Int)) → Option (Bool × (List Int))) (c_parquetref01_Num_Plus : (Bool × (List Int)) → (Bool × (List Int)) → Option (Bool × (List Int))) (c_parquetref03_Fits : (Int × Int) → Option Bool) (c_parquetref03_Orient : (Int × Int) → (Int × Int) → (Int × Int) → Option Int) (c_parquetref01_Num_Sign : (Bool × (List Int)) → Option Int) (a0 : (Int × Int)) (a1 : (Int × Int)) (a2 : (Int × Int)) : textF [⟨102, [.d kI], [.pair .bool (.sl kI)], fun x => c_parquetref01_Small x, none⟩, ⟨103, [.d (.pair .bool (.sl kI)), .d (.pair .bool (.sl kI))], [.pair .bool (.sl kI)], fun x => c_parquetref01_Num_Times (x.1) (x.2), none⟩, ⟨64, [.d (.pair .bool (.sl kI)), .d (.pair .bool (.sl kI))], [.pair .bool (.sl kI)], fun x => c_parquetref01_Num_Plus (x.1) (x.2), none⟩, ⟨72, [.d (.pair kI kI)], [.bool], fun x => c_parquetref03_Fits x, none⟩, ⟨73, [.d (.pair kI kI), .d (.pair kI kI), .d (.pair kI kI)], [kI], fun x => c_parquetref03_Orient (x.1) (x.2.1) (x.2.2), none⟩, ⟨67, [.d (.pair .bool (.sl kI))], [kI], fun x => c_parquetref01_Num_Sign x, none⟩] tb k Tryz.f74 an_parquetref04_on [.d (.pair kI kI), .d (.pair kI kI), .d (.pair kI kI)] [.bool] (a0, a1, a2) = b_parquetref04_on k c_parquetref01_Small c_parquetref01_Num_Times c_parquetref01_Num_Plus c_parquetref03_Fits c_parquetref03_Orient c_parquetref01_Num_Sign a0 a1 a2 := by kernel_rfl
def g_parquetref04_on (k : Nat) (a0 : (Int × Int)) (a1 : (Int × Int)) (a2 : (Int × Int)) : Option Bool := b_parquetref04_on k (g_parquetref01_Small k) (g_parquetref01_Num_Times k) (g_parquetref01_Num_Plus k) (g_parquetref03_Fits k) (g_parquetref03_Orient k) (g_parquetref01_Num_Sign k) a0 a1 a2
theorem tells_parquetref04_on (k : Nat) : TellsF Tryz.prog 74 [.d (.pair kI kI), .d (.pair kI kI), .d (.pair kI kI)] [.bool] (fun x => g_parquetref04_on k (x.1) (x.2.1) (x.2.2)) := fun x y h => fun_tells tb_ok mix (es := [⟨102, [.d kI], [.pair .bool (.sl kI)], fun x => g_parquetref01_Small k x, none⟩, ⟨103, [.d (.pair .bool (.sl kI)), .d (.pair .bool (.sl kI))], [.pair .bool (.sl kI)], fun x => g_parquetref01_Num_Times k (x.1) (x.2), none⟩, ⟨64, [.d (.pair .bool (.sl kI)), .d (.pair .bool (.sl kI))], [.pair .bool (.sl kI)], fun x => g_parquetref01_Num_Plus k (x.1) (x.2), none⟩, ⟨72, [.d (.pair kI kI)], [.bool], fun x => g_parquetref03_Fits k x, none⟩, ⟨73, [.d (.pair kI kI), .d (.pair kI kI), .d (.pair kI kI)], [kI], fun x => g_parquetref03_Orient k (x.1) (x.2.1) (x.2.2), none⟩, ⟨67, [.d (.pair .bool (.sl kI))], [kI], fun x => g_parquetref01_Num_Sign k x, none⟩]) (EsOk.cons (EntryOk.of rfl (tells_parquetref01_Small k)) (EsOk.cons (EntryOk.of rfl (tells_parquetref01_Num_Times k)) (EsOk.cons (EntryOk.of rfl (tells_parquetref01_Num_Plus k)) (EsOk.cons (EntryOk.of rfl (tells_parquetref03_Fits k)) (EsOk.cons (EntryOk.of rfl (tells_parquetref03_Orient k)) (EsOk.cons (EntryOk.of rfl (tells_parquetref01_Num_Sign k)) (EsOk.nil _))))))) Tryz.func74 (N := k) (an := an_parquetref04_on) (by kernel_rfl) x y ((eq_parquetref04_on k (g_parquetref01_Small k) (g_parquetref01_Num_Times k) (g_parquetref01_Num_Plus k) (g_parquetref03_Fits k) (g_parquetref03_Orient k) (g_parquetref01_Num_Sign k) (x.1) (x.2.1) (x.2.2)).trans h)

def an_parquetref04_Segs : Ann := .node none none .leaf (.node none none (.node none none (.node (some [(4, .box [.d (.pair kI kI)]), (5, .box [.d (.pair kI kI)]), (6, .box [.d (.pair kI kI)]), (7, .box [.d (.pair kI kI)]), (40, .d .bool)]) none .leaf .leaf) .leaf) (.node none none .leaf (.node none none .leaf (.node none none (.node none none (.node (some [(4, .box [.d (.pair kI kI)]), (5, .box [.d (.pair kI kI)]), (6, .box [.d (.pair kI kI)]), (7, .box [.d (.pair kI kI)]), (10, .d kI), (11, .d kI), (54, .d .bool)]) none .leaf .leaf) (.node none none (.node none none .leaf (.node none none (.node none none .leaf (.node (some [(4, .box [.d (.pair kI kI)]), (5, .box [.d (.pair kI kI)]), (6, .box [.d (.pair kI kI)]), (7, .box [.d (.pair kI kI)]), (12, .d kI)]) none .leaf .leaf)) (.node none none (.node none none .leaf (.node (some [(4, .box [.d (.pair kI kI)]), (5, .box [.d (.pair kI kI)]), (6, .box [.d (.pair kI kI)]), (7, .box [.d (.pair kI kI)]), (12, .d kI)]) none .leaf .leaf)) (.node none none (.node none none (.node (some [(5, .box [.d (.pair kI kI)]), (6, .box [.d (.pair kI kI)]), (7, .box [.d (.pair kI kI)]), (12, .d kI), (80, .d .bool)]) none .leaf .leaf) (.node (some [(5, .box [.d (.pair kI kI)]), (6, .box [.d (.pair kI kI)]), (7, .box [.d (.pair kI kI)]), (12, .d kI)]) none .leaf .leaf)) (.node none none (.node none none (.node (some [(12, .d kI), (96, .d .bool)]) none .leaf .leaf) (.node (some [(12, .d kI)]) none .leaf .leaf)) .leaf))))) .leaf)) (.node none none (.node none none (.node (some [(4, .box [.d (.pair kI kI)]), (5, .box [.d (.pair kI kI)]), (6, .box [.d (.pair kI kI)]), (7, .box [.d (.pair kI kI)]), (10, .d kI), (11, .d kI), (120, .d .bool)]) none .leaf .leaf) .leaf) (.node none none (.node none none (.node (some [(4, .box [.d (.pair kI kI)]), (5, .box [.d (.pair kI kI)]), (6, .box [.d (.pair kI kI)]), (7, .box [.d (.pair kI kI)]), (10, .d kI), (11, .d kI), (142, .d .bool)]) none .leaf .leaf) .leaf) (.node none none (.node none none (.node (some [(156, .d .bool)]) none .leaf .leaf) .leaf) .leaf)))))))
def b_parquetref04_Segs (k : Nat) (c_parquetref03_Fits : (Int × Int) → Option Bool) (c_parquetref03_Orient : (Int × Int) → (Int × Int) → (Int × Int) → Option Int) (c_parquetref04_on : (Int × Int) → (Int × Int) → (Int × Int) → Option Bool) (a0 : (Int × Int)) (a1 : (Int × Int)) (a2 : (Int × Int)) (a3 : (Int × Int)) : Option (Int × Int) :=
  meet (α := ((Int × Int) × ((Int × Int) × ((Int × Int) × ((Int × Int) × Bool))))) (fun (y0, y1, y2, y3, y4) =>
    bif y4 then
     some (0, 2)
    else
     bnd (c_parquetref03_Orient (y0.1, y0.2) (y1.1, y1.2) (y2.1, y2.2)) fun r5 =>
     bnd (c_parquetref03_Orient (y0.1, y0.2) (y1.1, y1.2) (y3.1, y3.2)) fun r6 =>
     meet (α := ((Int × Int) × ((Int × Int) × ((Int × Int) × ((Int × Int) × (Int × (Int × Bool))))))) (fun (y7, y8, y9, y10, y11, y12, y13) =>
      bif y13 then
       bnd (c_parquetref04_on (y7.1, y7.2) (y8.1, y8.2) (y9.1, y9.2)) fun r14 =>
       meet (α := ((Int × Int) × ((Int × Int) × ((Int × Int) × ((Int × Int) × Int))))) (fun (y15, y16, y17, y18, y19) =>
        bnd (c_parquetref04_on (y15.1, y15.2) (y16.1, y16.2) (y18.1, y18.2)) fun r20 =>
        meet (α := ((Int × Int) × ((Int × Int) × ((Int × Int) × ((Int × Int) × Int))))) (fun (y21, y22, y23, y24, y25) =>
         meet (α := ((Int × Int) × ((Int × Int) × ((Int × Int) × (Int × Bool))))) (fun (y26, y27, y28, y29, y30) =>
          meet (α := ((Int × Int) × ((Int × Int) × ((Int × Int) × Int)))) (fun (y31, y32, y33, y34) =>
           meet (α := (Int × Bool)) (fun (y35, y36) =>
            meet (α := Int) (fun y37 =>
             bif decide (y37 ≥ 2) then
              some (4, 0)
             else
              bif decide (y37 = 1) then
               some (1, 0)
              else
               some (0, 0)) fun j38 =>
            bif y36 then
             j38 (w64 (y35 + 1))
            else
             j38 y35) fun j39 =>
           bnd (c_parquetref04_on (y32.1, y32.2) (y33.1, y33.2) (y31.1, y31.2)) fun r40 =>
           bif r40 then
            bif !((decide (y31.1 = y32.1)) && (decide (y31.2 = y32.2))) then
             j39 (y34, !((decide (y31.1 = y33.1)) && (decide (y31.2 = y33.2))))
            else
             j39 (y34, false)
           else
            j39 (y34, false)) fun j41 =>
          bif y30 then
           j41 ((y26.1, y26.2), (y27.1, y27.2), (y28.1, y28.2), w64 (y29 + 1))
          else
           j41 ((y26.1, y26.2), (y27.1, y27.2), (y28.1, y28.2), y29)) fun j42 =>
         bnd (c_parquetref04_on (y23.1, y23.2) (y24.1, y24.2) (y21.1, y21.2)) fun r43 =>
         bif r43 then
          bif !((decide (y21.1 = y23.1)) && (decide (y21.2 = y23.2))) then
           j42 ((y22.1, y22.2), (y23.1, y23.2), (y24.1, y24.2), y25, !((decide (y21.1 = y24.1)) && (decide (y21.2 = y24.2))))
          else
           j42 ((y22.1, y22.2), (y23.1, y23.2), (y24.1, y24.2), y25, false)
         else
          j42 ((y22.1, y22.2), (y23.1, y23.2), (y24.1, y24.2), y25, false)) fun j44 =>
        bif r20 then
         j44 ((y15.1, y15.2), (y16.1, y16.2), (y17.1, y17.2), (y18.1, y18.2), w64 (y19 + 1))
        else
         j44 ((y15.1, y15.2), (y16.1, y16.2), (y17.1, y17.2), (y18.1, y18.2), y19)) fun j45 =>
       bif r14 then
        j45 ((y7.1, y7.2), (y8.1, y8.2), (y9.1, y9.2), (y10.1, y10.2), 1)
       else
        j45 ((y7.1, y7.2), (y8.1, y8.2), (y9.1, y9.2), (y10.1, y10.2), 0)
      else
       meet (α := ((Int × Int) × ((Int × Int) × ((Int × Int) × ((Int × Int) × (Int × (Int × Bool))))))) (fun (y46, y47, y48, y49, y50, y51, y52) =>
        bif y52 then
         some (1, 0)
        else
         meet (α := ((Int × Int) × ((Int × Int) × ((Int × Int) × ((Int × Int) × (Int × (Int × Bool))))))) (fun (y53, y54, y55, y56, y57, y58, y59) =>
          bif y59 then
           some (2, 0)
          else
           meet (α := Bool) (fun y60 =>
            bif y60 then
             some (3, 0)
            else
             some (0, 0)) fun j61 =>
           bif !(decide (y57 = y58)) then
            bnd (c_parquetref03_Orient (y55.1, y55.2) (y56.1, y56.2) (y53.1, y53.2)) fun r62 =>
            bnd (c_parquetref03_Orient (y55.1, y55.2) (y56.1, y56.2) (y54.1, y54.2)) fun r63 =>
            j61 (!(decide (r62 = r63)))
           else
            j61 false) fun j64 =>
         bnd (c_parquetref04_on (y46.1, y46.2) (y47.1, y47.2) (y48.1, y48.2)) fun r65 =>
         bif r65 then
          j64 ((y46.1, y46.2), (y47.1, y47.2), (y48.1, y48.2), (y49.1, y49.2), y50, y51, true)
         else
          bnd (c_parquetref04_on (y46.1, y46.2) (y47.1, y47.2) (y49.1, y49.2)) fun r66 =>
          bif r66 then
           j64 ((y46.1, y46.2), (y47.1, y47.2), (y48.1, y48.2), (y49.1, y49.2), y50, y51, true)
          else
           bnd (c_parquetref04_on (y48.1, y48.2) (y49.1, y49.2) (y46.1, y46.2)) fun r67 =>
           bif r67 then
            j64 ((y46.1, y46.2), (y47.1, y47.2), (y48.1, y48.2), (y49.1, y49.2), y50, y51, true)
           else
            bnd (c_parquetref04_on (y48.1, y48.2) (y49.1, y49.2) (y47.1, y47.2)) fun r68 =>
            j64 ((y46.1, y46.2), (y47.1, y47.2), (y48.1, y48.2), (y49.1, y49.2), y50, y51, r68)) fun j69 =>
       bif (decide (y7.1 = y9.1)) && (decide (y7.2 = y9.2)) then
        j69 ((y7.1, y7.2), (y8.1, y8.2), (y9.1, y9.2), (y10.1, y10.2), y11, y12, true)
       else
        bif (decide (y7.1 = y10.1)) && (decide (y7.2 = y10.2)) then
         j69 ((y7.1, y7.2), (y8.1, y8.2), (y9.1, y9.2), (y10.1, y10.2), y11, y12, true)
        else
         bif (decide (y8.1 = y9.1)) && (decide (y8.2 = y9.2)) then
          j69 ((y7.1, y7.2), (y8.1, y8.2), (y9.1, y9.2), (y10.1, y10.2), y11, y12, true)
         else
          j69 ((y7.1, y7.2), (y8.1, y8.2), (y9.1, y9.2), (y10.1, y10.2), y11, y12, (decide (y8.1 = y10.1)) && (decide (y8.2 = y10.2)))) fun j70 =>
     bif decide (r5 = 0) then
      j70 ((y0.1, y0.2), (y1.1, y1.2), (y2.1, y2.2), (y3.1, y3.2), r5, r6, decide (r6 = 0))
     else
      j70 ((y0.1, y0.2), (y1.1, y1.2), (y2.1, y2.2), (y3.1, y3.2), r5, r6, false)) fun j71 =>
   bif (decide (a0.1 = a1.1)) && (decide (a0.2 = a1.2)) then
    j71 ((a0.1, a0.2), (a1.1, a1.2), (a2.1, a2.2), (a3.1, a3.2), true)
   else
    bif (decide (a2.1 = a3.1)) && (decide (a2.2 = a3.2)) then
     j71 ((a0.1, a0.2), (a1.1, a1.2), (a2.1, a2.2), (a3.1, a3.2), true)
    else
     bnd (c_parquetref03_Fits (a0.1, a0.2)) fun r72 =>
     bif !r72 then
      j71 ((a0.1, a0.2), (a1.1, a1.2), (a2.1, a2.2), (a3.1, a3.2), true)
     else
      bnd (c_parquetref03_Fits (a1.1, a1.2)) fun r73 =>
      bif !r73 then
       j71 ((a0.1, a0.2), (a1.1, a1.2), (a2.1, a2.2), (a3.1, a3.2), true)
      else
       bnd (c_parquetref03_Fits (a2.1, a2.2)) fun r74 =>
       bif !r74 then
        j71 ((a0.1, a0.2), (a1.1, a1.2), (a2.1, a2.2), (a3.1, a3.2), true)
       else
        bnd (c_parquetref03_Fits (a3.1, a3.2)) fun r75 =>
        j71 ((a0.1, a0.2), (a1.1, a1.2), (a2.1, a2.2), (a3.1, a3.2), !r75)
theorem eq_parquetref04_Segs (k : Nat) (c_parquetref03_Fits : (Int × Int) → Option Bool) (c_parquetref03_Orient : (Int × Int) → (Int × Int) → (Int × Int) → Option Int) (c_parquetref04_on : (Int × Int) → (Int × Int) → (Int × Int) → Option Bool) (a0 : (Int × Int)) (a1 : (Int × Int)) (a2 : (Int × Int)) (a3 : (Int × Int)) : textF [⟨72, [.d (.pair kI kI)], [.bool], fun x => c_parquetref03_Fits x, none⟩, ⟨73, [.d (.pair kI kI), .d (.pair kI kI), .d (.pair kI kI)], [kI], fun x => c_parquetref03_Orient (x.1) (x.2.1) (x.2.2), none⟩, ⟨74, [.d (.pair kI kI), .d (.pair kI kI), .d (.pair kI kI)], [.bool], fun x => c_parquetref04_on (x.1) (x.2.1) (x.2.2), none⟩] tb k Tryz.f32 an_parquetref04_Segs [.d (.pair kI kI), .d (.pair kI kI), .d (.pair kI kI), .d (.pair kI kI)] [kI, kI] (a0, a1, a2, a3) = b_parquetref04_Segs k c_parquetref03_Fits c_parquetref03_Orient c_parquetref04_on a0 a1 a2 a3 := by kernel_rfl
def g_parquetref04_Segs (k : Nat) (a0 : (Int × Int)) (a1 : (Int × Int)) (a2 : (Int × Int)) (a3 : (Int × Int)) : Option (Int × Int) := b_parquetref04_Segs k (g_parquetref03_Fits k) (g_parquetref03_Orient k) (g_parquetref04_on k) a0 a1 a2 a3
theorem tells_parquetref04_Segs (k : Nat) : TellsF Tryz.prog 32 [.d (.pair kI kI), .d (.pair kI kI), .d (.pair kI kI), .d (.pair kI kI)] [kI, kI] (fun x => g_parquetref04_Segs k (x.1) (x.2.1) (x.2.2.1) (x.2.2.2)) := fun x y h => fun_tells tb_ok mix (es := [⟨72, [.d (.pair kI kI)], [.bool], fun x => g_parquetref03_Fits k x, none⟩, ⟨73, [.d (.pair kI kI), .d (.pair kI kI), .d (.pair kI kI)], [kI], fun x => g_parquetref03_Orient k (x.1) (x.2.1) (x.2.2), none⟩, ⟨74, [.d (.pair kI kI), .d (.pair kI kI), .d (.pair kI kI)], [.bool], fun x => g_parquetref04_on k (x.1) (x.2.1) (x.2.2), none⟩]) (EsOk.cons (EntryOk.of rfl (tells_parquetref03_Fits k)) (EsOk.cons (EntryOk.of rfl (tells_parquetref03_Orient k)) (EsOk.cons (EntryOk.of rfl (tells_parquetref04_on k)) (EsOk.nil _)))) Tryz.func32 (N := k) (an := an_parquetref04_Segs) (by kernel_rfl) x y ((eq_parquetref04_Segs k (g_parquetref03_Fits k) (g_parquetref03_Orient k) (g_parquetref04_on k) (x.1) (x.2.1) (x.2.2.1) (x.2.2.2)).trans h)

def an_parquetref04_Inside : Ann := .node none none .leaf (.node none none (.node (some [(6, .d .bool)]) none .leaf .leaf) .leaf)
def b_parquetref04_Inside (k : Nat) (c_parquetref04_on : (Int × Int) → (Int × Int) → (Int × Int) → Option Bool) (a0 : (Int × Int)) (a1 : (Int × Int)) (a2 : (Int × Int)) : Option Bool :=
  meet (α := Bool) (fun y0 =>
    some y0) fun j1 =>
   bnd (c_parquetref04_on (a0.1, a0.2) (a1.1, a1.2) (a2.1, a2.2)) fun r2 =>
   bif r2 then
    bif !((decide (a2.1 = a0.1)) && (decide (a2.2 = a0.2))) then
     j1 (!((decide (a2.1 = a1.1)) && (decide (a2.2 = a1.2))))
    else
     j1 false
   else
    j1 false
theorem eq_parquetref04_Inside (k : Nat) (c_parquetref04_on : (Int × Int) → (Int × Int) → (Int × Int) → Option Bool) (a0 : (Int × Int)) (a1 : (Int × Int)) (a2 : (Int × Int)) : textF [⟨74, [.d (.pair kI kI), .d (.pair kI kI), .d (.pair kI kI)], [.bool], fun x => c_parquetref04_on (x.1) (x.2.1) (x.2.2), none⟩] tb k Tryz.f38 an_parquetref04_Inside [.d (.pair kI kI), .d (.pair kI kI), .d (.pair kI kI)] [.bool] (a0, a1, a2) = b_parquetref04_Inside k c_parquetref04_on a0 a1 a2 := by kernel_rfl
def g_parquetref04_Inside (k : Nat) (a0 : (Int × Int)) (a1 : (Int × Int)) (a2 : (Int × Int)) : Option Bool := b_parquetref04_Inside k (g_parquetref04_on k) a0 a1 a2
theorem tells_parquetref04_Inside (k : Nat) : TellsF Tryz.prog 38 [.d (.pair kI kI), .d (.pair kI kI), .d (.pair kI kI)] [.bool] (fun x => g_parquetref04_Inside k (x.1) (x.2.1) (x.2.2)) := fun x y h => fun_tells tb_ok mix (es := [⟨74, [.d (.pair kI kI), .d (.pair kI kI), .d (.pair kI kI)], [.bool], fun x => g_parquetref04_on k (x.1) (x.2.1) (x.2.2), none⟩]) (EsOk.cons (EntryOk.of rfl (tells_parquetref04_on k)) (EsOk.nil _)) Tryz.func38 (N := k) (an := an_parquetref04_Inside) (by kernel_rfl) x y ((eq_parquetref04_Inside k (g_parquetref04_on k) (x.1) (x.2.1) (x.2.2)).trans h)

def an_parquetref10_pairs : Ann := .node none none .leaf (.node none none (.node none none .leaf (.node none none (.node none (some [(1, .box [.d (.pair (.sl (.pair kI kI)) (.pair (.sl (.pair kI kI)) (.sl (.pair kI kI))))]), (2, .box [.d (.pair kI (.pair kI kI))]), (3, .d kI)]) (.node none none .leaf (.node none none (.node none none (.node none none .leaf (.node none none (.node none (some [(1, .box [.d (.pair (.sl (.pair kI kI)) (.pair (.sl (.pair kI kI)) (.sl (.pair kI kI))))]), (2, .box [.d (.pair kI (.pair kI kI))]), (3, .d kI), (4, .d kI)]) .leaf .leaf) .leaf)) .leaf) .leaf)) .leaf) .leaf)) (.node none none .leaf (.node none none (.node none none .leaf (.node none none (.node none (some [(1, .box [.d (.pair (.sl (.pair kI kI)) (.pair (.sl (.pair kI kI)) (.sl (.pair kI kI))))]), (2, .box [.d (.pair kI (.pair kI kI))]), (5, .d (.sl (.pair kI kI))), (6, .d kI)]) .leaf .leaf) .leaf)) (.node none none (.node none none .leaf (.node none none (.node none (some [(1, .box [.d (.pair (.sl (.pair kI kI)) (.pair (.sl (.pair kI kI)) (.sl (.pair kI kI))))]), (2, .box [.d (.pair kI (.pair kI kI))]), (5, .d (.sl (.pair kI kI))), (7, .d kI)]) (.node none none .leaf (.node none none (.node none none (.node none none .leaf (.node none none (.node none (some [(1, .box [.d (.pair (.sl (.pair kI kI)) (.pair (.sl (.pair kI kI)) (.sl (.pair kI kI))))]), (2, .box [.d (.pair kI (.pair kI kI))]), (5, .d (.sl (.pair kI kI))), (7, .d kI), (8, .d kI)]) .leaf .leaf) .leaf)) .leaf) .leaf)) .leaf) .leaf)) (.node none none (.node none none .leaf (.node none none (.node none (some [(1, .box [.d (.pair (.sl (.pair kI kI)) (.pair (.sl (.pair kI kI)) (.sl (.pair kI kI))))]), (2, .box [.d (.pair kI (.pair kI kI))]), (5, .d (.sl (.pair kI kI))), (11, .d kI)]) (.node none none .leaf (.node none none (.node none none (.node none none .leaf (.node none none (.node none (some [(1, .box [.d (.pair (.sl (.pair kI kI)) (.pair (.sl (.pair kI kI)) (.sl (.pair kI kI))))]), (2, .box [.d (.pair kI (.pair kI kI))]), (5, .d (.sl (.pair kI kI))), (11, .d kI), (12, .d kI)]) .leaf .leaf) .leaf)) .leaf) .leaf)) .leaf) .leaf)) .leaf)))))
def b_parquetref10_pairs (k : Nat) (c_parquetref10_All : ((List (Int × Int)) × ((List (Int × Int)) × (List (Int × Int)))) → Option (List (Int × Int))) (c_parquetref04_Segs : (Int × Int) → (Int × Int) → (Int × Int) → (Int × Int) → Option (Int × Int)) (c_parquetref04_Inside : (Int × Int) → (Int × Int) → (Int × Int) → Option Bool) (a0 : ((List (Int × Int)) × ((List (Int × Int)) × (List (Int × Int))))) : Option (Int × (Int × Int)) :=
  loopN (α := (((List (Int × Int)) × ((List (Int × Int)) × (List (Int × Int)))) × ((Int × (Int × Int)) × Int))) (fun (x1, x2, x3) next0 =>
    bif decide (x3 < (x1.1.length : Int)) then
     loopN (α := (((List (Int × Int)) × ((List (Int × Int)) × (List (Int × Int)))) × ((Int × (Int × Int)) × (Int × Int)))) (fun (x5, x6, x7, x8) next4 =>
      bif decide (x8 < (x5.1.length : Int)) then
       gd (inb x7 x5.1.length) <|
       gd (inb x8 x5.1.length) <|
       bif (decide ((rdD (0, 0) x5.1 x7).1 = (rdD (0, 0) x5.1 x8).1)) && (decide ((rdD (0, 0) x5.1 x7).2 = (rdD (0, 0) x5.1 x8).2)) then
        some (1, x7, x8)
       else
        next4 ((x5.1, x5.2.1, x5.2.2), (x6.1, x6.2.1, x6.2.2), x7, w64 (x8 + 1))
      else
       next0 ((x5.1, x5.2.1, x5.2.2), (x6.1, x6.2.1, x6.2.2), w64 (x7 + 1))) k ((x1.1, x1.2.1, x1.2.2), (x2.1, x2.2.1, x2.2.2), x3, w64 (x3 + 1))
    else
     bnd (c_parquetref10_All (x1.1, x1.2.1, x1.2.2)) fun r9 =>
     loopN (α := (((List (Int × Int)) × ((List (Int × Int)) × (List (Int × Int)))) × ((Int × (Int × Int)) × ((List (Int × Int)) × Int)))) (fun (x11, x12, x13, x14) next10 =>
      bif decide (x14 < (x13.length : Int)) then
       gd (inb x14 x13.length) <|
       gd (inb x14 x13.length) <|
       bif decide ((rdD (0, 0) x13 x14).1 = (rdD (0, 0) x13 x14).2) then
        some (2, x14, 0)
       else
        next10 ((x11.1, x11.2.1, x11.2.2), (x12.1, x12.2.1, x12.2.2), x13, w64 (x14 + 1))
      else
       loopN (α := (((List (Int × Int)) × ((List (Int × Int)) × (List (Int × Int)))) × ((Int × (Int × Int)) × ((List (Int × Int)) × Int)))) (fun (x16, x17, x18, x19) next15 =>
        bif decide (x19 < (x18.length : Int)) then
         loopN (α := (((List (Int × Int)) × ((List (Int × Int)) × (List (Int × Int)))) × ((Int × (Int × Int)) × ((List (Int × Int)) × (Int × Int))))) (fun (x21, x22, x23, x24, x25) next20 =>
          bif decide (x25 < (x23.length : Int)) then
           gd (inb x24 x23.length) <|
           gd (inb (rdD (0, 0) x23 x24).1 x21.1.length) <|
           gd (inb x24 x23.length) <|
           gd (inb (rdD (0, 0) x23 x24).2 x21.1.length) <|
           gd (inb x25 x23.length) <|
           gd (inb (rdD (0, 0) x23 x25).1 x21.1.length) <|
           gd (inb x25 x23.length) <|
           gd (inb (rdD (0, 0) x23 x25).2 x21.1.length) <|
           bnd (c_parquetref04_Segs ((rdD (0, 0) x21.1 (rdD (0, 0) x23 x24).1).1, (rdD (0, 0) x21.1 (rdD (0, 0) x23 x24).1).2) ((rdD (0, 0) x21.1 (rdD (0, 0) x23 x24).2).1, (rdD (0, 0) x21.1 (rdD (0, 0) x23 x24).2).2) ((rdD (0, 0) x21.1 (rdD (0, 0) x23 x25).1).1, (rdD (0, 0) x21.1 (rdD (0, 0) x23 x25).1).2) ((rdD (0, 0) x21.1 (rdD (0, 0) x23 x25).2).1, (rdD (0, 0) x21.1 (rdD (0, 0) x23 x25).2).2)) fun r26 =>
           bif decide (r26.1 > 1) then
            some (3, x24, x25)
           else
            next20 ((x21.1, x21.2.1, x21.2.2), (x22.1, x22.2.1, x22.2.2), x23, x24, w64 (x25 + 1))
          else
           next15 ((x21.1, x21.2.1, x21.2.2), (x22.1, x22.2.1, x22.2.2), x23, w64 (x24 + 1))) k ((x16.1, x16.2.1, x16.2.2), (x17.1, x17.2.1, x17.2.2), x18, x19, w64 (x19 + 1))
        else
         loopN (α := (((List (Int × Int)) × ((List (Int × Int)) × (List (Int × Int)))) × ((Int × (Int × Int)) × ((List (Int × Int)) × Int)))) (fun (x28, x29, x30, x31) next27 =>
          bif decide (x31 < (x28.1.length : Int)) then
           loopN (α := (((List (Int × Int)) × ((List (Int × Int)) × (List (Int × Int)))) × ((Int × (Int × Int)) × ((List (Int × Int)) × (Int × Int))))) (fun (x33, x34, x35, x36, x37) next32 =>
            bif decide (x37 < (x35.length : Int)) then
             gd (inb x37 x35.length) <|
             gd (inb (rdD (0, 0) x35 x37).1 x33.1.length) <|
             gd (inb x37 x35.length) <|
             gd (inb (rdD (0, 0) x35 x37).2 x33.1.length) <|
             gd (inb x36 x33.1.length) <|
             bnd (c_parquetref04_Inside ((rdD (0, 0) x33.1 (rdD (0, 0) x35 x37).1).1, (rdD (0, 0) x33.1 (rdD (0, 0) x35 x37).1).2) ((rdD (0, 0) x33.1 (rdD (0, 0) x35 x37).2).1, (rdD (0, 0) x33.1 (rdD (0, 0) x35 x37).2).2) ((rdD (0, 0) x33.1 x36).1, (rdD (0, 0) x33.1 x36).2)) fun r38 =>
             bif r38 then
              some (4, x36, x37)
             else
              next32 ((x33.1, x33.2.1, x33.2.2), (x34.1, x34.2.1, x34.2.2), x35, x36, w64 (x37 + 1))
            else
             next27 ((x33.1, x33.2.1, x33.2.2), (x34.1, x34.2.1, x34.2.2), x35, w64 (x36 + 1))) k ((x28.1, x28.2.1, x28.2.2), (x29.1, x29.2.1, x29.2.2), x30, x31, 0)
          else
           some (0, 0, 0)) k ((x16.1, x16.2.1, x16.2.2), (x17.1, x17.2.1, x17.2.2), x18, 0)) k ((x11.1, x11.2.1, x11.2.2), (x12.1, x12.2.1, x12.2.2), x13, 0)) k ((x1.1, x1.2.1, x1.2.2), (x2.1, x2.2.1, x2.2.2), r9, 0)) k ((a0.1, a0.2.1, a0.2.2), (0, 0, 0), 0)
theorem eq_parquetref10_pairs (k : Nat) (c_parquetref10_All : ((List (Int × Int)) × ((List (Int × Int)) × (List (Int × Int)))) → Option (List (Int × Int))) (c_parquetref04_Segs : (Int × Int) → (Int × Int) → (Int × Int) → (Int × Int) → Option (Int × Int)) (c_parquetref04_Inside : (Int × Int) → (Int × Int) → (Int × Int) → Option Bool) (a0 : ((List (Int × Int)) × ((List (Int × Int)) × (List (Int × Int))))) : textF [⟨27, [.d (.pair (.sl (.pair kI kI)) (.pair (.sl (.pair kI kI)) (.sl (.pair kI kI))))], [.sl (.pair kI kI)], fun x => c_parquetref10_All x, none⟩, ⟨32, [.d (.pair kI kI), .d (.pair kI kI), .d (.pair kI kI), .d (.pair kI kI)], [kI, kI], fun x => c_parquetref04_Segs (x.1) (x.2.1) (x.2.2.1) (x.2.2.2), none⟩, ⟨38, [.d (.pair kI kI), .d (.pair kI kI), .d (.pair kI kI)], [.bool], fun x => c_parquetref04_Inside (x.1) (x.2.1) (x.2.2), none⟩] tb k Tryz.f95 an_parquetref10_pairs [.d (.pair (.sl (.pair kI kI)) (.pair (.sl (.pair kI kI)) (.sl (.pair kI kI))))] [.pair kI (.pair kI kI)] a0 = b_parquetref10_pairs k c_parquetref10_All c_parquetref04_Segs c_parquetref04_Inside a0 := by kernel_rfl
def g_parquetref10_pairs (k : Nat) (a0 : ((List (Int × Int)) × ((List (Int × Int)) × (List (Int × Int))))) : Option (Int × (Int × Int)) := b_parquetref10_pairs k (g_parquetref10_All k) (g_parquetref04_Segs k) (g_parquetref04_Inside k) a0
theorem tells_parquetref10_pairs (k : Nat) : TellsF Tryz.prog 95 [.d (.pair (.sl (.pair kI kI)) (.pair (.sl (.pair kI kI)) (.sl (.pair kI kI))))] [.pair kI (.pair kI kI)] (fun x => g_parquetref10_pairs k x) := fun x y h => fun_tells tb_ok mix (es := [⟨27, [.d (.pair (.sl (.pair kI kI)) (.pair (.sl (.pair kI kI)) (.sl (.pair kI kI))))], [.sl (.pair kI kI)], fun x => g_parquetref10_All k x, none⟩, ⟨32, [.d (.pair kI kI), .d (.pair kI kI), .d (.pair kI kI), .d (.pair kI kI)], [kI, kI], fun x => g_parquetref04_Segs k (x.1) (x.2.1) (x.2.2.1) (x.2.2.2), none⟩, ⟨38, [.d (.pair kI kI), .d (.pair kI kI), .d (.pair kI kI)], [.bool], fun x => g_parquetref04_Inside k (x.1) (x.2.1) (x.2.2), none⟩]) (EsOk.cons (EntryOk.of rfl (tells_parquetref10_All k)) (EsOk.cons (EntryOk.of rfl (tells_parquetref04_Segs k)) (EsOk.cons (EntryOk.of rfl (tells_parquetref04_Inside k)) (EsOk.nil _)))) Tryz.func95 (N := k) (an := an_parquetref10_pairs) (by kernel_rfl) x y ((eq_parquetref10_pairs k (g_parquetref10_All k) (g_parquetref04_Segs k) (g_parquetref04_Inside k) x).trans h)

def an_parquetref09_times : Ann := .leaf
def g_parquetref09_times (k : Nat) (a0 : (Int × Int)) (a1 : Int) : Option (Int × Int) :=
  some (w64 (a1 * a0.1), w64 (a1 * a0.2))
theorem eq_parquetref09_times (k : Nat) (a0 : (Int × Int)) (a1 : Int) : textF [] tb k Tryz.f105 an_parquetref09_times [.d (.pair kI kI), .d kI] [.pair kI kI] (a0, a1) = g_parquetref09_times k a0 a1 := by kernel_rfl
theorem tells_parquetref09_times (k : Nat) : TellsF Tryz.prog 105 [.d (.pair kI kI), .d kI] [.pair kI kI] (fun x => g_parquetref09_times k (x.1) (x.2)) := fun x y h => fun_tells tb_ok mix (es := []) (EsOk.nil _) Tryz.func105 (N := k) (an := an_parquetref09_times) (by kernel_rfl) x y ((eq_parquetref09_times k (x.1) (x.2)).trans h)

def an_parquetref09_Check : Ann := .node none none .leaf (.node none none (.node none none .leaf (.node none none (.node none (some [(0, .d (.sl (.pair kI kI))), (1, .d (.sl (.pair kI kI))), (2, .d kI), (7, .d kI)]) (.node none none .leaf (.node none none (.node none none (.node none none .leaf (.node none none (.node none none (.node (some [(0, .d (.sl (.pair kI kI))), (1, .d (.sl (.pair kI kI))), (2, .d kI), (7, .d kI), (8, .box [.d (.pair kI kI)]), (53, .d .bool)]) none .leaf .leaf) .leaf) (.node none none (.node (some [(0, .d (.sl (.pair kI kI))), (1, .d (.sl (.pair kI kI))), (2, .d kI), (7, .d kI), (91, .d .bool)]) none .leaf .leaf) .leaf))) .leaf) .leaf)) .leaf) .leaf)) .leaf)
def b_parquetref09_Check (k : Nat) (c_parquetref03_Fits : (Int × Int) → Option Bool) (c_parquetref09_times : (Int × Int) → Int → Option (Int × Int)) (a0 : (List (Int × Int))) (a1 : (List (Int × Int))) (a2 : Int) : Option Bool :=
  loopN (α := ((List (Int × Int)) × ((List (Int × Int)) × (Int × Int)))) (fun (x1, x2, x3, x4) next0 =>
    bif decide (x4 < (x2.length : Int)) then
     gd (inb x4 x2.length) <|
     meet (α := ((List (Int × Int)) × ((List (Int × Int)) × (Int × (Int × ((Int × Int) × Bool)))))) (fun (y5, y6, y7, y8, y9, y10) =>
      bif y10 then
       some false
      else
       meet (α := ((List (Int × Int)) × ((List (Int × Int)) × (Int × (Int × Bool))))) (fun (y11, y12, y13, y14, y15) =>
        bif y15 then
         some false
        else
         next0 (y11, y12, y13, w64 (y14 + 1))) fun j16 =>
       gd (inb y9.1 y5.length) <|
       bnd (c_parquetref03_Fits ((rdD (0, 0) y5 y9.1).1, (rdD (0, 0) y5 y9.1).2)) fun r17 =>
       bif !r17 then
        j16 (y5, y6, y7, y8, true)
       else
        gd (inb y9.2 y5.length) <|
        bnd (c_parquetref03_Fits ((rdD (0, 0) y5 y9.2).1, (rdD (0, 0) y5 y9.2).2)) fun r18 =>
        bif !r18 then
         j16 (y5, y6, y7, y8, true)
        else
         gd (inb y9.1 y5.length) <|
         bnd (c_parquetref09_times ((rdD (0, 0) y5 y9.1).1, (rdD (0, 0) y5 y9.1).2) y7) fun r19 =>
         bnd (c_parquetref03_Fits (r19.1, r19.2)) fun r20 =>
         bif !r20 then
          j16 (y5, y6, y7, y8, true)
         else
          gd (inb y9.2 y5.length) <|
          bnd (c_parquetref09_times ((rdD (0, 0) y5 y9.2).1, (rdD (0, 0) y5 y9.2).2) y7) fun r21 =>
          bnd (c_parquetref03_Fits (r21.1, r21.2)) fun r22 =>
          j16 (y5, y6, y7, y8, !r22)) fun j23 =>
     bif decide ((rdD (0, 0) x2 x4).1 < 0) then
      j23 (x1, x2, x3, x4, ((rdD (0, 0) x2 x4).1, (rdD (0, 0) x2 x4).2), true)
     else
      bif decide ((rdD (0, 0) x2 x4).2 < 0) then
       j23 (x1, x2, x3, x4, ((rdD (0, 0) x2 x4).1, (rdD (0, 0) x2 x4).2), true)
      else
       bif decide ((rdD (0, 0) x2 x4).1 ≥ (x1.length : Int)) then
        j23 (x1, x2, x3, x4, ((rdD (0, 0) x2 x4).1, (rdD (0, 0) x2 x4).2), true)
       else
        bif decide ((rdD (0, 0) x2 x4).2 ≥ (x1.length : Int)) then
         j23 (x1, x2, x3, x4, ((rdD (0, 0) x2 x4).1, (rdD (0, 0) x2 x4).2), true)
        else
         gd (inb (rdD (0, 0) x2 x4).1 x1.length) <|
         gd (inb (rdD (0, 0) x2 x4).2 x1.length) <|
         j23 (x1, x2, x3, x4, ((rdD (0, 0) x2 x4).1, (rdD (0, 0) x2 x4).2), (decide ((rdD (0, 0) x1 (rdD (0, 0) x2 x4).1).1 = (rdD (0, 0) x1 (rdD (0, 0) x2 x4).2).1)) && (decide ((rdD (0, 0) x1 (rdD (0, 0) x2 x4).1).2 = (rdD (0, 0) x1 (rdD (0, 0) x2 x4).2).2)))
    else
     some true) k (a0, a1, a2, 0)
theorem eq_parquetref09_Check (k : Nat) (c_parquetref03_Fits : (Int × Int) → Option Bool) (c_parquetref09_times : (Int × Int) → Int → Option (Int × Int)) (a0 : (List (Int × Int))) (a1 : (List (Int × Int))) (a2 : Int) : textF [⟨72, [.d (.pair kI kI)], [.bool], fun x => c_parquetref03_Fits x, none⟩, ⟨105, [.d (.pair kI kI), .d kI], [.pair kI kI], fun x => c_parquetref09_times (x.1) (x.2), none⟩] tb k Tryz.f79 an_parquetref09_Check [.d (.sl (.pair kI kI)), .d (.sl (.pair kI kI)), .d kI] [.bool] (a0, a1, a2) = b_parquetref09_Check k c_parquetref03_Fits c_parquetref09_times a0 a1 a2 := by kernel_rfl
def g_parquetref09_Check (k : Nat) (a0 : (List (Int × Int))) (a1 : (List (Int × Int))) (a2 : Int) : Option Bool := b_parquetref09_Check k (g_parquetref03_Fits k) (g_parquetref09_times k) a0 a1 a2
theorem tells_parquetref09_Check (k : Nat) : TellsF Tryz.prog 79 [.d (.sl (.pair kI kI)), .d (.sl (.pair kI kI)), .d kI] [.bool] (fun x => g_parquetref09_Check k (x.1) (x.2.1) (x.2.2)) := fun x y h => fun_tells tb_ok mix (es := [⟨72, [.d (.pair kI kI)], [.bool], fun x => g_parquetref03_Fits k x, none⟩, ⟨105, [.d (.pair kI kI), .d kI], [.pair kI kI], fun x => g_parquetref09_times k (x.1) (x.2), none⟩]) (EsOk.cons (EntryOk.of rfl (tells_parquetref03_Fits k)) (EsOk.cons (EntryOk.of rfl (tells_parquetref09_times k)) (EsOk.nil _))) Tryz.func79 (N := k) (an := an_parquetref09_Check) (by kernel_rfl) x y ((eq_parquetref09_Check k (g_parquetref03_Fits k) (g_parquetref09_times k) (x.1) (x.2.1) (x.2.2)).trans h)

def an_parquetref04_On : Ann := .leaf
def b_parquetref04_On (k : Nat) (c_parquetref04_on : (Int × Int) → (Int × Int) → (Int × Int) → Option Bool) (a0 : (Int × Int)) (a1 : (Int × Int)) (a2 : (Int × Int)) : Option Bool :=
  bnd (c_parquetref04_on (a0.1, a0.2) (a1.1, a1.2) (a2.1, a2.2)) fun r0 =>
   some r0
theorem eq_parquetref04_On (k : Nat) (c_parquetref04_on : (Int × Int) → (Int × Int) → (Int × Int) → Option Bool) (a0 : (Int × Int)) (a1 : (Int × Int)) (a2 : (Int × Int)) : textF [⟨74, [.d (.pair kI kI), .d (.pair kI kI), .d (.pair kI kI)], [.bool], fun x => c_parquetref04_on (x.1) (x.2.1) (x.2.2), none⟩] tb k Tryz.f106 an_parquetref04_On [.d (.pair kI kI), .d (.pair kI kI), .d (.pair kI kI)] [.bool] (a0, a1, a2) = b_parquetref04_On k c_parquetref04_on a0 a1 a2 := by kernel_rfl
def g_parquetref04_On (k : Nat) (a0 : (Int × Int)) (a1 : (Int × Int)) (a2 : (Int × Int)) : Option Bool := b_parquetref04_On k (g_parquetref04_on k) a0 a1 a2
theorem tells_parquetref04_On (k : Nat) : TellsF Tryz.prog 106 [.d (.pair kI kI), .d (.pair kI kI), .d (.pair kI kI)] [.bool] (fun x => g_parquetref04_On k (x.1) (x.2.1) (x.2.2)) := fun x y h => fun_tells tb_ok mix (es := [⟨74, [.d (.pair kI kI), .d (.pair kI kI), .d (.pair kI kI)], [.bool], fun x => g_parquetref04_on k (x.1) (x.2.1) (x.2.2), none⟩]) (EsOk.cons (EntryOk.of rfl (tells_parquetref04_on k)) (EsOk.nil _)) Tryz.func106 (N := k) (an := an_parquetref04_On) (by kernel_rfl) x y ((eq_parquetref04_On k (g_parquetref04_on k) (x.1) (x.2.1) (x.2.2)).trans h)

def an_parquetref09_farther : Ann := .leaf
def b_parquetref09_farther (k : Nat) (c_parquetref01_Small : Int → Option (Bool × (List Int))) (c_parquetref01_Num_Times : (Bool × (List Int)) → (Bool × (List Int)) → Option (Bool × (List Int))) (c_parquetref01_Num_Plus : (Bool × (List Int)) → (Bool × (List Int)) → Option (Bool × (List Int))) (c_parquetref01_Num_Neg : (Bool × (List Int)) → Option (Bool × (List Int))) (c_parquetref01_Num_Sign : (Bool × (List Int)) → Option Int) (a0 : (Int × Int)) (a1 : (Int × Int)) (a2 : (Int × Int)) : Option Bool :=
  bnd (c_parquetref01_Small (w64 (a1.2 - a0.2))) fun r0 =>
   bnd (c_parquetref01_Small a0.1) fun r1 =>
   bnd (c_parquetref01_Num_Times (r1.1, r1.2) (r0.1, r0.2)) fun r2 =>
   bnd (c_parquetref01_Small (w64 (a1.1 - a0.1))) fun r3 =>
   bnd (c_parquetref01_Small (w64 (a2.2 - a0.2))) fun r4 =>
   bnd (c_parquetref01_Num_Times (r3.1, r3.2) (r4.1, r4.2)) fun r5 =>
   bnd (c_parquetref01_Num_Plus (r2.1, r2.2) (r5.1, r5.2)) fun r6 =>
   bnd (c_parquetref01_Small a2.1) fun r7 =>
   bnd (c_parquetref01_Num_Times (r7.1, r7.2) (r0.1, r0.2)) fun r8 =>
   bnd (c_parquetref01_Num_Neg (r8.1, r8.2)) fun r9 =>
   bnd (c_parquetref01_Num_Plus (r6.1, r6.2) (r9.1, r9.2)) fun r10 =>
   bnd (c_parquetref01_Num_Sign (r10.1, r10.2)) fun r11 =>
   bnd (c_parquetref01_Num_Sign (r0.1, r0.2)) fun r12 =>
   some (decide ((w64 (r11 * r12)) > 0))
theorem eq_parquetref09_farther (k : Nat) (c_parquetref01_Small : Int → Option (Bool × (List Int))) (c_parquetref01_Num_Times : (Bool × (List Int)) → (Bool × (List Int)) → Option (Bool × (List Int))) (c_parquetref01_Num_Plus : (Bool × (List Int)) → (Bool × (List Int)) → Option (Bool × (List Int))) (c_parquetref01_Num_Neg : (Bool × (List Int)) → Option (Bool × (List Int))) (c_parquetref01_Num_Sign : (Bool × (List Int)) → Option Int) (a0 : (Int × Int)) (a1 : (Int × Int)) (a2 : (Int × Int)) : textF [⟨102, [.d kI], [.pair .bool (.sl kI)], fun x => c_parquetref01_Small x, none⟩, ⟨103, [.d (.pair .bool (.sl kI)), .d (.pair .bool (.sl kI))], [.pair .bool (.sl kI)], fun x => c_parquetref01_Num_Times (x.1) (x.2), none⟩, ⟨64, [.d (.pair .bool (.sl kI)), .d (.pair .bool (.sl kI))], [.pair .bool (.sl kI)], fun x => c_parquetref01_Num_Plus (x.1) (x.2), none⟩, ⟨66, [.d (.pair .bool (.sl kI))], [.pair .bool (.sl kI)], fun x => c_parquetref01_Num_Neg x, none⟩, ⟨67, [.d (.pair .bool (.sl kI))], [kI], fun x => c_parquetref01_Num_Sign x, none⟩] tb k Tryz.f107 an_parquetref09_farther [.d (.pair kI kI), .d (.pair kI kI), .d (.pair kI kI)] [.bool] (a0, a1, a2) = b_parquetref09_farther k c_parquetref01_Small c_parquetref01_Num_Times c_parquetref01_Num_Plus c_parquetref01_Num_Neg c_parquetref01_Num_Sign a0 a1 a2 := by kernel_rfl
def g_parquetref09_farther (k : Nat) (a0 : (Int × Int)) (a1 : (Int × Int)) (a2 : (Int × Int)) : Option Bool := b_parquetref09_farther k (g_parquetref01_Small k) (g_parquetref01_Num_Times k) (g_parquetref01_Num_Plus k) (g_parquetref01_Num_Neg k) (g_parquetref01_Num_Sign k) a0 a1 a2
theorem tells_parquetref09_farther (k : Nat) : TellsF Tryz.prog 107 [.d (.pair kI kI), .d (.pair kI kI), .d (.pair kI kI)] [.bool] (fun x => g_parquetref09_farther k (x.1) (x.2.1) (x.2.2)) := fun x y h => fun_tells tb_ok mix (es := [⟨102, [.d kI], [.pair .bool (.sl kI)], fun x => g_parquetref01_Small k x, none⟩, ⟨103, [.d (.pair .bool (.sl kI)), .d (.pair .bool (.sl kI))], [.pair .bool (.sl kI)], fun x => g_parquetref01_Num_Times k (x.1) (x.2), none⟩, ⟨64, [.d (.pair .bool (.sl kI)), .d (.pair .bool (.sl kI))], [.pair .bool (.sl kI)], fun x => g_parquetref01_Num_Plus k (x.1) (x.2), none⟩, ⟨66, [.d (.pair .bool (.sl kI))], [.pair .bool (.sl kI)], fun x => g_parquetref01_Num_Neg k x, none⟩, ⟨67, [.d (.pair .bool (.sl kI))], [kI], fun x => g_parquetref01_Num_Sign k x, none⟩]) (EsOk.cons (EntryOk.of rfl (tells_parquetref01_Small k)) (EsOk.cons (EntryOk.of rfl (tells_parquetref01_Num_Times k)) (EsOk.cons (EntryOk.of rfl (tells_parquetref01_Num_Plus k)) (EsOk.cons (EntryOk.of rfl (tells_parquetref01_Num_Neg k)) (EsOk.cons (EntryOk.of rfl (tells_parquetref01_Num_Sign k)) (EsOk.nil _)))))) Tryz.func107 (N := k) (an := an_parquetref09_farther) (by kernel_rfl) x y ((eq_parquetref09_farther k (g_parquetref01_Small k) (g_parquetref01_Num_Times k) (g_parquetref01_Num_Plus k) (g_parquetref01_Num_Neg k) (g_parquetref01_Num_Sign k) (x.1) (x.2.1) (x.2.2)).trans h)

def an_parquetref09_Where : Ann := .node none none .leaf (.node none none .leaf (.node none none (.node none none .leaf (.node none none (.node none (some [(0, .d (.sl (.pair kI kI))), (1, .d (.sl (.pair kI kI))), (2, .d kI), (7, .box [.d (.pair kI kI)]), (9, .d kI), (10, .d kI)]) (.node none none .leaf (.node none none (.node none none (.node none none .leaf (.node none none .leaf (.node none none .leaf (.node none none (.node (some [(0, .d (.sl (.pair kI kI))), (1, .d (.sl (.pair kI kI))), (2, .d kI), (7, .box [.d (.pair kI kI)]), (9, .d kI), (10, .d kI), (59, .d .bool)]) none .leaf .leaf) (.node (some [(0, .d (.sl (.pair kI kI))), (1, .d (.sl (.pair kI kI))), (2, .d kI), (7, .box [.d (.pair kI kI)]), (9, .d kI), (10, .d kI)]) none .leaf .leaf))))) .leaf) .leaf)) .leaf) .leaf)) .leaf))
def b_parquetref09_Where (k : Nat) (c_parquetref09_times : (Int × Int) → Int → Option (Int × Int)) (c_parquetref04_On : (Int × Int) → (Int × Int) → (Int × Int) → Option Bool) (c_parquetref09_farther : (Int × Int) → (Int × Int) → (Int × Int) → Option Bool) (a0 : (List (Int × Int))) (a1 : (List (Int × Int))) (a2 : Int) (a3 : (Int × Int)) : Option Int :=
  loopN (α := ((List (Int × Int)) × ((List (Int × Int)) × (Int × ((Int × Int) × (Int × Int)))))) (fun (x1, x2, x3, x4, x5, x6) next0 =>
    bif decide (x6 < (x2.length : Int)) then
     gd (inb x6 x2.length) <|
     gd (inb (rdD (0, 0) x2 x6).1 x1.length) <|
     bnd (c_parquetref09_times ((rdD (0, 0) x1 (rdD (0, 0) x2 x6).1).1, (rdD (0, 0) x1 (rdD (0, 0) x2 x6).1).2) x3) fun r7 =>
     gd (inb x6 x2.length) <|
     gd (inb (rdD (0, 0) x2 x6).2 x1.length) <|
     bnd (c_parquetref09_times ((rdD (0, 0) x1 (rdD (0, 0) x2 x6).2).1, (rdD (0, 0) x1 (rdD (0, 0) x2 x6).2).2) x3) fun r8 =>
     bnd (c_parquetref04_On (r7.1, r7.2) (r8.1, r8.2) (x4.1, x4.2)) fun r9 =>
     bif r9 then
      some 0
     else
      meet (α := ((List (Int × Int)) × ((List (Int × Int)) × (Int × ((Int × Int) × (Int × (Int × Bool))))))) (fun (y10, y11, y12, y13, y14, y15, y16) =>
       meet (α := ((List (Int × Int)) × ((List (Int × Int)) × (Int × ((Int × Int) × (Int × Int)))))) (fun (y17, y18, y19, y20, y21, y22) =>
        next0 (y17, y18, y19, (y20.1, y20.2), y21, w64 (y22 + 1))) fun j23 =>
       bif y16 then
        j23 (y10, y11, y12, (y13.1, y13.2), w64 (y14 + 1), y15)
       else
        j23 (y10, y11, y12, (y13.1, y13.2), y14, y15)) fun j24 =>
      bif !((decide (r7.2 > x4.2)) == (decide (r8.2 > x4.2))) then
       bnd (c_parquetref09_farther (r7.1, r7.2) (r8.1, r8.2) (x4.1, x4.2)) fun r25 =>
       j24 (x1, x2, x3, (x4.1, x4.2), x5, x6, r25)
      else
       j24 (x1, x2, x3, (x4.1, x4.2), x5, x6, false)
    else
     bif decide ((x5.tmod 2) = 1) then
      some 1
     else
      some (-1)) k (a0, a1, a2, (a3.1, a3.2), 0, 0)
theorem eq_parquetref09_Where (k : Nat) (c_parquetref09_times : (Int × Int) → Int → Option (Int × Int)) (c_parquetref04_On : (Int × Int) → (Int × Int) → (Int × Int) → Option Bool) (c_parquetref09_farther : (Int × Int) → (Int × Int) → (Int × Int) → Option Bool) (a0 : (List (Int × Int))) (a1 : (List (Int × Int))) (a2 : Int) (a3 : (Int × Int)) : textF [⟨105, [.d (.pair kI kI), .d kI], [.pair kI kI], fun x => c_parquetref09_times (x.1) (x.2), none⟩, ⟨106, [.d (.pair kI kI), .d (.pair kI kI), .d (.pair kI kI)], [.bool], fun x => c_parquetref04_On (x.1) (x.2.1) (x.2.2), none⟩, ⟨107, [.d (.pair kI kI), .d (.pair kI kI), .d (.pair kI kI)], [.bool], fun x => c_parquetref09_farther (x.1) (x.2.1) (x.2.2), none⟩] tb k Tryz.f80 an_parquetref09_Where [.d (.sl (.pair kI kI)), .d (.sl (.pair kI kI)), .d kI, .d (.pair kI kI)] [kI] (a0, a1, a2, a3) = b_parquetref09_Where k c_parquetref09_times c_parquetref04_On c_parquetref09_farther a0 a1 a2 a3 := by kernel_rfl
def g_parquetref09_Where (k : Nat) (a0 : (List (Int × Int))) (a1 : (List (Int × Int))) (a2 : Int) (a3 : (Int × Int)) : Option Int := b_parquetref09_Where k (g_parquetref09_times k) (g_parquetref04_On k) (g_parquetref09_farther k) a0 a1 a2 a3
theorem tells_parquetref09_Where (k : Nat) : TellsF Tryz.prog 80 [.d (.sl (.pair kI kI)), .d (.sl (.pair kI kI)), .d kI, .d (.pair kI kI)] [kI] (fun x => g_parquetref09_Where k (x.1) (x.2.1) (x.2.2.1) (x.2.2.2)) := fun x y h => fun_tells tb_ok mix (es := [⟨105, [.d (.pair kI kI), .d kI], [.pair kI kI], fun x => g_parquetref09_times k (x.1) (x.2), none⟩, ⟨106, [.d (.pair kI kI), .d (.pair kI kI), .d (.pair kI kI)], [.bool], fun x => g_parquetref04_On k (x.1) (x.2.1) (x.2.2), none⟩, ⟨107, [.d (.pair kI kI), .d (.pair kI kI), .d (.pair kI kI)], [.bool], fun x => g_parquetref09_farther k (x.1) (x.2.1) (x.2.2), none⟩]) (EsOk.cons (EntryOk.of rfl (tells_parquetref09_times k)) (EsOk.cons (EntryOk.of rfl (tells_parquetref04_On k)) (EsOk.cons (EntryOk.of rfl (tells_parquetref09_farther k)) (EsOk.nil _)))) Tryz.func80 (N := k) (an := an_parquetref09_Where) (by kernel_rfl) x y ((eq_parquetref09_Where k (g_parquetref09_times k) (g_parquetref04_On k) (g_parquetref09_farther k) (x.1) (x.2.1) (x.2.2.1) (x.2.2.2)).trans h)

def an_parquetref09_Middle : Ann := .node none none .leaf (.node none none .leaf (.node none none (.node none none .leaf (.node none none (.node none (some [(0, .d (.sl (.pair kI kI))), (1, .d (.sl (.pair kI kI))), (2, .d (.sl kI)), (8, .box [.d (.pair kI kI)]), (9, .d kI)]) (.node none none .leaf (.node none none (.node none none (.node none none (.node none none (.node (some [(0, .d (.sl (.pair kI kI))), (1, .d (.sl (.pair kI kI))), (2, .d (.sl kI)), (8, .box [.d (.pair kI kI)]), (9, .d kI), (41, .d .bool)]) none .leaf .leaf) .leaf) .leaf) .leaf) .leaf)) .leaf) .leaf)) (.node none none (.node none none (.node (some [(0, .d (.sl (.pair kI kI))), (1, .d (.sl (.pair kI kI))), (2, .d (.sl kI)), (8, .box [.d (.pair kI kI)]), (76, .d .bool)]) none .leaf .leaf) .leaf) .leaf)))
def b_parquetref09_Middle (k : Nat) (c_parquetref03_Fits : (Int × Int) → Option Bool) (c_parquetref09_Check : (List (Int × Int)) → (List (Int × Int)) → Int → Option Bool) (c_parquetref09_Where : (List (Int × Int)) → (List (Int × Int)) → Int → (Int × Int) → Option Int) (a0 : (List (Int × Int))) (a1 : (List (Int × Int))) (a2 : (List Int)) : Option (Int × Int) :=
  loopN (α := ((List (Int × Int)) × ((List (Int × Int)) × ((List Int) × ((Int × Int) × Int))))) (fun (x1, x2, x3, x4, x5) next0 =>
    bif decide (x5 < (x3.length : Int)) then
     meet (α := ((List (Int × Int)) × ((List (Int × Int)) × ((List Int) × ((Int × Int) × (Int × Bool)))))) (fun (y6, y7, y8, y9, y10, y11) =>
      bif y11 then
       some (0, 2)
      else
       gd (inb y10 y8.length) <|
       gd (inb (rdD 0 y8 y10) y6.length) <|
       gd (inb y10 y8.length) <|
       gd (inb (rdD 0 y8 y10) y6.length) <|
       next0 (y6, y7, y8, (w64 (y9.1 + (rdD (0, 0) y6 (rdD 0 y8 y10)).1), w64 (y9.2 + (rdD (0, 0) y6 (rdD 0 y8 y10)).2)), w64 (y10 + 1))) fun j12 =>
     gd (inb x5 x3.length) <|
     bif decide ((rdD 0 x3 x5) < 0) then
      j12 (x1, x2, x3, (x4.1, x4.2), x5, true)
     else
      gd (inb x5 x3.length) <|
      bif decide ((rdD 0 x3 x5) ≥ (x1.length : Int)) then
       j12 (x1, x2, x3, (x4.1, x4.2), x5, true)
      else
       gd (inb x5 x3.length) <|
       gd (inb (rdD 0 x3 x5) x1.length) <|
       bnd (c_parquetref03_Fits ((rdD (0, 0) x1 (rdD 0 x3 x5)).1, (rdD (0, 0) x1 (rdD 0 x3 x5)).2)) fun r13 =>
       j12 (x1, x2, x3, (x4.1, x4.2), x5, !r13)
    else
     meet (α := ((List (Int × Int)) × ((List (Int × Int)) × ((List Int) × ((Int × Int) × Bool))))) (fun (y14, y15, y16, y17, y18) =>
      bif y18 then
       some (0, 2)
      else
       bnd (c_parquetref09_Where y14 y15 (y16.length : Int) (y17.1, y17.2)) fun r19 =>
       some (r19, 0)) fun j20 =>
     bnd (c_parquetref09_Check x1 x2 (x3.length : Int)) fun r21 =>
     bif !r21 then
      j20 (x1, x2, x3, (x4.1, x4.2), true)
     else
      bnd (c_parquetref03_Fits (x4.1, x4.2)) fun r22 =>
      j20 (x1, x2, x3, (x4.1, x4.2), !r22)) k (a0, a1, a2, (0, 0), 0)
theorem eq_parquetref09_Middle (k : Nat) (c_parquetref03_Fits : (Int × Int) → Option Bool) (c_parquetref09_Check : (List (Int × Int)) → (List (Int × Int)) → Int → Option Bool) (c_parquetref09_Where : (List (Int × Int)) → (List (Int × Int)) → Int → (Int × Int) → Option Int) (a0 : (List (Int × Int))) (a1 : (List (Int × Int))) (a2 : (List Int)) : textF [⟨72, [.d (.pair kI kI)], [.bool], fun x => c_parquetref03_Fits x, none⟩, ⟨79, [.d (.sl (.pair kI kI)), .d (.sl (.pair kI kI)), .d kI], [.bool], fun x => c_parquetref09_Check (x.1) (x.2.1) (x.2.2), none⟩, ⟨80, [.d (.sl (.pair kI kI)), .d (.sl (.pair kI kI)), .d kI, .d (.pair kI kI)], [kI], fun x => c_parquetref09_Where (x.1) (x.2.1) (x.2.2.1) (x.2.2.2), none⟩] tb k Tryz.f37 an_parquetref09_Middle [.d (.sl (.pair kI kI)), .d (.sl (.pair kI kI)), .d (.sl kI)] [kI, kI] (a0, a1, a2) = b_parquetref09_Middle k c_parquetref03_Fits c_parquetref09_Check c_parquetref09_Where a0 a1 a2 := by kernel_rfl
def g_parquetref09_Middle (k : Nat) (a0 : (List (Int × Int))) (a1 : (List (Int × Int))) (a2 : (List Int)) : Option (Int × Int) := b_parquetref09_Middle k (g_parquetref03_Fits k) (g_parquetref09_Check k) (g_parquetref09_Where k) a0 a1 a2
theorem tells_parquetref09_Middle (k : Nat) : TellsF Tryz.prog 37 [.d (.sl (.pair kI kI)), .d (.sl (.pair kI kI)), .d (.sl kI)] [kI, kI] (fun x => g_parquetref09_Middle k (x.1) (x.2.1) (x.2.2)) := fun x y h => fun_tells tb_ok mix (es := [⟨72, [.d (.pair kI kI)], [.bool], fun x => g_parquetref03_Fits k x, none⟩, ⟨79, [.d (.sl (.pair kI kI)), .d (.sl (.pair kI kI)), .d kI], [.bool], fun x => g_parquetref09_Check k (x.1) (x.2.1) (x.2.2), none⟩, ⟨80, [.d (.sl (.pair kI kI)), .d (.sl (.pair kI kI)), .d kI, .d (.pair kI kI)], [kI], fun x => g_parquetref09_Where k (x.1) (x.2.1) (x.2.2.1) (x.2.2.2), none⟩]) (EsOk.cons (EntryOk.of rfl (tells_parquetref03_Fits k)) (EsOk.cons (EntryOk.of rfl (tells_parquetref09_Check k)) (EsOk.cons (EntryOk.of rfl (tells_parquetref09_Where k)) (EsOk.nil _)))) Tryz.func37 (N := k) (an := an_parquetref09_Middle) (by kernel_rfl) x y ((eq_parquetref09_Middle k (g_parquetref03_Fits k) (g_parquetref09_Check k) (g_parquetref09_Where k) (x.1) (x.2.1) (x.2.2)).trans h)

def an_parquetref10_loops : Ann := .node none none .leaf (.node none none (.node none none .leaf (.node none none (.node none (some [(1, .box [.d (.pair (.sl (.pair kI kI)) (.pair (.sl (.pair kI kI)) (.sl (.pair kI kI))))]), (2, .box [.d (.pair kI (.pair kI kI))]), (3, .d kI)]) (.node none none .leaf (.node none none (.node none none (.node none none .leaf (.node none none (.node none none .leaf (.node none none (.node none (some [(1, .box [.d (.pair (.sl (.pair kI kI)) (.pair (.sl (.pair kI kI)) (.sl (.pair kI kI))))]), (2, .box [.d (.pair kI (.pair kI kI))]), (3, .d kI), (4, .d kI), (5, .d kI)]) (.node none none .leaf (.node none none (.node none none (.node none none (.node (some [(1, .box [.d (.pair (.sl (.pair kI kI)) (.pair (.sl (.pair kI kI)) (.sl (.pair kI kI))))]), (2, .box [.d (.pair kI (.pair kI kI))]), (3, .d kI), (4, .d kI), (5, .d kI), (44, .d .bool)]) none .leaf .leaf) (.node (some [(1, .box [.d (.pair (.sl (.pair kI kI)) (.pair (.sl (.pair kI kI)) (.sl (.pair kI kI))))]), (2, .box [.d (.pair kI (.pair kI kI))]), (3, .d kI), (4, .d kI), (5, .d kI)]) none .leaf .leaf)) .leaf) .leaf)) .leaf) .leaf)) (.node none none (.node (some [(1, .box [.d (.pair (.sl (.pair kI kI)) (.pair (.sl (.pair kI kI)) (.sl (.pair kI kI))))]), (2, .box [.d (.pair kI (.pair kI kI))]), (3, .d kI), (52, .d .bool)]) none .leaf .leaf) .leaf))) .leaf) .leaf)) .leaf) .leaf)) (.node none none .leaf (.node none none (.node none none .leaf (.node none none (.node none (some [(1, .box [.d (.pair (.sl (.pair kI kI)) (.pair (.sl (.pair kI kI)) (.sl (.pair kI kI))))]), (2, .box [.d (.pair kI (.pair kI kI))]), (6, .d kI)]) .leaf .leaf) .leaf)) (.node none none .leaf (.node none none (.node none none .leaf (.node none none (.node none (some [(1, .box [.d (.pair (.sl (.pair kI kI)) (.pair (.sl (.pair kI kI)) (.sl (.pair kI kI))))]), (2, .box [.d (.pair kI (.pair kI kI))]), (9, .d (.sl (.pair kI kI))), (10, .d kI)]) (.node none none .leaf (.node none none (.node none none (.node none none .leaf (.node none none (.node none none .leaf (.node none none (.node none (some [(1, .box [.d (.pair (.sl (.pair kI kI)) (.pair (.sl (.pair kI kI)) (.sl (.pair kI kI))))]), (2, .box [.d (.pair kI (.pair kI kI))]), (9, .d (.sl (.pair kI kI))), (10, .d kI), (11, .d .bool), (12, .d kI)]) (.node none none .leaf (.node none none (.node none none (.node (some [(1, .box [.d (.pair (.sl (.pair kI kI)) (.pair (.sl (.pair kI kI)) (.sl (.pair kI kI))))]), (2, .box [.d (.pair kI (.pair kI kI))]), (9, .d (.sl (.pair kI kI))), (10, .d kI), (11, .d .bool), (12, .d kI)]) none .leaf .leaf) .leaf) .leaf)) .leaf) .leaf)) (.node none none (.node (some [(1, .box [.d (.pair (.sl (.pair kI kI)) (.pair (.sl (.pair kI kI)) (.sl (.pair kI kI))))]), (2, .box [.d (.pair kI (.pair kI kI))]), (9, .d (.sl (.pair kI kI))), (10, .d kI), (140, .d .bool)]) none .leaf .leaf) .leaf))) .leaf) .leaf)) .leaf) .leaf)) .leaf)))))
def b_parquetref10_loops (k : Nat) (c_parquetref09_Middle : (List (Int × Int)) → (List (Int × Int)) → (List Int) → Option (Int × Int)) (c_parquetref10_All : ((List (Int × Int)) × ((List (Int × Int)) × (List (Int × Int)))) → Option (List (Int × Int))) (c_parquetref09_Where : (List (Int × Int)) → (List (Int × Int)) → Int → (Int × Int) → Option Int) (a0 : ((List (Int × Int)) × ((List (Int × Int)) × (List (Int × Int))))) : Option (Int × (Int × Int)) :=
  loopN (α := (((List (Int × Int)) × ((List (Int × Int)) × (List (Int × Int)))) × ((Int × (Int × Int)) × Int))) (fun (x1, x2, x3) next0 =>
    bif decide (x3 < (x1.1.length : Int)) then
     loopN (α := (((List (Int × Int)) × ((List (Int × Int)) × (List (Int × Int)))) × ((Int × (Int × Int)) × (Int × (Int × Int))))) (fun (x5, x6, x7, x8, x9) next4 =>
      bif decide (x9 < (x5.2.1.length : Int)) then
       meet (α := (((List (Int × Int)) × ((List (Int × Int)) × (List (Int × Int)))) × ((Int × (Int × Int)) × (Int × (Int × (Int × Bool)))))) (fun (y10, y11, y12, y13, y14, y15) =>
        meet (α := (((List (Int × Int)) × ((List (Int × Int)) × (List (Int × Int)))) × ((Int × (Int × Int)) × (Int × (Int × Int))))) (fun (y16, y17, y18, y19, y20) =>
         next4 ((y16.1, y16.2.1, y16.2.2), (y17.1, y17.2.1, y17.2.2), y18, y19, w64 (y20 + 1))) fun j21 =>
        bif y15 then
         j21 ((y10.1, y10.2.1, y10.2.2), (y11.1, y11.2.1, y11.2.2), y12, w64 (y13 + 1), y14)
        else
         j21 ((y10.1, y10.2.1, y10.2.2), (y11.1, y11.2.1, y11.2.2), y12, y13, y14)) fun j22 =>
       gd (inb x9 x5.2.1.length) <|
       bif decide ((rdD (0, 0) x5.2.1 x9).1 = x7) then
        j22 ((x5.1, x5.2.1, x5.2.2), (x6.1, x6.2.1, x6.2.2), x7, x8, x9, true)
       else
        gd (inb x9 x5.2.1.length) <|
        j22 ((x5.1, x5.2.1, x5.2.2), (x6.1, x6.2.1, x6.2.2), x7, x8, x9, decide ((rdD (0, 0) x5.2.1 x9).2 = x7))
      else
       meet (α := (((List (Int × Int)) × ((List (Int × Int)) × (List (Int × Int)))) × ((Int × (Int × Int)) × (Int × Bool)))) (fun (y23, y24, y25, y26) =>
        bif y26 then
         some (5, y25, 0)
        else
         next0 ((y23.1, y23.2.1, y23.2.2), (y24.1, y24.2.1, y24.2.2), w64 (y25 + 1))) fun j27 =>
       bif !(decide (x8 = 0)) then
        j27 ((x5.1, x5.2.1, x5.2.2), (x6.1, x6.2.1, x6.2.2), x7, !(decide (x8 = 2)))
       else
        j27 ((x5.1, x5.2.1, x5.2.2), (x6.1, x6.2.1, x6.2.2), x7, false)) k ((x1.1, x1.2.1, x1.2.2), (x2.1, x2.2.1, x2.2.2), x3, 0, 0)
    else
     bif decide ((x1.2.1.length : Int) = 0) then
      some (6, 0, 0)
     else
      loopN (α := (((List (Int × Int)) × ((List (Int × Int)) × (List (Int × Int)))) × ((Int × (Int × Int)) × Int))) (fun (x29, x30, x31) next28 =>
       bif decide (x31 < (x29.2.2.length : Int)) then
        gd (inb x31 x29.2.2.length) <|
        gd (inb x31 x29.2.2.length) <|
        bnd (c_parquetref09_Middle x29.1 x29.2.1 [(rdD (0, 0) x29.2.2 x31).1, (rdD (0, 0) x29.2.2 x31).2]) fun r32 =>
        bif !(decide (r32.1 = 1)) then
         some (7, x31, 0)
        else
         next28 ((x29.1, x29.2.1, x29.2.2), (x30.1, x30.2.1, x30.2.2), w64 (x31 + 1))
       else
        bnd (c_parquetref10_All (x29.1, x29.2.1, x29.2.2)) fun r33 =>
        loopN (α := (((List (Int × Int)) × ((List (Int × Int)) × (List (Int × Int)))) × ((Int × (Int × Int)) × ((List (Int × Int)) × Int)))) (fun (x35, x36, x37, x38) next34 =>
         bif decide (x38 < (x35.1.length : Int)) then
          loopN (α := (((List (Int × Int)) × ((List (Int × Int)) × (List (Int × Int)))) × ((Int × (Int × Int)) × ((List (Int × Int)) × (Int × (Bool × Int)))))) (fun (x40, x41, x42, x43, x44, x45) next39 =>
           bif decide (x45 < (x42.length : Int)) then
            meet (α := (((List (Int × Int)) × ((List (Int × Int)) × (List (Int × Int)))) × ((Int × (Int × Int)) × ((List (Int × Int)) × (Int × (Bool × Int)))))) (fun (y46, y47, y48, y49, y50, y51) =>
             next39 ((y46.1, y46.2.1, y46.2.2), (y47.1, y47.2.1, y47.2.2), y48, y49, y50, w64 (y51 + 1))) fun j52 =>
            bif x44 then
             j52 ((x40.1, x40.2.1, x40.2.2), (x41.1, x41.2.1, x41.2.2), x42, x43, true, x45)
            else
             gd (inb x45 x42.length) <|
             bif decide ((rdD (0, 0) x42 x45).1 = x43) then
              j52 ((x40.1, x40.2.1, x40.2.2), (x41.1, x41.2.1, x41.2.2), x42, x43, true, x45)
             else
              gd (inb x45 x42.length) <|
              j52 ((x40.1, x40.2.1, x40.2.2), (x41.1, x41.2.1, x41.2.2), x42, x43, decide ((rdD (0, 0) x42 x45).2 = x43), x45)
           else
            meet (α := (((List (Int × Int)) × ((List (Int × Int)) × (List (Int × Int)))) × ((Int × (Int × Int)) × ((List (Int × Int)) × (Int × Bool))))) (fun (y53, y54, y55, y56, y57) =>
             bif y57 then
              some (8, y56, 0)
             else
              next34 ((y53.1, y53.2.1, y53.2.2), (y54.1, y54.2.1, y54.2.2), y55, w64 (y56 + 1))) fun j58 =>
            bif !x44 then
             gd (inb x43 x40.1.length) <|
             bnd (c_parquetref09_Where x40.1 x40.2.1 1 ((rdD (0, 0) x40.1 x43).1, (rdD (0, 0) x40.1 x43).2)) fun r59 =>
             j58 ((x40.1, x40.2.1, x40.2.2), (x41.1, x41.2.1, x41.2.2), x42, x43, !(decide (r59 = 1)))
            else
             j58 ((x40.1, x40.2.1, x40.2.2), (x41.1, x41.2.1, x41.2.2), x42, x43, false)) k ((x35.1, x35.2.1, x35.2.2), (x36.1, x36.2.1, x36.2.2), x37, x38, false, 0)
         else
          some (0, 0, 0)) k ((x29.1, x29.2.1, x29.2.2), (x30.1, x30.2.1, x30.2.2), r33, 0)) k ((x1.1, x1.2.1, x1.2.2), (x2.1, x2.2.1, x2.2.2), 0)) k ((a0.1, a0.2.1, a0.2.2), (0, 0, 0), 0)
theorem eq_parquetref10_loops (k : Nat) (c_parquetref09_Middle : (List (Int × Int)) → (List (Int × Int)) → (List Int) → Option (Int × Int)) (c_parquetref10_All : ((List (Int × Int)) × ((List (Int × Int)) × (List (Int × Int)))) → Option (List (Int × Int))) (c_parquetref09_Where : (List (Int × Int)) → (List (Int × Int)) → Int → (Int × Int) → Option Int) (a0 : ((List (Int × Int)) × ((List (Int × Int)) × (List (Int × Int))))) : textF [⟨37, [.d (.sl (.pair kI kI)), .d (.sl (.pair kI kI)), .d (.sl kI)], [kI, kI], fun x => c_parquetref09_Middle (x.1) (x.2.1) (x.2.2), none⟩, ⟨27, [.d (.pair (.sl (.pair kI kI)) (.pair (.sl (.pair kI kI)) (.sl (.pair kI kI))))], [.sl (.pair kI kI)], fun x => c_parquetref10_All x, none⟩, ⟨80, [.d (.sl (.pair kI kI)), .d (.sl (.pair kI kI)), .d kI, .d (.pair kI kI)], [kI], fun x => c_parquetref09_Where (x.1) (x.2.1) (x.2.2.1) (x.2.2.2), none⟩] tb k Tryz.f96 an_parquetref10_loops [.d (.pair (.sl (.pair kI kI)) (.pair (.sl (.pair kI kI)) (.sl (.pair kI kI))))] [.pair kI (.pair kI kI)] a0 = b_parquetref10_loops k c_parquetref09_Middle c_parquetref10_All c_parquetref09_Where a0 := by kernel_rfl
def g_parquetref10_loops (k : Nat) (a0 : ((List (Int × Int)) × ((List (Int × Int)) × (List (Int × Int))))) : Option (Int × (Int × Int)) := b_parquetref10_loops k (g_parquetref09_Middle k) (g_parquetref10_All k) (g_parquetref09_Where k) a0
theorem tells_parquetref10_loops (k : Nat) : TellsF Tryz.prog 96 [.d (.pair (.sl (.pair kI kI)) (.pair (.sl (.pair kI kI)) (.sl (.pair kI kI))))] [.pair kI (.pair kI kI)] (fun x => g_parquetref10_loops k x) := fun x y h => fun_tells tb_ok mix (es := [⟨37, [.d (.sl (.pair kI kI)), .d (.sl (.pair kI kI)), .d (.sl kI)], [kI, kI], fun x => g_parquetref09_Middle k (x.1) (x.2.1) (x.2.2), none⟩, ⟨27, [.d (.pair (.sl (.pair kI kI)) (.pair (.sl (.pair kI kI)) (.sl (.pair kI kI))))], [.sl (.pair kI kI)], fun x => g_parquetref10_All k x, none⟩, ⟨80, [.d (.sl (.pair kI kI)), .d (.sl (.pair kI kI)), .d kI, .d (.pair kI kI)], [kI], fun x => g_parquetref09_Where k (x.1) (x.2.1) (x.2.2.1) (x.2.2.2), none⟩]) (EsOk.cons (EntryOk.of rfl (tells_parquetref09_Middle k)) (EsOk.cons (EntryOk.of rfl (tells_parquetref10_All k)) (EsOk.cons (EntryOk.of rfl (tells_parquetref09_Where k)) (EsOk.nil _)))) Tryz.func96 (N := k) (an := an_parquetref10_loops) (by kernel_rfl) x y ((eq_parquetref10_loops k (g_parquetref09_Middle k) (g_parquetref10_All k) (g_parquetref09_Where k) x).trans h)

end
end Go.Proofs.YtpkkcjmblocjdaaGreat.AM
