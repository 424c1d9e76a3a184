/- The functions, by their texts: written by a program. -/
import Derived.Test.YtiejhpighhjgiaaGa3
import Derived.Test.YtiejhpighhjgiaaSrt
set_option linter.unusedVariables false
set_option maxRecDepth 100000
namespace Go.Proofs.Ytiejhpighhjgiaa.AM
open Go.RowKit Go.Proofs
noncomputable section
def an_parquetlaw20_HalveBox : Ann := .node none none .leaf (.node none none (.node none none (.node (some [(1, .d (.int .u16)), (2, .d (.int .u16)), (3, .box [.d (.pair kI kI)]), (38, .d .bool)]) none .leaf .leaf) .leaf) (.node none none .leaf (.node none none .leaf (.node none none .leaf (.node none none .leaf (.node none none (.node none none (.node (some [(3, .box [.d (.pair kI kI)]), (7, .d kI), (8, .d kI), (10, .d (.sl (.pair kI kI))), (11, .d (.sl (.sl kI))), (98, .d .bool)]) none .leaf .leaf) .leaf) (.node none none .leaf (.node none none .leaf (.node none none (.node none none .leaf (.node none none (.node none (some [(10, .d (.sl (.pair kI kI))), (11, .d (.sl (.sl kI))), (14, .d kI)]) (.node none none .leaf (.node none none (.node none none (.node none none (.node (some [(10, .d (.sl (.pair kI kI))), (11, .d (.sl (.sl kI))), (14, .d kI), (145, .d .bool)]) none .leaf .leaf) .leaf) .leaf) .leaf)) .leaf) .leaf)) (.node none none .leaf (.node none none .leaf (.node none none (.node (some [(6, .d .bool)]) none .leaf .leaf) .leaf))))))))))))
def b_parquetlaw20_HalveBox (k : Nat) (c_parquetlaw20_known : Option Bool) (c_halve_Run : (List (Int × Int)) → (List (List Int)) → Option ((List (Int × Int)) × (List (List Int)) × Int)) (c_parquetref11_Count : (List (List Int)) → Option (Int × Int × Int)) (a0 : (Int × Int)) (a1 : Int) (a2 : Int) : Option Bool :=
  meet (α := (Int × (Int × ((Int × Int) × Bool)))) (fun (y0, y1, y2, y3) =>
    bif y3 then
     bnd (c_parquetlaw20_known) fun r4 =>
     some r4
    else
     bnd (c_halve_Run [(y2.1, y2.2), (w64 (y2.1 + (w64 (1 + (w64 y0)))), y2.2), (w64 (y2.1 + (w64 (1 + (w64 y0)))), w64 (y2.2 + (w64 (1 + (w64 y1))))), (y2.1, w64 (y2.2 + (w64 (1 + (w64 y1))))), (7, 7)] [[0, 1, 2, 3]]) fun r5 =>
     meet (α := ((Int × Int) × (Int × (Int × ((List (Int × Int)) × ((List (List Int)) × Bool)))))) (fun (y6, y7, y8, y9, y10, y11) =>
      bif y11 then
       some false
      else
       gd (inb 9 y9.length) <|
       bif !((decide ((rdD (0, 0) y9 9).1 = (w64 ((w64 (12 * y6.1)) + (w64 (6 * y7)))))) && (decide ((rdD (0, 0) y9 9).2 = (w64 ((w64 (12 * y6.2)) + (w64 (6 * y8))))))) then
        some false
       else
        loopN (α := ((List (Int × Int)) × ((List (List Int)) × Int))) (fun (x13, x14, x15) next12 =>
         bif decide (x15 < 4) then
          meet (α := ((List (Int × Int)) × ((List (List Int)) × (Int × Bool)))) (fun (y16, y17, y18, y19) =>
           bif y19 then
            some false
           else
            next12 (y16, y17, w64 (y18 + 1))) fun j20 =>
          gd (inb x15 x14.length) <|
          bif !(decide (((rdD [] x14 x15).length : Int) = 4)) then
           j20 (x13, x14, x15, true)
          else
           gd (inb x15 x14.length) <|
           gd (inb 0 (rdD [] x14 x15).length) <|
           bif !(decide ((rdD 0 (rdD [] x14 x15) 0) = x15)) then
            j20 (x13, x14, x15, true)
           else
            gd (inb x15 x14.length) <|
            gd (inb 2 (rdD [] x14 x15).length) <|
            j20 (x13, x14, x15, !(decide ((rdD 0 (rdD [] x14 x15) 2) = 9)))
         else
          bnd (c_halve_Run x13 x14) fun r21 =>
          bnd (c_parquetref11_Count r21.2.1) fun r22 =>
          meet (α := Bool) (fun y23 =>
           some y23) fun j24 =>
          bif decide (r21.2.2 = 0) then
           bif decide ((r21.2.1.length : Int) = 16) then
            bif decide (r22.1 = 25) then
             bif decide (r22.2.1 = 40) then
              bif decide (r22.2.2 = 16) then
               bif decide ((r21.1.length : Int) = (w64 ((w64 ((x13.length : Int) + 12)) + 4))) then
                bnd (c_parquetlaw20_known) fun r25 =>
                j24 r25
               else
                j24 false
              else
               j24 false
             else
              j24 false
            else
             j24 false
           else
            j24 false
          else
           j24 false) k (y9, y10, 0)) fun j26 =>
     bif !(decide (r5.2.2 = 0)) then
      j26 ((y2.1, y2.2), w64 (1 + (w64 y0)), w64 (1 + (w64 y1)), r5.1, r5.2.1, true)
     else
      bif !(decide ((r5.1.length : Int) = 10)) then
       j26 ((y2.1, y2.2), w64 (1 + (w64 y0)), w64 (1 + (w64 y1)), r5.1, r5.2.1, true)
      else
       bif !(decide ((r5.2.1.length : Int) = 4)) then
        j26 ((y2.1, y2.2), w64 (1 + (w64 y0)), w64 (1 + (w64 y1)), r5.1, r5.2.1, true)
       else
        gd (inb 4 r5.1.length) <|
        j26 ((y2.1, y2.2), w64 (1 + (w64 y0)), w64 (1 + (w64 y1)), r5.1, r5.2.1, !((decide ((rdD (0, 0) r5.1 4).1 = 84)) && (decide ((rdD (0, 0) r5.1 4).2 = 84))))) fun j27 =>
   bif decide (a0.1 > 1048576) then
    j27 (a1, a2, (a0.1, a0.2), true)
   else
    bif decide (a0.1 < (-1048576)) then
     j27 (a1, a2, (a0.1, a0.2), true)
    else
     bif decide (a0.2 > 1048576) then
      j27 (a1, a2, (a0.1, a0.2), true)
     else
      j27 (a1, a2, (a0.1, a0.2), decide (a0.2 < (-1048576)))
theorem eq_parquetlaw20_HalveBox (k : Nat) (c_parquetlaw20_known : Option Bool) (c_halve_Run : (List (Int × Int)) → (List (List Int)) → Option ((List (Int × Int)) × (List (List Int)) × Int)) (c_parquetref11_Count : (List (List Int)) → Option (Int × Int × Int)) (a0 : (Int × Int)) (a1 : Int) (a2 : Int) : textF [⟨10, [], [.bool], fun x => c_parquetlaw20_known, none⟩, ⟨11, [.d (.sl (.pair kI kI)), .d (.sl (.sl kI))], [.sl (.pair kI kI), .sl (.sl kI), kI], fun x => c_halve_Run (x.1) (x.2), none⟩, ⟨23, [.d (.sl (.sl kI))], [kI, kI, kI], fun x => c_parquetref11_Count x, none⟩] tb k Try.f7 an_parquetlaw20_HalveBox [.d (.pair kI kI), .d (.int .u16), .d (.int .u16)] [.bool] (a0, a1, a2) = b_parquetlaw20_HalveBox k c_parquetlaw20_known c_halve_Run c_parquetref11_Count a0 a1 a2 := by kernel_rfl
def g_parquetlaw20_HalveBox (k : Nat) (a0 : (Int × Int)) (a1 : Int) (a2 : Int) : Option Bool := b_parquetlaw20_HalveBox k (g_parquetlaw20_known k) (g_halve_Run k) (g_parquetref11_Count k) a0 a1 a2
theorem tells_parquetlaw20_HalveBox (k : Nat) : TellsF Try.prog 7 [.d (.pair kI kI), .d (.int .u16), .d (.int .u16)] [.bool] (fun x => g_parquetlaw20_HalveBox k (x.1) (x.2.1) (x.2.2)) := fun x y h => fun_tells tb_ok mix (es := [⟨10, [], [.bool], fun x => g_parquetlaw20_known k, none⟩, ⟨11, [.d (.sl (.pair kI kI)), .d (.sl (.sl kI))], [.sl (.pair kI kI), .sl (.sl kI), kI], fun x => g_halve_Run k (x.1) (x.2), none⟩, ⟨23, [.d (.sl (.sl kI))], [kI, kI, kI], fun x => g_parquetref11_Count k x, none⟩]) (EsOk.cons (EntryOk.of rfl (tells_parquetlaw20_known k)) (EsOk.cons (EntryOk.of rfl (tells_halve_Run k)) (EsOk.cons (EntryOk.of rfl (tells_parquetref11_Count k)) (EsOk.nil _)))) Try.func7 (N := k) (an := an_parquetlaw20_HalveBox) (by kernel_rfl) x y ((eq_parquetlaw20_HalveBox k (g_parquetlaw20_known k) (g_halve_Run k) (g_parquetref11_Count k) (x.1) (x.2.1) (x.2.2)).trans h)

def an_parquetlaw20_HalveMoved : Ann := .node none none .leaf (.node none none (.node none none (.node (some [(0, .d (.sl (.pair kI kI))), (1, .d (.sl (.sl kI))), (5, .box [.d (.pair kI kI)]), (45, .d .bool)]) none .leaf .leaf) .leaf) (.node none none .leaf (.node none none .leaf (.node none none .leaf (.node none none .leaf (.node none none (.node none none .leaf (.node none none (.node none (some [(0, .d (.sl (.pair kI kI))), (1, .d (.sl (.sl kI))), (5, .box [.d (.pair kI kI)]), (7, .d (.sl (.pair kI kI))), (8, .d (.sl (.sl kI))), (10, .row (.pair kI kI) 33), (11, .row (.pair kI kI) 33), (12, .d kI)]) .leaf .leaf) .leaf)) (.node none none (.node none none .leaf (.node none none (.node none (some [(0, .d (.sl (.pair kI kI))), (1, .d (.sl (.sl kI))), (5, .box [.d (.pair kI kI)]), (7, .d (.sl (.pair kI kI))), (8, .d (.sl (.sl kI))), (10, .row (.pair kI kI) 33), (11, .row (.pair kI kI) 33), (13, .d kI)]) .leaf .leaf) .leaf)) (.node none none .leaf (.node none none (.node none none (.node (some [(0, .d (.sl (.pair kI kI))), (1, .d (.sl (.sl kI))), (131, .d .bool)]) none .leaf .leaf) .leaf) (.node none none (.node none none .leaf (.node none none (.node none (some [(0, .d (.sl (.pair kI kI))), (1, .d (.sl (.sl kI))), (17, .d kI)]) (.node none none .leaf (.node none none (.node none none (.node none none .leaf (.node none none .leaf (.node none none .leaf (.node none none .leaf (.node none none .leaf (.node none none (.node (some [(0, .d (.sl (.pair kI kI))), (1, .d (.sl (.sl kI))), (17, .d kI), (176, .d .bool)]) none .leaf .leaf) .leaf)))))) .leaf) .leaf)) .leaf) .leaf)) .leaf))))))))))
def b_parquetlaw20_HalveMoved (k : Nat) (c_parquetlaw20_many : (List (Int × Int)) → (List (List Int)) → Option Bool) (c_parquetlaw20_known : Option Bool) (c_halve_Run : (List (Int × Int)) → (List (List Int)) → Option ((List (Int × Int)) × (List (List Int)) × Int)) (c_parquetref05_SamePoints : (List (Int × Int)) → (List (Int × Int)) → Option Bool) (c_parquetlaw20_same : (List (List Int)) → (List (List Int)) → Option Bool) (c_halve_Middle : (List (Int × Int)) → (List Int) → Option ((Int × Int) × Int)) (a0 : (List (Int × Int))) (a1 : (List (List Int))) (a2 : (Int × Int)) : Option Bool :=
  meet (α := ((List (Int × Int)) × ((List (List Int)) × ((Int × Int) × Bool)))) (fun (y0, y1, y2, y3) =>
    bif y3 then
     bnd (c_parquetlaw20_known) fun r4 =>
     some r4
    else
     bnd (c_halve_Run y0 y1) fun r5 =>
     bif !(decide (r5.2.2 = 0)) then
      bnd (c_parquetlaw20_known) fun r6 =>
      some r6
     else
      loopN (α := ((List (Int × Int)) × ((List (List Int)) × ((Int × Int) × ((List (Int × Int)) × ((List (List Int)) × ((List (Int × Int)) × ((List (Int × Int)) × Int)))))))) (fun (x8, x9, x10, x11, x12, x13, x14, x15) next7 =>
       bif decide (x15 < (x8.length : Int)) then
        gd (inb x15 x8.length) <|
        gd (inb x15 x8.length) <|
        gd (few (x13.length + 1)) <|
        next7 (x8, x9, (x10.1, x10.2), x11, x12, x13 ++ [(w64 ((rdD (0, 0) x8 x15).1 + x10.1), w64 ((rdD (0, 0) x8 x15).2 + x10.2))], x14, w64 (x15 + 1))
       else
        loopN (α := ((List (Int × Int)) × ((List (List Int)) × ((Int × Int) × ((List (Int × Int)) × ((List (List Int)) × ((List (Int × Int)) × ((List (Int × Int)) × Int)))))))) (fun (x17, x18, x19, x20, x21, x22, x23, x24) next16 =>
         bif decide (x24 < (x20.length : Int)) then
          gd (inb x24 x20.length) <|
          gd (inb x24 x20.length) <|
          gd (few (x23.length + 1)) <|
          next16 (x17, x18, (x19.1, x19.2), x20, x21, x22, x23 ++ [(w64 ((rdD (0, 0) x20 x24).1 + (w64 (12 * x19.1))), w64 ((rdD (0, 0) x20 x24).2 + (w64 (12 * x19.2))))], w64 (x24 + 1))
         else
          bnd (c_halve_Run x22 x18) fun r25 =>
          meet (α := ((List (Int × Int)) × ((List (List Int)) × Bool))) (fun (y26, y27, y28) =>
           bif y28 then
            some false
           else
            loopN (α := ((List (Int × Int)) × ((List (List Int)) × Int))) (fun (x30, x31, x32) next29 =>
             bif decide (x32 < (x31.length : Int)) then
              gd (inb x32 x31.length) <|
              gd (decide (1 ≤ ((rdD [] x31 x32).length : Int))) <|
              gd (few (dpL (rdD [] x31 x32) 1).length) <|
              gd (inb x32 x31.length) <|
              gd (inb 0 (rdD [] x31 x32).length) <|
              gd (few ((dpL (rdD [] x31 x32) 1).length + 1)) <|
              gd (inb x32 x31.length) <|
              bnd (c_halve_Middle x30 (rdD [] x31 x32)) fun r33 =>
              bnd (c_halve_Middle x30 ((dpL (rdD [] x31 x32) 1) ++ [rdD 0 (rdD [] x31 x32) 0])) fun r34 =>
              meet (α := ((List (Int × Int)) × ((List (List Int)) × (Int × Bool)))) (fun (y35, y36, y37, y38) =>
               bif y38 then
                some false
               else
                next29 (y35, y36, w64 (y37 + 1))) fun j39 =>
              bif !((decide (r33.1.1 = r34.1.1)) && (decide (r33.1.2 = r34.1.2))) then
               j39 (x30, x31, x32, true)
              else
               j39 (x30, x31, x32, !(decide (r33.2 = r34.2)))
             else
              bnd (c_parquetlaw20_known) fun r40 =>
              some r40) k (y26, y27, 0)) fun j41 =>
          bif decide (r25.2.2 = 0) then
           bnd (c_parquetref05_SamePoints r25.1 x23) fun r42 =>
           bif !r42 then
            j41 (x17, x18, true)
           else
            bnd (c_parquetlaw20_same x21 r25.2.1) fun r43 =>
            j41 (x17, x18, !r43)
          else
           j41 (x17, x18, false)) k (x8, x9, (x10.1, x10.2), x11, x12, x13, x14, 0)) k (y0, y1, (y2.1, y2.2), r5.1, r5.2.1, [], [], 0)) fun j44 =>
   bnd (c_parquetlaw20_many a0 a1) fun r45 =>
   bif r45 then
    j44 (a0, a1, (a2.1, a2.2), true)
   else
    bif decide (a2.1 > 1048576) then
     j44 (a0, a1, (a2.1, a2.2), true)
    else
     bif decide (a2.1 < (-1048576)) then
      j44 (a0, a1, (a2.1, a2.2), true)
     else
      bif decide (a2.2 > 1048576) then
       j44 (a0, a1, (a2.1, a2.2), true)
      else
       j44 (a0, a1, (a2.1, a2.2), decide (a2.2 < (-1048576)))
theorem eq_parquetlaw20_HalveMoved (k : Nat) (c_parquetlaw20_many : (List (Int × Int)) → (List (List Int)) → Option Bool) (c_parquetlaw20_known : Option Bool) (c_halve_Run : (List (Int × Int)) → (List (List Int)) → Option ((List (Int × Int)) × (List (List Int)) × Int)) (c_parquetref05_SamePoints : (List (Int × Int)) → (List (Int × Int)) → Option Bool) (c_parquetlaw20_same : (List (List Int)) → (List (List Int)) → Option Bool) (c_halve_Middle : (List (Int × Int)) → (List Int) → Option ((Int × Int) × Int)) (a0 : (List (Int × Int))) (a1 : (List (List Int))) (a2 : (Int × Int)) : textF [⟨9, [.d (.sl (.pair kI kI)), .d (.sl (.sl kI))], [.bool], fun x => c_parquetlaw20_many (x.1) (x.2), none⟩, ⟨10, [], [.bool], fun x => c_parquetlaw20_known, none⟩, ⟨11, [.d (.sl (.pair kI kI)), .d (.sl (.sl kI))], [.sl (.pair kI kI), .sl (.sl kI), kI], fun x => c_halve_Run (x.1) (x.2), none⟩, ⟨15, [.d (.sl (.pair kI kI)), .d (.sl (.pair kI kI))], [.bool], fun x => c_parquetref05_SamePoints (x.1) (x.2), none⟩, ⟨16, [.d (.sl (.sl kI)), .d (.sl (.sl kI))], [.bool], fun x => c_parquetlaw20_same (x.1) (x.2), none⟩, ⟨13, [.d (.sl (.pair kI kI)), .d (.sl kI)], [.pair kI kI, kI], fun x => c_halve_Middle (x.1) (x.2), none⟩] tb k Try.f8 an_parquetlaw20_HalveMoved [.d (.sl (.pair kI kI)), .d (.sl (.sl kI)), .d (.pair kI kI)] [.bool] (a0, a1, a2) = b_parquetlaw20_HalveMoved k c_parquetlaw20_many c_parquetlaw20_known c_halve_Run c_parquetref05_SamePoints c_parquetlaw20_same c_halve_Middle a0 a1 a2 := by kernel_rfl
def g_parquetlaw20_HalveMoved (k : Nat) (a0 : (List (Int × Int))) (a1 : (List (List Int))) (a2 : (Int × Int)) : Option Bool := b_parquetlaw20_HalveMoved k (g_parquetlaw20_many k) (g_parquetlaw20_known k) (g_halve_Run k) (g_parquetref05_SamePoints k) (g_parquetlaw20_same k) (g_halve_Middle k) a0 a1 a2
theorem tells_parquetlaw20_HalveMoved (k : Nat) : TellsF Try.prog 8 [.d (.sl (.pair kI kI)), .d (.sl (.sl kI)), .d (.pair kI kI)] [.bool] (fun x => g_parquetlaw20_HalveMoved k (x.1) (x.2.1) (x.2.2)) := fun x y h => fun_tells tb_ok mix (es := [⟨9, [.d (.sl (.pair kI kI)), .d (.sl (.sl kI))], [.bool], fun x => g_parquetlaw20_many k (x.1) (x.2), none⟩, ⟨10, [], [.bool], fun x => g_parquetlaw20_known k, none⟩, ⟨11, [.d (.sl (.pair kI kI)), .d (.sl (.sl kI))], [.sl (.pair kI kI), .sl (.sl kI), kI], fun x => g_halve_Run k (x.1) (x.2), none⟩, ⟨15, [.d (.sl (.pair kI kI)), .d (.sl (.pair kI kI))], [.bool], fun x => g_parquetref05_SamePoints k (x.1) (x.2), none⟩, ⟨16, [.d (.sl (.sl kI)), .d (.sl (.sl kI))], [.bool], fun x => g_parquetlaw20_same k (x.1) (x.2), none⟩, ⟨13, [.d (.sl (.pair kI kI)), .d (.sl kI)], [.pair kI kI, kI], fun x => g_halve_Middle k (x.1) (x.2), none⟩]) (EsOk.cons (EntryOk.of rfl (tells_parquetlaw20_many k)) (EsOk.cons (EntryOk.of rfl (tells_parquetlaw20_known k)) (EsOk.cons (EntryOk.of rfl (tells_halve_Run k)) (EsOk.cons (EntryOk.of rfl (tells_parquetref05_SamePoints k)) (EsOk.cons (EntryOk.of rfl (tells_parquetlaw20_same k)) (EsOk.cons (EntryOk.of rfl (tells_halve_Middle k)) (EsOk.nil _))))))) Try.func8 (N := k) (an := an_parquetlaw20_HalveMoved) (by kernel_rfl) x y ((eq_parquetlaw20_HalveMoved k (g_parquetlaw20_many k) (g_parquetlaw20_known k) (g_halve_Run k) (g_parquetref05_SamePoints k) (g_parquetlaw20_same k) (g_halve_Middle k) (x.1) (x.2.1) (x.2.2)).trans h)

end
end Go.Proofs.Ytiejhpighhjgiaa.AM
