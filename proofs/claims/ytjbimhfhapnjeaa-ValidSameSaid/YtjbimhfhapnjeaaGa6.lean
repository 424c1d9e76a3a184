/- The functions, by their texts: written by a program. -/
import Derived.Test.YtjbimhfhapnjeaaGa5
set_option linter.unusedVariables false
set_option maxRecDepth 100000
namespace Go.Proofs.Ytjbimhfhapnjeaa.AM
open Go.RowKit Go.Proofs
def an_parquetlaw10_ValidHole : Ann := .node none none .leaf (.node none none .leaf (.node none none .leaf (.node none none .leaf (.node none none .leaf (.node none none .leaf (.node none none .leaf (.node none none .leaf (.node none none (.node none none .leaf (.node none none (.node none (some [(11, .d kI), (12, .d kI), (13, .box [.row (.pair kI kI) 49, .row (.pair kI kI) 53, .row (.pair kI kI) 53]), (15, .d kI)]) .leaf .leaf) .leaf)) (.node none none .leaf (.node none none .leaf (.node none none .leaf (.node none none .leaf (.node none none .leaf (.node none none .leaf (.node none none .leaf (.node none none .leaf (.node none none .leaf (.node none none .leaf (.node none none .leaf (.node none none .leaf (.node none none .leaf (.node none none (.node (some [(8, .d .bool)]) none .leaf .leaf) .leaf))))))))))))))))))))))
def b_parquetlaw10_ValidHole (k : Nat) (c_valid_First : ((List (Int × Int)) × ((List (Int × Int)) × (List (Int × Int)))) → Option ((Int × (Int × Int)) × Int)) (c_valid_Inside : ((List (Int × Int)) × ((List (Int × Int)) × (List (Int × Int)))) → Int → Int → Option Bool) (c_valid_Loops : ((List (Int × Int)) × ((List (Int × Int)) × (List (Int × Int)))) → Option ((List (List Int)) × Int)) (c_parquetlaw10_known : Option Bool) (a0 : Int) (a1 : Int) (a2 : Int) (a3 : Int) : Option Bool :=
  gd (!(decide ((w64 ((w64 (8 + (w64 (a0.tmod 50)))) - 6)) = 0))) <|
   gd (!(decide ((w64 ((w64 (8 + (w64 (a1.tmod 50)))) - 6)) = 0))) <|
   loopN (α := (Int × (Int × (((List (Int × Int)) × ((List (Int × Int)) × (List (Int × Int)))) × Int)))) (fun (x1, x2, x3, x4) next0 =>
    bif decide (x4 < 8) then
     gd (few (x3.2.1.length + 1)) <|
     next0 (x1, x2, (x3.1, x3.2.1 ++ [(x4, w64 ((w64 ((w64 (x4.tdiv 4)) * 4)) + ((w64 (x4 + 1)).tmod 4)))], x3.2.2), w64 (x4 + 1))
    else
     bnd (c_valid_First (x3.1, x3.2.1, x3.2.2)) fun r5 =>
     gd (few x3.1.length) <|
     gd (few x3.2.1.length) <|
     gd (few x3.2.2.length) <|
     gd (few (x3.1.length + 1)) <|
     bnd (c_valid_First (x3.1 ++ [(w64 (x1 + 2), w64 (x2 + 2))], x3.2.1, x3.2.2)) fun r6 =>
     gd (few x3.1.length) <|
     gd (few x3.2.1.length) <|
     gd (few x3.2.2.length) <|
     gd (few (x3.1.length + 3)) <|
     gd (few (x3.2.1.length + 3)) <|
     bnd (c_valid_First (x3.1 ++ [(w64 (x1 + 1), w64 (x2 + 1)), (w64 (x1 + 3), w64 (x2 + 1)), (w64 (x1 + 3), w64 (x2 + 3))], x3.2.1 ++ [(8, 9), (9, 10), (10, 8)], x3.2.2)) fun r7 =>
     gd (few x3.1.length) <|
     gd (few x3.2.1.length) <|
     gd (few x3.2.2.length) <|
     bnd (c_valid_First (x3.1, x3.2.1, [(4, 6)])) fun r8 =>
     bnd (c_valid_Inside (x3.1, x3.2.1, x3.2.2) 0 4) fun r9 =>
     bnd (c_valid_Loops (x3.1 ++ [(w64 (x1 + 1), w64 (x2 + 1)), (w64 (x1 + 3), w64 (x2 + 1)), (w64 (x1 + 3), w64 (x2 + 3))], x3.2.1 ++ [(8, 9), (9, 10), (10, 8)], x3.2.2)) fun r10 =>
     meet (α := Bool) (fun y11 =>
      some y11) fun j12 =>
     bif (decide (r5.1.1 = 0)) && ((decide (r5.1.2.1 = 0)) && (decide (r5.1.2.2 = 0))) then
      bif decide (r5.2 = 0) then
       bif (decide (r6.1.1 = 8)) && ((decide (r6.1.2.1 = 8)) && (decide (r6.1.2.2 = 0))) then
        bif (decide (r7.1.1 = 0)) && ((decide (r7.1.2.1 = 0)) && (decide (r7.1.2.2 = 0))) then
         bif (decide (r8.1.1 = 7)) && ((decide (r8.1.2.1 = 0)) && (decide (r8.1.2.2 = 0))) then
          bif r9 then
           bif decide ((r10.1.length : Int) = 3) then
            bnd (c_parquetlaw10_known) fun r13 =>
            j12 r13
           else
            j12 false
          else
           j12 false
         else
          j12 false
        else
         j12 false
       else
        j12 false
      else
       j12 false
     else
      j12 false) k (w64 (1 + ((w64 a2).tmod (w64 ((w64 (8 + (w64 (a0.tmod 50)))) - 6)))), w64 (1 + ((w64 a3).tmod (w64 ((w64 (8 + (w64 (a1.tmod 50)))) - 6)))), ([(0, 0), (w64 (8 + (w64 (a0.tmod 50))), 0), (w64 (8 + (w64 (a0.tmod 50))), w64 (8 + (w64 (a1.tmod 50)))), (0, w64 (8 + (w64 (a1.tmod 50)))), (w64 (1 + ((w64 a2).tmod (w64 ((w64 (8 + (w64 (a0.tmod 50)))) - 6)))), w64 (1 + ((w64 a3).tmod (w64 ((w64 (8 + (w64 (a1.tmod 50)))) - 6))))), (w64 ((w64 (1 + ((w64 a2).tmod (w64 ((w64 (8 + (w64 (a0.tmod 50)))) - 6))))) + 4), w64 (1 + ((w64 a3).tmod (w64 ((w64 (8 + (w64 (a1.tmod 50)))) - 6))))), (w64 ((w64 (1 + ((w64 a2).tmod (w64 ((w64 (8 + (w64 (a0.tmod 50)))) - 6))))) + 4), w64 ((w64 (1 + ((w64 a3).tmod (w64 ((w64 (8 + (w64 (a1.tmod 50)))) - 6))))) + 4)), (w64 (1 + ((w64 a2).tmod (w64 ((w64 (8 + (w64 (a0.tmod 50)))) - 6)))), w64 ((w64 (1 + ((w64 a3).tmod (w64 ((w64 (8 + (w64 (a1.tmod 50)))) - 6))))) + 4))], [], []), 0)
theorem eq_parquetlaw10_ValidHole (k : Nat) (c_valid_First : ((List (Int × Int)) × ((List (Int × Int)) × (List (Int × Int)))) → Option ((Int × (Int × Int)) × Int)) (c_valid_Inside : ((List (Int × Int)) × ((List (Int × Int)) × (List (Int × Int)))) → Int → Int → Option Bool) (c_valid_Loops : ((List (Int × Int)) × ((List (Int × Int)) × (List (Int × Int)))) → Option ((List (List Int)) × Int)) (c_parquetlaw10_known : Option Bool) (a0 : Int) (a1 : Int) (a2 : Int) (a3 : Int) : textF [⟨12, [], [], fun _ => none, some (tb, Try.f12)⟩, ⟨13, [.d (.pair (.sl (.pair kI kI)) (.pair (.sl (.pair kI kI)) (.sl (.pair kI kI))))], [.pair kI (.pair kI kI), kI], fun x => c_valid_First x, none⟩, ⟨19, [.d (.pair (.sl (.pair kI kI)) (.pair (.sl (.pair kI kI)) (.sl (.pair kI kI)))), .d kI, .d kI], [.bool], fun x => c_valid_Inside (x.1) (x.2.1) (x.2.2), none⟩, ⟨16, [.d (.pair (.sl (.pair kI kI)) (.pair (.sl (.pair kI kI)) (.sl (.pair kI kI))))], [.sl (.sl kI), kI], fun x => c_valid_Loops x, none⟩, ⟨11, [], [.bool], fun x => c_parquetlaw10_known, none⟩] tb k Try.f9 an_parquetlaw10_ValidHole [.d (.int .u8), .d (.int .u8), .d (.int .u8), .d (.int .u8)] [.bool] (a0, a1, a2, a3) = b_parquetlaw10_ValidHole k c_valid_First c_valid_Inside c_valid_Loops c_parquetlaw10_known a0 a1 a2 a3 := by kernel_rfl
def g_parquetlaw10_ValidHole (k : Nat) (a0 : Int) (a1 : Int) (a2 : Int) (a3 : Int) : Option Bool := b_parquetlaw10_ValidHole k (g_valid_First k) (g_valid_Inside k) (g_valid_Loops k) (g_parquetlaw10_known k) a0 a1 a2 a3
theorem tells_parquetlaw10_ValidHole (k : Nat) : TellsF Try.prog 9 [.d (.int .u8), .d (.int .u8), .d (.int .u8), .d (.int .u8)] [.bool] (fun x => g_parquetlaw10_ValidHole k (x.1) (x.2.1) (x.2.2.1) (x.2.2.2)) := fun x y h => fun_tells tb_ok mix (es := [⟨12, [], [], fun _ => none, some (tb, Try.f12)⟩, ⟨13, [.d (.pair (.sl (.pair kI kI)) (.pair (.sl (.pair kI kI)) (.sl (.pair kI kI))))], [.pair kI (.pair kI kI), kI], fun x => g_valid_First k x, none⟩, ⟨19, [.d (.pair (.sl (.pair kI kI)) (.pair (.sl (.pair kI kI)) (.sl (.pair kI kI)))), .d kI, .d kI], [.bool], fun x => g_valid_Inside k (x.1) (x.2.1) (x.2.2), none⟩, ⟨16, [.d (.pair (.sl (.pair kI kI)) (.pair (.sl (.pair kI kI)) (.sl (.pair kI kI))))], [.sl (.sl kI), kI], fun x => g_valid_Loops k x, none⟩, ⟨11, [], [.bool], fun x => g_parquetlaw10_known k, none⟩]) (EsOk.cons (EntryOk.go tb_ok mix Try.func12 (by kernel_rfl)) (EsOk.cons (EntryOk.of rfl (tells_valid_First k)) (EsOk.cons (EntryOk.of rfl (tells_valid_Inside k)) (EsOk.cons (EntryOk.of rfl (tells_valid_Loops k)) (EsOk.cons (EntryOk.of rfl (tells_parquetlaw10_known k)) (EsOk.nil _)))))) Try.func9 (N := k) (an := an_parquetlaw10_ValidHole) (by kernel_rfl) x y ((eq_parquetlaw10_ValidHole k (g_valid_First k) (g_valid_Inside k) (g_valid_Loops k) (g_parquetlaw10_known k) (x.1) (x.2.1) (x.2.2.1) (x.2.2.2)).trans h)

end Go.Proofs.Ytjbimhfhapnjeaa.AM
