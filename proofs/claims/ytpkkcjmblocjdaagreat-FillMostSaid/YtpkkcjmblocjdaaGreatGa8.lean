/- The functions, by their texts: written by a program. -/
import Derived.Test.YtpkkcjmblocjdaaGreatGa7
import Derived.Test.YtpkkcjmblocjdaaGreatSrt
set_option linter.unusedVariables false
set_option maxRecDepth 100000
namespace Go.Proofs.YtpkkcjmblocjdaaGreat.AM
open Go.RowKit Go.Proofs
noncomputable section
def an_parquetlaw12_FillMost : Ann := .node none none .leaf (.node none none (.node none none (.node (some [(1, .box [.d (.pair (.sl (.pair kI kI)) (.pair (.sl (.pair kI kI)) (.sl (.pair kI kI))))]), (26, .d .bool)]) none .leaf .leaf) .leaf) (.node none none .leaf (.node none none .leaf (.node none none (.node none none .leaf (.node none none (.node none (some [(1, .box [.d (.pair (.sl (.pair kI kI)) (.pair (.sl (.pair kI kI)) (.sl (.pair kI kI))))]), (3, .d (.sl (.pair kI kI))), (5, .d kI)]) (.node none none .leaf (.node none none (.node none none (.node none none .leaf (.node none none (.node none (some [(1, .box [.d (.pair (.sl (.pair kI kI)) (.pair (.sl (.pair kI kI)) (.sl (.pair kI kI))))]), (3, .d (.sl (.pair kI kI))), (5, .d kI), (6, .d kI)]) (.node none none .leaf (.node none none (.node (some [(1, .box [.d (.pair (.sl (.pair kI kI)) (.pair (.sl (.pair kI kI)) (.sl (.pair kI kI))))]), (3, .d (.sl (.pair kI kI))), (5, .d kI), (6, .d kI)]) none (.node none none .leaf (.node none none .leaf (.node none none .leaf (.node none none (.node none none .leaf (.node none none (.node none (some [(1, .box [.d (.pair (.sl (.pair kI kI)) (.pair (.sl (.pair kI kI)) (.sl (.pair kI kI))))]), (3, .d (.sl (.pair kI kI))), (5, .d kI), (6, .d kI), (9, .d .bool), (10, .d kI)]) (.node none none .leaf (.node none none (.node none none (.node (some [(1, .box [.d (.pair (.sl (.pair kI kI)) (.pair (.sl (.pair kI kI)) (.sl (.pair kI kI))))]), (3, .d (.sl (.pair kI kI))), (5, .d kI), (6, .d kI), (9, .d .bool), (10, .d kI)]) none .leaf .leaf) .leaf) .leaf)) .leaf) .leaf)) (.node none none (.node none none .leaf (.node none none (.node none (some [(1, .box [.d (.pair (.sl (.pair kI kI)) (.pair (.sl (.pair kI kI)) (.sl (.pair kI kI))))]), (3, .d (.sl (.pair kI kI))), (5, .d kI), (6, .d kI), (9, .d .bool), (11, .d kI)]) (.node none none (.node none none (.node (some [(1, .box [.d (.pair (.sl (.pair kI kI)) (.pair (.sl (.pair kI kI)) (.sl (.pair kI kI))))]), (3, .d (.sl (.pair kI kI))), (5, .d kI), (6, .d kI), (9, .d .bool), (11, .d kI), (101, .d .bool)]) none .leaf .leaf) .leaf) (.node none none (.node none none (.node none none (.node none none (.node (some [(1, .box [.d (.pair (.sl (.pair kI kI)) (.pair (.sl (.pair kI kI)) (.sl (.pair kI kI))))]), (3, .d (.sl (.pair kI kI))), (5, .d kI), (6, .d kI), (11, .d kI), (133, .d .bool)]) none .leaf .leaf) .leaf) .leaf) .leaf) .leaf)) .leaf) .leaf)) .leaf))))) .leaf) .leaf)) .leaf) .leaf)) .leaf) .leaf)) .leaf) .leaf)) .leaf))))
def b_parquetlaw12_FillMost (k : Nat) (c_parquetlaw12_many : ((List (Int × Int)) × ((List (Int × Int)) × (List (Int × Int)))) → Option Bool) (c_parquetref10_Right : ((List (Int × Int)) × ((List (Int × Int)) × (List (Int × Int)))) → Option Bool) (c_parquetlaw12_known : Option Bool) (c_fill_Edges : ((List (Int × Int)) × ((List (Int × Int)) × (List (Int × Int)))) → Option ((List (Int × Int)) × Int)) (c_parquetref12_Has : (List (Int × Int)) → Int → Int → Option Bool) (c_parquetref09_Middle : (List (Int × Int)) → (List (Int × Int)) → (List Int) → Option (Int × Int)) (c_parquetref04_Inside : (Int × Int) → (Int × Int) → (Int × Int) → Option Bool) (c_parquetref04_Segs : (Int × Int) → (Int × Int) → (Int × Int) → (Int × Int) → Option (Int × Int)) (a0 : ((List (Int × Int)) × ((List (Int × Int)) × (List (Int × Int))))) : Option Bool :=
  meet (α := (((List (Int × Int)) × ((List (Int × Int)) × (List (Int × Int)))) × Bool)) (fun (y0, y1) =>
    bif y1 then
     bnd (c_parquetlaw12_known) fun r2 =>
     some r2
    else
     bnd (c_fill_Edges (y0.1, y0.2.1, y0.2.2)) fun r3 =>
     bif !(decide (r3.2 = 0)) then
      some false
     else
      loopN (α := (((List (Int × Int)) × ((List (Int × Int)) × (List (Int × Int)))) × ((List (Int × Int)) × Int))) (fun (x5, x6, x7) next4 =>
       bif decide (x7 < (x5.1.length : Int)) then
        loopN (α := (((List (Int × Int)) × ((List (Int × Int)) × (List (Int × Int)))) × ((List (Int × Int)) × (Int × Int)))) (fun (x9, x10, x11, x12) next8 =>
         bif decide (x12 < (x9.1.length : Int)) then
          meet (α := (((List (Int × Int)) × ((List (Int × Int)) × (List (Int × Int)))) × ((List (Int × Int)) × (Int × Int)))) (fun (y13, y14, y15, y16) =>
           next8 ((y13.1, y13.2.1, y13.2.2), y14, y15, w64 (y16 + 1))) fun j17 =>
          bnd (c_parquetref12_Has x10 x11 x12) fun r18 =>
          bif r18 then
           j17 ((x9.1, x9.2.1, x9.2.2), x10, x11, x12)
          else
           bnd (c_parquetref09_Middle x9.1 x9.2.1 [x11, x12]) fun r19 =>
           loopN (α := (((List (Int × Int)) × ((List (Int × Int)) × (List (Int × Int)))) × ((List (Int × Int)) × (Int × (Int × (Bool × Int)))))) (fun (x21, x22, x23, x24, x25, x26) next20 =>
            bif decide (x26 < (x21.1.length : Int)) then
             meet (α := (((List (Int × Int)) × ((List (Int × Int)) × (List (Int × Int)))) × ((List (Int × Int)) × (Int × (Int × (Bool × Int)))))) (fun (y27, y28, y29, y30, y31, y32) =>
              next20 ((y27.1, y27.2.1, y27.2.2), y28, y29, y30, y31, w64 (y32 + 1))) fun j33 =>
             bif x25 then
              gd (inb x23 x21.1.length) <|
              gd (inb x24 x21.1.length) <|
              gd (inb x26 x21.1.length) <|
              bnd (c_parquetref04_Inside ((rdD (0, 0) x21.1 x23).1, (rdD (0, 0) x21.1 x23).2) ((rdD (0, 0) x21.1 x24).1, (rdD (0, 0) x21.1 x24).2) ((rdD (0, 0) x21.1 x26).1, (rdD (0, 0) x21.1 x26).2)) fun r34 =>
              j33 ((x21.1, x21.2.1, x21.2.2), x22, x23, x24, !r34, x26)
             else
              j33 ((x21.1, x21.2.1, x21.2.2), x22, x23, x24, false, x26)
            else
             loopN (α := (((List (Int × Int)) × ((List (Int × Int)) × (List (Int × Int)))) × ((List (Int × Int)) × (Int × (Int × (Bool × Int)))))) (fun (x36, x37, x38, x39, x40, x41) next35 =>
              meet (α := (((List (Int × Int)) × ((List (Int × Int)) × (List (Int × Int)))) × ((List (Int × Int)) × (Int × (Int × (Bool × (Int × Bool))))))) (fun (y42, y43, y44, y45, y46, y47, y48) =>
               bif y48 then
                meet (α := (((List (Int × Int)) × ((List (Int × Int)) × (List (Int × Int)))) × ((List (Int × Int)) × (Int × (Int × (Int × Bool)))))) (fun (y49, y50, y51, y52, y53, y54) =>
                 bif y54 then
                  some false
                 else
                  gd (inb y51 y49.1.length) <|
                  gd (inb y52 y49.1.length) <|
                  gd (inb y53 y50.length) <|
                  gd (inb (rdD (0, 0) y50 y53).1 y49.1.length) <|
                  gd (inb y53 y50.length) <|
                  gd (inb (rdD (0, 0) y50 y53).2 y49.1.length) <|
                  bnd (c_parquetref04_Segs ((rdD (0, 0) y49.1 y51).1, (rdD (0, 0) y49.1 y51).2) ((rdD (0, 0) y49.1 y52).1, (rdD (0, 0) y49.1 y52).2) ((rdD (0, 0) y49.1 (rdD (0, 0) y50 y53).1).1, (rdD (0, 0) y49.1 (rdD (0, 0) y50 y53).1).2) ((rdD (0, 0) y49.1 (rdD (0, 0) y50 y53).2).1, (rdD (0, 0) y49.1 (rdD (0, 0) y50 y53).2).2)) fun r55 =>
                  next35 ((y49.1, y49.2.1, y49.2.2), y50, y51, y52, decide (r55.1 ≤ 1), w64 (y53 + 1))) fun j56 =>
                gd (inb y47 y43.length) <|
                bif decide ((rdD (0, 0) y43 y47).1 < 0) then
                 j56 ((y42.1, y42.2.1, y42.2.2), y43, y44, y45, y47, true)
                else
                 gd (inb y47 y43.length) <|
                 bif decide ((rdD (0, 0) y43 y47).2 ≥ (y42.1.length : Int)) then
                  j56 ((y42.1, y42.2.1, y42.2.2), y43, y44, y45, y47, true)
                 else
                  gd (inb y47 y43.length) <|
                  gd (inb y47 y43.length) <|
                  j56 ((y42.1, y42.2.1, y42.2.2), y43, y44, y45, y47, decide ((rdD (0, 0) y43 y47).1 ≥ (rdD (0, 0) y43 y47).2))
               else
                bif y46 then
                 some false
                else
                 j17 ((y42.1, y42.2.1, y42.2.2), y43, y44, y45)) fun j57 =>
              bif decide (x41 < (x37.length : Int)) then
               j57 ((x36.1, x36.2.1, x36.2.2), x37, x38, x39, x40, x41, x40)
              else
               j57 ((x36.1, x36.2.1, x36.2.2), x37, x38, x39, x40, x41, false)) k ((x21.1, x21.2.1, x21.2.2), x22, x23, x24, x25, 0)) k ((x9.1, x9.2.1, x9.2.2), x10, x11, x12, decide (r19.1 = 1), 0)
         else
          next4 ((x9.1, x9.2.1, x9.2.2), x10, w64 (x11 + 1))) k ((x5.1, x5.2.1, x5.2.2), x6, x7, w64 (x7 + 1))
       else
        bnd (c_parquetlaw12_known) fun r58 =>
        some r58) k ((y0.1, y0.2.1, y0.2.2), r3.1, 0)) fun j59 =>
   bnd (c_parquetlaw12_many (a0.1, a0.2.1, a0.2.2)) fun r60 =>
   bif r60 then
    j59 ((a0.1, a0.2.1, a0.2.2), true)
   else
    bif decide ((a0.1.length : Int) > 14) then
     j59 ((a0.1, a0.2.1, a0.2.2), true)
    else
     bnd (c_parquetref10_Right (a0.1, a0.2.1, a0.2.2)) fun r61 =>
     j59 ((a0.1, a0.2.1, a0.2.2), !r61)
theorem eq_parquetlaw12_FillMost (k : Nat) (c_parquetlaw12_many : ((List (Int × Int)) × ((List (Int × Int)) × (List (Int × Int)))) → Option Bool) (c_parquetref10_Right : ((List (Int × Int)) × ((List (Int × Int)) × (List (Int × Int)))) → Option Bool) (c_parquetlaw12_known : Option Bool) (c_fill_Edges : ((List (Int × Int)) × ((List (Int × Int)) × (List (Int × Int)))) → Option ((List (Int × Int)) × Int)) (c_parquetref12_Has : (List (Int × Int)) → Int → Int → Option Bool) (c_parquetref09_Middle : (List (Int × Int)) → (List (Int × Int)) → (List Int) → Option (Int × Int)) (c_parquetref04_Inside : (Int × Int) → (Int × Int) → (Int × Int) → Option Bool) (c_parquetref04_Segs : (Int × Int) → (Int × Int) → (Int × Int) → (Int × Int) → Option (Int × Int)) (a0 : ((List (Int × Int)) × ((List (Int × Int)) × (List (Int × Int))))) : textF [⟨10, [.d (.pair (.sl (.pair kI kI)) (.pair (.sl (.pair kI kI)) (.sl (.pair kI kI))))], [.bool], fun x => c_parquetlaw12_many x, none⟩, ⟨20, [.d (.pair (.sl (.pair kI kI)) (.pair (.sl (.pair kI kI)) (.sl (.pair kI kI))))], [.bool], fun x => c_parquetref10_Right x, none⟩, ⟨11, [], [.bool], fun x => c_parquetlaw12_known, none⟩, ⟨13, [.d (.pair (.sl (.pair kI kI)) (.pair (.sl (.pair kI kI)) (.sl (.pair kI kI))))], [.sl (.pair kI kI), kI], fun x => c_fill_Edges x, none⟩, ⟨28, [.d (.sl (.pair kI kI)), .d kI, .d kI], [.bool], fun x => c_parquetref12_Has (x.1) (x.2.1) (x.2.2), none⟩, ⟨37, [.d (.sl (.pair kI kI)), .d (.sl (.pair kI kI)), .d (.sl kI)], [kI, kI], fun x => c_parquetref09_Middle (x.1) (x.2.1) (x.2.2), none⟩, ⟨38, [.d (.pair kI kI), .d (.pair kI kI), .d (.pair kI kI)], [.bool], fun x => c_parquetref04_Inside (x.1) (x.2.1) (x.2.2), none⟩, ⟨32, [.d (.pair kI kI), .d (.pair kI kI), .d (.pair kI kI), .d (.pair kI kI)], [kI, kI], fun x => c_parquetref04_Segs (x.1) (x.2.1) (x.2.2.1) (x.2.2.2), none⟩] tb k Tryz.f7 an_parquetlaw12_FillMost [.d (.pair (.sl (.pair kI kI)) (.pair (.sl (.pair kI kI)) (.sl (.pair kI kI))))] [.bool] a0 = b_parquetlaw12_FillMost k c_parquetlaw12_many c_parquetref10_Right c_parquetlaw12_known c_fill_Edges c_parquetref12_Has c_parquetref09_Middle c_parquetref04_Inside c_parquetref04_Segs a0 := by kernel_rfl
def g_parquetlaw12_FillMost (k : Nat) (a0 : ((List (Int × Int)) × ((List (Int × Int)) × (List (Int × Int))))) : Option Bool := b_parquetlaw12_FillMost k (g_parquetlaw12_many k) (g_parquetref10_Right k) (g_parquetlaw12_known k) (g_fill_Edges k) (g_parquetref12_Has k) (g_parquetref09_Middle k) (g_parquetref04_Inside k) (g_parquetref04_Segs k) a0
theorem tells_parquetlaw12_FillMost (k : Nat) : TellsF Tryz.prog 7 [.d (.pair (.sl (.pair kI kI)) (.pair (.sl (.pair kI kI)) (.sl (.pair kI kI))))] [.bool] (fun x => g_parquetlaw12_FillMost k x) := fun x y h => fun_tells tb_ok mix (es := [⟨10, [.d (.pair (.sl (.pair kI kI)) (.pair (.sl (.pair kI kI)) (.sl (.pair kI kI))))], [.bool], fun x => g_parquetlaw12_many k x, none⟩, ⟨20, [.d (.pair (.sl (.pair kI kI)) (.pair (.sl (.pair kI kI)) (.sl (.pair kI kI))))], [.bool], fun x => g_parquetref10_Right k x, none⟩, ⟨11, [], [.bool], fun x => g_parquetlaw12_known k, none⟩, ⟨13, [.d (.pair (.sl (.pair kI kI)) (.pair (.sl (.pair kI kI)) (.sl (.pair kI kI))))], [.sl (.pair kI kI), kI], fun x => g_fill_Edges k x, none⟩, ⟨28, [.d (.sl (.pair kI kI)), .d kI, .d kI], [.bool], fun x => g_parquetref12_Has k (x.1) (x.2.1) (x.2.2), none⟩, ⟨37, [.d (.sl (.pair kI kI)), .d (.sl (.pair kI kI)), .d (.sl kI)], [kI, kI], fun x => g_parquetref09_Middle k (x.1) (x.2.1) (x.2.2), none⟩, ⟨38, [.d (.pair kI kI), .d (.pair kI kI), .d (.pair kI kI)], [.bool], fun x => g_parquetref04_Inside k (x.1) (x.2.1) (x.2.2), none⟩, ⟨32, [.d (.pair kI kI), .d (.pair kI kI), .d (.pair kI kI), .d (.pair kI kI)], [kI, kI], fun x => g_parquetref04_Segs k (x.1) (x.2.1) (x.2.2.1) (x.2.2.2), none⟩]) (EsOk.cons (EntryOk.of rfl (tells_parquetlaw12_many k)) (EsOk.cons (EntryOk.of rfl (tells_parquetref10_Right k)) (EsOk.cons (EntryOk.of rfl (tells_parquetlaw12_known k)) (EsOk.cons (EntryOk.of rfl (tells_fill_Edges k)) (EsOk.cons (EntryOk.of rfl (tells_parquetref12_Has k)) (EsOk.cons (EntryOk.of rfl (tells_parquetref09_Middle k)) (EsOk.cons (EntryOk.of rfl (tells_parquetref04_Inside k)) (EsOk.cons (EntryOk.of rfl (tells_parquetref04_Segs k)) (EsOk.nil _))))))))) Tryz.func7 (N := k) (an := an_parquetlaw12_FillMost) (by kernel_rfl) x y ((eq_parquetlaw12_FillMost k (g_parquetlaw12_many k) (g_parquetref10_Right k) (g_parquetlaw12_known k) (g_fill_Edges k) (g_parquetref12_Has k) (g_parquetref09_Middle k) (g_parquetref04_Inside k) (g_parquetref04_Segs k) x).trans h)

end
end Go.Proofs.YtpkkcjmblocjdaaGreat.AM
