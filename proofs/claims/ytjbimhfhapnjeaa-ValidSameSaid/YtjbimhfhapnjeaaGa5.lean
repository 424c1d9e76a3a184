/- The functions, by their texts: written by a program. -/
import Derived.Test.YtjbimhfhapnjeaaGa4
set_option linter.unusedVariables false
set_option maxRecDepth 100000
namespace Go.Proofs.Ytjbimhfhapnjeaa.AM
open Go.RowKit Go.Proofs
def an_parquetref10_Loops : Ann := .leaf
def b_parquetref10_Loops (k : Nat) (c_parquetref10_Right : ((List (Int × Int)) × ((List (Int × Int)) × (List (Int × Int)))) → Option Bool) (c_parquetref08_Rings : Int → (List (Int × Int)) → Option ((List (List Int)) × Int × Int)) (a0 : ((List (Int × Int)) × ((List (Int × Int)) × (List (Int × Int))))) : Option ((List (List Int)) × Int) :=
  bnd (c_parquetref10_Right (a0.1, a0.2.1, a0.2.2)) fun r0 =>
   bif !r0 then
    some ([], 2)
   else
    bnd (c_parquetref08_Rings (a0.1.length : Int) a0.2.1) fun r1 =>
    some (r1.1, r1.2.2)
theorem eq_parquetref10_Loops (k : Nat) (c_parquetref10_Right : ((List (Int × Int)) × ((List (Int × Int)) × (List (Int × Int)))) → Option Bool) (c_parquetref08_Rings : Int → (List (Int × Int)) → Option ((List (List Int)) × Int × Int)) (a0 : ((List (Int × Int)) × ((List (Int × Int)) × (List (Int × Int))))) : textF [⟨39, [.d (.pair (.sl (.pair kI kI)) (.pair (.sl (.pair kI kI)) (.sl (.pair kI kI))))], [.bool], fun x => c_parquetref10_Right x, none⟩, ⟨40, [.d kI, .d (.sl (.pair kI kI))], [.sl (.sl kI), kI, kI], fun x => c_parquetref08_Rings (x.1) (x.2), none⟩] tb k Try.f17 an_parquetref10_Loops [.d (.pair (.sl (.pair kI kI)) (.pair (.sl (.pair kI kI)) (.sl (.pair kI kI))))] [.sl (.sl kI), kI] a0 = b_parquetref10_Loops k c_parquetref10_Right c_parquetref08_Rings a0 := by kernel_rfl
def g_parquetref10_Loops (k : Nat) (a0 : ((List (Int × Int)) × ((List (Int × Int)) × (List (Int × Int))))) : Option ((List (List Int)) × Int) := b_parquetref10_Loops k (g_parquetref10_Right k) (g_parquetref08_Rings k) a0
theorem tells_parquetref10_Loops (k : Nat) : TellsF Try.prog 17 [.d (.pair (.sl (.pair kI kI)) (.pair (.sl (.pair kI kI)) (.sl (.pair kI kI))))] [.sl (.sl kI), kI] (fun x => g_parquetref10_Loops k x) := fun x y h => fun_tells tb_ok mix (es := [⟨39, [.d (.pair (.sl (.pair kI kI)) (.pair (.sl (.pair kI kI)) (.sl (.pair kI kI))))], [.bool], fun x => g_parquetref10_Right k x, none⟩, ⟨40, [.d kI, .d (.sl (.pair kI kI))], [.sl (.sl kI), kI, kI], fun x => g_parquetref08_Rings k (x.1) (x.2), none⟩]) (EsOk.cons (EntryOk.of rfl (tells_parquetref10_Right k)) (EsOk.cons (EntryOk.of rfl (tells_parquetref08_Rings k)) (EsOk.nil _))) Try.func17 (N := k) (an := an_parquetref10_Loops) (by kernel_rfl) x y ((eq_parquetref10_Loops k (g_parquetref10_Right k) (g_parquetref08_Rings k) x).trans h)

def an_parquetref00_SameInts : Ann := .node none none .leaf (.node none none .leaf (.node none none (.node none none .leaf (.node none none (.node none (some [(0, .d (.sl kI)), (1, .d (.sl kI)), (5, .d kI)]) .leaf .leaf) .leaf)) .leaf))
def g_parquetref00_SameInts (k : Nat) (a0 : (List Int)) (a1 : (List Int)) : Option Bool :=
  bif !(decide ((a0.length : Int) = (a1.length : Int))) then
    some false
   else
    loopN (α := ((List Int) × ((List Int) × Int))) (fun (x1, x2, x3) next0 =>
     bif decide (x3 < (x1.length : Int)) then
      gd (inb x3 x1.length) <|
      gd (inb x3 x2.length) <|
      bif !(decide ((rdD 0 x1 x3) = (rdD 0 x2 x3))) then
       some false
      else
       next0 (x1, x2, w64 (x3 + 1))
     else
      some true) k (a0, a1, 0)
theorem eq_parquetref00_SameInts (k : Nat) (a0 : (List Int)) (a1 : (List Int)) : textF [] tb k Try.f18 an_parquetref00_SameInts [.d (.sl kI), .d (.sl kI)] [.bool] (a0, a1) = g_parquetref00_SameInts k a0 a1 := by kernel_rfl
theorem tells_parquetref00_SameInts (k : Nat) : TellsF Try.prog 18 [.d (.sl kI), .d (.sl kI)] [.bool] (fun x => g_parquetref00_SameInts k (x.1) (x.2)) := fun x y h => fun_tells tb_ok mix (es := []) (EsOk.nil _) Try.func18 (N := k) (an := an_parquetref00_SameInts) (by kernel_rfl) x y ((eq_parquetref00_SameInts k (x.1) (x.2)).trans h)

def an_parquetref10_Inside : Ann := .node none none .leaf (.node none none (.node none none (.node (some [(1, .d kI), (2, .d kI), (3, .box [.d (.pair (.sl (.pair kI kI)) (.pair (.sl (.pair kI kI)) (.sl (.pair kI kI))))]), (44, .d .bool)]) none .leaf .leaf) .leaf) (.node none none (.node none none .leaf (.node none none (.node none (some [(1, .d kI), (2, .d kI), (3, .box [.d (.pair (.sl (.pair kI kI)) (.pair (.sl (.pair kI kI)) (.sl (.pair kI kI))))]), (7, .d kI)]) .leaf .leaf) .leaf)) (.node none none .leaf (.node none none .leaf (.node none none (.node none none .leaf (.node none none (.node none (some [(1, .d kI), (2, .d kI), (3, .box [.d (.pair (.sl (.pair kI kI)) (.pair (.sl (.pair kI kI)) (.sl (.pair kI kI))))]), (8, .d (.sl (.pair kI kI))), (9, .d .bool), (10, .d kI)]) (.node none none .leaf (.node none none (.node (some [(1, .d kI), (2, .d kI), (3, .box [.d (.pair (.sl (.pair kI kI)) (.pair (.sl (.pair kI kI)) (.sl (.pair kI kI))))]), (8, .d (.sl (.pair kI kI))), (9, .d .bool), (10, .d kI)]) none (.node none none (.node none none (.node (some [(1, .d kI), (2, .d kI), (3, .box [.d (.pair (.sl (.pair kI kI)) (.pair (.sl (.pair kI kI)) (.sl (.pair kI kI))))]), (8, .d (.sl (.pair kI kI))), (9, .d .bool), (10, .d kI), (109, .d .bool)]) none .leaf .leaf) (.node none none (.node none none (.node (some [(1, .d kI), (2, .d kI), (3, .box [.d (.pair (.sl (.pair kI kI)) (.pair (.sl (.pair kI kI)) (.sl (.pair kI kI))))]), (8, .d (.sl (.pair kI kI))), (9, .d .bool), (10, .d kI)]) none .leaf .leaf) .leaf) .leaf)) .leaf) .leaf) .leaf)) .leaf) .leaf)) (.node none none .leaf (.node none none (.node (some [(6, .d .bool)]) none .leaf .leaf) .leaf)))))))
def b_parquetref10_Inside (k : Nat) (c_parquetref10_Right : ((List (Int × Int)) × ((List (Int × Int)) × (List (Int × Int)))) → Option Bool) (c_parquetref04_Inside : (Int × Int) → (Int × Int) → (Int × Int) → Option Bool) (c_parquetref10_All : ((List (Int × Int)) × ((List (Int × Int)) × (List (Int × Int)))) → Option (List (Int × Int))) (c_parquetref04_Segs : (Int × Int) → (Int × Int) → (Int × Int) → (Int × Int) → Option (Int × Int)) (c_parquetref09_Middle : (List (Int × Int)) → (List (Int × Int)) → (List Int) → Option (Int × Int)) (a0 : ((List (Int × Int)) × ((List (Int × Int)) × (List (Int × Int))))) (a1 : Int) (a2 : Int) : Option Bool :=
  meet (α := (Int × (Int × (((List (Int × Int)) × ((List (Int × Int)) × (List (Int × Int)))) × Bool)))) (fun (y0, y1, y2, y3) =>
    bif y3 then
     some false
    else
     loopN (α := (Int × (Int × (((List (Int × Int)) × ((List (Int × Int)) × (List (Int × Int)))) × Int)))) (fun (x5, x6, x7, x8) next4 =>
      bif decide (x8 < (x7.1.length : Int)) then
       gd (inb x5 x7.1.length) <|
       gd (inb x6 x7.1.length) <|
       gd (inb x8 x7.1.length) <|
       bnd (c_parquetref04_Inside ((rdD (0, 0) x7.1 x5).1, (rdD (0, 0) x7.1 x5).2) ((rdD (0, 0) x7.1 x6).1, (rdD (0, 0) x7.1 x6).2) ((rdD (0, 0) x7.1 x8).1, (rdD (0, 0) x7.1 x8).2)) fun r9 =>
       bif r9 then
        some false
       else
        next4 (x5, x6, (x7.1, x7.2.1, x7.2.2), w64 (x8 + 1))
      else
       bnd (c_parquetref10_All (x7.1, x7.2.1, x7.2.2)) fun r10 =>
       loopN (α := (Int × (Int × (((List (Int × Int)) × ((List (Int × Int)) × (List (Int × Int)))) × ((List (Int × Int)) × (Bool × Int)))))) (fun (x12, x13, x14, x15, x16, x17) next11 =>
        bif decide (x17 < (x15.length : Int)) then
         meet (α := (Int × (Int × (((List (Int × Int)) × ((List (Int × Int)) × (List (Int × Int)))) × ((List (Int × Int)) × (Bool × Int)))))) (fun (y18, y19, y20, y21, y22, y23) =>
          next11 (y18, y19, (y20.1, y20.2.1, y20.2.2), y21, y22, w64 (y23 + 1))) fun j24 =>
         meet (α := (Int × (Int × (((List (Int × Int)) × ((List (Int × Int)) × (List (Int × Int)))) × ((List (Int × Int)) × (Bool × (Int × Bool))))))) (fun (y25, y26, y27, y28, y29, y30, y31) =>
          bif y31 then
           meet (α := (Int × (Int × (((List (Int × Int)) × ((List (Int × Int)) × (List (Int × Int)))) × ((List (Int × Int)) × (Bool × Int)))))) (fun (y32, y33, y34, y35, y36, y37) =>
            j24 (y32, y33, (y34.1, y34.2.1, y34.2.2), y35, y36, y37)) fun j38 =>
           bif y29 then
            j38 (y25, y26, (y27.1, y27.2.1, y27.2.2), y28, true, y30)
           else
            j38 (y25, y26, (y27.1, y27.2.1, y27.2.2), y28, decide (y30 < (y27.2.1.length : Int)), y30)
          else
           gd (inb y25 y27.1.length) <|
           gd (inb y26 y27.1.length) <|
           gd (inb y30 y28.length) <|
           gd (inb (rdD (0, 0) y28 y30).1 y27.1.length) <|
           gd (inb y30 y28.length) <|
           gd (inb (rdD (0, 0) y28 y30).2 y27.1.length) <|
           bnd (c_parquetref04_Segs ((rdD (0, 0) y27.1 y25).1, (rdD (0, 0) y27.1 y25).2) ((rdD (0, 0) y27.1 y26).1, (rdD (0, 0) y27.1 y26).2) ((rdD (0, 0) y27.1 (rdD (0, 0) y28 y30).1).1, (rdD (0, 0) y27.1 (rdD (0, 0) y28 y30).1).2) ((rdD (0, 0) y27.1 (rdD (0, 0) y28 y30).2).1, (rdD (0, 0) y27.1 (rdD (0, 0) y28 y30).2).2)) fun r39 =>
           bif decide (r39.1 > 1) then
            some false
           else
            j24 (y25, y26, (y27.1, y27.2.1, y27.2.2), y28, y29, y30)) fun j40 =>
         gd (inb x17 x15.length) <|
         bif decide ((rdD (0, 0) x15 x17).1 = x12) then
          gd (inb x17 x15.length) <|
          bif decide ((rdD (0, 0) x15 x17).2 = x13) then
           j40 (x12, x13, (x14.1, x14.2.1, x14.2.2), x15, x16, x17, true)
          else
           gd (inb x17 x15.length) <|
           bif decide ((rdD (0, 0) x15 x17).1 = x13) then
            gd (inb x17 x15.length) <|
            j40 (x12, x13, (x14.1, x14.2.1, x14.2.2), x15, x16, x17, decide ((rdD (0, 0) x15 x17).2 = x12))
           else
            j40 (x12, x13, (x14.1, x14.2.1, x14.2.2), x15, x16, x17, false)
         else
          gd (inb x17 x15.length) <|
          bif decide ((rdD (0, 0) x15 x17).1 = x13) then
           gd (inb x17 x15.length) <|
           j40 (x12, x13, (x14.1, x14.2.1, x14.2.2), x15, x16, x17, decide ((rdD (0, 0) x15 x17).2 = x12))
          else
           j40 (x12, x13, (x14.1, x14.2.1, x14.2.2), x15, x16, x17, false)
        else
         bnd (c_parquetref09_Middle x14.1 x14.2.1 [x12, x13]) fun r41 =>
         meet (α := Bool) (fun y42 =>
          some y42) fun j43 =>
         bif x16 then
          j43 true
         else
          j43 (decide (r41.1 = 1))) k (x5, x6, (x7.1, x7.2.1, x7.2.2), r10, false, 0)) k (y0, y1, (y2.1, y2.2.1, y2.2.2), 0)) fun j44 =>
   bnd (c_parquetref10_Right (a0.1, a0.2.1, a0.2.2)) fun r45 =>
   bif !r45 then
    j44 (a1, a2, (a0.1, a0.2.1, a0.2.2), true)
   else
    bif decide (a1 < 0) then
     j44 (a1, a2, (a0.1, a0.2.1, a0.2.2), true)
    else
     bif decide (a2 < 0) then
      j44 (a1, a2, (a0.1, a0.2.1, a0.2.2), true)
     else
      bif decide (a1 ≥ (a0.1.length : Int)) then
       j44 (a1, a2, (a0.1, a0.2.1, a0.2.2), true)
      else
       bif decide (a2 ≥ (a0.1.length : Int)) then
        j44 (a1, a2, (a0.1, a0.2.1, a0.2.2), true)
       else
        j44 (a1, a2, (a0.1, a0.2.1, a0.2.2), decide (a1 = a2))
theorem eq_parquetref10_Inside (k : Nat) (c_parquetref10_Right : ((List (Int × Int)) × ((List (Int × Int)) × (List (Int × Int)))) → Option Bool) (c_parquetref04_Inside : (Int × Int) → (Int × Int) → (Int × Int) → Option Bool) (c_parquetref10_All : ((List (Int × Int)) × ((List (Int × Int)) × (List (Int × Int)))) → Option (List (Int × Int))) (c_parquetref04_Segs : (Int × Int) → (Int × Int) → (Int × Int) → (Int × Int) → Option (Int × Int)) (c_parquetref09_Middle : (List (Int × Int)) → (List (Int × Int)) → (List Int) → Option (Int × Int)) (a0 : ((List (Int × Int)) × ((List (Int × Int)) × (List (Int × Int))))) (a1 : Int) (a2 : Int) : textF [⟨39, [.d (.pair (.sl (.pair kI kI)) (.pair (.sl (.pair kI kI)) (.sl (.pair kI kI))))], [.bool], fun x => c_parquetref10_Right x, none⟩, ⟨45, [.d (.pair kI kI), .d (.pair kI kI), .d (.pair kI kI)], [.bool], fun x => c_parquetref04_Inside (x.1) (x.2.1) (x.2.2), none⟩, ⟨23, [.d (.pair (.sl (.pair kI kI)) (.pair (.sl (.pair kI kI)) (.sl (.pair kI kI))))], [.sl (.pair kI kI)], fun x => c_parquetref10_All x, none⟩, ⟨46, [.d (.pair kI kI), .d (.pair kI kI), .d (.pair kI kI), .d (.pair kI kI)], [kI, kI], fun x => c_parquetref04_Segs (x.1) (x.2.1) (x.2.2.1) (x.2.2.2), none⟩, ⟨47, [.d (.sl (.pair kI kI)), .d (.sl (.pair kI kI)), .d (.sl kI)], [kI, kI], fun x => c_parquetref09_Middle (x.1) (x.2.1) (x.2.2), none⟩] tb k Try.f20 an_parquetref10_Inside [.d (.pair (.sl (.pair kI kI)) (.pair (.sl (.pair kI kI)) (.sl (.pair kI kI)))), .d kI, .d kI] [.bool] (a0, a1, a2) = b_parquetref10_Inside k c_parquetref10_Right c_parquetref04_Inside c_parquetref10_All c_parquetref04_Segs c_parquetref09_Middle a0 a1 a2 := by kernel_rfl
def g_parquetref10_Inside (k : Nat) (a0 : ((List (Int × Int)) × ((List (Int × Int)) × (List (Int × Int))))) (a1 : Int) (a2 : Int) : Option Bool := b_parquetref10_Inside k (g_parquetref10_Right k) (g_parquetref04_Inside k) (g_parquetref10_All k) (g_parquetref04_Segs k) (g_parquetref09_Middle k) a0 a1 a2
theorem tells_parquetref10_Inside (k : Nat) : TellsF Try.prog 20 [.d (.pair (.sl (.pair kI kI)) (.pair (.sl (.pair kI kI)) (.sl (.pair kI kI)))), .d kI, .d kI] [.bool] (fun x => g_parquetref10_Inside k (x.1) (x.2.1) (x.2.2)) := fun x y h => fun_tells tb_ok mix (es := [⟨39, [.d (.pair (.sl (.pair kI kI)) (.pair (.sl (.pair kI kI)) (.sl (.pair kI kI))))], [.bool], fun x => g_parquetref10_Right k x, none⟩, ⟨45, [.d (.pair kI kI), .d (.pair kI kI), .d (.pair kI kI)], [.bool], fun x => g_parquetref04_Inside k (x.1) (x.2.1) (x.2.2), none⟩, ⟨23, [.d (.pair (.sl (.pair kI kI)) (.pair (.sl (.pair kI kI)) (.sl (.pair kI kI))))], [.sl (.pair kI kI)], fun x => g_parquetref10_All k x, none⟩, ⟨46, [.d (.pair kI kI), .d (.pair kI kI), .d (.pair kI kI), .d (.pair kI kI)], [kI, kI], fun x => g_parquetref04_Segs k (x.1) (x.2.1) (x.2.2.1) (x.2.2.2), none⟩, ⟨47, [.d (.sl (.pair kI kI)), .d (.sl (.pair kI kI)), .d (.sl kI)], [kI, kI], fun x => g_parquetref09_Middle k (x.1) (x.2.1) (x.2.2), none⟩]) (EsOk.cons (EntryOk.of rfl (tells_parquetref10_Right k)) (EsOk.cons (EntryOk.of rfl (tells_parquetref04_Inside k)) (EsOk.cons (EntryOk.of rfl (tells_parquetref10_All k)) (EsOk.cons (EntryOk.of rfl (tells_parquetref04_Segs k)) (EsOk.cons (EntryOk.of rfl (tells_parquetref09_Middle k)) (EsOk.nil _)))))) Try.func20 (N := k) (an := an_parquetref10_Inside) (by kernel_rfl) x y ((eq_parquetref10_Inside k (g_parquetref10_Right k) (g_parquetref04_Inside k) (g_parquetref10_All k) (g_parquetref04_Segs k) (g_parquetref09_Middle k) (x.1) (x.2.1) (x.2.2)).trans h)

def an_parquetlaw10_ValidLoops : Ann := .node none none .leaf (.node none none .leaf (.node none none .leaf (.node none none .leaf (.node none none (.node none none (.node (some [(1, .d kI), (2, .d kI), (3, .box [.d (.pair (.sl (.pair kI kI)) (.pair (.sl (.pair kI kI)) (.sl (.pair kI kI))))]), (7, .d (.sl (.sl kI))), (9, .d (.sl (.sl kI))), (35, .d .bool)]) none .leaf .leaf) .leaf) (.node none none (.node none none .leaf (.node none none (.node none (some [(1, .d kI), (2, .d kI), (3, .box [.d (.pair (.sl (.pair kI kI)) (.pair (.sl (.pair kI kI)) (.sl (.pair kI kI))))]), (7, .d (.sl (.sl kI))), (9, .d (.sl (.sl kI))), (11, .d kI)]) .leaf .leaf) .leaf)) (.node none none .leaf (.node none none (.node (some [(6, .d .bool)]) none .leaf .leaf) .leaf)))))))
def b_parquetlaw10_ValidLoops (k : Nat) (c_parquetlaw10_many : ((List (Int × Int)) × ((List (Int × Int)) × (List (Int × Int)))) → Option Bool) (c_parquetlaw10_known : Option Bool) (c_valid_Loops : ((List (Int × Int)) × ((List (Int × Int)) × (List (Int × Int)))) → Option ((List (List Int)) × Int)) (c_parquetref10_Loops : ((List (Int × Int)) × ((List (Int × Int)) × (List (Int × Int)))) → Option ((List (List Int)) × Int)) (c_parquetref00_SameInts : (List Int) → (List Int) → Option Bool) (c_valid_Inside : ((List (Int × Int)) × ((List (Int × Int)) × (List (Int × Int)))) → Int → Int → Option Bool) (c_parquetref10_Inside : ((List (Int × Int)) × ((List (Int × Int)) × (List (Int × Int)))) → Int → Int → Option Bool) (a0 : ((List (Int × Int)) × ((List (Int × Int)) × (List (Int × Int))))) (a1 : Int) (a2 : Int) : Option Bool :=
  bnd (c_parquetlaw10_many (a0.1, a0.2.1, a0.2.2)) fun r0 =>
   bif r0 then
    bnd (c_parquetlaw10_known) fun r1 =>
    some r1
   else
    bnd (c_valid_Loops (a0.1, a0.2.1, a0.2.2)) fun r2 =>
    bnd (c_parquetref10_Loops (a0.1, a0.2.1, a0.2.2)) fun r3 =>
    meet (α := (Int × (Int × (((List (Int × Int)) × ((List (Int × Int)) × (List (Int × Int)))) × ((List (List Int)) × ((List (List Int)) × Bool)))))) (fun (y4, y5, y6, y7, y8, y9) =>
     bif y9 then
      some false
     else
      loopN (α := (Int × (Int × (((List (Int × Int)) × ((List (Int × Int)) × (List (Int × Int)))) × ((List (List Int)) × ((List (List Int)) × Int)))))) (fun (x11, x12, x13, x14, x15, x16) next10 =>
       bif decide (x16 < (x14.length : Int)) then
        gd (inb x16 x14.length) <|
        gd (inb x16 x15.length) <|
        bnd (c_parquetref00_SameInts (rdD [] x14 x16) (rdD [] x15 x16)) fun r17 =>
        bif !r17 then
         some false
        else
         next10 (x11, x12, (x13.1, x13.2.1, x13.2.2), x14, x15, w64 (x16 + 1))
       else
        bnd (c_valid_Inside (x13.1, x13.2.1, x13.2.2) x11 x12) fun r18 =>
        meet (α := Bool) (fun y19 =>
         some y19) fun j20 =>
        bnd (c_parquetref10_Inside (x13.1, x13.2.1, x13.2.2) x11 x12) fun r21 =>
        bif r18 == r21 then
         bnd (c_valid_Inside (x13.1, x13.2.1, x13.2.2) x12 x11) fun r22 =>
         bif r22 == r18 then
          bnd (c_parquetlaw10_known) fun r23 =>
          j20 r23
         else
          j20 false
        else
         j20 false) k (y4, y5, (y6.1, y6.2.1, y6.2.2), y7, y8, 0)) fun j24 =>
    bif !(decide ((r2.1.length : Int) = (r3.1.length : Int))) then
     j24 (a1, a2, (a0.1, a0.2.1, a0.2.2), r2.1, r3.1, true)
    else
     j24 (a1, a2, (a0.1, a0.2.1, a0.2.2), r2.1, r3.1, !(decide (r2.2 = r3.2)))
theorem eq_parquetlaw10_ValidLoops (k : Nat) (c_parquetlaw10_many : ((List (Int × Int)) × ((List (Int × Int)) × (List (Int × Int)))) → Option Bool) (c_parquetlaw10_known : Option Bool) (c_valid_Loops : ((List (Int × Int)) × ((List (Int × Int)) × (List (Int × Int)))) → Option ((List (List Int)) × Int)) (c_parquetref10_Loops : ((List (Int × Int)) × ((List (Int × Int)) × (List (Int × Int)))) → Option ((List (List Int)) × Int)) (c_parquetref00_SameInts : (List Int) → (List Int) → Option Bool) (c_valid_Inside : ((List (Int × Int)) × ((List (Int × Int)) × (List (Int × Int)))) → Int → Int → Option Bool) (c_parquetref10_Inside : ((List (Int × Int)) × ((List (Int × Int)) × (List (Int × Int)))) → Int → Int → Option Bool) (a0 : ((List (Int × Int)) × ((List (Int × Int)) × (List (Int × Int))))) (a1 : Int) (a2 : Int) : textF [⟨10, [.d (.pair (.sl (.pair kI kI)) (.pair (.sl (.pair kI kI)) (.sl (.pair kI kI))))], [.bool], fun x => c_parquetlaw10_many x, none⟩, ⟨11, [], [.bool], fun x => c_parquetlaw10_known, none⟩, ⟨16, [.d (.pair (.sl (.pair kI kI)) (.pair (.sl (.pair kI kI)) (.sl (.pair kI kI))))], [.sl (.sl kI), kI], fun x => c_valid_Loops x, none⟩, ⟨17, [.d (.pair (.sl (.pair kI kI)) (.pair (.sl (.pair kI kI)) (.sl (.pair kI kI))))], [.sl (.sl kI), kI], fun x => c_parquetref10_Loops x, none⟩, ⟨18, [.d (.sl kI), .d (.sl kI)], [.bool], fun x => c_parquetref00_SameInts (x.1) (x.2), none⟩, ⟨19, [.d (.pair (.sl (.pair kI kI)) (.pair (.sl (.pair kI kI)) (.sl (.pair kI kI)))), .d kI, .d kI], [.bool], fun x => c_valid_Inside (x.1) (x.2.1) (x.2.2), none⟩, ⟨20, [.d (.pair (.sl (.pair kI kI)) (.pair (.sl (.pair kI kI)) (.sl (.pair kI kI)))), .d kI, .d kI], [.bool], fun x => c_parquetref10_Inside (x.1) (x.2.1) (x.2.2), none⟩] tb k Try.f4 an_parquetlaw10_ValidLoops [.d (.pair (.sl (.pair kI kI)) (.pair (.sl (.pair kI kI)) (.sl (.pair kI kI)))), .d kI, .d kI] [.bool] (a0, a1, a2) = b_parquetlaw10_ValidLoops k c_parquetlaw10_many c_parquetlaw10_known c_valid_Loops c_parquetref10_Loops c_parquetref00_SameInts c_valid_Inside c_parquetref10_Inside a0 a1 a2 := by kernel_rfl
def g_parquetlaw10_ValidLoops (k : Nat) (a0 : ((List (Int × Int)) × ((List (Int × Int)) × (List (Int × Int))))) (a1 : Int) (a2 : Int) : Option Bool := b_parquetlaw10_ValidLoops k (g_parquetlaw10_many k) (g_parquetlaw10_known k) (g_valid_Loops k) (g_parquetref10_Loops k) (g_parquetref00_SameInts k) (g_valid_Inside k) (g_parquetref10_Inside k) a0 a1 a2
theorem tells_parquetlaw10_ValidLoops (k : Nat) : TellsF Try.prog 4 [.d (.pair (.sl (.pair kI kI)) (.pair (.sl (.pair kI kI)) (.sl (.pair kI kI)))), .d kI, .d kI] [.bool] (fun x => g_parquetlaw10_ValidLoops k (x.1) (x.2.1) (x.2.2)) := fun x y h => fun_tells tb_ok mix (es := [⟨10, [.d (.pair (.sl (.pair kI kI)) (.pair (.sl (.pair kI kI)) (.sl (.pair kI kI))))], [.bool], fun x => g_parquetlaw10_many k x, none⟩, ⟨11, [], [.bool], fun x => g_parquetlaw10_known k, none⟩, ⟨16, [.d (.pair (.sl (.pair kI kI)) (.pair (.sl (.pair kI kI)) (.sl (.pair kI kI))))], [.sl (.sl kI), kI], fun x => g_valid_Loops k x, none⟩, ⟨17, [.d (.pair (.sl (.pair kI kI)) (.pair (.sl (.pair kI kI)) (.sl (.pair kI kI))))], [.sl (.sl kI), kI], fun x => g_parquetref10_Loops k x, none⟩, ⟨18, [.d (.sl kI), .d (.sl kI)], [.bool], fun x => g_parquetref00_SameInts k (x.1) (x.2), none⟩, ⟨19, [.d (.pair (.sl (.pair kI kI)) (.pair (.sl (.pair kI kI)) (.sl (.pair kI kI)))), .d kI, .d kI], [.bool], fun x => g_valid_Inside k (x.1) (x.2.1) (x.2.2), none⟩, ⟨20, [.d (.pair (.sl (.pair kI kI)) (.pair (.sl (.pair kI kI)) (.sl (.pair kI kI)))), .d kI, .d kI], [.bool], fun x => g_parquetref10_Inside k (x.1) (x.2.1) (x.2.2), none⟩]) (EsOk.cons (EntryOk.of rfl (tells_parquetlaw10_many k)) (EsOk.cons (EntryOk.of rfl (tells_parquetlaw10_known k)) (EsOk.cons (EntryOk.of rfl (tells_valid_Loops k)) (EsOk.cons (EntryOk.of rfl (tells_parquetref10_Loops k)) (EsOk.cons (EntryOk.of rfl (tells_parquetref00_SameInts k)) (EsOk.cons (EntryOk.of rfl (tells_valid_Inside k)) (EsOk.cons (EntryOk.of rfl (tells_parquetref10_Inside k)) (EsOk.nil _)))))))) Try.func4 (N := k) (an := an_parquetlaw10_ValidLoops) (by kernel_rfl) x y ((eq_parquetlaw10_ValidLoops k (g_parquetlaw10_many k) (g_parquetlaw10_known k) (g_valid_Loops k) (g_parquetref10_Loops k) (g_parquetref00_SameInts k) (g_valid_Inside k) (g_parquetref10_Inside k) (x.1) (x.2.1) (x.2.2)).trans h)

def an_parquetlaw10_renamed : Ann := .node none none .leaf (.node none none .leaf (.node none none .leaf (.node none none (.node none none .leaf (.node none none (.node none (some [(1, .d kI), (2, .box [.d (.pair (.sl (.pair kI kI)) (.pair (.sl (.pair kI kI)) (.sl (.pair kI kI))))]), (4, .box [.row (.pair kI kI) 49, .row (.pair kI kI) 53, .row (.pair kI kI) 53]), (5, .d kI), (6, .box [.row (.pair kI kI) 49, .row (.pair kI kI) 53, .row (.pair kI kI) 53]), (7, .d kI)]) .leaf .leaf) .leaf)) (.node none none (.node none none .leaf (.node none none (.node none (some [(1, .d kI), (2, .box [.d (.pair (.sl (.pair kI kI)) (.pair (.sl (.pair kI kI)) (.sl (.pair kI kI))))]), (4, .box [.row (.pair kI kI) 49, .row (.pair kI kI) 53, .row (.pair kI kI) 53]), (5, .d kI), (6, .box [.row (.pair kI kI) 49, .row (.pair kI kI) 53, .row (.pair kI kI) 53]), (8, .d kI)]) .leaf .leaf) .leaf)) (.node none none (.node none none .leaf (.node none none (.node none (some [(1, .d kI), (2, .box [.d (.pair (.sl (.pair kI kI)) (.pair (.sl (.pair kI kI)) (.sl (.pair kI kI))))]), (4, .box [.row (.pair kI kI) 49, .row (.pair kI kI) 53, .row (.pair kI kI) 53]), (5, .d kI), (6, .box [.row (.pair kI kI) 49, .row (.pair kI kI) 53, .row (.pair kI kI) 53]), (9, .d kI)]) .leaf .leaf) .leaf)) .leaf)))))
def g_parquetlaw10_renamed (k : Nat) (a0 : ((List (Int × Int)) × ((List (Int × Int)) × (List (Int × Int))))) (a1 : Int) : Option ((List (Int × Int)) × ((List (Int × Int)) × (List (Int × Int)))) :=
  loopN (α := (Int × (((List (Int × Int)) × ((List (Int × Int)) × (List (Int × Int)))) × (((List (Int × Int)) × ((List (Int × Int)) × (List (Int × Int)))) × (Int × (((List (Int × Int)) × ((List (Int × Int)) × (List (Int × Int)))) × Int)))))) (fun (x1, x2, x3, x4, x5, x6) next0 =>
    bif decide (x6 < x4) then
     gd (!(decide (x4 = 0))) <|
     gd (inb ((w64 (x6 + x1)).tmod x4) x2.1.length) <|
     gd (few (x5.1.length + 1)) <|
     next0 (x1, (x2.1, x2.2.1, x2.2.2), (x3.1, x3.2.1, x3.2.2), x4, (x5.1 ++ [((rdD (0, 0) x2.1 ((w64 (x6 + x1)).tmod x4)).1, (rdD (0, 0) x2.1 ((w64 (x6 + x1)).tmod x4)).2)], x5.2.1, x5.2.2), w64 (x6 + 1))
    else
     loopN (α := (Int × (((List (Int × Int)) × ((List (Int × Int)) × (List (Int × Int)))) × (((List (Int × Int)) × ((List (Int × Int)) × (List (Int × Int)))) × (Int × (((List (Int × Int)) × ((List (Int × Int)) × (List (Int × Int)))) × Int)))))) (fun (x8, x9, x10, x11, x12, x13) next7 =>
      bif decide (x13 < (x9.2.1.length : Int)) then
       gd (inb x13 x9.2.1.length) <|
       gd (!(decide (x11 = 0))) <|
       gd (inb x13 x9.2.1.length) <|
       gd (!(decide (x11 = 0))) <|
       gd (few (x12.2.1.length + 1)) <|
       next7 (x8, (x9.1, x9.2.1, x9.2.2), (x10.1, x10.2.1, x10.2.2), x11, (x12.1, x12.2.1 ++ [((w64 ((w64 ((rdD (0, 0) x9.2.1 x13).2 + x11)) - x8)).tmod x11, (w64 ((w64 ((rdD (0, 0) x9.2.1 x13).1 + x11)) - x8)).tmod x11)], x12.2.2), w64 (x13 + 1))
      else
       loopN (α := (Int × (((List (Int × Int)) × ((List (Int × Int)) × (List (Int × Int)))) × (((List (Int × Int)) × ((List (Int × Int)) × (List (Int × Int)))) × (Int × (((List (Int × Int)) × ((List (Int × Int)) × (List (Int × Int)))) × Int)))))) (fun (x15, x16, x17, x18, x19, x20) next14 =>
        bif decide (x20 < (x16.2.2.length : Int)) then
         gd (inb (w64 ((w64 ((x16.2.2.length : Int) - 1)) - x20)) x16.2.2.length) <|
         gd (!(decide (x18 = 0))) <|
         gd (inb (w64 ((w64 ((x16.2.2.length : Int) - 1)) - x20)) x16.2.2.length) <|
         gd (!(decide (x18 = 0))) <|
         gd (few (x19.2.2.length + 1)) <|
         next14 (x15, (x16.1, x16.2.1, x16.2.2), (x17.1, x17.2.1, x17.2.2), x18, (x19.1, x19.2.1, x19.2.2 ++ [((w64 ((w64 ((rdD (0, 0) x16.2.2 (w64 ((w64 ((x16.2.2.length : Int) - 1)) - x20))).1 + x18)) - x15)).tmod x18, (w64 ((w64 ((rdD (0, 0) x16.2.2 (w64 ((w64 ((x16.2.2.length : Int) - 1)) - x20))).2 + x18)) - x15)).tmod x18)]), w64 (x20 + 1))
        else
         some (x19.1, x19.2.1, x19.2.2)) k (x8, (x9.1, x9.2.1, x9.2.2), (x10.1, x10.2.1, x10.2.2), x11, (x12.1, x12.2.1, x12.2.2), 0)) k (x1, (x2.1, x2.2.1, x2.2.2), (x3.1, x3.2.1, x3.2.2), x4, (x5.1, x5.2.1, x5.2.2), 0)) k (a1, (a0.1, a0.2.1, a0.2.2), ([], [], []), (a0.1.length : Int), ([], [], []), 0)
theorem eq_parquetlaw10_renamed (k : Nat) (a0 : ((List (Int × Int)) × ((List (Int × Int)) × (List (Int × Int))))) (a1 : Int) : textF [] tb k Try.f22 an_parquetlaw10_renamed [.d (.pair (.sl (.pair kI kI)) (.pair (.sl (.pair kI kI)) (.sl (.pair kI kI)))), .d kI] [.pair (.sl (.pair kI kI)) (.pair (.sl (.pair kI kI)) (.sl (.pair kI kI)))] (a0, a1) = g_parquetlaw10_renamed k a0 a1 := by kernel_rfl
theorem tells_parquetlaw10_renamed (k : Nat) : TellsF Try.prog 22 [.d (.pair (.sl (.pair kI kI)) (.pair (.sl (.pair kI kI)) (.sl (.pair kI kI)))), .d kI] [.pair (.sl (.pair kI kI)) (.pair (.sl (.pair kI kI)) (.sl (.pair kI kI)))] (fun x => g_parquetlaw10_renamed k (x.1) (x.2)) := fun x y h => fun_tells tb_ok mix (es := []) (EsOk.nil _) Try.func22 (N := k) (an := an_parquetlaw10_renamed) (by kernel_rfl) x y ((eq_parquetlaw10_renamed k (x.1) (x.2)).trans h)

def an_parquetlaw10_ValidSame : Ann := .node none none .leaf (.node none none (.node none none (.node (some [(1, .d kI), (2, .box [.d (.pair (.sl (.pair kI kI)) (.pair (.sl (.pair kI kI)) (.sl (.pair kI kI))))]), (29, .d .bool)]) none .leaf .leaf) .leaf) (.node none none .leaf (.node none none .leaf (.node none none .leaf (.node none none .leaf (.node none none .leaf (.node none none (.node none none .leaf (.node none none (.node none (some [(2, .box [.d (.pair (.sl (.pair kI kI)) (.pair (.sl (.pair kI kI)) (.sl (.pair kI kI))))]), (5, .box [.d (.pair kI (.pair kI kI))]), (7, .box [.d (.pair (.sl (.pair kI kI)) (.pair (.sl (.pair kI kI)) (.sl (.pair kI kI))))]), (8, .box [.row (.pair kI kI) 49, .row (.pair kI kI) 53, .row (.pair kI kI) 53]), (9, .box [.row (.pair kI kI) 49, .row (.pair kI kI) 53, .row (.pair kI kI) 53]), (10, .d kI)]) .leaf .leaf) .leaf)) (.node none none .leaf (.node none none .leaf (.node none none .leaf (.node none none (.node (some [(4, .d .bool)]) none .leaf .leaf) .leaf)))))))))))
def b_parquetlaw10_ValidSame (k : Nat) (c_parquetlaw10_many : ((List (Int × Int)) × ((List (Int × Int)) × (List (Int × Int)))) → Option Bool) (c_parquetref05_Check : ((List (Int × Int)) × ((List (Int × Int)) × (List (Int × Int)))) → Option Int) (c_parquetlaw10_known : Option Bool) (c_valid_First : ((List (Int × Int)) × ((List (Int × Int)) × (List (Int × Int)))) → Option ((Int × (Int × Int)) × Int)) (c_parquetlaw10_renamed : ((List (Int × Int)) × ((List (Int × Int)) × (List (Int × Int)))) → Int → Option ((List (Int × Int)) × ((List (Int × Int)) × (List (Int × Int))))) (a0 : ((List (Int × Int)) × ((List (Int × Int)) × (List (Int × Int))))) (a1 : Int) : Option Bool :=
  meet (α := (Int × (((List (Int × Int)) × ((List (Int × Int)) × (List (Int × Int)))) × Bool))) (fun (y0, y1, y2) =>
    bif y2 then
     bnd (c_parquetlaw10_known) fun r3 =>
     some r3
    else
     bnd (c_valid_First (y1.1, y1.2.1, y1.2.2)) fun r4 =>
     bif !(decide (r4.2 = 0)) then
      some false
     else
      gd (!(decide ((IntKind.wrap .u64 (y1.1.length : Int)) = 0))) <|
      bnd (c_parquetlaw10_renamed (y1.1, y1.2.1, y1.2.2) (w64 ((IntKind.wrap .u64 y0).tmod (IntKind.wrap .u64 (y1.1.length : Int))))) fun r5 =>
      gd (few y1.1.length) <|
      gd (few y1.2.1.length) <|
      gd (few y1.2.2.length) <|
      gd (few y1.1.length) <|
      gd (few y1.2.1.length) <|
      gd (few y1.2.2.length) <|
      loopN (α := (((List (Int × Int)) × ((List (Int × Int)) × (List (Int × Int)))) × ((Int × (Int × Int)) × (((List (Int × Int)) × ((List (Int × Int)) × (List (Int × Int)))) × (((List (Int × Int)) × ((List (Int × Int)) × (List (Int × Int)))) × (((List (Int × Int)) × ((List (Int × Int)) × (List (Int × Int)))) × Int)))))) (fun (x7, x8, x9, x10, x11, x12) next6 =>
       bif decide (x12 < (x7.1.length : Int)) then
        gd (inb x12 x7.1.length) <|
        gd (inb x12 x7.1.length) <|
        gd (inb x12 x10.1.length) <|
        gd (inb x12 x7.1.length) <|
        gd (inb x12 x7.1.length) <|
        gd (inb x12 x11.1.length) <|
        next6 ((x7.1, x7.2.1, x7.2.2), (x8.1, x8.2.1, x8.2.2), (x9.1, x9.2.1, x9.2.2), (stL x10.1 x12 (w64 (0 - (rdD (0, 0) x7.1 x12).2), (rdD (0, 0) x7.1 x12).1), x10.2.1, x10.2.2), (stL x11.1 x12 (w64 (0 - (rdD (0, 0) x7.1 x12).1), (rdD (0, 0) x7.1 x12).2), x11.2.1, x11.2.2), w64 (x12 + 1))
       else
        bnd (c_valid_First (x9.1, x9.2.1, x9.2.2)) fun r13 =>
        bnd (c_valid_First (x10.1, x10.2.1, x10.2.2)) fun r14 =>
        bnd (c_valid_First (x11.1, x11.2.1, x11.2.2)) fun r15 =>
        meet (α := Bool) (fun y16 =>
         some y16) fun j17 =>
        bif decide (r13.2 = 0) then
         bif decide (r14.2 = 0) then
          bif decide (r15.2 = 0) then
           bif decide (r13.1.1 = x8.1) then
            bif (decide (r14.1.1 = x8.1)) && ((decide (r14.1.2.1 = x8.2.1)) && (decide (r14.1.2.2 = x8.2.2))) then
             bif (decide (r15.1.1 = x8.1)) && ((decide (r15.1.2.1 = x8.2.1)) && (decide (r15.1.2.2 = x8.2.2))) then
              bnd (c_parquetlaw10_known) fun r18 =>
              j17 r18
             else
              j17 false
            else
             j17 false
           else
            j17 false
          else
           j17 false
         else
          j17 false
        else
         j17 false) k ((y1.1, y1.2.1, y1.2.2), (r4.1.1, r4.1.2.1, r4.1.2.2), (r5.1, r5.2.1, r5.2.2), (y1.1, y1.2.1, y1.2.2), (y1.1, y1.2.1, y1.2.2), 0)) fun j19 =>
   bnd (c_parquetlaw10_many (a0.1, a0.2.1, a0.2.2)) fun r20 =>
   bif r20 then
    j19 (a1, (a0.1, a0.2.1, a0.2.2), true)
   else
    bif decide ((a0.1.length : Int) = 0) then
     j19 (a1, (a0.1, a0.2.1, a0.2.2), true)
    else
     bnd (c_parquetref05_Check (a0.1, a0.2.1, a0.2.2)) fun r21 =>
     j19 (a1, (a0.1, a0.2.1, a0.2.2), !(decide (r21 = 0)))
theorem eq_parquetlaw10_ValidSame (k : Nat) (c_parquetlaw10_many : ((List (Int × Int)) × ((List (Int × Int)) × (List (Int × Int)))) → Option Bool) (c_parquetref05_Check : ((List (Int × Int)) × ((List (Int × Int)) × (List (Int × Int)))) → Option Int) (c_parquetlaw10_known : Option Bool) (c_valid_First : ((List (Int × Int)) × ((List (Int × Int)) × (List (Int × Int)))) → Option ((Int × (Int × Int)) × Int)) (c_parquetlaw10_renamed : ((List (Int × Int)) × ((List (Int × Int)) × (List (Int × Int)))) → Int → Option ((List (Int × Int)) × ((List (Int × Int)) × (List (Int × Int))))) (a0 : ((List (Int × Int)) × ((List (Int × Int)) × (List (Int × Int))))) (a1 : Int) : textF [⟨12, [], [], fun _ => none, some (tb, Try.f12)⟩, ⟨10, [.d (.pair (.sl (.pair kI kI)) (.pair (.sl (.pair kI kI)) (.sl (.pair kI kI))))], [.bool], fun x => c_parquetlaw10_many x, none⟩, ⟨21, [.d (.pair (.sl (.pair kI kI)) (.pair (.sl (.pair kI kI)) (.sl (.pair kI kI))))], [kI], fun x => c_parquetref05_Check x, none⟩, ⟨11, [], [.bool], fun x => c_parquetlaw10_known, none⟩, ⟨13, [.d (.pair (.sl (.pair kI kI)) (.pair (.sl (.pair kI kI)) (.sl (.pair kI kI))))], [.pair kI (.pair kI kI), kI], fun x => c_valid_First x, none⟩, ⟨22, [.d (.pair (.sl (.pair kI kI)) (.pair (.sl (.pair kI kI)) (.sl (.pair kI kI)))), .d kI], [.pair (.sl (.pair kI kI)) (.pair (.sl (.pair kI kI)) (.sl (.pair kI kI)))], fun x => c_parquetlaw10_renamed (x.1) (x.2), none⟩] tb k Try.f5 an_parquetlaw10_ValidSame [.d (.pair (.sl (.pair kI kI)) (.pair (.sl (.pair kI kI)) (.sl (.pair kI kI)))), .d kI] [.bool] (a0, a1) = b_parquetlaw10_ValidSame k c_parquetlaw10_many c_parquetref05_Check c_parquetlaw10_known c_valid_First c_parquetlaw10_renamed a0 a1 := by kernel_rfl
def g_parquetlaw10_ValidSame (k : Nat) (a0 : ((List (Int × Int)) × ((List (Int × Int)) × (List (Int × Int))))) (a1 : Int) : Option Bool := b_parquetlaw10_ValidSame k (g_parquetlaw10_many k) (g_parquetref05_Check k) (g_parquetlaw10_known k) (g_valid_First k) (g_parquetlaw10_renamed k) a0 a1
theorem tells_parquetlaw10_ValidSame (k : Nat) : TellsF Try.prog 5 [.d (.pair (.sl (.pair kI kI)) (.pair (.sl (.pair kI kI)) (.sl (.pair kI kI)))), .d kI] [.bool] (fun x => g_parquetlaw10_ValidSame k (x.1) (x.2)) := fun x y h => fun_tells tb_ok mix (es := [⟨12, [], [], fun _ => none, some (tb, Try.f12)⟩, ⟨10, [.d (.pair (.sl (.pair kI kI)) (.pair (.sl (.pair kI kI)) (.sl (.pair kI kI))))], [.bool], fun x => g_parquetlaw10_many k x, none⟩, ⟨21, [.d (.pair (.sl (.pair kI kI)) (.pair (.sl (.pair kI kI)) (.sl (.pair kI kI))))], [kI], fun x => g_parquetref05_Check k x, none⟩, ⟨11, [], [.bool], fun x => g_parquetlaw10_known k, none⟩, ⟨13, [.d (.pair (.sl (.pair kI kI)) (.pair (.sl (.pair kI kI)) (.sl (.pair kI kI))))], [.pair kI (.pair kI kI), kI], fun x => g_valid_First k x, none⟩, ⟨22, [.d (.pair (.sl (.pair kI kI)) (.pair (.sl (.pair kI kI)) (.sl (.pair kI kI)))), .d kI], [.pair (.sl (.pair kI kI)) (.pair (.sl (.pair kI kI)) (.sl (.pair kI kI)))], fun x => g_parquetlaw10_renamed k (x.1) (x.2), none⟩]) (EsOk.cons (EntryOk.go tb_ok mix Try.func12 (by kernel_rfl)) (EsOk.cons (EntryOk.of rfl (tells_parquetlaw10_many k)) (EsOk.cons (EntryOk.of rfl (tells_parquetref05_Check k)) (EsOk.cons (EntryOk.of rfl (tells_parquetlaw10_known k)) (EsOk.cons (EntryOk.of rfl (tells_valid_First k)) (EsOk.cons (EntryOk.of rfl (tells_parquetlaw10_renamed k)) (EsOk.nil _))))))) Try.func5 (N := k) (an := an_parquetlaw10_ValidSame) (by kernel_rfl) x y ((eq_parquetlaw10_ValidSame k (g_parquetlaw10_many k) (g_parquetref05_Check k) (g_parquetlaw10_known k) (g_valid_First k) (g_parquetlaw10_renamed k) (x.1) (x.2)).trans h)

def an_parquetlaw10_ValidRight : Ann := .node none none .leaf (.node none none .leaf (.node none none .leaf (.node none none (.node none none (.node (some [(1, .box [.d (.pair (.sl (.pair kI kI)) (.pair (.sl (.pair kI kI)) (.sl (.pair kI kI))))]), (25, .d .bool)]) none .leaf .leaf) .leaf) (.node none none .leaf (.node none none (.node none none (.node (some [(1, .box [.d (.pair (.sl (.pair kI kI)) (.pair (.sl (.pair kI kI)) (.sl (.pair kI kI))))]), (5, .d (.sl (.sl kI))), (44, .d .bool)]) none .leaf .leaf) .leaf) (.node none none .leaf (.node none none (.node none none .leaf (.node none none (.node none (some [(1, .box [.d (.pair (.sl (.pair kI kI)) (.pair (.sl (.pair kI kI)) (.sl (.pair kI kI))))]), (5, .d (.sl (.sl kI))), (7, .d kI), (8, .d kI)]) .leaf .leaf) .leaf)) (.node none none .leaf (.node none none .leaf (.node none none (.node none none .leaf (.node none none (.node none (some [(1, .box [.d (.pair (.sl (.pair kI kI)) (.pair (.sl (.pair kI kI)) (.sl (.pair kI kI))))]), (9, .d (.sl (.pair kI kI))), (10, .d kI)]) (.node none none .leaf (.node none none (.node none none (.node none none (.node (some [(1, .box [.d (.pair (.sl (.pair kI kI)) (.pair (.sl (.pair kI kI)) (.sl (.pair kI kI))))]), (9, .d (.sl (.pair kI kI))), (10, .d kI), (127, .d .bool)]) none .leaf .leaf) .leaf) .leaf) .leaf)) .leaf) .leaf)) .leaf))))))))))
def b_parquetlaw10_ValidRight (k : Nat) (c_parquetlaw10_many : ((List (Int × Int)) × ((List (Int × Int)) × (List (Int × Int)))) → Option Bool) (c_parquetlaw10_known : Option Bool) (c_valid_First : ((List (Int × Int)) × ((List (Int × Int)) × (List (Int × Int)))) → Option ((Int × (Int × Int)) × Int)) (c_valid_Loops : ((List (Int × Int)) × ((List (Int × Int)) × (List (Int × Int)))) → Option ((List (List Int)) × Int)) (c_parquetref10_All : ((List (Int × Int)) × ((List (Int × Int)) × (List (Int × Int)))) → Option (List (Int × Int))) (c_valid_Inside : ((List (Int × Int)) × ((List (Int × Int)) × (List (Int × Int)))) → Int → Int → Option Bool) (a0 : ((List (Int × Int)) × ((List (Int × Int)) × (List (Int × Int))))) : Option Bool :=
  bnd (c_parquetlaw10_many (a0.1, a0.2.1, a0.2.2)) fun r0 =>
   bif r0 then
    bnd (c_parquetlaw10_known) fun r1 =>
    some r1
   else
    bnd (c_valid_First (a0.1, a0.2.1, a0.2.2)) fun r2 =>
    meet (α := (((List (Int × Int)) × ((List (Int × Int)) × (List (Int × Int)))) × Bool)) (fun (y3, y4) =>
     bif y4 then
      bnd (c_parquetlaw10_known) fun r5 =>
      some r5
     else
      bnd (c_valid_Loops (y3.1, y3.2.1, y3.2.2)) fun r6 =>
      meet (α := (((List (Int × Int)) × ((List (Int × Int)) × (List (Int × Int)))) × ((List (List Int)) × Bool))) (fun (y7, y8, y9) =>
       bif y9 then
        some false
       else
        loopN (α := (((List (Int × Int)) × ((List (Int × Int)) × (List (Int × Int)))) × ((List (List Int)) × (Int × Int)))) (fun (x11, x12, x13, x14) next10 =>
         bif decide (x14 < (x12.length : Int)) then
          gd (inb x14 x12.length) <|
          gd (inb x14 x12.length) <|
          bif decide (((rdD [] x12 x14).length : Int) < 3) then
           some false
          else
           next10 ((x11.1, x11.2.1, x11.2.2), x12, w64 (x13 + ((rdD [] x12 x14).length : Int)), w64 (x14 + 1))
         else
          bif !(decide (x13 = (x11.2.1.length : Int))) then
           some false
          else
           bnd (c_parquetref10_All (x11.1, x11.2.1, x11.2.2)) fun r15 =>
           loopN (α := (((List (Int × Int)) × ((List (Int × Int)) × (List (Int × Int)))) × ((List (Int × Int)) × Int))) (fun (x17, x18, x19) next16 =>
            bif decide (x19 < (x18.length : Int)) then
             meet (α := (((List (Int × Int)) × ((List (Int × Int)) × (List (Int × Int)))) × ((List (Int × Int)) × (Int × Bool)))) (fun (y20, y21, y22, y23) =>
              bif y23 then
               some false
              else
               next16 ((y20.1, y20.2.1, y20.2.2), y21, w64 (y22 + 1))) fun j24 =>
             gd (inb x19 x18.length) <|
             bif decide ((rdD (0, 0) x18 x19).1 < 0) then
              j24 ((x17.1, x17.2.1, x17.2.2), x18, x19, true)
             else
              gd (inb x19 x18.length) <|
              bif decide ((rdD (0, 0) x18 x19).1 ≥ (x17.1.length : Int)) then
               j24 ((x17.1, x17.2.1, x17.2.2), x18, x19, true)
              else
               gd (inb x19 x18.length) <|
               bif decide ((rdD (0, 0) x18 x19).2 < 0) then
                j24 ((x17.1, x17.2.1, x17.2.2), x18, x19, true)
               else
                gd (inb x19 x18.length) <|
                bif decide ((rdD (0, 0) x18 x19).2 ≥ (x17.1.length : Int)) then
                 j24 ((x17.1, x17.2.1, x17.2.2), x18, x19, true)
                else
                 gd (inb x19 x18.length) <|
                 gd (inb x19 x18.length) <|
                 bnd (c_valid_Inside (x17.1, x17.2.1, x17.2.2) (rdD (0, 0) x18 x19).1 (rdD (0, 0) x18 x19).2) fun r25 =>
                 j24 ((x17.1, x17.2.1, x17.2.2), x18, x19, !r25)
            else
             bnd (c_parquetlaw10_known) fun r26 =>
             some r26) k ((x11.1, x11.2.1, x11.2.2), r15, 0)) k ((y7.1, y7.2.1, y7.2.2), y8, 0, 0)) fun j27 =>
      bif !(decide (r6.2 = 0)) then
       j27 ((y3.1, y3.2.1, y3.2.2), r6.1, true)
      else
       bif decide ((r6.1.length : Int) = 0) then
        j27 ((y3.1, y3.2.1, y3.2.2), r6.1, true)
       else
        j27 ((y3.1, y3.2.1, y3.2.2), r6.1, decide ((y3.1.length : Int) < 3))) fun j28 =>
    bif !(decide (r2.2 = 0)) then
     j28 ((a0.1, a0.2.1, a0.2.2), true)
    else
     j28 ((a0.1, a0.2.1, a0.2.2), !(decide (r2.1.1 = 0)))
theorem eq_parquetlaw10_ValidRight (k : Nat) (c_parquetlaw10_many : ((List (Int × Int)) × ((List (Int × Int)) × (List (Int × Int)))) → Option Bool) (c_parquetlaw10_known : Option Bool) (c_valid_First : ((List (Int × Int)) × ((List (Int × Int)) × (List (Int × Int)))) → Option ((Int × (Int × Int)) × Int)) (c_valid_Loops : ((List (Int × Int)) × ((List (Int × Int)) × (List (Int × Int)))) → Option ((List (List Int)) × Int)) (c_parquetref10_All : ((List (Int × Int)) × ((List (Int × Int)) × (List (Int × Int)))) → Option (List (Int × Int))) (c_valid_Inside : ((List (Int × Int)) × ((List (Int × Int)) × (List (Int × Int)))) → Int → Int → Option Bool) (a0 : ((List (Int × Int)) × ((List (Int × Int)) × (List (Int × Int))))) : textF [⟨10, [.d (.pair (.sl (.pair kI kI)) (.pair (.sl (.pair kI kI)) (.sl (.pair kI kI))))], [.bool], fun x => c_parquetlaw10_many x, none⟩, ⟨11, [], [.bool], fun x => c_parquetlaw10_known, none⟩, ⟨13, [.d (.pair (.sl (.pair kI kI)) (.pair (.sl (.pair kI kI)) (.sl (.pair kI kI))))], [.pair kI (.pair kI kI), kI], fun x => c_valid_First x, none⟩, ⟨16, [.d (.pair (.sl (.pair kI kI)) (.pair (.sl (.pair kI kI)) (.sl (.pair kI kI))))], [.sl (.sl kI), kI], fun x => c_valid_Loops x, none⟩, ⟨23, [.d (.pair (.sl (.pair kI kI)) (.pair (.sl (.pair kI kI)) (.sl (.pair kI kI))))], [.sl (.pair kI kI)], fun x => c_parquetref10_All x, none⟩, ⟨19, [.d (.pair (.sl (.pair kI kI)) (.pair (.sl (.pair kI kI)) (.sl (.pair kI kI)))), .d kI, .d kI], [.bool], fun x => c_valid_Inside (x.1) (x.2.1) (x.2.2), none⟩] tb k Try.f6 an_parquetlaw10_ValidRight [.d (.pair (.sl (.pair kI kI)) (.pair (.sl (.pair kI kI)) (.sl (.pair kI kI))))] [.bool] a0 = b_parquetlaw10_ValidRight k c_parquetlaw10_many c_parquetlaw10_known c_valid_First c_valid_Loops c_parquetref10_All c_valid_Inside a0 := by kernel_rfl
def g_parquetlaw10_ValidRight (k : Nat) (a0 : ((List (Int × Int)) × ((List (Int × Int)) × (List (Int × Int))))) : Option Bool := b_parquetlaw10_ValidRight k (g_parquetlaw10_many k) (g_parquetlaw10_known k) (g_valid_First k) (g_valid_Loops k) (g_parquetref10_All k) (g_valid_Inside k) a0
theorem tells_parquetlaw10_ValidRight (k : Nat) : TellsF Try.prog 6 [.d (.pair (.sl (.pair kI kI)) (.pair (.sl (.pair kI kI)) (.sl (.pair kI kI))))] [.bool] (fun x => g_parquetlaw10_ValidRight k x) := fun x y h => fun_tells tb_ok mix (es := [⟨10, [.d (.pair (.sl (.pair kI kI)) (.pair (.sl (.pair kI kI)) (.sl (.pair kI kI))))], [.bool], fun x => g_parquetlaw10_many k x, none⟩, ⟨11, [], [.bool], fun x => g_parquetlaw10_known k, none⟩, ⟨13, [.d (.pair (.sl (.pair kI kI)) (.pair (.sl (.pair kI kI)) (.sl (.pair kI kI))))], [.pair kI (.pair kI kI), kI], fun x => g_valid_First k x, none⟩, ⟨16, [.d (.pair (.sl (.pair kI kI)) (.pair (.sl (.pair kI kI)) (.sl (.pair kI kI))))], [.sl (.sl kI), kI], fun x => g_valid_Loops k x, none⟩, ⟨23, [.d (.pair (.sl (.pair kI kI)) (.pair (.sl (.pair kI kI)) (.sl (.pair kI kI))))], [.sl (.pair kI kI)], fun x => g_parquetref10_All k x, none⟩, ⟨19, [.d (.pair (.sl (.pair kI kI)) (.pair (.sl (.pair kI kI)) (.sl (.pair kI kI)))), .d kI, .d kI], [.bool], fun x => g_valid_Inside k (x.1) (x.2.1) (x.2.2), none⟩]) (EsOk.cons (EntryOk.of rfl (tells_parquetlaw10_many k)) (EsOk.cons (EntryOk.of rfl (tells_parquetlaw10_known k)) (EsOk.cons (EntryOk.of rfl (tells_valid_First k)) (EsOk.cons (EntryOk.of rfl (tells_valid_Loops k)) (EsOk.cons (EntryOk.of rfl (tells_parquetref10_All k)) (EsOk.cons (EntryOk.of rfl (tells_valid_Inside k)) (EsOk.nil _))))))) Try.func6 (N := k) (an := an_parquetlaw10_ValidRight) (by kernel_rfl) x y ((eq_parquetlaw10_ValidRight k (g_parquetlaw10_many k) (g_parquetlaw10_known k) (g_valid_First k) (g_valid_Loops k) (g_parquetref10_All k) (g_valid_Inside k) x).trans h)

def an_parquetlaw10_ValidHurt : Ann := .node none none .leaf (.node none none (.node none none (.node (some [(1, .d kI), (2, .box [.d (.pair (.sl (.pair kI kI)) (.pair (.sl (.pair kI kI)) (.sl (.pair kI kI))))]), (50, .d .bool)]) none .leaf .leaf) .leaf) (.node none none .leaf (.node none none (.node none none (.node (some [(1, .d kI), (2, .box [.d (.pair (.sl (.pair kI kI)) (.pair (.sl (.pair kI kI)) (.sl (.pair kI kI))))]), (63, .d .bool)]) none .leaf .leaf) .leaf) (.node none none .leaf (.node none none .leaf (.node none none .leaf (.node none none .leaf (.node none none .leaf (.node none none .leaf (.node none none .leaf (.node none none .leaf (.node none none .leaf (.node none none .leaf (.node none none .leaf (.node none none .leaf (.node none none .leaf (.node none none .leaf (.node none none .leaf (.node none none .leaf (.node none none .leaf (.node none none (.node none none .leaf (.node none none (.node none (some [(2, .box [.d (.pair (.sl (.pair kI kI)) (.pair (.sl (.pair kI kI)) (.sl (.pair kI kI))))]), (8, .box [.d (.pair kI (.pair kI kI))]), (11, .box [.d (.pair kI (.pair kI kI))]), (16, .box [.d (.pair kI (.pair kI kI))]), (20, .box [.d (.pair kI (.pair kI kI))]), (22, .d kI)]) (.node none none .leaf (.node none none (.node none none (.node none none (.node (some [(2, .box [.d (.pair (.sl (.pair kI kI)) (.pair (.sl (.pair kI kI)) (.sl (.pair kI kI))))]), (8, .box [.d (.pair kI (.pair kI kI))]), (11, .box [.d (.pair kI (.pair kI kI))]), (16, .box [.d (.pair kI (.pair kI kI))]), (20, .box [.d (.pair kI (.pair kI kI))]), (22, .d kI), (179, .d .bool)]) none .leaf .leaf) (.node (some [(2, .box [.d (.pair (.sl (.pair kI kI)) (.pair (.sl (.pair kI kI)) (.sl (.pair kI kI))))]), (8, .box [.d (.pair kI (.pair kI kI))]), (11, .box [.d (.pair kI (.pair kI kI))]), (16, .box [.d (.pair kI (.pair kI kI))]), (20, .box [.d (.pair kI (.pair kI kI))]), (22, .d kI)]) none .leaf .leaf)) .leaf) .leaf)) .leaf) .leaf)) (.node none none .leaf (.node none none (.node none none .leaf (.node (some [(8, .box [.d (.pair kI (.pair kI kI))]), (11, .box [.d (.pair kI (.pair kI kI))]), (16, .box [.d (.pair kI (.pair kI kI))]), (20, .box [.d (.pair kI (.pair kI kI))]), (23, .box [.row (.pair kI kI) 49, .row (.pair kI kI) 53, .d (.sl (.pair kI kI))])]) none .leaf .leaf)) (.node none none .leaf (.node none none (.node (some [(4, .d .bool)]) none .leaf .leaf) .leaf)))))))))))))))))))))))))
def b_parquetlaw10_ValidHurt (k : Nat) (c_parquetlaw10_many : ((List (Int × Int)) × ((List (Int × Int)) × (List (Int × Int)))) → Option Bool) (c_parquetref05_Check : ((List (Int × Int)) × ((List (Int × Int)) × (List (Int × Int)))) → Option Int) (c_parquetlaw10_known : Option Bool) (c_valid_First : ((List (Int × Int)) × ((List (Int × Int)) × (List (Int × Int)))) → Option ((Int × (Int × Int)) × Int)) (a0 : ((List (Int × Int)) × ((List (Int × Int)) × (List (Int × Int))))) (a1 : Int) : Option Bool :=
  meet (α := (Int × (((List (Int × Int)) × ((List (Int × Int)) × (List (Int × Int)))) × Bool))) (fun (y0, y1, y2) =>
    bif y2 then
     bnd (c_parquetlaw10_known) fun r3 =>
     some r3
    else
     bnd (c_valid_First (y1.1, y1.2.1, y1.2.2)) fun r4 =>
     meet (α := (Int × (((List (Int × Int)) × ((List (Int × Int)) × (List (Int × Int)))) × Bool))) (fun (y5, y6, y7) =>
      bif y7 then
       bnd (c_parquetlaw10_known) fun r8 =>
       some r8
      else
       gd (few y6.1.length) <|
       gd (few y6.2.1.length) <|
       gd (few y6.2.2.length) <|
       gd (!(decide ((IntKind.wrap .u64 (y6.1.length : Int)) = 0))) <|
       gd (inb (w64 ((IntKind.wrap .u64 y5).tmod (IntKind.wrap .u64 (y6.1.length : Int)))) y6.1.length) <|
       gd (few (y6.1.length + 1)) <|
       bnd (c_valid_First (y6.1 ++ [((rdD (0, 0) y6.1 (w64 ((IntKind.wrap .u64 y5).tmod (IntKind.wrap .u64 (y6.1.length : Int))))).1, (rdD (0, 0) y6.1 (w64 ((IntKind.wrap .u64 y5).tmod (IntKind.wrap .u64 (y6.1.length : Int))))).2)], y6.2.1, y6.2.2)) fun r9 =>
       gd (few y6.1.length) <|
       gd (few y6.2.1.length) <|
       gd (few y6.2.2.length) <|
       gd (!(decide ((IntKind.wrap .u64 (y6.2.1.length : Int)) = 0))) <|
       gd (inb (w64 ((IntKind.wrap .u64 y5).tmod (IntKind.wrap .u64 (y6.2.1.length : Int)))) y6.2.1.length) <|
       gd (few (y6.2.1.length + 1)) <|
       bnd (c_valid_First (y6.1, y6.2.1 ++ [((rdD (0, 0) y6.2.1 (w64 ((IntKind.wrap .u64 y5).tmod (IntKind.wrap .u64 (y6.2.1.length : Int))))).1, (rdD (0, 0) y6.2.1 (w64 ((IntKind.wrap .u64 y5).tmod (IntKind.wrap .u64 (y6.2.1.length : Int))))).2)], y6.2.2)) fun r10 =>
       gd (few y6.1.length) <|
       gd (few y6.2.1.length) <|
       gd (few y6.2.2.length) <|
       gd (!(decide ((IntKind.wrap .u64 (y6.2.1.length : Int)) = 0))) <|
       gd (decide (0 ≤ (w64 ((IntKind.wrap .u64 y5).tmod (IntKind.wrap .u64 (y6.2.1.length : Int)))))) <|
       gd (decide ((w64 ((IntKind.wrap .u64 y5).tmod (IntKind.wrap .u64 (y6.2.1.length : Int)))) ≤ (y6.2.1.length : Int))) <|
       gd (few (tkL y6.2.1 (w64 ((IntKind.wrap .u64 y5).tmod (IntKind.wrap .u64 (y6.2.1.length : Int))))).length) <|
       gd (decide (0 ≤ (w64 ((w64 ((IntKind.wrap .u64 y5).tmod (IntKind.wrap .u64 (y6.2.1.length : Int)))) + 1)))) <|
       gd (decide ((w64 ((w64 ((IntKind.wrap .u64 y5).tmod (IntKind.wrap .u64 (y6.2.1.length : Int)))) + 1)) ≤ (y6.2.1.length : Int))) <|
       gd (few ((tkL y6.2.1 (w64 ((IntKind.wrap .u64 y5).tmod (IntKind.wrap .u64 (y6.2.1.length : Int))))).length + (dpL y6.2.1 (w64 ((w64 ((IntKind.wrap .u64 y5).tmod (IntKind.wrap .u64 (y6.2.1.length : Int)))) + 1))).length)) <|
       bnd (c_valid_First (y6.1, (tkL y6.2.1 (w64 ((IntKind.wrap .u64 y5).tmod (IntKind.wrap .u64 (y6.2.1.length : Int))))) ++ (dpL y6.2.1 (w64 ((w64 ((IntKind.wrap .u64 y5).tmod (IntKind.wrap .u64 (y6.2.1.length : Int)))) + 1))), y6.2.2)) fun r11 =>
       gd (few y6.1.length) <|
       gd (few y6.2.1.length) <|
       gd (few y6.2.2.length) <|
       gd (few (y6.1.length + 1)) <|
       bnd (c_valid_First (y6.1 ++ [(1048576, 1048576)], y6.2.1, y6.2.2)) fun r12 =>
       loopN (α := (((List (Int × Int)) × ((List (Int × Int)) × (List (Int × Int)))) × ((Int × (Int × Int)) × ((Int × (Int × Int)) × ((Int × (Int × Int)) × ((Int × (Int × Int)) × Int)))))) (fun (x14, x15, x16, x17, x18, x19) next13 =>
        bif decide (x19 < (x14.1.length : Int)) then
         meet (α := (((List (Int × Int)) × ((List (Int × Int)) × (List (Int × Int)))) × ((Int × (Int × Int)) × ((Int × (Int × Int)) × ((Int × (Int × Int)) × ((Int × (Int × Int)) × (Int × Bool))))))) (fun (y20, y21, y22, y23, y24, y25, y26) =>
          meet (α := (((List (Int × Int)) × ((List (Int × Int)) × (List (Int × Int)))) × ((Int × (Int × Int)) × ((Int × (Int × Int)) × ((Int × (Int × Int)) × ((Int × (Int × Int)) × Int)))))) (fun (y27, y28, y29, y30, y31, y32) =>
           next13 ((y27.1, y27.2.1, y27.2.2), (y28.1, y28.2.1, y28.2.2), (y29.1, y29.2.1, y29.2.2), (y30.1, y30.2.1, y30.2.2), (y31.1, y31.2.1, y31.2.2), w64 (y32 + 1))) fun j33 =>
          bif y26 then
           j33 ((y20.1, y20.2.1, y20.2.2), (y21.1, y21.2.1, y21.2.2), (y22.1, y22.2.1, y22.2.2), (y23.1, y23.2.1, y23.2.2), (8, y24.2.1, y24.2.2), y25)
          else
           j33 ((y20.1, y20.2.1, y20.2.2), (y21.1, y21.2.1, y21.2.2), (y22.1, y22.2.1, y22.2.2), (y23.1, y23.2.1, y23.2.2), (y24.1, y24.2.1, y24.2.2), y25)) fun j34 =>
         gd (inb x19 x14.1.length) <|
         bif decide ((rdD (0, 0) x14.1 x19).1 = 1048576) then
          j34 ((x14.1, x14.2.1, x14.2.2), (x15.1, x15.2.1, x15.2.2), (x16.1, x16.2.1, x16.2.2), (x17.1, x17.2.1, x17.2.2), (x18.1, x18.2.1, x18.2.2), x19, true)
         else
          gd (inb x19 x14.1.length) <|
          j34 ((x14.1, x14.2.1, x14.2.2), (x15.1, x15.2.1, x15.2.2), (x16.1, x16.2.1, x16.2.2), (x17.1, x17.2.1, x17.2.2), (x18.1, x18.2.1, x18.2.2), x19, decide ((rdD (0, 0) x14.1 x19).2 = 1048576))
        else
         gd (few x14.1.length) <|
         gd (few x14.2.1.length) <|
         gd (few x14.2.2.length) <|
         meet (α := ((Int × (Int × Int)) × ((Int × (Int × Int)) × ((Int × (Int × Int)) × ((Int × (Int × Int)) × ((List (Int × Int)) × ((List (Int × Int)) × (List (Int × Int))))))))) (fun (y35, y36, y37, y38, y39, y40, y41) =>
          bnd (c_valid_First (y39, y40, y41)) fun r42 =>
          meet (α := Bool) (fun y43 =>
           some y43) fun j44 =>
          bif decide (y35.1 = 1) then
           bif decide (y36.1 = 3) then
            bif decide (y37.1 = 5) then
             bif decide (y38.1 = 8) then
              bif decide (r42.1.1 = 0) then
               bnd (c_parquetlaw10_known) fun r45 =>
               j44 r45
              else
               j44 false
             else
              j44 false
            else
             j44 false
           else
            j44 false
          else
           j44 false) fun j46 =>
         bif decide ((x14.2.2.length : Int) > 0) then
          gd (decide (1 ≤ (x14.2.2.length : Int))) <|
          j46 ((x15.1, x15.2.1, x15.2.2), (x16.1, x16.2.1, x16.2.2), (x17.1, x17.2.1, x17.2.2), (x18.1, x18.2.1, x18.2.2), x14.1, x14.2.1, dpL x14.2.2 1)
         else
          j46 ((x15.1, x15.2.1, x15.2.2), (x16.1, x16.2.1, x16.2.2), (x17.1, x17.2.1, x17.2.2), (x18.1, x18.2.1, x18.2.2), x14.1, x14.2.1, x14.2.2)) k ((y6.1, y6.2.1, y6.2.2), (r9.1.1, r9.1.2.1, r9.1.2.2), (r10.1.1, r10.1.2.1, r10.1.2.2), (r11.1.1, r11.1.2.1, r11.1.2.2), (r12.1.1, r12.1.2.1, r12.1.2.2), 0)) fun j47 =>
     bif !(decide (r4.2 = 0)) then
      j47 (y0, (y1.1, y1.2.1, y1.2.2), true)
     else
      j47 (y0, (y1.1, y1.2.1, y1.2.2), !(decide (r4.1.1 = 0)))) fun j48 =>
   bnd (c_parquetlaw10_many (a0.1, a0.2.1, a0.2.2)) fun r49 =>
   bif r49 then
    j48 (a1, (a0.1, a0.2.1, a0.2.2), true)
   else
    bif decide ((a0.2.1.length : Int) < 3) then
     j48 (a1, (a0.1, a0.2.1, a0.2.2), true)
    else
     bif decide ((a0.1.length : Int) < 3) then
      j48 (a1, (a0.1, a0.2.1, a0.2.2), true)
     else
      bif decide ((a0.1.length : Int) > 198) then
       j48 (a1, (a0.1, a0.2.1, a0.2.2), true)
      else
       bnd (c_parquetref05_Check (a0.1, a0.2.1, a0.2.2)) fun r50 =>
       j48 (a1, (a0.1, a0.2.1, a0.2.2), !(decide (r50 = 0)))
theorem eq_parquetlaw10_ValidHurt (k : Nat) (c_parquetlaw10_many : ((List (Int × Int)) × ((List (Int × Int)) × (List (Int × Int)))) → Option Bool) (c_parquetref05_Check : ((List (Int × Int)) × ((List (Int × Int)) × (List (Int × Int)))) → Option Int) (c_parquetlaw10_known : Option Bool) (c_valid_First : ((List (Int × Int)) × ((List (Int × Int)) × (List (Int × Int)))) → Option ((Int × (Int × Int)) × Int)) (a0 : ((List (Int × Int)) × ((List (Int × Int)) × (List (Int × Int))))) (a1 : Int) : textF [⟨12, [], [], fun _ => none, some (tb, Try.f12)⟩, ⟨10, [.d (.pair (.sl (.pair kI kI)) (.pair (.sl (.pair kI kI)) (.sl (.pair kI kI))))], [.bool], fun x => c_parquetlaw10_many x, none⟩, ⟨21, [.d (.pair (.sl (.pair kI kI)) (.pair (.sl (.pair kI kI)) (.sl (.pair kI kI))))], [kI], fun x => c_parquetref05_Check x, none⟩, ⟨11, [], [.bool], fun x => c_parquetlaw10_known, none⟩, ⟨13, [.d (.pair (.sl (.pair kI kI)) (.pair (.sl (.pair kI kI)) (.sl (.pair kI kI))))], [.pair kI (.pair kI kI), kI], fun x => c_valid_First x, none⟩] tb k Try.f7 an_parquetlaw10_ValidHurt [.d (.pair (.sl (.pair kI kI)) (.pair (.sl (.pair kI kI)) (.sl (.pair kI kI)))), .d kI] [.bool] (a0, a1) = b_parquetlaw10_ValidHurt k c_parquetlaw10_many c_parquetref05_Check c_parquetlaw10_known c_valid_First a0 a1 := by kernel_rfl
def g_parquetlaw10_ValidHurt (k : Nat) (a0 : ((List (Int × Int)) × ((List (Int × Int)) × (List (Int × Int))))) (a1 : Int) : Option Bool := b_parquetlaw10_ValidHurt k (g_parquetlaw10_many k) (g_parquetref05_Check k) (g_parquetlaw10_known k) (g_valid_First k) a0 a1
theorem tells_parquetlaw10_ValidHurt (k : Nat) : TellsF Try.prog 7 [.d (.pair (.sl (.pair kI kI)) (.pair (.sl (.pair kI kI)) (.sl (.pair kI kI)))), .d kI] [.bool] (fun x => g_parquetlaw10_ValidHurt k (x.1) (x.2)) := fun x y h => fun_tells tb_ok mix (es := [⟨12, [], [], fun _ => none, some (tb, Try.f12)⟩, ⟨10, [.d (.pair (.sl (.pair kI kI)) (.pair (.sl (.pair kI kI)) (.sl (.pair kI kI))))], [.bool], fun x => g_parquetlaw10_many k x, none⟩, ⟨21, [.d (.pair (.sl (.pair kI kI)) (.pair (.sl (.pair kI kI)) (.sl (.pair kI kI))))], [kI], fun x => g_parquetref05_Check k x, none⟩, ⟨11, [], [.bool], fun x => g_parquetlaw10_known k, none⟩, ⟨13, [.d (.pair (.sl (.pair kI kI)) (.pair (.sl (.pair kI kI)) (.sl (.pair kI kI))))], [.pair kI (.pair kI kI), kI], fun x => g_valid_First k x, none⟩]) (EsOk.cons (EntryOk.go tb_ok mix Try.func12 (by kernel_rfl)) (EsOk.cons (EntryOk.of rfl (tells_parquetlaw10_many k)) (EsOk.cons (EntryOk.of rfl (tells_parquetref05_Check k)) (EsOk.cons (EntryOk.of rfl (tells_parquetlaw10_known k)) (EsOk.cons (EntryOk.of rfl (tells_valid_First k)) (EsOk.nil _)))))) Try.func7 (N := k) (an := an_parquetlaw10_ValidHurt) (by kernel_rfl) x y ((eq_parquetlaw10_ValidHurt k (g_parquetlaw10_many k) (g_parquetref05_Check k) (g_parquetlaw10_known k) (g_valid_First k) (x.1) (x.2)).trans h)

def an_parquetlaw10_ValidMoved : Ann := .node none none .leaf (.node none none (.node none none (.node (some [(2, .box [.d (.pair (.sl (.pair kI kI)) (.pair (.sl (.pair kI kI)) (.sl (.pair kI kI))))]), (3, .box [.d (.pair kI kI)]), (37, .d .bool)]) none .leaf .leaf) .leaf) (.node none none .leaf (.node none none (.node none none .leaf (.node none none (.node none (some [(2, .box [.d (.pair (.sl (.pair kI kI)) (.pair (.sl (.pair kI kI)) (.sl (.pair kI kI))))]), (3, .box [.d (.pair kI kI)]), (5, .box [.row (.pair kI kI) 49, .row (.pair kI kI) 53, .row (.pair kI kI) 53]), (6, .d kI)]) .leaf .leaf) .leaf)) (.node none none .leaf (.node none none .leaf (.node none none (.node none none .leaf (.node none none (.node none none (.node (some [(4, .d .bool)]) none .leaf .leaf) .leaf) .leaf)) (.node none none (.node (some [(4, .d .bool)]) none .leaf .leaf) .leaf)))))))
def b_parquetlaw10_ValidMoved (k : Nat) (c_parquetlaw10_many : ((List (Int × Int)) × ((List (Int × Int)) × (List (Int × Int)))) → Option Bool) (c_parquetref05_Check : ((List (Int × Int)) × ((List (Int × Int)) × (List (Int × Int)))) → Option Int) (c_parquetlaw10_known : Option Bool) (c_valid_First : ((List (Int × Int)) × ((List (Int × Int)) × (List (Int × Int)))) → Option ((Int × (Int × Int)) × Int)) (a0 : ((List (Int × Int)) × ((List (Int × Int)) × (List (Int × Int))))) (a1 : (Int × Int)) : Option Bool :=
  meet (α := (((List (Int × Int)) × ((List (Int × Int)) × (List (Int × Int)))) × ((Int × Int) × Bool))) (fun (y0, y1, y2) =>
    bif y2 then
     bnd (c_parquetlaw10_known) fun r3 =>
     some r3
    else
     gd (few y0.1.length) <|
     gd (few y0.2.1.length) <|
     gd (few y0.2.2.length) <|
     loopN (α := (((List (Int × Int)) × ((List (Int × Int)) × (List (Int × Int)))) × ((Int × Int) × (((List (Int × Int)) × ((List (Int × Int)) × (List (Int × Int)))) × Int)))) (fun (x5, x6, x7, x8) next4 =>
      bif decide (x8 < (x5.1.length : Int)) then
       gd (inb x8 x5.1.length) <|
       gd (inb x8 x5.1.length) <|
       gd (inb x8 x7.1.length) <|
       next4 ((x5.1, x5.2.1, x5.2.2), (x6.1, x6.2), (stL x7.1 x8 (w64 ((rdD (0, 0) x5.1 x8).1 + x6.1), w64 ((rdD (0, 0) x5.1 x8).2 + x6.2)), x7.2.1, x7.2.2), w64 (x8 + 1))
      else
       bnd (c_valid_First (x5.1, x5.2.1, x5.2.2)) fun r9 =>
       bnd (c_valid_First (x7.1, x7.2.1, x7.2.2)) fun r10 =>
       bnd (c_parquetref05_Check (x7.1, x7.2.1, x7.2.2)) fun r11 =>
       bif !(decide (r11 = 0)) then
        meet (α := Bool) (fun y12 =>
         some y12) fun j13 =>
        bif decide (r9.2 = 0) then
         bif decide (r10.2 = 2) then
          bnd (c_parquetlaw10_known) fun r14 =>
          j13 r14
         else
          j13 false
        else
         j13 false
       else
        meet (α := Bool) (fun y15 =>
         some y15) fun j16 =>
        bif (decide (r9.1.1 = r10.1.1)) && ((decide (r9.1.2.1 = r10.1.2.1)) && (decide (r9.1.2.2 = r10.1.2.2))) then
         bif decide (r9.2 = 0) then
          bif decide (r10.2 = 0) then
           bnd (c_parquetlaw10_known) fun r17 =>
           j16 r17
          else
           j16 false
         else
          j16 false
        else
         j16 false) k ((y0.1, y0.2.1, y0.2.2), (y1.1, y1.2), (y0.1, y0.2.1, y0.2.2), 0)) fun j18 =>
   bnd (c_parquetlaw10_many (a0.1, a0.2.1, a0.2.2)) fun r19 =>
   bif r19 then
    j18 ((a0.1, a0.2.1, a0.2.2), (a1.1, a1.2), true)
   else
    bnd (c_parquetref05_Check (a0.1, a0.2.1, a0.2.2)) fun r20 =>
    bif !(decide (r20 = 0)) then
     j18 ((a0.1, a0.2.1, a0.2.2), (a1.1, a1.2), true)
    else
     bif decide (a1.1 > 2097152) then
      j18 ((a0.1, a0.2.1, a0.2.2), (a1.1, a1.2), true)
     else
      bif decide (a1.1 < (-2097152)) then
       j18 ((a0.1, a0.2.1, a0.2.2), (a1.1, a1.2), true)
      else
       bif decide (a1.2 > 2097152) then
        j18 ((a0.1, a0.2.1, a0.2.2), (a1.1, a1.2), true)
       else
        j18 ((a0.1, a0.2.1, a0.2.2), (a1.1, a1.2), decide (a1.2 < (-2097152)))
theorem eq_parquetlaw10_ValidMoved (k : Nat) (c_parquetlaw10_many : ((List (Int × Int)) × ((List (Int × Int)) × (List (Int × Int)))) → Option Bool) (c_parquetref05_Check : ((List (Int × Int)) × ((List (Int × Int)) × (List (Int × Int)))) → Option Int) (c_parquetlaw10_known : Option Bool) (c_valid_First : ((List (Int × Int)) × ((List (Int × Int)) × (List (Int × Int)))) → Option ((Int × (Int × Int)) × Int)) (a0 : ((List (Int × Int)) × ((List (Int × Int)) × (List (Int × Int))))) (a1 : (Int × Int)) : textF [⟨12, [], [], fun _ => none, some (tb, Try.f12)⟩, ⟨10, [.d (.pair (.sl (.pair kI kI)) (.pair (.sl (.pair kI kI)) (.sl (.pair kI kI))))], [.bool], fun x => c_parquetlaw10_many x, none⟩, ⟨21, [.d (.pair (.sl (.pair kI kI)) (.pair (.sl (.pair kI kI)) (.sl (.pair kI kI))))], [kI], fun x => c_parquetref05_Check x, none⟩, ⟨11, [], [.bool], fun x => c_parquetlaw10_known, none⟩, ⟨13, [.d (.pair (.sl (.pair kI kI)) (.pair (.sl (.pair kI kI)) (.sl (.pair kI kI))))], [.pair kI (.pair kI kI), kI], fun x => c_valid_First x, none⟩] tb k Try.f8 an_parquetlaw10_ValidMoved [.d (.pair (.sl (.pair kI kI)) (.pair (.sl (.pair kI kI)) (.sl (.pair kI kI)))), .d (.pair kI kI)] [.bool] (a0, a1) = b_parquetlaw10_ValidMoved k c_parquetlaw10_many c_parquetref05_Check c_parquetlaw10_known c_valid_First a0 a1 := by kernel_rfl
def g_parquetlaw10_ValidMoved (k : Nat) (a0 : ((List (Int × Int)) × ((List (Int × Int)) × (List (Int × Int))))) (a1 : (Int × Int)) : Option Bool := b_parquetlaw10_ValidMoved k (g_parquetlaw10_many k) (g_parquetref05_Check k) (g_parquetlaw10_known k) (g_valid_First k) a0 a1
theorem tells_parquetlaw10_ValidMoved (k : Nat) : TellsF Try.prog 8 [.d (.pair (.sl (.pair kI kI)) (.pair (.sl (.pair kI kI)) (.sl (.pair kI kI)))), .d (.pair kI kI)] [.bool] (fun x => g_parquetlaw10_ValidMoved k (x.1) (x.2)) := fun x y h => fun_tells tb_ok mix (es := [⟨12, [], [], fun _ => none, some (tb, Try.f12)⟩, ⟨10, [.d (.pair (.sl (.pair kI kI)) (.pair (.sl (.pair kI kI)) (.sl (.pair kI kI))))], [.bool], fun x => g_parquetlaw10_many k x, none⟩, ⟨21, [.d (.pair (.sl (.pair kI kI)) (.pair (.sl (.pair kI kI)) (.sl (.pair kI kI))))], [kI], fun x => g_parquetref05_Check k x, none⟩, ⟨11, [], [.bool], fun x => g_parquetlaw10_known k, none⟩, ⟨13, [.d (.pair (.sl (.pair kI kI)) (.pair (.sl (.pair kI kI)) (.sl (.pair kI kI))))], [.pair kI (.pair kI kI), kI], fun x => g_valid_First k x, none⟩]) (EsOk.cons (EntryOk.go tb_ok mix Try.func12 (by kernel_rfl)) (EsOk.cons (EntryOk.of rfl (tells_parquetlaw10_many k)) (EsOk.cons (EntryOk.of rfl (tells_parquetref05_Check k)) (EsOk.cons (EntryOk.of rfl (tells_parquetlaw10_known k)) (EsOk.cons (EntryOk.of rfl (tells_valid_First k)) (EsOk.nil _)))))) Try.func8 (N := k) (an := an_parquetlaw10_ValidMoved) (by kernel_rfl) x y ((eq_parquetlaw10_ValidMoved k (g_parquetlaw10_many k) (g_parquetref05_Check k) (g_parquetlaw10_known k) (g_valid_First k) (x.1) (x.2)).trans h)

end Go.Proofs.Ytjbimhfhapnjeaa.AM
