/- The functions, by their texts: written by a program. -/
import Derived.Test.YtiejhpighhjgiaaGa1
import Derived.Test.YtiejhpighhjgiaaSrt
set_option linter.unusedVariables false
set_option maxRecDepth 100000
namespace Go.Proofs.Ytiejhpighhjgiaa.AM
open Go.RowKit Go.Proofs
noncomputable section
def an_parquetref20_Middle : Ann := .node none none .leaf (.node none none .leaf (.node none none (.node none none (.node (some [(0, .d (.sl (.pair kI kI))), (1, .d (.sl kI)), (4, .box [.d (.pair kI kI)]), (6, .d kI), (17, .d .bool)]) none .leaf .leaf) .leaf) (.node none none .leaf (.node none none .leaf (.node none none (.node none none .leaf (.node none none (.node none (some [(0, .d (.sl (.pair kI kI))), (1, .d (.sl kI)), (4, .box [.d (.pair kI kI)]), (6, .d kI), (7, .d kI), (8, .d kI), (9, .d kI)]) (.node none none .leaf (.node none none (.node none none (.node none none (.node none none (.node (some [(0, .d (.sl (.pair kI kI))), (1, .d (.sl kI)), (4, .box [.d (.pair kI kI)]), (6, .d kI), (7, .d kI), (8, .d kI), (9, .d kI), (48, .d .bool)]) none .leaf .leaf) .leaf) .leaf) .leaf) .leaf)) .leaf) .leaf)) .leaf)))))
def b_parquetref20_Middle (k : Nat) (c_parquetref20_fits : (Int × Int) → Option Bool) (a0 : (List (Int × Int))) (a1 : (List Int)) : Option ((Int × Int) × Int) :=
  meet (α := ((List (Int × Int)) × ((List Int) × ((Int × Int) × (Int × Bool))))) (fun (y0, y1, y2, y3, y4) =>
    bif y4 then
     some ((0, 0), 2)
    else
     loopN (α := ((List (Int × Int)) × ((List Int) × ((Int × Int) × (Int × (Int × (Int × Int))))))) (fun (x6, x7, x8, x9, x10, x11, x12) next5 =>
      bif decide (x12 < x9) then
       meet (α := ((List (Int × Int)) × ((List Int) × ((Int × Int) × (Int × (Int × (Int × (Int × Bool)))))))) (fun (y13, y14, y15, y16, y17, y18, y19, y20) =>
        bif y20 then
         some ((0, 0), 2)
        else
         gd (inb y19 y14.length) <|
         gd (inb (rdD 0 y14 y19) y13.length) <|
         gd (inb y19 y14.length) <|
         gd (inb (rdD 0 y14 y19) y13.length) <|
         next5 (y13, y14, (y15.1, y15.2), y16, w64 (y17 + (w64 (12 * (rdD (0, 0) y13 (rdD 0 y14 y19)).1))), w64 (y18 + (w64 (12 * (rdD (0, 0) y13 (rdD 0 y14 y19)).2))), w64 (y19 + 1))) fun j21 =>
       gd (inb x12 x7.length) <|
       bif decide ((rdD 0 x7 x12) < 0) then
        j21 (x6, x7, (x8.1, x8.2), x9, x10, x11, x12, true)
       else
        gd (inb x12 x7.length) <|
        bif decide ((rdD 0 x7 x12) ≥ (x6.length : Int)) then
         j21 (x6, x7, (x8.1, x8.2), x9, x10, x11, x12, true)
        else
         gd (inb x12 x7.length) <|
         gd (inb (rdD 0 x7 x12) x6.length) <|
         bnd (c_parquetref20_fits ((rdD (0, 0) x6 (rdD 0 x7 x12)).1, (rdD (0, 0) x6 (rdD 0 x7 x12)).2)) fun r22 =>
         j21 (x6, x7, (x8.1, x8.2), x9, x10, x11, x12, !r22)
      else
       gd (!(decide (x9 = 0))) <|
       gd (!(decide (x9 = 0))) <|
       some ((w64 (x10.tdiv x9), w64 (x11.tdiv x9)), 0)) k (y0, y1, (y2.1, y2.2), y3, 0, 0, 0)) fun j23 =>
   bif !(decide ((a1.length : Int) = 3)) then
    j23 (a0, a1, (0, 0), (a1.length : Int), !(decide ((a1.length : Int) = 4)))
   else
    j23 (a0, a1, (0, 0), (a1.length : Int), false)
theorem eq_parquetref20_Middle (k : Nat) (c_parquetref20_fits : (Int × Int) → Option Bool) (a0 : (List (Int × Int))) (a1 : (List Int)) : textF [⟨31, [.d (.pair kI kI)], [.bool], fun x => c_parquetref20_fits x, none⟩] tb k Try.f14 an_parquetref20_Middle [.d (.sl (.pair kI kI)), .d (.sl kI)] [.pair kI kI, kI] (a0, a1) = b_parquetref20_Middle k c_parquetref20_fits a0 a1 := by kernel_rfl
def g_parquetref20_Middle (k : Nat) (a0 : (List (Int × Int))) (a1 : (List Int)) : Option ((Int × Int) × Int) := b_parquetref20_Middle k (g_parquetref20_fits k) a0 a1
theorem tells_parquetref20_Middle (k : Nat) : TellsF Try.prog 14 [.d (.sl (.pair kI kI)), .d (.sl kI)] [.pair kI kI, kI] (fun x => g_parquetref20_Middle k (x.1) (x.2)) := fun x y h => fun_tells tb_ok mix (es := [⟨31, [.d (.pair kI kI)], [.bool], fun x => g_parquetref20_fits k x, none⟩]) (EsOk.cons (EntryOk.of rfl (tells_parquetref20_fits k)) (EsOk.nil _)) Try.func14 (N := k) (an := an_parquetref20_Middle) (by kernel_rfl) x y ((eq_parquetref20_Middle k (g_parquetref20_fits k) (x.1) (x.2)).trans h)

def an_parquetref20_edge : Ann := .node none none .leaf (.node none none (.node none none .leaf (.node none none (.node none (some [(0, .d (.sl (.pair kI kI))), (1, .d kI), (2, .d kI), (7, .d kI)]) (.node none none .leaf (.node none none (.node none none (.node none none (.node (some [(0, .d (.sl (.pair kI kI))), (1, .d kI), (2, .d kI), (7, .d kI), (47, .d .bool)]) none .leaf .leaf) .leaf) .leaf) .leaf)) .leaf) .leaf)) .leaf)
def g_parquetref20_edge (k : Nat) (a0 : (List (Int × Int))) (a1 : Int) (a2 : Int) : Option Int :=
  loopN (α := ((List (Int × Int)) × (Int × (Int × Int)))) (fun (x1, x2, x3, x4) next0 =>
    bif decide (x4 < (x1.length : Int)) then
     meet (α := ((List (Int × Int)) × (Int × (Int × (Int × Bool))))) (fun (y5, y6, y7, y8, y9) =>
      bif y9 then
       some y8
      else
       next0 (y5, y6, y7, w64 (y8 + 1))) fun j10 =>
     gd (inb x4 x1.length) <|
     bif decide ((rdD (0, 0) x1 x4).1 = x2) then
      gd (inb x4 x1.length) <|
      bif decide ((rdD (0, 0) x1 x4).2 = x3) then
       j10 (x1, x2, x3, x4, true)
      else
       gd (inb x4 x1.length) <|
       bif decide ((rdD (0, 0) x1 x4).1 = x3) then
        gd (inb x4 x1.length) <|
        j10 (x1, x2, x3, x4, decide ((rdD (0, 0) x1 x4).2 = x2))
       else
        j10 (x1, x2, x3, x4, false)
     else
      gd (inb x4 x1.length) <|
      bif decide ((rdD (0, 0) x1 x4).1 = x3) then
       gd (inb x4 x1.length) <|
       j10 (x1, x2, x3, x4, decide ((rdD (0, 0) x1 x4).2 = x2))
      else
       j10 (x1, x2, x3, x4, false)
    else
     some (-1)) k (a0, a1, a2, 0)
theorem eq_parquetref20_edge (k : Nat) (a0 : (List (Int × Int))) (a1 : Int) (a2 : Int) : textF [] tb k Try.f33 an_parquetref20_edge [.d (.sl (.pair kI kI)), .d kI, .d kI] [kI] (a0, a1, a2) = g_parquetref20_edge k a0 a1 a2 := by kernel_rfl
theorem tells_parquetref20_edge (k : Nat) : TellsF Try.prog 33 [.d (.sl (.pair kI kI)), .d kI, .d kI] [kI] (fun x => g_parquetref20_edge k (x.1) (x.2.1) (x.2.2)) := fun x y h => fun_tells tb_ok mix (es := []) (EsOk.nil _) Try.func33 (N := k) (an := an_parquetref20_edge) (by kernel_rfl) x y ((eq_parquetref20_edge k (x.1) (x.2.1) (x.2.2)).trans h)

def an_parquetref20_Run : Ann := .node none none .leaf (.node none none .leaf (.node none none .leaf (.node none none .leaf (.node none none (.node none none .leaf (.node none none (.node none (some [(0, .d (.sl (.pair kI kI))), (1, .d (.sl (.sl kI))), (8, .row (.pair kI kI) 33), (9, .d kI)]) .leaf .leaf) .leaf)) (.node none none .leaf (.node none none (.node none none .leaf (.node none none (.node none (some [(0, .d (.sl (.pair kI kI))), (1, .d (.sl (.sl kI))), (8, .row (.pair kI kI) 33), (10, .d (.sl (.pair kI kI))), (11, .d kI)]) .leaf .leaf) .leaf)) (.node none none .leaf (.node none none (.node none none .leaf (.node none none (.node none (some [(0, .d (.sl (.pair kI kI))), (1, .d (.sl (.sl kI))), (8, .row (.pair kI kI) 33), (10, .d (.sl (.pair kI kI))), (14, .row (.sl kI) 24), (15, .d kI)]) (.node none none .leaf (.node none none (.node none none (.node none none .leaf (.node none none .leaf (.node none none .leaf (.node none none .leaf (.node none none .leaf (.node none none (.node none (some [(0, .d (.sl (.pair kI kI))), (1, .d (.sl (.sl kI))), (8, .row (.pair kI kI) 33), (10, .d (.sl (.pair kI kI))), (14, .row (.sl kI) 24), (15, .d kI), (18, .d kI), (19, .d kI)]) .leaf .leaf) .leaf)))))) .leaf) .leaf)) .leaf) .leaf)) .leaf))))))))
def b_parquetref20_Run (k : Nat) (c_parquetref11_Check : Int → (List (List Int)) → Option Int) (c_parquetref20_fits : (Int × Int) → Option Bool) (c_parquetref11_Edges : (List (List Int)) → Option (List (Int × Int))) (c_parquetref20_Middle : (List (Int × Int)) → (List Int) → Option ((Int × Int) × Int)) (c_parquetref20_edge : (List (Int × Int)) → Int → Int → Option Int) (a0 : (List (Int × Int))) (a1 : (List (List Int))) : Option ((List (Int × Int)) × (List (List Int)) × Int) :=
  bnd (c_parquetref11_Check (a0.length : Int) a1) fun r0 =>
   bif !(decide (r0 = 0)) then
    some ([], [], 2)
   else
    loopN (α := ((List (Int × Int)) × ((List (List Int)) × ((List (Int × Int)) × Int)))) (fun (x2, x3, x4, x5) next1 =>
     bif decide (x5 < (x2.length : Int)) then
      gd (inb x5 x2.length) <|
      bnd (c_parquetref20_fits ((rdD (0, 0) x2 x5).1, (rdD (0, 0) x2 x5).2)) fun r6 =>
      bif !r6 then
       some ([], [], 2)
      else
       gd (inb x5 x2.length) <|
       gd (inb x5 x2.length) <|
       gd (few (x4.length + 1)) <|
       next1 (x2, x3, x4 ++ [(w64 (12 * (rdD (0, 0) x2 x5).1), w64 (12 * (rdD (0, 0) x2 x5).2))], w64 (x5 + 1))
     else
      bnd (c_parquetref11_Edges x3) fun r7 =>
      loopN (α := ((List (Int × Int)) × ((List (List Int)) × ((List (Int × Int)) × ((List (Int × Int)) × Int))))) (fun (x9, x10, x11, x12, x13) next8 =>
       bif decide (x13 < (x12.length : Int)) then
        gd (inb x13 x12.length) <|
        gd (inb (rdD (0, 0) x12 x13).1 x11.length) <|
        gd (inb x13 x12.length) <|
        gd (inb (rdD (0, 0) x12 x13).2 x11.length) <|
        gd (few (x11.length + 1)) <|
        next8 (x9, x10, x11 ++ [(w64 ((w64 ((rdD (0, 0) x11 (rdD (0, 0) x12 x13).1).1 + (rdD (0, 0) x11 (rdD (0, 0) x12 x13).2).1)).tdiv 2), w64 ((w64 ((rdD (0, 0) x11 (rdD (0, 0) x12 x13).1).2 + (rdD (0, 0) x11 (rdD (0, 0) x12 x13).2).2)).tdiv 2))], x12, w64 (x13 + 1))
       else
        loopN (α := ((List (Int × Int)) × ((List (List Int)) × ((List (Int × Int)) × ((List (Int × Int)) × ((List (List Int)) × Int)))))) (fun (x15, x16, x17, x18, x19, x20) next14 =>
         bif decide (x20 < (x16.length : Int)) then
          gd (inb x20 x16.length) <|
          bnd (c_parquetref20_Middle x15 (rdD [] x16 x20)) fun r21 =>
          bif !(decide (r21.2 = 0)) then
           some ([], [], 2)
          else
           gd (few (x17.length + 1)) <|
           gd (inb x20 x16.length) <|
           loopN (α := ((List (Int × Int)) × ((List (List Int)) × ((List (Int × Int)) × ((List (Int × Int)) × ((List (List Int)) × (Int × (Int × Int)))))))) (fun (x23, x24, x25, x26, x27, x28, x29, x30) next22 =>
            bif decide (x30 < x29) then
             gd (inb x28 x24.length) <|
             gd (inb x30 (rdD [] x24 x28).length) <|
             gd (inb x28 x24.length) <|
             gd (!(decide (x29 = 0))) <|
             gd (inb ((w64 (x30 + 1)).tmod x29) (rdD [] x24 x28).length) <|
             bnd (c_parquetref20_edge x26 (rdD 0 (rdD [] x24 x28) x30) (rdD 0 (rdD [] x24 x28) ((w64 (x30 + 1)).tmod x29))) fun r31 =>
             gd (inb x28 x24.length) <|
             gd (!(decide (x29 = 0))) <|
             gd (inb ((w64 ((w64 (x30 + x29)) - 1)).tmod x29) (rdD [] x24 x28).length) <|
             bnd (c_parquetref20_edge x26 (rdD 0 (rdD [] x24 x28) x30) (rdD 0 (rdD [] x24 x28) ((w64 ((w64 (x30 + x29)) - 1)).tmod x29))) fun r32 =>
             gd (few (x27.length + 1)) <|
             next22 (x23, x24, x25, x26, x27 ++ [[rdD 0 (rdD [] x24 x28) x30, w64 ((x23.length : Int) + r31), w64 ((w64 ((x23.length : Int) + (x26.length : Int))) + x28), w64 ((x23.length : Int) + r32)]], x28, x29, w64 (x30 + 1))
            else
             next14 (x23, x24, x25, x26, x27, w64 (x28 + 1))) k (x15, x16, x17 ++ [(r21.1.1, r21.1.2)], x18, x19, x20, ((rdD [] x16 x20).length : Int), 0)
         else
          some (x17, x19, 0)) k (x9, x10, x11, x12, [], 0)) k (x2, x3, x4, r7, 0)) k (a0, a1, [], 0)
theorem eq_parquetref20_Run (k : Nat) (c_parquetref11_Check : Int → (List (List Int)) → Option Int) (c_parquetref20_fits : (Int × Int) → Option Bool) (c_parquetref11_Edges : (List (List Int)) → Option (List (Int × Int))) (c_parquetref20_Middle : (List (Int × Int)) → (List Int) → Option ((Int × Int) × Int)) (c_parquetref20_edge : (List (Int × Int)) → Int → Int → Option Int) (a0 : (List (Int × Int))) (a1 : (List (List Int))) : textF [⟨17, [.d kI, .d (.sl (.sl kI))], [kI], fun x => c_parquetref11_Check (x.1) (x.2), none⟩, ⟨31, [.d (.pair kI kI)], [.bool], fun x => c_parquetref20_fits x, none⟩, ⟨32, [.d (.sl (.sl kI))], [.sl (.pair kI kI)], fun x => c_parquetref11_Edges x, none⟩, ⟨14, [.d (.sl (.pair kI kI)), .d (.sl kI)], [.pair kI kI, kI], fun x => c_parquetref20_Middle (x.1) (x.2), none⟩, ⟨33, [.d (.sl (.pair kI kI)), .d kI, .d kI], [kI], fun x => c_parquetref20_edge (x.1) (x.2.1) (x.2.2), none⟩] tb k Try.f12 an_parquetref20_Run [.d (.sl (.pair kI kI)), .d (.sl (.sl kI))] [.sl (.pair kI kI), .sl (.sl kI), kI] (a0, a1) = b_parquetref20_Run k c_parquetref11_Check c_parquetref20_fits c_parquetref11_Edges c_parquetref20_Middle c_parquetref20_edge a0 a1 := by kernel_rfl
def g_parquetref20_Run (k : Nat) (a0 : (List (Int × Int))) (a1 : (List (List Int))) : Option ((List (Int × Int)) × (List (List Int)) × Int) := b_parquetref20_Run k (g_parquetref11_Check k) (g_parquetref20_fits k) (g_parquetref11_Edges k) (g_parquetref20_Middle k) (g_parquetref20_edge k) a0 a1
theorem tells_parquetref20_Run (k : Nat) : TellsF Try.prog 12 [.d (.sl (.pair kI kI)), .d (.sl (.sl kI))] [.sl (.pair kI kI), .sl (.sl kI), kI] (fun x => g_parquetref20_Run k (x.1) (x.2)) := fun x y h => fun_tells tb_ok mix (es := [⟨17, [.d kI, .d (.sl (.sl kI))], [kI], fun x => g_parquetref11_Check k (x.1) (x.2), none⟩, ⟨31, [.d (.pair kI kI)], [.bool], fun x => g_parquetref20_fits k x, none⟩, ⟨32, [.d (.sl (.sl kI))], [.sl (.pair kI kI)], fun x => g_parquetref11_Edges k x, none⟩, ⟨14, [.d (.sl (.pair kI kI)), .d (.sl kI)], [.pair kI kI, kI], fun x => g_parquetref20_Middle k (x.1) (x.2), none⟩, ⟨33, [.d (.sl (.pair kI kI)), .d kI, .d kI], [kI], fun x => g_parquetref20_edge k (x.1) (x.2.1) (x.2.2), none⟩]) (EsOk.cons (EntryOk.of rfl (tells_parquetref11_Check k)) (EsOk.cons (EntryOk.of rfl (tells_parquetref20_fits k)) (EsOk.cons (EntryOk.of rfl (tells_parquetref11_Edges k)) (EsOk.cons (EntryOk.of rfl (tells_parquetref20_Middle k)) (EsOk.cons (EntryOk.of rfl (tells_parquetref20_edge k)) (EsOk.nil _)))))) Try.func12 (N := k) (an := an_parquetref20_Run) (by kernel_rfl) x y ((eq_parquetref20_Run k (g_parquetref11_Check k) (g_parquetref20_fits k) (g_parquetref11_Edges k) (g_parquetref20_Middle k) (g_parquetref20_edge k) (x.1) (x.2)).trans h)

def an_parquetlaw20_HalveTells : Ann := .node none none .leaf (.node none none (.node none none (.node (some [(0, .d (.sl (.pair kI kI))), (1, .d (.sl (.sl kI))), (2, .d (.sl kI)), (25, .d .bool)]) none .leaf .leaf) .leaf) (.node none none .leaf (.node none none .leaf (.node none none .leaf (.node none none .leaf (.node none none .leaf (.node none none .leaf (.node none none (.node (some [(6, .d .bool)]) none .leaf .leaf) .leaf))))))))
def b_parquetlaw20_HalveTells (k : Nat) (c_parquetlaw20_many : (List (Int × Int)) → (List (List Int)) → Option Bool) (c_parquetlaw20_known : Option Bool) (c_halve_Run : (List (Int × Int)) → (List (List Int)) → Option ((List (Int × Int)) × (List (List Int)) × Int)) (c_parquetref20_Run : (List (Int × Int)) → (List (List Int)) → Option ((List (Int × Int)) × (List (List Int)) × Int)) (c_halve_Middle : (List (Int × Int)) → (List Int) → Option ((Int × Int) × Int)) (c_parquetref20_Middle : (List (Int × Int)) → (List Int) → Option ((Int × Int) × Int)) (c_parquetref05_SamePoints : (List (Int × Int)) → (List (Int × Int)) → Option Bool) (c_parquetlaw20_same : (List (List Int)) → (List (List Int)) → Option Bool) (a0 : (List (Int × Int))) (a1 : (List (List Int))) (a2 : (List Int)) : Option Bool :=
  meet (α := ((List (Int × Int)) × ((List (List Int)) × ((List Int) × Bool)))) (fun (y0, y1, y2, y3) =>
    bif y3 then
     bnd (c_parquetlaw20_known) fun r4 =>
     some r4
    else
     gd (few y0.length) <|
     bnd (c_halve_Run y0 y1) fun r5 =>
     bnd (c_parquetref20_Run y0 y1) fun r6 =>
     bnd (c_halve_Middle y0 y2) fun r7 =>
     bnd (c_parquetref20_Middle y0 y2) fun r8 =>
     meet (α := Bool) (fun y9 =>
      some y9) fun j10 =>
     bnd (c_parquetref05_SamePoints r5.1 r6.1) fun r11 =>
     bif r11 then
      bnd (c_parquetlaw20_same r5.2.1 r6.2.1) fun r12 =>
      bif r12 then
       bif decide (r5.2.2 = r6.2.2) then
        bif (decide (r7.1.1 = r8.1.1)) && (decide (r7.1.2 = r8.1.2)) then
         bif decide (r7.2 = r8.2) then
          bnd (c_parquetref05_SamePoints y0 y0) fun r13 =>
          bif r13 then
           bnd (c_parquetlaw20_known) fun r14 =>
           j10 r14
          else
           j10 false
         else
          j10 false
        else
         j10 false
       else
        j10 false
      else
       j10 false
     else
      j10 false) fun j15 =>
   bnd (c_parquetlaw20_many a0 a1) fun r16 =>
   bif r16 then
    j15 (a0, a1, a2, true)
   else
    j15 (a0, a1, a2, decide ((a2.length : Int) > 100))
theorem eq_parquetlaw20_HalveTells (k : Nat) (c_parquetlaw20_many : (List (Int × Int)) → (List (List Int)) → Option Bool) (c_parquetlaw20_known : Option Bool) (c_halve_Run : (List (Int × Int)) → (List (List Int)) → Option ((List (Int × Int)) × (List (List Int)) × Int)) (c_parquetref20_Run : (List (Int × Int)) → (List (List Int)) → Option ((List (Int × Int)) × (List (List Int)) × Int)) (c_halve_Middle : (List (Int × Int)) → (List Int) → Option ((Int × Int) × Int)) (c_parquetref20_Middle : (List (Int × Int)) → (List Int) → Option ((Int × Int) × Int)) (c_parquetref05_SamePoints : (List (Int × Int)) → (List (Int × Int)) → Option Bool) (c_parquetlaw20_same : (List (List Int)) → (List (List Int)) → Option Bool) (a0 : (List (Int × Int))) (a1 : (List (List Int))) (a2 : (List Int)) : textF [⟨9, [.d (.sl (.pair kI kI)), .d (.sl (.sl kI))], [.bool], fun x => c_parquetlaw20_many (x.1) (x.2), none⟩, ⟨10, [], [.bool], fun x => c_parquetlaw20_known, none⟩, ⟨11, [.d (.sl (.pair kI kI)), .d (.sl (.sl kI))], [.sl (.pair kI kI), .sl (.sl kI), kI], fun x => c_halve_Run (x.1) (x.2), none⟩, ⟨12, [.d (.sl (.pair kI kI)), .d (.sl (.sl kI))], [.sl (.pair kI kI), .sl (.sl kI), kI], fun x => c_parquetref20_Run (x.1) (x.2), none⟩, ⟨13, [.d (.sl (.pair kI kI)), .d (.sl kI)], [.pair kI kI, kI], fun x => c_halve_Middle (x.1) (x.2), none⟩, ⟨14, [.d (.sl (.pair kI kI)), .d (.sl kI)], [.pair kI kI, kI], fun x => c_parquetref20_Middle (x.1) (x.2), none⟩, ⟨15, [.d (.sl (.pair kI kI)), .d (.sl (.pair kI kI))], [.bool], fun x => c_parquetref05_SamePoints (x.1) (x.2), none⟩, ⟨16, [.d (.sl (.sl kI)), .d (.sl (.sl kI))], [.bool], fun x => c_parquetlaw20_same (x.1) (x.2), none⟩] tb k Try.f3 an_parquetlaw20_HalveTells [.d (.sl (.pair kI kI)), .d (.sl (.sl kI)), .d (.sl kI)] [.bool] (a0, a1, a2) = b_parquetlaw20_HalveTells k c_parquetlaw20_many c_parquetlaw20_known c_halve_Run c_parquetref20_Run c_halve_Middle c_parquetref20_Middle c_parquetref05_SamePoints c_parquetlaw20_same a0 a1 a2 := by kernel_rfl
def g_parquetlaw20_HalveTells (k : Nat) (a0 : (List (Int × Int))) (a1 : (List (List Int))) (a2 : (List Int)) : Option Bool := b_parquetlaw20_HalveTells k (g_parquetlaw20_many k) (g_parquetlaw20_known k) (g_halve_Run k) (g_parquetref20_Run k) (g_halve_Middle k) (g_parquetref20_Middle k) (g_parquetref05_SamePoints k) (g_parquetlaw20_same k) a0 a1 a2
theorem tells_parquetlaw20_HalveTells (k : Nat) : TellsF Try.prog 3 [.d (.sl (.pair kI kI)), .d (.sl (.sl kI)), .d (.sl kI)] [.bool] (fun x => g_parquetlaw20_HalveTells k (x.1) (x.2.1) (x.2.2)) := fun x y h => fun_tells tb_ok mix (es := [⟨9, [.d (.sl (.pair kI kI)), .d (.sl (.sl kI))], [.bool], fun x => g_parquetlaw20_many k (x.1) (x.2), none⟩, ⟨10, [], [.bool], fun x => g_parquetlaw20_known k, none⟩, ⟨11, [.d (.sl (.pair kI kI)), .d (.sl (.sl kI))], [.sl (.pair kI kI), .sl (.sl kI), kI], fun x => g_halve_Run k (x.1) (x.2), none⟩, ⟨12, [.d (.sl (.pair kI kI)), .d (.sl (.sl kI))], [.sl (.pair kI kI), .sl (.sl kI), kI], fun x => g_parquetref20_Run k (x.1) (x.2), none⟩, ⟨13, [.d (.sl (.pair kI kI)), .d (.sl kI)], [.pair kI kI, kI], fun x => g_halve_Middle k (x.1) (x.2), none⟩, ⟨14, [.d (.sl (.pair kI kI)), .d (.sl kI)], [.pair kI kI, kI], fun x => g_parquetref20_Middle k (x.1) (x.2), none⟩, ⟨15, [.d (.sl (.pair kI kI)), .d (.sl (.pair kI kI))], [.bool], fun x => g_parquetref05_SamePoints k (x.1) (x.2), none⟩, ⟨16, [.d (.sl (.sl kI)), .d (.sl (.sl kI))], [.bool], fun x => g_parquetlaw20_same k (x.1) (x.2), none⟩]) (EsOk.cons (EntryOk.of rfl (tells_parquetlaw20_many k)) (EsOk.cons (EntryOk.of rfl (tells_parquetlaw20_known k)) (EsOk.cons (EntryOk.of rfl (tells_halve_Run k)) (EsOk.cons (EntryOk.of rfl (tells_parquetref20_Run k)) (EsOk.cons (EntryOk.of rfl (tells_halve_Middle k)) (EsOk.cons (EntryOk.of rfl (tells_parquetref20_Middle k)) (EsOk.cons (EntryOk.of rfl (tells_parquetref05_SamePoints k)) (EsOk.cons (EntryOk.of rfl (tells_parquetlaw20_same k)) (EsOk.nil _))))))))) Try.func3 (N := k) (an := an_parquetlaw20_HalveTells) (by kernel_rfl) x y ((eq_parquetlaw20_HalveTells k (g_parquetlaw20_many k) (g_parquetlaw20_known k) (g_halve_Run k) (g_parquetref20_Run k) (g_halve_Middle k) (g_parquetref20_Middle k) (g_parquetref05_SamePoints k) (g_parquetlaw20_same k) (x.1) (x.2.1) (x.2.2)).trans h)

def an_parquetref01_trim : Ann := .node none none .leaf (.node none none .leaf (.node none none (.node none none (.node none (some [(0, .d .bool), (1, .d (.sl kI)), (4, .box [.d .bool, .row kI 3]), (5, .d kI)]) (.node none none (.node none none (.node (some [(0, .d .bool), (1, .d (.sl kI)), (4, .box [.d .bool, .row kI 3]), (5, .d kI), (17, .d .bool)]) none .leaf .leaf) .leaf) .leaf) .leaf) .leaf) (.node none none (.node (some [(4, .box [.d (.pair .bool (.sl kI))])]) none .leaf .leaf) .leaf)))
def g_parquetref01_trim (k : Nat) (a0 : Bool) (a1 : (List Int)) : Option (Bool × (List Int)) :=
  loopN (α := (Bool × ((List Int) × ((Bool × (List Int)) × Int)))) (fun (x1, x2, x3, x4) next0 =>
    meet (α := (Bool × ((List Int) × ((Bool × (List Int)) × (Int × Bool))))) (fun (y5, y6, y7, y8, y9) =>
     bif y9 then
      next0 (y5, y6, (y7.1, y7.2), w64 (y8 - 1))
     else
      meet (α := (Bool × (List Int))) (fun (y10, y11) =>
       some (y10, y11)) fun j12 =>
      bif y5 then
       gd (decide (0 ≤ y8)) <|
       gd (decide (y8 ≤ (y6.length : Int))) <|
       j12 (decide (y8 > 0), tkL y6 y8)
      else
       gd (decide (0 ≤ y8)) <|
       gd (decide (y8 ≤ (y6.length : Int))) <|
       j12 (false, tkL y6 y8)) fun j13 =>
    bif decide (x4 > 0) then
     gd (inb (w64 (x4 - 1)) x2.length) <|
     j13 (x1, x2, (x3.1, x3.2), x4, decide ((rdD 0 x2 (w64 (x4 - 1))) = 0))
    else
     j13 (x1, x2, (x3.1, x3.2), x4, false)) k (a0, a1, (false, []), (a1.length : Int))
theorem eq_parquetref01_trim (k : Nat) (a0 : Bool) (a1 : (List Int)) : textF [] tb k Try.f40 an_parquetref01_trim [.d .bool, .d (.sl kI)] [.pair .bool (.sl kI)] (a0, a1) = g_parquetref01_trim k a0 a1 := by kernel_rfl
theorem tells_parquetref01_trim (k : Nat) : TellsF Try.prog 40 [.d .bool, .d (.sl kI)] [.pair .bool (.sl kI)] (fun x => g_parquetref01_trim k (x.1) (x.2)) := fun x y h => fun_tells tb_ok mix (es := []) (EsOk.nil _) Try.func40 (N := k) (an := an_parquetref01_trim) (by kernel_rfl) x y ((eq_parquetref01_trim k (x.1) (x.2)).trans h)

def an_parquetref01_Small : Ann := .node none none .leaf (.node none none .leaf (.node none none .leaf (.node none none (.node none none (.node none (some [(0, .d kI), (2, .box [.d .bool, .row kI 3]), (3, .row kI 3), (4, .d kI)]) (.node none none .leaf (.node none none (.node none none .leaf (.node none none (.node none none .leaf (.node (some [(0, .d kI), (2, .box [.d .bool, .row kI 3]), (3, .row kI 3), (4, .d kI), (5, .d kI)]) none .leaf .leaf)) .leaf)) .leaf)) .leaf) .leaf) .leaf)))
def b_parquetref01_Small (k : Nat) (c_parquetref01_trim : Bool → (List Int) → Option (Bool × (List Int))) (a0 : Int) : Option (Bool × (List Int)) :=
  loopN (α := (Int × ((Bool × (List Int)) × ((List Int) × Int)))) (fun (x1, x2, x3, x4) next0 =>
    bif !(decide (x4 = 0)) then
     meet (α := (Int × ((Bool × (List Int)) × ((List Int) × (Int × Int))))) (fun (y5, y6, y7, y8, y9) =>
      gd (few (y7.length + 1)) <|
      next0 (y5, (y6.1, y6.2), y7 ++ [y9], w64 (y8.tdiv 65536))) fun j10 =>
     bif decide ((x4.tmod 65536) < 0) then
      j10 (x1, (x2.1, x2.2), x3, x4, w64 (0 - (x4.tmod 65536)))
     else
      j10 (x1, (x2.1, x2.2), x3, x4, x4.tmod 65536)
    else
     bnd (c_parquetref01_trim (decide (x1 < 0)) x3) fun r11 =>
     some (r11.1, r11.2)) k (a0, (false, []), [], a0)
theorem eq_parquetref01_Small (k : Nat) (c_parquetref01_trim : Bool → (List Int) → Option (Bool × (List Int))) (a0 : Int) : textF [⟨40, [.d .bool, .d (.sl kI)], [.pair .bool (.sl kI)], fun x => c_parquetref01_trim (x.1) (x.2), none⟩] tb k Try.f20 an_parquetref01_Small [.d kI] [.pair .bool (.sl kI)] a0 = b_parquetref01_Small k c_parquetref01_trim a0 := by kernel_rfl
def g_parquetref01_Small (k : Nat) (a0 : Int) : Option (Bool × (List Int)) := b_parquetref01_Small k (g_parquetref01_trim k) a0
theorem tells_parquetref01_Small (k : Nat) : TellsF Try.prog 20 [.d kI] [.pair .bool (.sl kI)] (fun x => g_parquetref01_Small k x) := fun x y h => fun_tells tb_ok mix (es := [⟨40, [.d .bool, .d (.sl kI)], [.pair .bool (.sl kI)], fun x => g_parquetref01_trim k (x.1) (x.2), none⟩]) (EsOk.cons (EntryOk.of rfl (tells_parquetref01_trim k)) (EsOk.nil _)) Try.func20 (N := k) (an := an_parquetref01_Small) (by kernel_rfl) x y ((eq_parquetref01_Small k (g_parquetref01_trim k) x).trans h)

def an_parquetref03_num : Ann := .leaf
def b_parquetref03_num (k : Nat) (c_parquetref01_Small : Int → Option (Bool × (List Int))) (a0 : Int) : Option (Bool × (List Int)) :=
  bnd (c_parquetref01_Small a0) fun r0 =>
   some (r0.1, r0.2)
theorem eq_parquetref03_num (k : Nat) (c_parquetref01_Small : Int → Option (Bool × (List Int))) (a0 : Int) : textF [⟨20, [.d kI], [.pair .bool (.sl kI)], fun x => c_parquetref01_Small x, none⟩] tb k Try.f59 an_parquetref03_num [.d kI] [.pair .bool (.sl kI)] a0 = b_parquetref03_num k c_parquetref01_Small a0 := by kernel_rfl
def g_parquetref03_num (k : Nat) (a0 : Int) : Option (Bool × (List Int)) := b_parquetref03_num k (g_parquetref01_Small k) a0
theorem tells_parquetref03_num (k : Nat) : TellsF Try.prog 59 [.d kI] [.pair .bool (.sl kI)] (fun x => g_parquetref03_num k x) := fun x y h => fun_tells tb_ok mix (es := [⟨20, [.d kI], [.pair .bool (.sl kI)], fun x => g_parquetref01_Small k x, none⟩]) (EsOk.cons (EntryOk.of rfl (tells_parquetref01_Small k)) (EsOk.nil _)) Try.func59 (N := k) (an := an_parquetref03_num) (by kernel_rfl) x y ((eq_parquetref03_num k (g_parquetref01_Small k) x).trans h)

def an_parquetref01_digit : Ann := .leaf
def g_parquetref01_digit (k : Nat) (a0 : (List Int)) (a1 : Int) : Option Int :=
  bif decide (a1 < (a0.length : Int)) then
    gd (inb a1 a0.length) <|
    some (rdD 0 a0 a1)
   else
    some 0
theorem eq_parquetref01_digit (k : Nat) (a0 : (List Int)) (a1 : Int) : textF [] tb k Try.f41 an_parquetref01_digit [.d (.sl kI), .d kI] [kI] (a0, a1) = g_parquetref01_digit k a0 a1 := by kernel_rfl
theorem tells_parquetref01_digit (k : Nat) : TellsF Try.prog 41 [.d (.sl kI), .d kI] [kI] (fun x => g_parquetref01_digit k (x.1) (x.2)) := fun x y h => fun_tells tb_ok mix (es := []) (EsOk.nil _) Try.func41 (N := k) (an := an_parquetref01_digit) (by kernel_rfl) x y ((eq_parquetref01_digit k (x.1) (x.2)).trans h)

def an_parquetref01_Num_Times : Ann := .node none none .leaf (.node none none .leaf (.node none none (.node none none .leaf (.node none none (.node none (some [(2, .box [.d (.pair .bool (.sl kI))]), (3, .box [.d (.pair .bool (.sl kI))]), (4, .box [.d .bool, .row kI 3]), (5, .row kI 3), (6, .d kI)]) (.node none none .leaf (.node none none (.node none none (.node none none .leaf (.node none none .leaf (.node none none (.node none (some [(2, .box [.d (.pair .bool (.sl kI))]), (3, .box [.d (.pair .bool (.sl kI))]), (4, .box [.d .bool, .row kI 3]), (5, .row kI 3), (6, .d kI), (7, .d kI), (8, .d kI)]) (.node none none (.node none none (.node (some [(2, .box [.d (.pair .bool (.sl kI))]), (3, .box [.d (.pair .bool (.sl kI))]), (4, .box [.d .bool, .row kI 3]), (5, .row kI 3), (6, .d kI), (7, .d kI), (8, .d kI), (34, .d .bool)]) none .leaf .leaf) .leaf) .leaf) .leaf) .leaf))) .leaf) .leaf)) .leaf) .leaf)) .leaf))
def b_parquetref01_Num_Times (k : Nat) (c_parquetref01_digit : (List Int) → Int → Option Int) (c_parquetref01_trim : Bool → (List Int) → Option (Bool × (List Int))) (a0 : (Bool × (List Int))) (a1 : (Bool × (List Int))) : Option (Bool × (List Int)) :=
  gd (decide (0 ≤ (w64 ((w64 ((a0.2.length : Int) + (a1.2.length : Int))) + 1)))) <|
   gd (fewI (w64 ((w64 ((a0.2.length : Int) + (a1.2.length : Int))) + 1))) <|
   loopN (α := ((Bool × (List Int)) × ((Bool × (List Int)) × ((Bool × (List Int)) × ((List Int) × Int))))) (fun (x1, x2, x3, x4, x5) next0 =>
    bif decide (x5 < (x1.2.length : Int)) then
     loopN (α := ((Bool × (List Int)) × ((Bool × (List Int)) × ((Bool × (List Int)) × ((List Int) × (Int × (Int × Int))))))) (fun (x7, x8, x9, x10, x11, x12, x13) next6 =>
      meet (α := ((Bool × (List Int)) × ((Bool × (List Int)) × ((Bool × (List Int)) × ((List Int) × (Int × (Int × (Int × Bool)))))))) (fun (y14, y15, y16, y17, y18, y19, y20, y21) =>
       bif y21 then
        gd (inb (w64 (y18 + y20)) y17.length) <|
        gd (inb y18 y14.2.length) <|
        bnd (c_parquetref01_digit y15.2 y20) fun r22 =>
        gd (inb (w64 (y18 + y20)) y17.length) <|
        next6 ((y14.1, y14.2), (y15.1, y15.2), (y16.1, y16.2), stL y17 (w64 (y18 + y20)) ((w64 ((w64 ((rdD 0 y17 (w64 (y18 + y20))) + (w64 ((rdD 0 y14.2 y18) * r22)))) + y19)).tmod 65536), y18, w64 ((w64 ((w64 ((rdD 0 y17 (w64 (y18 + y20))) + (w64 ((rdD 0 y14.2 y18) * r22)))) + y19)).tdiv 65536), w64 (y20 + 1))
       else
        next0 ((y14.1, y14.2), (y15.1, y15.2), (y16.1, y16.2), y17, w64 (y18 + 1))) fun j23 =>
      bif decide (x13 < (x8.2.length : Int)) then
       j23 ((x7.1, x7.2), (x8.1, x8.2), (x9.1, x9.2), x10, x11, x12, x13, true)
      else
       j23 ((x7.1, x7.2), (x8.1, x8.2), (x9.1, x9.2), x10, x11, x12, x13, decide (x12 > 0))) k ((x1.1, x1.2), (x2.1, x2.2), (x3.1, x3.2), x4, x5, 0, 0)
    else
     bnd (c_parquetref01_trim (!(x1.1 == x2.1)) x4) fun r24 =>
     some (r24.1, r24.2)) k ((a0.1, a0.2), (a1.1, a1.2), (false, []), rpL (w64 ((w64 ((a0.2.length : Int) + (a1.2.length : Int))) + 1)) 0, 0)
theorem eq_parquetref01_Num_Times (k : Nat) (c_parquetref01_digit : (List Int) → Int → Option Int) (c_parquetref01_trim : Bool → (List Int) → Option (Bool × (List Int))) (a0 : (Bool × (List Int))) (a1 : (Bool × (List Int))) : textF [⟨41, [.d (.sl kI), .d kI], [kI], fun x => c_parquetref01_digit (x.1) (x.2), none⟩, ⟨40, [.d .bool, .d (.sl kI)], [.pair .bool (.sl kI)], fun x => c_parquetref01_trim (x.1) (x.2), none⟩] tb k Try.f21 an_parquetref01_Num_Times [.d (.pair .bool (.sl kI)), .d (.pair .bool (.sl kI))] [.pair .bool (.sl kI)] (a0, a1) = b_parquetref01_Num_Times k c_parquetref01_digit c_parquetref01_trim a0 a1 := by kernel_rfl
def g_parquetref01_Num_Times (k : Nat) (a0 : (Bool × (List Int))) (a1 : (Bool × (List Int))) : Option (Bool × (List Int)) := b_parquetref01_Num_Times k (g_parquetref01_digit k) (g_parquetref01_trim k) a0 a1
theorem tells_parquetref01_Num_Times (k : Nat) : TellsF Try.prog 21 [.d (.pair .bool (.sl kI)), .d (.pair .bool (.sl kI))] [.pair .bool (.sl kI)] (fun x => g_parquetref01_Num_Times k (x.1) (x.2)) := fun x y h => fun_tells tb_ok mix (es := [⟨41, [.d (.sl kI), .d kI], [kI], fun x => g_parquetref01_digit k (x.1) (x.2), none⟩, ⟨40, [.d .bool, .d (.sl kI)], [.pair .bool (.sl kI)], fun x => g_parquetref01_trim k (x.1) (x.2), none⟩]) (EsOk.cons (EntryOk.of rfl (tells_parquetref01_digit k)) (EsOk.cons (EntryOk.of rfl (tells_parquetref01_trim k)) (EsOk.nil _))) Try.func21 (N := k) (an := an_parquetref01_Num_Times) (by kernel_rfl) x y ((eq_parquetref01_Num_Times k (g_parquetref01_digit k) (g_parquetref01_trim k) (x.1) (x.2)).trans h)

def an_parquetref01_Num_Neg : Ann := .node none none .leaf (.node none none (.node (some [(2, .box [.d (.pair .bool (.sl kI))])]) none .leaf .leaf) .leaf)
def g_parquetref01_Num_Neg (k : Nat) (a0 : (Bool × (List Int))) : Option (Bool × (List Int)) :=
  meet (α := (Bool × (List Int))) (fun (y0, y1) =>
    some (y0, y1)) fun j2 =>
   bif !a0.1 then
    j2 (decide ((a0.2.length : Int) > 0), a0.2)
   else
    j2 (false, a0.2)
theorem eq_parquetref01_Num_Neg (k : Nat) (a0 : (Bool × (List Int))) : textF [] tb k Try.f38 an_parquetref01_Num_Neg [.d (.pair .bool (.sl kI))] [.pair .bool (.sl kI)] a0 = g_parquetref01_Num_Neg k a0 := by kernel_rfl
theorem tells_parquetref01_Num_Neg (k : Nat) : TellsF Try.prog 38 [.d (.pair .bool (.sl kI))] [.pair .bool (.sl kI)] (fun x => g_parquetref01_Num_Neg k x) := fun x y h => fun_tells tb_ok mix (es := []) (EsOk.nil _) Try.func38 (N := k) (an := an_parquetref01_Num_Neg) (by kernel_rfl) x y ((eq_parquetref01_Num_Neg k x).trans h)

def an_parquetref01_size : Ann := .node none none .leaf (.node none none .leaf (.node none none (.node none none .leaf (.node none none (.node none (some [(0, .d (.sl kI)), (1, .d (.sl kI)), (5, .d kI)]) .leaf .leaf) .leaf)) .leaf))
def g_parquetref01_size (k : Nat) (a0 : (List Int)) (a1 : (List Int)) : Option Int :=
  bif !(decide ((a0.length : Int) = (a1.length : Int))) then
    some (w64 ((a0.length : Int) - (a1.length : Int)))
   else
    loopN (α := ((List Int) × ((List Int) × Int))) (fun (x1, x2, x3) next0 =>
     bif decide (x3 ≥ 0) then
      gd (inb x3 x1.length) <|
      gd (inb x3 x2.length) <|
      bif !(decide ((rdD 0 x1 x3) = (rdD 0 x2 x3))) then
       gd (inb x3 x1.length) <|
       gd (inb x3 x2.length) <|
       some (w64 ((rdD 0 x1 x3) - (rdD 0 x2 x3)))
      else
       next0 (x1, x2, w64 (x3 - 1))
     else
      some 0) k (a0, a1, w64 ((a0.length : Int) - 1))
theorem eq_parquetref01_size (k : Nat) (a0 : (List Int)) (a1 : (List Int)) : textF [] tb k Try.f49 an_parquetref01_size [.d (.sl kI), .d (.sl kI)] [kI] (a0, a1) = g_parquetref01_size k a0 a1 := by kernel_rfl
theorem tells_parquetref01_size (k : Nat) : TellsF Try.prog 49 [.d (.sl kI), .d (.sl kI)] [kI] (fun x => g_parquetref01_size k (x.1) (x.2)) := fun x y h => fun_tells tb_ok mix (es := []) (EsOk.nil _) Try.func49 (N := k) (an := an_parquetref01_size) (by kernel_rfl) x y ((eq_parquetref01_size k (x.1) (x.2)).trans h)

def an_parquetref01_Num_Plus : Ann := .node none none .leaf (.node none none .leaf (.node none none .leaf (.node none none (.node none none .leaf (.node none none (.node none none (.node none none .leaf (.node none none (.node none (some [(2, .box [.d (.pair .bool (.sl kI))]), (3, .box [.d (.pair .bool (.sl kI))]), (4, .box [.d .bool, .row kI 3]), (5, .row kI 3), (6, .d kI), (7, .d kI)]) (.node none none (.node none none (.node (some [(2, .box [.d (.pair .bool (.sl kI))]), (3, .box [.d (.pair .bool (.sl kI))]), (4, .box [.d .bool, .row kI 3]), (5, .row kI 3), (6, .d kI), (7, .d kI), (33, .d .bool)]) none .leaf .leaf) .leaf) .leaf) .leaf) .leaf)) .leaf) .leaf)) (.node none none .leaf (.node none none .leaf (.node none none (.node none none .leaf (.node (some [(4, .box [.d .bool, .row kI 3]), (5, .row kI 3), (6, .d kI), (9, .box [.d (.pair .bool (.sl kI))]), (10, .box [.d (.pair .bool (.sl kI))])]) none .leaf .leaf)) (.node none none (.node none none .leaf (.node none none (.node none (some [(4, .box [.d .bool, .row kI 3]), (5, .row kI 3), (6, .d kI), (9, .box [.d (.pair .bool (.sl kI))]), (10, .box [.d (.pair .bool (.sl kI))]), (11, .d kI)]) (.node none none .leaf (.node none none (.node none none (.node none none .leaf (.node none none .leaf (.node none none (.node none none .leaf (.node (some [(4, .box [.d .bool, .row kI 3]), (5, .row kI 3), (6, .d kI), (9, .box [.d (.pair .bool (.sl kI))]), (10, .box [.d (.pair .bool (.sl kI))]), (11, .d kI), (12, .d kI)]) none .leaf .leaf)) .leaf))) .leaf) .leaf)) .leaf) .leaf)) .leaf)))))))
def b_parquetref01_Num_Plus (k : Nat) (c_parquetref01_digit : (List Int) → Int → Option Int) (c_parquetref01_trim : Bool → (List Int) → Option (Bool × (List Int))) (c_parquetref01_size : (List Int) → (List Int) → Option Int) (a0 : (Bool × (List Int))) (a1 : (Bool × (List Int))) : Option (Bool × (List Int)) :=
  bif a0.1 == a1.1 then
    loopN (α := ((Bool × (List Int)) × ((Bool × (List Int)) × ((Bool × (List Int)) × ((List Int) × (Int × Int)))))) (fun (x1, x2, x3, x4, x5, x6) next0 =>
     meet (α := ((Bool × (List Int)) × ((Bool × (List Int)) × ((Bool × (List Int)) × ((List Int) × (Int × (Int × Bool))))))) (fun (y7, y8, y9, y10, y11, y12, y13) =>
      bif y13 then
       bnd (c_parquetref01_digit y7.2 y12) fun r14 =>
       bnd (c_parquetref01_digit y8.2 y12) fun r15 =>
       gd (few (y10.length + 1)) <|
       next0 ((y7.1, y7.2), (y8.1, y8.2), (y9.1, y9.2), y10 ++ [(w64 ((w64 (r14 + r15)) + y11)).tmod 65536], w64 ((w64 ((w64 (r14 + r15)) + y11)).tdiv 65536), w64 (y12 + 1))
      else
       bnd (c_parquetref01_trim y7.1 y10) fun r16 =>
       some (r16.1, r16.2)) fun j17 =>
     bif decide (x6 < (x1.2.length : Int)) then
      j17 ((x1.1, x1.2), (x2.1, x2.2), (x3.1, x3.2), x4, x5, x6, true)
     else
      bif decide (x6 < (x2.2.length : Int)) then
       j17 ((x1.1, x1.2), (x2.1, x2.2), (x3.1, x3.2), x4, x5, x6, true)
      else
       j17 ((x1.1, x1.2), (x2.1, x2.2), (x3.1, x3.2), x4, x5, x6, decide (x5 > 0))) k ((a0.1, a0.2), (a1.1, a1.2), (false, []), [], 0, 0)
   else
    bnd (c_parquetref01_size a0.2 a1.2) fun r18 =>
    meet (α := ((Bool × (List Int)) × ((List Int) × (Int × ((Bool × (List Int)) × (Bool × (List Int))))))) (fun (y19, y20, y21, y22, y23, y24) =>
     loopN (α := ((Bool × (List Int)) × ((List Int) × (Int × ((Bool × (List Int)) × ((Bool × (List Int)) × Int)))))) (fun (x26, x27, x28, x29, x30, x31) next25 =>
      bif decide (x31 < (x29.2.length : Int)) then
       gd (inb x31 x29.2.length) <|
       bnd (c_parquetref01_digit x30.2 x31) fun r32 =>
       meet (α := ((Bool × (List Int)) × ((List Int) × (Int × ((Bool × (List Int)) × ((Bool × (List Int)) × (Int × Int))))))) (fun (y33, y34, y35, y36, y37, y38, y39) =>
        gd (few (y34.length + 1)) <|
        next25 ((y33.1, y33.2), y34 ++ [y39], y35, (y36.1, y36.2), (y37.1, y37.2), w64 (y38 + 1))) fun j40 =>
       bif decide ((w64 ((w64 ((rdD 0 x29.2 x31) - r32)) - x28)) < 0) then
        j40 ((x26.1, x26.2), x27, 1, (x29.1, x29.2), (x30.1, x30.2), x31, w64 ((w64 ((w64 ((rdD 0 x29.2 x31) - r32)) - x28)) + 65536))
       else
        j40 ((x26.1, x26.2), x27, 0, (x29.1, x29.2), (x30.1, x30.2), x31, w64 ((w64 ((rdD 0 x29.2 x31) - r32)) - x28))
      else
       bnd (c_parquetref01_trim x29.1 x27) fun r41 =>
       some (r41.1, r41.2)) k ((y19.1, y19.2), y20, y21, (y22.1, y22.2), (y23, y24), 0)) fun j42 =>
    bif decide (r18 < 0) then
     j42 ((false, []), [], 0, (a1.1, a1.2), a0.1, a0.2)
    else
     j42 ((false, []), [], 0, (a0.1, a0.2), a1.1, a1.2)
theorem eq_parquetref01_Num_Plus (k : Nat) (c_parquetref01_digit : (List Int) → Int → Option Int) (c_parquetref01_trim : Bool → (List Int) → Option (Bool × (List Int))) (c_parquetref01_size : (List Int) → (List Int) → Option Int) (a0 : (Bool × (List Int))) (a1 : (Bool × (List Int))) : textF [⟨41, [.d (.sl kI), .d kI], [kI], fun x => c_parquetref01_digit (x.1) (x.2), none⟩, ⟨40, [.d .bool, .d (.sl kI)], [.pair .bool (.sl kI)], fun x => c_parquetref01_trim (x.1) (x.2), none⟩, ⟨49, [.d (.sl kI), .d (.sl kI)], [kI], fun x => c_parquetref01_size (x.1) (x.2), none⟩] tb k Try.f37 an_parquetref01_Num_Plus [.d (.pair .bool (.sl kI)), .d (.pair .bool (.sl kI))] [.pair .bool (.sl kI)] (a0, a1) = b_parquetref01_Num_Plus k c_parquetref01_digit c_parquetref01_trim c_parquetref01_size a0 a1 := by kernel_rfl
def g_parquetref01_Num_Plus (k : Nat) (a0 : (Bool × (List Int))) (a1 : (Bool × (List Int))) : Option (Bool × (List Int)) := b_parquetref01_Num_Plus k (g_parquetref01_digit k) (g_parquetref01_trim k) (g_parquetref01_size k) a0 a1
theorem tells_parquetref01_Num_Plus (k : Nat) : TellsF Try.prog 37 [.d (.pair .bool (.sl kI)), .d (.pair .bool (.sl kI))] [.pair .bool (.sl kI)] (fun x => g_parquetref01_Num_Plus k (x.1) (x.2)) := fun x y h => fun_tells tb_ok mix (es := [⟨41, [.d (.sl kI), .d kI], [kI], fun x => g_parquetref01_digit k (x.1) (x.2), none⟩, ⟨40, [.d .bool, .d (.sl kI)], [.pair .bool (.sl kI)], fun x => g_parquetref01_trim k (x.1) (x.2), none⟩, ⟨49, [.d (.sl kI), .d (.sl kI)], [kI], fun x => g_parquetref01_size k (x.1) (x.2), none⟩]) (EsOk.cons (EntryOk.of rfl (tells_parquetref01_digit k)) (EsOk.cons (EntryOk.of rfl (tells_parquetref01_trim k)) (EsOk.cons (EntryOk.of rfl (tells_parquetref01_size k)) (EsOk.nil _)))) Try.func37 (N := k) (an := an_parquetref01_Num_Plus) (by kernel_rfl) x y ((eq_parquetref01_Num_Plus k (g_parquetref01_digit k) (g_parquetref01_trim k) (g_parquetref01_size k) (x.1) (x.2)).trans h)

def an_parquetref03_minus : Ann := .leaf
def b_parquetref03_minus (k : Nat) (c_parquetref01_Num_Neg : (Bool × (List Int)) → Option (Bool × (List Int))) (c_parquetref01_Num_Plus : (Bool × (List Int)) → (Bool × (List Int)) → Option (Bool × (List Int))) (a0 : (Bool × (List Int))) (a1 : (Bool × (List Int))) : Option (Bool × (List Int)) :=
  bnd (c_parquetref01_Num_Neg (a1.1, a1.2)) fun r0 =>
   bnd (c_parquetref01_Num_Plus (a0.1, a0.2) (r0.1, r0.2)) fun r1 =>
   some (r1.1, r1.2)
theorem eq_parquetref03_minus (k : Nat) (c_parquetref01_Num_Neg : (Bool × (List Int)) → Option (Bool × (List Int))) (c_parquetref01_Num_Plus : (Bool × (List Int)) → (Bool × (List Int)) → Option (Bool × (List Int))) (a0 : (Bool × (List Int))) (a1 : (Bool × (List Int))) : textF [⟨38, [.d (.pair .bool (.sl kI))], [.pair .bool (.sl kI)], fun x => c_parquetref01_Num_Neg x, none⟩, ⟨37, [.d (.pair .bool (.sl kI)), .d (.pair .bool (.sl kI))], [.pair .bool (.sl kI)], fun x => c_parquetref01_Num_Plus (x.1) (x.2), none⟩] tb k Try.f64 an_parquetref03_minus [.d (.pair .bool (.sl kI)), .d (.pair .bool (.sl kI))] [.pair .bool (.sl kI)] (a0, a1) = b_parquetref03_minus k c_parquetref01_Num_Neg c_parquetref01_Num_Plus a0 a1 := by kernel_rfl
def g_parquetref03_minus (k : Nat) (a0 : (Bool × (List Int))) (a1 : (Bool × (List Int))) : Option (Bool × (List Int)) := b_parquetref03_minus k (g_parquetref01_Num_Neg k) (g_parquetref01_Num_Plus k) a0 a1
theorem tells_parquetref03_minus (k : Nat) : TellsF Try.prog 64 [.d (.pair .bool (.sl kI)), .d (.pair .bool (.sl kI))] [.pair .bool (.sl kI)] (fun x => g_parquetref03_minus k (x.1) (x.2)) := fun x y h => fun_tells tb_ok mix (es := [⟨38, [.d (.pair .bool (.sl kI))], [.pair .bool (.sl kI)], fun x => g_parquetref01_Num_Neg k x, none⟩, ⟨37, [.d (.pair .bool (.sl kI)), .d (.pair .bool (.sl kI))], [.pair .bool (.sl kI)], fun x => g_parquetref01_Num_Plus k (x.1) (x.2), none⟩]) (EsOk.cons (EntryOk.of rfl (tells_parquetref01_Num_Neg k)) (EsOk.cons (EntryOk.of rfl (tells_parquetref01_Num_Plus k)) (EsOk.nil _))) Try.func64 (N := k) (an := an_parquetref03_minus) (by kernel_rfl) x y ((eq_parquetref03_minus k (g_parquetref01_Num_Neg k) (g_parquetref01_Num_Plus k) (x.1) (x.2)).trans h)

def an_parquetref03_Det : Ann := .leaf
def b_parquetref03_Det (k : Nat) (c_parquetref01_Num_Times : (Bool × (List Int)) → (Bool × (List Int)) → Option (Bool × (List Int))) (c_parquetref03_minus : (Bool × (List Int)) → (Bool × (List Int)) → Option (Bool × (List Int))) (a0 : (Bool × (List Int))) (a1 : (Bool × (List Int))) (a2 : (Bool × (List Int))) (a3 : (Bool × (List Int))) : Option (Bool × (List Int)) :=
  bnd (c_parquetref01_Num_Times (a0.1, a0.2) (a3.1, a3.2)) fun r0 =>
   bnd (c_parquetref01_Num_Times (a1.1, a1.2) (a2.1, a2.2)) fun r1 =>
   bnd (c_parquetref03_minus (r0.1, r0.2) (r1.1, r1.2)) fun r2 =>
   some (r2.1, r2.2)
theorem eq_parquetref03_Det (k : Nat) (c_parquetref01_Num_Times : (Bool × (List Int)) → (Bool × (List Int)) → Option (Bool × (List Int))) (c_parquetref03_minus : (Bool × (List Int)) → (Bool × (List Int)) → Option (Bool × (List Int))) (a0 : (Bool × (List Int))) (a1 : (Bool × (List Int))) (a2 : (Bool × (List Int))) (a3 : (Bool × (List Int))) : textF [⟨21, [.d (.pair .bool (.sl kI)), .d (.pair .bool (.sl kI))], [.pair .bool (.sl kI)], fun x => c_parquetref01_Num_Times (x.1) (x.2), none⟩, ⟨64, [.d (.pair .bool (.sl kI)), .d (.pair .bool (.sl kI))], [.pair .bool (.sl kI)], fun x => c_parquetref03_minus (x.1) (x.2), none⟩] tb k Try.f58 an_parquetref03_Det [.d (.pair .bool (.sl kI)), .d (.pair .bool (.sl kI)), .d (.pair .bool (.sl kI)), .d (.pair .bool (.sl kI))] [.pair .bool (.sl kI)] (a0, a1, a2, a3) = b_parquetref03_Det k c_parquetref01_Num_Times c_parquetref03_minus a0 a1 a2 a3 := by kernel_rfl
def g_parquetref03_Det (k : Nat) (a0 : (Bool × (List Int))) (a1 : (Bool × (List Int))) (a2 : (Bool × (List Int))) (a3 : (Bool × (List Int))) : Option (Bool × (List Int)) := b_parquetref03_Det k (g_parquetref01_Num_Times k) (g_parquetref03_minus k) a0 a1 a2 a3
theorem tells_parquetref03_Det (k : Nat) : TellsF Try.prog 58 [.d (.pair .bool (.sl kI)), .d (.pair .bool (.sl kI)), .d (.pair .bool (.sl kI)), .d (.pair .bool (.sl kI))] [.pair .bool (.sl kI)] (fun x => g_parquetref03_Det k (x.1) (x.2.1) (x.2.2.1) (x.2.2.2)) := fun x y h => fun_tells tb_ok mix (es := [⟨21, [.d (.pair .bool (.sl kI)), .d (.pair .bool (.sl kI))], [.pair .bool (.sl kI)], fun x => g_parquetref01_Num_Times k (x.1) (x.2), none⟩, ⟨64, [.d (.pair .bool (.sl kI)), .d (.pair .bool (.sl kI))], [.pair .bool (.sl kI)], fun x => g_parquetref03_minus k (x.1) (x.2), none⟩]) (EsOk.cons (EntryOk.of rfl (tells_parquetref01_Num_Times k)) (EsOk.cons (EntryOk.of rfl (tells_parquetref03_minus k)) (EsOk.nil _))) Try.func58 (N := k) (an := an_parquetref03_Det) (by kernel_rfl) x y ((eq_parquetref03_Det k (g_parquetref01_Num_Times k) (g_parquetref03_minus k) (x.1) (x.2.1) (x.2.2.1) (x.2.2.2)).trans h)

def an_parquetref03_Area : Ann := .leaf
def b_parquetref03_Area (k : Nat) (c_parquetref03_num : Int → Option (Bool × (List Int))) (c_parquetref03_Det : (Bool × (List Int)) → (Bool × (List Int)) → (Bool × (List Int)) → (Bool × (List Int)) → Option (Bool × (List Int))) (c_parquetref01_Num_Plus : (Bool × (List Int)) → (Bool × (List Int)) → Option (Bool × (List Int))) (a0 : (Int × Int)) (a1 : (Int × Int)) (a2 : (Int × Int)) : Option (Bool × (List Int)) :=
  bnd (c_parquetref03_num a0.1) fun r0 =>
   bnd (c_parquetref03_num a0.2) fun r1 =>
   bnd (c_parquetref03_num a1.1) fun r2 =>
   bnd (c_parquetref03_num a1.2) fun r3 =>
   bnd (c_parquetref03_Det (r0.1, r0.2) (r1.1, r1.2) (r2.1, r2.2) (r3.1, r3.2)) fun r4 =>
   bnd (c_parquetref03_num a1.1) fun r5 =>
   bnd (c_parquetref03_num a1.2) fun r6 =>
   bnd (c_parquetref03_num a2.1) fun r7 =>
   bnd (c_parquetref03_num a2.2) fun r8 =>
   bnd (c_parquetref03_Det (r5.1, r5.2) (r6.1, r6.2) (r7.1, r7.2) (r8.1, r8.2)) fun r9 =>
   bnd (c_parquetref01_Num_Plus (r4.1, r4.2) (r9.1, r9.2)) fun r10 =>
   bnd (c_parquetref03_num a2.1) fun r11 =>
   bnd (c_parquetref03_num a2.2) fun r12 =>
   bnd (c_parquetref03_num a0.1) fun r13 =>
   bnd (c_parquetref03_num a0.2) fun r14 =>
   bnd (c_parquetref03_Det (r11.1, r11.2) (r12.1, r12.2) (r13.1, r13.2) (r14.1, r14.2)) fun r15 =>
   bnd (c_parquetref01_Num_Plus (r10.1, r10.2) (r15.1, r15.2)) fun r16 =>
   some (r16.1, r16.2)
theorem eq_parquetref03_Area (k : Nat) (c_parquetref03_num : Int → Option (Bool × (List Int))) (c_parquetref03_Det : (Bool × (List Int)) → (Bool × (List Int)) → (Bool × (List Int)) → (Bool × (List Int)) → Option (Bool × (List Int))) (c_parquetref01_Num_Plus : (Bool × (List Int)) → (Bool × (List Int)) → Option (Bool × (List Int))) (a0 : (Int × Int)) (a1 : (Int × Int)) (a2 : (Int × Int)) : textF [⟨59, [.d kI], [.pair .bool (.sl kI)], fun x => c_parquetref03_num x, none⟩, ⟨58, [.d (.pair .bool (.sl kI)), .d (.pair .bool (.sl kI)), .d (.pair .bool (.sl kI)), .d (.pair .bool (.sl kI))], [.pair .bool (.sl kI)], fun x => c_parquetref03_Det (x.1) (x.2.1) (x.2.2.1) (x.2.2.2), none⟩, ⟨37, [.d (.pair .bool (.sl kI)), .d (.pair .bool (.sl kI))], [.pair .bool (.sl kI)], fun x => c_parquetref01_Num_Plus (x.1) (x.2), none⟩] tb k Try.f48 an_parquetref03_Area [.d (.pair kI kI), .d (.pair kI kI), .d (.pair kI kI)] [.pair .bool (.sl kI)] (a0, a1, a2) = b_parquetref03_Area k c_parquetref03_num c_parquetref03_Det c_parquetref01_Num_Plus a0 a1 a2 := by kernel_rfl
def g_parquetref03_Area (k : Nat) (a0 : (Int × Int)) (a1 : (Int × Int)) (a2 : (Int × Int)) : Option (Bool × (List Int)) := b_parquetref03_Area k (g_parquetref03_num k) (g_parquetref03_Det k) (g_parquetref01_Num_Plus k) a0 a1 a2
theorem tells_parquetref03_Area (k : Nat) : TellsF Try.prog 48 [.d (.pair kI kI), .d (.pair kI kI), .d (.pair kI kI)] [.pair .bool (.sl kI)] (fun x => g_parquetref03_Area k (x.1) (x.2.1) (x.2.2)) := fun x y h => fun_tells tb_ok mix (es := [⟨59, [.d kI], [.pair .bool (.sl kI)], fun x => g_parquetref03_num k x, none⟩, ⟨58, [.d (.pair .bool (.sl kI)), .d (.pair .bool (.sl kI)), .d (.pair .bool (.sl kI)), .d (.pair .bool (.sl kI))], [.pair .bool (.sl kI)], fun x => g_parquetref03_Det k (x.1) (x.2.1) (x.2.2.1) (x.2.2.2), none⟩, ⟨37, [.d (.pair .bool (.sl kI)), .d (.pair .bool (.sl kI))], [.pair .bool (.sl kI)], fun x => g_parquetref01_Num_Plus k (x.1) (x.2), none⟩]) (EsOk.cons (EntryOk.of rfl (tells_parquetref03_num k)) (EsOk.cons (EntryOk.of rfl (tells_parquetref03_Det k)) (EsOk.cons (EntryOk.of rfl (tells_parquetref01_Num_Plus k)) (EsOk.nil _)))) Try.func48 (N := k) (an := an_parquetref03_Area) (by kernel_rfl) x y ((eq_parquetref03_Area k (g_parquetref03_num k) (g_parquetref03_Det k) (g_parquetref01_Num_Plus k) (x.1) (x.2.1) (x.2.2)).trans h)

def an_parquetref08_Area : Ann := .node none none .leaf (.node none none .leaf (.node none none (.node none none .leaf (.node none none (.node none (some [(0, .d (.sl (.pair kI kI))), (1, .d (.sl kI)), (4, .box [.d .bool, .row kI 3]), (6, .d kI)]) (.node none none .leaf (.node none none (.node none none (.node none none (.node (some [(0, .d (.sl (.pair kI kI))), (1, .d (.sl kI)), (4, .box [.d .bool, .row kI 3]), (6, .d kI), (43, .d .bool)]) none .leaf .leaf) .leaf) .leaf) .leaf)) .leaf) .leaf)) (.node none none .leaf (.node none none (.node none none .leaf (.node none none (.node none (some [(0, .d (.sl (.pair kI kI))), (1, .d (.sl kI)), (4, .box [.d .bool, .row kI 3]), (7, .box [.d (.pair .bool (.sl kI))]), (8, .d kI)]) .leaf .leaf) .leaf)) .leaf))))
def b_parquetref08_Area (k : Nat) (c_parquetref03_Fits : (Int × Int) → Option Bool) (c_parquetref03_Area : (Int × Int) → (Int × Int) → (Int × Int) → Option (Bool × (List Int))) (c_parquetref01_Num_Plus : (Bool × (List Int)) → (Bool × (List Int)) → Option (Bool × (List Int))) (a0 : (List (Int × Int))) (a1 : (List Int)) : Option ((Bool × (List Int)) × Int) :=
  bif decide ((a1.length : Int) > 1048576) then
    some ((false, []), 2)
   else
    loopN (α := ((List (Int × Int)) × ((List Int) × ((Bool × (List Int)) × Int)))) (fun (x1, x2, x3, x4) next0 =>
     bif decide (x4 < (x2.length : Int)) then
      meet (α := ((List (Int × Int)) × ((List Int) × ((Bool × (List Int)) × (Int × Bool))))) (fun (y5, y6, y7, y8, y9) =>
       bif y9 then
        some ((false, []), 2)
       else
        next0 (y5, y6, (y7.1, y7.2), w64 (y8 + 1))) fun j10 =>
      gd (inb x4 x2.length) <|
      bif decide ((rdD 0 x2 x4) < 0) then
       j10 (x1, x2, (x3.1, x3.2), x4, true)
      else
       gd (inb x4 x2.length) <|
       bif decide ((rdD 0 x2 x4) ≥ (x1.length : Int)) then
        j10 (x1, x2, (x3.1, x3.2), x4, true)
       else
        gd (inb x4 x2.length) <|
        gd (inb (rdD 0 x2 x4) x1.length) <|
        bnd (c_parquetref03_Fits ((rdD (0, 0) x1 (rdD 0 x2 x4)).1, (rdD (0, 0) x1 (rdD 0 x2 x4)).2)) fun r11 =>
        j10 (x1, x2, (x3.1, x3.2), x4, !r11)
     else
      loopN (α := ((List (Int × Int)) × ((List Int) × ((Bool × (List Int)) × ((Bool × (List Int)) × Int))))) (fun (x13, x14, x15, x16, x17) next12 =>
       bif decide (x17 < (x14.length : Int)) then
        gd (inb 0 x14.length) <|
        gd (inb (rdD 0 x14 0) x13.length) <|
        gd (inb (w64 (x17 - 1)) x14.length) <|
        gd (inb (rdD 0 x14 (w64 (x17 - 1))) x13.length) <|
        gd (inb x17 x14.length) <|
        gd (inb (rdD 0 x14 x17) x13.length) <|
        bnd (c_parquetref03_Area ((rdD (0, 0) x13 (rdD 0 x14 0)).1, (rdD (0, 0) x13 (rdD 0 x14 0)).2) ((rdD (0, 0) x13 (rdD 0 x14 (w64 (x17 - 1)))).1, (rdD (0, 0) x13 (rdD 0 x14 (w64 (x17 - 1)))).2) ((rdD (0, 0) x13 (rdD 0 x14 x17)).1, (rdD (0, 0) x13 (rdD 0 x14 x17)).2)) fun r18 =>
        bnd (c_parquetref01_Num_Plus (x16.1, x16.2) (r18.1, r18.2)) fun r19 =>
        next12 (x13, x14, (x15.1, x15.2), (r19.1, r19.2), w64 (x17 + 1))
       else
        some ((x16.1, x16.2), 0)) k (x1, x2, (x3.1, x3.2), (false, []), 2)) k (a0, a1, (false, []), 0)
theorem eq_parquetref08_Area (k : Nat) (c_parquetref03_Fits : (Int × Int) → Option Bool) (c_parquetref03_Area : (Int × Int) → (Int × Int) → (Int × Int) → Option (Bool × (List Int))) (c_parquetref01_Num_Plus : (Bool × (List Int)) → (Bool × (List Int)) → Option (Bool × (List Int))) (a0 : (List (Int × Int))) (a1 : (List Int)) : textF [⟨46, [.d (.pair kI kI)], [.bool], fun x => c_parquetref03_Fits x, none⟩, ⟨48, [.d (.pair kI kI), .d (.pair kI kI), .d (.pair kI kI)], [.pair .bool (.sl kI)], fun x => c_parquetref03_Area (x.1) (x.2.1) (x.2.2), none⟩, ⟨37, [.d (.pair .bool (.sl kI)), .d (.pair .bool (.sl kI))], [.pair .bool (.sl kI)], fun x => c_parquetref01_Num_Plus (x.1) (x.2), none⟩] tb k Try.f36 an_parquetref08_Area [.d (.sl (.pair kI kI)), .d (.sl kI)] [.pair .bool (.sl kI), kI] (a0, a1) = b_parquetref08_Area k c_parquetref03_Fits c_parquetref03_Area c_parquetref01_Num_Plus a0 a1 := by kernel_rfl
def g_parquetref08_Area (k : Nat) (a0 : (List (Int × Int))) (a1 : (List Int)) : Option ((Bool × (List Int)) × Int) := b_parquetref08_Area k (g_parquetref03_Fits k) (g_parquetref03_Area k) (g_parquetref01_Num_Plus k) a0 a1
theorem tells_parquetref08_Area (k : Nat) : TellsF Try.prog 36 [.d (.sl (.pair kI kI)), .d (.sl kI)] [.pair .bool (.sl kI), kI] (fun x => g_parquetref08_Area k (x.1) (x.2)) := fun x y h => fun_tells tb_ok mix (es := [⟨46, [.d (.pair kI kI)], [.bool], fun x => g_parquetref03_Fits k x, none⟩, ⟨48, [.d (.pair kI kI), .d (.pair kI kI), .d (.pair kI kI)], [.pair .bool (.sl kI)], fun x => g_parquetref03_Area k (x.1) (x.2.1) (x.2.2), none⟩, ⟨37, [.d (.pair .bool (.sl kI)), .d (.pair .bool (.sl kI))], [.pair .bool (.sl kI)], fun x => g_parquetref01_Num_Plus k (x.1) (x.2), none⟩]) (EsOk.cons (EntryOk.of rfl (tells_parquetref03_Fits k)) (EsOk.cons (EntryOk.of rfl (tells_parquetref03_Area k)) (EsOk.cons (EntryOk.of rfl (tells_parquetref01_Num_Plus k)) (EsOk.nil _)))) Try.func36 (N := k) (an := an_parquetref08_Area) (by kernel_rfl) x y ((eq_parquetref08_Area k (g_parquetref03_Fits k) (g_parquetref03_Area k) (g_parquetref01_Num_Plus k) (x.1) (x.2)).trans h)

def an_parquetlaw20_area : Ann := .node none none .leaf (.node none none .leaf (.node none none (.node none none .leaf (.node none none (.node none (some [(0, .d (.sl (.pair kI kI))), (1, .d (.sl (.sl kI))), (4, .box [.d .bool, .row kI 3]), (5, .box [.d (.pair .bool (.sl kI))]), (6, .d kI)]) .leaf .leaf) .leaf)) .leaf))
def b_parquetlaw20_area (k : Nat) (c_parquetref08_Area : (List (Int × Int)) → (List Int) → Option ((Bool × (List Int)) × Int)) (c_parquetref01_Num_Plus : (Bool × (List Int)) → (Bool × (List Int)) → Option (Bool × (List Int))) (a0 : (List (Int × Int))) (a1 : (List (List Int))) : Option (Bool × (List Int)) :=
  loopN (α := ((List (Int × Int)) × ((List (List Int)) × ((Bool × (List Int)) × ((Bool × (List Int)) × Int))))) (fun (x1, x2, x3, x4, x5) next0 =>
    bif decide (x5 < (x2.length : Int)) then
     gd (inb x5 x2.length) <|
     bnd (c_parquetref08_Area x1 (rdD [] x2 x5)) fun r6 =>
     bnd (c_parquetref01_Num_Plus (x4.1, x4.2) (r6.1.1, r6.1.2)) fun r7 =>
     next0 (x1, x2, (x3.1, x3.2), (r7.1, r7.2), w64 (x5 + 1))
    else
     some (x4.1, x4.2)) k (a0, a1, (false, []), (false, []), 0)
theorem eq_parquetlaw20_area (k : Nat) (c_parquetref08_Area : (List (Int × Int)) → (List Int) → Option ((Bool × (List Int)) × Int)) (c_parquetref01_Num_Plus : (Bool × (List Int)) → (Bool × (List Int)) → Option (Bool × (List Int))) (a0 : (List (Int × Int))) (a1 : (List (List Int))) : textF [⟨36, [.d (.sl (.pair kI kI)), .d (.sl kI)], [.pair .bool (.sl kI), kI], fun x => c_parquetref08_Area (x.1) (x.2), none⟩, ⟨37, [.d (.pair .bool (.sl kI)), .d (.pair .bool (.sl kI))], [.pair .bool (.sl kI)], fun x => c_parquetref01_Num_Plus (x.1) (x.2), none⟩] tb k Try.f18 an_parquetlaw20_area [.d (.sl (.pair kI kI)), .d (.sl (.sl kI))] [.pair .bool (.sl kI)] (a0, a1) = b_parquetlaw20_area k c_parquetref08_Area c_parquetref01_Num_Plus a0 a1 := by kernel_rfl
def g_parquetlaw20_area (k : Nat) (a0 : (List (Int × Int))) (a1 : (List (List Int))) : Option (Bool × (List Int)) := b_parquetlaw20_area k (g_parquetref08_Area k) (g_parquetref01_Num_Plus k) a0 a1
theorem tells_parquetlaw20_area (k : Nat) : TellsF Try.prog 18 [.d (.sl (.pair kI kI)), .d (.sl (.sl kI))] [.pair .bool (.sl kI)] (fun x => g_parquetlaw20_area k (x.1) (x.2)) := fun x y h => fun_tells tb_ok mix (es := [⟨36, [.d (.sl (.pair kI kI)), .d (.sl kI)], [.pair .bool (.sl kI), kI], fun x => g_parquetref08_Area k (x.1) (x.2), none⟩, ⟨37, [.d (.pair .bool (.sl kI)), .d (.pair .bool (.sl kI))], [.pair .bool (.sl kI)], fun x => g_parquetref01_Num_Plus k (x.1) (x.2), none⟩]) (EsOk.cons (EntryOk.of rfl (tells_parquetref08_Area k)) (EsOk.cons (EntryOk.of rfl (tells_parquetref01_Num_Plus k)) (EsOk.nil _))) Try.func18 (N := k) (an := an_parquetlaw20_area) (by kernel_rfl) x y ((eq_parquetlaw20_area k (g_parquetref08_Area k) (g_parquetref01_Num_Plus k) (x.1) (x.2)).trans h)

def an_parquetref01_Num_Sign : Ann := .leaf
def g_parquetref01_Num_Sign (k : Nat) (a0 : (Bool × (List Int))) : Option Int :=
  bif decide ((a0.2.length : Int) = 0) then
    some 0
   else
    bif a0.1 then
     some (-1)
    else
     some 1
theorem eq_parquetref01_Num_Sign (k : Nat) (a0 : (Bool × (List Int))) : textF [] tb k Try.f39 an_parquetref01_Num_Sign [.d (.pair .bool (.sl kI))] [kI] a0 = g_parquetref01_Num_Sign k a0 := by kernel_rfl
theorem tells_parquetref01_Num_Sign (k : Nat) : TellsF Try.prog 39 [.d (.pair .bool (.sl kI))] [kI] (fun x => g_parquetref01_Num_Sign k x) := fun x y h => fun_tells tb_ok mix (es := []) (EsOk.nil _) Try.func39 (N := k) (an := an_parquetref01_Num_Sign) (by kernel_rfl) x y ((eq_parquetref01_Num_Sign k x).trans h)

def an_parquetref01_Num_Cmp : Ann := .leaf
def b_parquetref01_Num_Cmp (k : Nat) (c_parquetref01_Num_Neg : (Bool × (List Int)) → Option (Bool × (List Int))) (c_parquetref01_Num_Plus : (Bool × (List Int)) → (Bool × (List Int)) → Option (Bool × (List Int))) (c_parquetref01_Num_Sign : (Bool × (List Int)) → Option Int) (a0 : (Bool × (List Int))) (a1 : (Bool × (List Int))) : Option Int :=
  bnd (c_parquetref01_Num_Neg (a1.1, a1.2)) fun r0 =>
   bnd (c_parquetref01_Num_Plus (a0.1, a0.2) (r0.1, r0.2)) fun r1 =>
   bnd (c_parquetref01_Num_Sign (r1.1, r1.2)) fun r2 =>
   some r2
theorem eq_parquetref01_Num_Cmp (k : Nat) (c_parquetref01_Num_Neg : (Bool × (List Int)) → Option (Bool × (List Int))) (c_parquetref01_Num_Plus : (Bool × (List Int)) → (Bool × (List Int)) → Option (Bool × (List Int))) (c_parquetref01_Num_Sign : (Bool × (List Int)) → Option Int) (a0 : (Bool × (List Int))) (a1 : (Bool × (List Int))) : textF [⟨38, [.d (.pair .bool (.sl kI))], [.pair .bool (.sl kI)], fun x => c_parquetref01_Num_Neg x, none⟩, ⟨37, [.d (.pair .bool (.sl kI)), .d (.pair .bool (.sl kI))], [.pair .bool (.sl kI)], fun x => c_parquetref01_Num_Plus (x.1) (x.2), none⟩, ⟨39, [.d (.pair .bool (.sl kI))], [kI], fun x => c_parquetref01_Num_Sign x, none⟩] tb k Try.f19 an_parquetref01_Num_Cmp [.d (.pair .bool (.sl kI)), .d (.pair .bool (.sl kI))] [kI] (a0, a1) = b_parquetref01_Num_Cmp k c_parquetref01_Num_Neg c_parquetref01_Num_Plus c_parquetref01_Num_Sign a0 a1 := by kernel_rfl
def g_parquetref01_Num_Cmp (k : Nat) (a0 : (Bool × (List Int))) (a1 : (Bool × (List Int))) : Option Int := b_parquetref01_Num_Cmp k (g_parquetref01_Num_Neg k) (g_parquetref01_Num_Plus k) (g_parquetref01_Num_Sign k) a0 a1
theorem tells_parquetref01_Num_Cmp (k : Nat) : TellsF Try.prog 19 [.d (.pair .bool (.sl kI)), .d (.pair .bool (.sl kI))] [kI] (fun x => g_parquetref01_Num_Cmp k (x.1) (x.2)) := fun x y h => fun_tells tb_ok mix (es := [⟨38, [.d (.pair .bool (.sl kI))], [.pair .bool (.sl kI)], fun x => g_parquetref01_Num_Neg k x, none⟩, ⟨37, [.d (.pair .bool (.sl kI)), .d (.pair .bool (.sl kI))], [.pair .bool (.sl kI)], fun x => g_parquetref01_Num_Plus k (x.1) (x.2), none⟩, ⟨39, [.d (.pair .bool (.sl kI))], [kI], fun x => g_parquetref01_Num_Sign k x, none⟩]) (EsOk.cons (EntryOk.of rfl (tells_parquetref01_Num_Neg k)) (EsOk.cons (EntryOk.of rfl (tells_parquetref01_Num_Plus k)) (EsOk.cons (EntryOk.of rfl (tells_parquetref01_Num_Sign k)) (EsOk.nil _)))) Try.func19 (N := k) (an := an_parquetref01_Num_Cmp) (by kernel_rfl) x y ((eq_parquetref01_Num_Cmp k (g_parquetref01_Num_Neg k) (g_parquetref01_Num_Plus k) (g_parquetref01_Num_Sign k) (x.1) (x.2)).trans h)

end
end Go.Proofs.Ytiejhpighhjgiaa.AM
