/- The functions, by their texts: written by a program. -/
import Derived.Test.YtiejhpighhjgiaaAm
import Derived.Test.YtiejhpighhjgiaaProg
set_option linter.unusedVariables false
set_option maxRecDepth 100000
namespace Go.Proofs.Ytiejhpighhjgiaa.AM
open Go.RowKit Go.Proofs
noncomputable section
abbrev kI : Kd := .int .i64
def tb : Tb := [
  (3, ⟨.int .i64, 1, 8, [.int .i64 0], some kI, none⟩),
  (4, ⟨.bool, 1, 1, [.bool false], some .bool, none⟩),
  (22, ⟨.sl 33, 1, 24, [.nil], some (.sl (.pair kI kI)), none⟩),
  (23, ⟨.sl 24, 1, 24, [.nil], some (.sl (.sl kI)), none⟩),
  (24, ⟨.sl 3, 1, 24, [.nil], some (.sl kI), none⟩),
  (27, ⟨.int .i64, 1, 8, [.int .i64 0], some kI, none⟩),
  (33, ⟨.st [(0, 3), (1, 3)], 2, 16, [.int .i64 0, .int .i64 0], some (.pair kI kI), some [kI, kI]⟩),
  (43, ⟨.st [(0, 4), (1, 24)], 2, 32, [.bool false, .nil], some (.pair .bool (.sl kI)), none⟩),
  (53, ⟨.int .u16, 1, 2, [.int .u16 0], some (.int .u16), none⟩),
  (59, ⟨.mp 63 3, 1, 8, [.nmp], some (.mp (.pair kI kI) kI), none⟩),
  (60, ⟨.sl 63, 1, 24, [.nil], some (.sl (.pair kI kI)), none⟩),
  (63, ⟨.st [(0, 3), (1, 3)], 2, 16, [.int .i64 0, .int .i64 0], some (.pair kI kI), some [kI, kI]⟩),
  (65, ⟨.arr 4 3, 4, 32, [.int .i64 0, .int .i64 0, .int .i64 0, .int .i64 0], some (.pair kI (.pair kI (.pair kI kI))), some [kI, kI, kI, kI]⟩),
  (76, ⟨.sl 4, 1, 24, [.nil], some (.sl .bool), none⟩),
  (79, ⟨.st [(0, 59)], 1, 8, [.nmp], none, none⟩),
  (81, ⟨.st [(0, 79), (1, 23)], 2, 32, [.nmp, .nil], some (.pair (.mp (.pair kI kI) kI) (.sl (.sl kI))), none⟩),
  (1000000053, noTI),
  (1000000054, noTI)]
theorem tb_ok : TbOk Try.prog tb := tbB_ok (by kernel_rfl)
theorem mix : Try.prog.follows .mixedOrders = true := by kernel_rfl
def an_cmp_isNaN_int : Ann := .leaf
def g_cmp_isNaN_int (k : Nat) (a0 : Int) : Option Bool :=
  some (!(decide (a0 = a0)))
theorem eq_cmp_isNaN_int (k : Nat) (a0 : Int) : textF [] tb k Try.f63 an_cmp_isNaN_int [.d kI] [.bool] a0 = g_cmp_isNaN_int k a0 := by kernel_rfl
theorem tells_cmp_isNaN_int (k : Nat) : TellsF Try.prog 63 [.d kI] [.bool] (fun x => g_cmp_isNaN_int k x) := fun x y h => fun_tells tb_ok mix (es := []) (EsOk.nil _) Try.func63 (N := k) (an := an_cmp_isNaN_int) (by kernel_rfl) x y ((eq_cmp_isNaN_int k x).trans h)

def an_cmp_Compare_int : Ann := .leaf
def b_cmp_Compare_int (k : Nat) (c_cmp_isNaN_int : Int → Option Bool) (a0 : Int) (a1 : Int) : Option Int :=
  bnd (c_cmp_isNaN_int a0) fun r0 =>
   bnd (c_cmp_isNaN_int a1) fun r1 =>
   bif r0 then
    bif r1 then
     some 0
    else
     some (-1)
   else
    bif r1 then
     some 1
    else
     bif decide (a0 < a1) then
      some (-1)
     else
      bif decide (a0 > a1) then
       some 1
      else
       some 0
theorem eq_cmp_Compare_int (k : Nat) (c_cmp_isNaN_int : Int → Option Bool) (a0 : Int) (a1 : Int) : textF [⟨63, [.d kI], [.bool], fun x => c_cmp_isNaN_int x, none⟩] tb k Try.f57 an_cmp_Compare_int [.d kI, .d kI] [kI] (a0, a1) = b_cmp_Compare_int k c_cmp_isNaN_int a0 a1 := by kernel_rfl
def g_cmp_Compare_int (k : Nat) (a0 : Int) (a1 : Int) : Option Int := b_cmp_Compare_int k (g_cmp_isNaN_int k) a0 a1
theorem tells_cmp_Compare_int (k : Nat) : TellsF Try.prog 57 [.d kI, .d kI] [kI] (fun x => g_cmp_Compare_int k (x.1) (x.2)) := fun x y h => fun_tells tb_ok mix (es := [⟨63, [.d kI], [.bool], fun x => g_cmp_isNaN_int k x, none⟩]) (EsOk.cons (EntryOk.of rfl (tells_cmp_isNaN_int k)) (EsOk.nil _)) Try.func57 (N := k) (an := an_cmp_Compare_int) (by kernel_rfl) x y ((eq_cmp_Compare_int k (g_cmp_isNaN_int k) (x.1) (x.2)).trans h)

def an_cmp_Or_int : Ann := .node none none .leaf (.node none none .leaf (.node none none (.node none none .leaf (.node none none (.node none (some [(3, .d kI), (6, .d (.sl kI)), (7, .d kI), (8, .d kI)]) .leaf .leaf) .leaf)) .leaf))
def g_cmp_Or_int (k : Nat) (a0 : (List Int)) : Option Int :=
  loopN (α := (Int × ((List Int) × (Int × Int)))) (fun (x1, x2, x3, x4) next0 =>
    bif decide (x4 < x3) then
     gd (inb x4 x2.length) <|
     bif !(decide ((rdD 0 x2 x4) = x1)) then
      some (rdD 0 x2 x4)
     else
      next0 (x1, x2, x3, w64 (x4 + 1))
    else
     some x1) k (0, a0, (a0.length : Int), 0)
theorem eq_cmp_Or_int (k : Nat) (a0 : (List Int)) : textF [] tb k Try.f56 an_cmp_Or_int [.d (.sl kI)] [kI] a0 = g_cmp_Or_int k a0 := by kernel_rfl
theorem tells_cmp_Or_int (k : Nat) : TellsF Try.prog 56 [.d (.sl kI)] [kI] (fun x => g_cmp_Or_int k x) := fun x y h => fun_tells tb_ok mix (es := []) (EsOk.nil _) Try.func56 (N := k) (an := an_cmp_Or_int) (by kernel_rfl) x y ((eq_cmp_Or_int k x).trans h)

def an_faces_mesh_edges_1 : Ann := .leaf
def b_faces_mesh_edges_1 (k : Nat) (c_cmp_Compare_int : Int → Int → Option Int) (c_cmp_Or_int : (List Int) → Option Int) (a0 : (Int × Int)) (a1 : (Int × Int)) : Option Int :=
  bnd (c_cmp_Compare_int a0.1 a1.1) fun r0 =>
   bnd (c_cmp_Compare_int a0.2 a1.2) fun r1 =>
   bnd (c_cmp_Or_int [r0, r1]) fun r2 =>
   some r2
theorem eq_faces_mesh_edges_1 (k : Nat) (c_cmp_Compare_int : Int → Int → Option Int) (c_cmp_Or_int : (List Int) → Option Int) (a0 : (Int × Int)) (a1 : (Int × Int)) : textF [⟨57, [.d kI, .d kI], [kI], fun x => c_cmp_Compare_int (x.1) (x.2), none⟩, ⟨56, [.d (.sl kI)], [kI], fun x => c_cmp_Or_int x, none⟩] tb k Try.f55 an_faces_mesh_edges_1 [.d (.pair kI kI), .d (.pair kI kI)] [kI] (a0, a1) = b_faces_mesh_edges_1 k c_cmp_Compare_int c_cmp_Or_int a0 a1 := by kernel_rfl
def g_faces_mesh_edges_1 (k : Nat) (a0 : (Int × Int)) (a1 : (Int × Int)) : Option Int := b_faces_mesh_edges_1 k (g_cmp_Compare_int k) (g_cmp_Or_int k) a0 a1
theorem tells_faces_mesh_edges_1 (k : Nat) : TellsF Try.prog 55 [.d (.pair kI kI), .d (.pair kI kI)] [kI] (fun x => g_faces_mesh_edges_1 k (x.1) (x.2)) := fun x y h => fun_tells tb_ok mix (es := [⟨57, [.d kI, .d kI], [kI], fun x => g_cmp_Compare_int k (x.1) (x.2), none⟩, ⟨56, [.d (.sl kI)], [kI], fun x => g_cmp_Or_int k x, none⟩]) (EsOk.cons (EntryOk.of rfl (tells_cmp_Compare_int k)) (EsOk.cons (EntryOk.of rfl (tells_cmp_Or_int k)) (EsOk.nil _))) Try.func55 (N := k) (an := an_faces_mesh_edges_1) (by kernel_rfl) x y ((eq_faces_mesh_edges_1 k (g_cmp_Compare_int k) (g_cmp_Or_int k) (x.1) (x.2)).trans h)

end
end Go.Proofs.Ytiejhpighhjgiaa.AM
