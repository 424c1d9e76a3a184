/- The functions, by their texts: written by a program. -/
import Derived.Test.YtpkkcjmblocjdaaGreatGa6
import Derived.Test.YtpkkcjmblocjdaaGreatSrt
set_option linter.unusedVariables false
set_option maxRecDepth 100000
namespace Go.Proofs.YtpkkcjmblocjdaaGreat.AM
open Go.RowKit Go.Proofs
noncomputable section
def an_parquetref10_First : Ann := .node none none .leaf (.node none none .leaf (.node none none .leaf (.node none none .leaf (.node none none (.node none none .leaf (.node (some [(2, .box [.d (.pair kI (.pair kI kI))]), (5, .box [.d (.pair kI (.pair kI kI))])]) none .leaf .leaf)) .leaf))))
def b_parquetref10_First (k : Nat) (c_parquetref05_Check : ((List (Int × Int)) × ((List (Int × Int)) × (List (Int × Int)))) → Option Int) (c_parquetref10_pairs : ((List (Int × Int)) × ((List (Int × Int)) × (List (Int × Int)))) → Option (Int × (Int × Int))) (c_parquetref10_loops : ((List (Int × Int)) × ((List (Int × Int)) × (List (Int × Int)))) → Option (Int × (Int × Int))) (a0 : ((List (Int × Int)) × ((List (Int × Int)) × (List (Int × Int))))) : Option ((Int × (Int × Int)) × Int) :=
  bnd (c_parquetref05_Check (a0.1, a0.2.1, a0.2.2)) fun r0 =>
   bif !(decide (r0 = 0)) then
    some ((0, 0, 0), 2)
   else
    bnd (c_parquetref10_pairs (a0.1, a0.2.1, a0.2.2)) fun r1 =>
    meet (α := ((Int × (Int × Int)) × (Int × (Int × Int)))) (fun (y2, y3, y4, y5) =>
     some ((y3, y4, y5), 0)) fun j6 =>
    bif decide (r1.1 = 0) then
     bnd (c_parquetref10_loops (a0.1, a0.2.1, a0.2.2)) fun r7 =>
     j6 ((0, 0, 0), r7.1, r7.2.1, r7.2.2)
    else
     j6 ((0, 0, 0), r1.1, r1.2.1, r1.2.2)
theorem eq_parquetref10_First (k : Nat) (c_parquetref05_Check : ((List (Int × Int)) × ((List (Int × Int)) × (List (Int × Int)))) → Option Int) (c_parquetref10_pairs : ((List (Int × Int)) × ((List (Int × Int)) × (List (Int × Int)))) → Option (Int × (Int × Int))) (c_parquetref10_loops : ((List (Int × Int)) × ((List (Int × Int)) × (List (Int × Int)))) → Option (Int × (Int × Int))) (a0 : ((List (Int × Int)) × ((List (Int × Int)) × (List (Int × Int))))) : textF [⟨94, [.d (.pair (.sl (.pair kI kI)) (.pair (.sl (.pair kI kI)) (.sl (.pair kI kI))))], [kI], fun x => c_parquetref05_Check x, none⟩, ⟨95, [.d (.pair (.sl (.pair kI kI)) (.pair (.sl (.pair kI kI)) (.sl (.pair kI kI))))], [.pair kI (.pair kI kI)], fun x => c_parquetref10_pairs x, none⟩, ⟨96, [.d (.pair (.sl (.pair kI kI)) (.pair (.sl (.pair kI kI)) (.sl (.pair kI kI))))], [.pair kI (.pair kI kI)], fun x => c_parquetref10_loops x, none⟩] tb k Tryz.f59 an_parquetref10_First [.d (.pair (.sl (.pair kI kI)) (.pair (.sl (.pair kI kI)) (.sl (.pair kI kI))))] [.pair kI (.pair kI kI), kI] a0 = b_parquetref10_First k c_parquetref05_Check c_parquetref10_pairs c_parquetref10_loops a0 := by kernel_rfl
def g_parquetref10_First (k : Nat) (a0 : ((List (Int × Int)) × ((List (Int × Int)) × (List (Int × Int))))) : Option ((Int × (Int × Int)) × Int) := b_parquetref10_First k (g_parquetref05_Check k) (g_parquetref10_pairs k) (g_parquetref10_loops k) a0
theorem tells_parquetref10_First (k : Nat) : TellsF Tryz.prog 59 [.d (.pair (.sl (.pair kI kI)) (.pair (.sl (.pair kI kI)) (.sl (.pair kI kI))))] [.pair kI (.pair kI kI), kI] (fun x => g_parquetref10_First k x) := fun x y h => fun_tells tb_ok mix (es := [⟨94, [.d (.pair (.sl (.pair kI kI)) (.pair (.sl (.pair kI kI)) (.sl (.pair kI kI))))], [kI], fun x => g_parquetref05_Check k x, none⟩, ⟨95, [.d (.pair (.sl (.pair kI kI)) (.pair (.sl (.pair kI kI)) (.sl (.pair kI kI))))], [.pair kI (.pair kI kI)], fun x => g_parquetref10_pairs k x, none⟩, ⟨96, [.d (.pair (.sl (.pair kI kI)) (.pair (.sl (.pair kI kI)) (.sl (.pair kI kI))))], [.pair kI (.pair kI kI)], fun x => g_parquetref10_loops k x, none⟩]) (EsOk.cons (EntryOk.of rfl (tells_parquetref05_Check k)) (EsOk.cons (EntryOk.of rfl (tells_parquetref10_pairs k)) (EsOk.cons (EntryOk.of rfl (tells_parquetref10_loops k)) (EsOk.nil _)))) Tryz.func59 (N := k) (an := an_parquetref10_First) (by kernel_rfl) x y ((eq_parquetref10_First k (g_parquetref05_Check k) (g_parquetref10_pairs k) (g_parquetref10_loops k) x).trans h)

def an_parquetref10_Right : Ann := .node none none .leaf (.node none none .leaf (.node none none (.node (some [(2, .d .bool)]) none .leaf .leaf) .leaf))
def b_parquetref10_Right (k : Nat) (c_parquetref10_First : ((List (Int × Int)) × ((List (Int × Int)) × (List (Int × Int)))) → Option ((Int × (Int × Int)) × Int)) (a0 : ((List (Int × Int)) × ((List (Int × Int)) × (List (Int × Int))))) : Option Bool :=
  bnd (c_parquetref10_First (a0.1, a0.2.1, a0.2.2)) fun r0 =>
   meet (α := Bool) (fun y1 =>
    some y1) fun j2 =>
   bif decide (r0.2 = 0) then
    j2 (decide (r0.1.1 = 0))
   else
    j2 false
theorem eq_parquetref10_Right (k : Nat) (c_parquetref10_First : ((List (Int × Int)) × ((List (Int × Int)) × (List (Int × Int)))) → Option ((Int × (Int × Int)) × Int)) (a0 : ((List (Int × Int)) × ((List (Int × Int)) × (List (Int × Int))))) : textF [⟨59, [.d (.pair (.sl (.pair kI kI)) (.pair (.sl (.pair kI kI)) (.sl (.pair kI kI))))], [.pair kI (.pair kI kI), kI], fun x => c_parquetref10_First x, none⟩] tb k Tryz.f20 an_parquetref10_Right [.d (.pair (.sl (.pair kI kI)) (.pair (.sl (.pair kI kI)) (.sl (.pair kI kI))))] [.bool] a0 = b_parquetref10_Right k c_parquetref10_First a0 := by kernel_rfl
def g_parquetref10_Right (k : Nat) (a0 : ((List (Int × Int)) × ((List (Int × Int)) × (List (Int × Int))))) : Option Bool := b_parquetref10_Right k (g_parquetref10_First k) a0
theorem tells_parquetref10_Right (k : Nat) : TellsF Tryz.prog 20 [.d (.pair (.sl (.pair kI kI)) (.pair (.sl (.pair kI kI)) (.sl (.pair kI kI))))] [.bool] (fun x => g_parquetref10_Right k x) := fun x y h => fun_tells tb_ok mix (es := [⟨59, [.d (.pair (.sl (.pair kI kI)) (.pair (.sl (.pair kI kI)) (.sl (.pair kI kI))))], [.pair kI (.pair kI kI), kI], fun x => g_parquetref10_First k x, none⟩]) (EsOk.cons (EntryOk.of rfl (tells_parquetref10_First k)) (EsOk.nil _)) Tryz.func20 (N := k) (an := an_parquetref10_Right) (by kernel_rfl) x y ((eq_parquetref10_Right k (g_parquetref10_First k) x).trans h)

end
end Go.Proofs.YtpkkcjmblocjdaaGreat.AM
