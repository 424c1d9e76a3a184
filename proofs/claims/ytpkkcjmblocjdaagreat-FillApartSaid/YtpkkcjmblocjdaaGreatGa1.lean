/- The functions, by their texts: written by a program. -/
import Derived.Test.YtpkkcjmblocjdaaGreatGa0
import Derived.Test.YtpkkcjmblocjdaaGreatSrt
set_option linter.unusedVariables false
set_option linter.unusedSimpArgs false
set_option linter.unusedSectionVars false
set_option maxRecDepth 100000
namespace Go.Proofs.YtpkkcjmblocjdaaGreat.AM
open Go.RowKit Go.Proofs
noncomputable section
def zgl : Ann := uLf
def zba (k : Nat) (a0 : LPt) : Option LPt :=
 gd (decide (0 < (a0.length : Int))) <|
 gd (few (0 + a0.length)) <|
 some ([] ++ a0)
theorem zmN (k : Nat) (a0 : LPt) : zp0 [] tb k Tryz.f53 zgl [.d kLP] kPP 44 a0 = zba k a0 := by kernel_rfl
theorem ziQ (k : Nat) : zfT Tryz.prog 53 [.d kLP] kPP 44 (fun x => zba k x) := ⟨rfl, rfl, fun x y h => (zj2 zN mix (zo.nil _) Tryz.func53 (N := k) (an := zgl) rfl rfl (by kernel_rfl)).2.2 x y ((zmN k x).trans h)⟩
end
end Go.Proofs.YtpkkcjmblocjdaaGreat.AM
