/- The functions, by their texts: written by a program. -/
import Derived.Test.YtpkkcjmblocjdaaGreatGa0
import Derived.Test.YtpkkcjmblocjdaaGreatSrt
set_option linter.unusedVariables false
set_option maxRecDepth 100000
namespace Go.Proofs.YtpkkcjmblocjdaaGreat.AM
open Go.RowKit Go.Proofs
noncomputable section
def an_api_Point : Ann := .leaf
def g_api_Point (k : Nat) (a0 : LPt) : Option LPt :=
 gd (decide (0 < (a0.length : Int))) <|
 gd (few (0 + a0.length)) <|
 some ([] ++ a0)
theorem eq_api_Point (k : Nat) (a0 : LPt) : textO [] tb k Tryz.f53 an_api_Point [.d kLP] kPP 44 a0 = g_api_Point k a0 := by kernel_rfl
theorem tells_api_Point (k : Nat) : TellsO Tryz.prog 53 [.d kLP] kPP 44 (fun x => g_api_Point k x) := ⟨rfl, rfl, fun x y h => (fun_tellsO tb_ok mix (EsOk.nil _) Tryz.func53 (N := k) (an := an_api_Point) rfl rfl (by kernel_rfl)).2.2 x y ((eq_api_Point k x).trans h)⟩
end
end Go.Proofs.YtpkkcjmblocjdaaGreat.AM
