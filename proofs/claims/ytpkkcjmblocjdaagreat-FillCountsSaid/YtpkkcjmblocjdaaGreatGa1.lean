/- The functions, by their texts: written by a program. -/
import Derived.Test.YtpkkcjmblocjdaaGreatGa0
import Derived.Test.YtpkkcjmblocjdaaGreatSrt
set_option linter.unusedVariables false
set_option linter.unusedSimpArgs false
set_option linter.unusedSectionVars false
set_option maxRecDepth 100000
namespace Go.Proofs.YtpkkcjmblocjdaaGreat.AM
open Go.RowKit Go.Proofs
noncomputable section
def zgG:Ann:=uLf
def zaZ (k : Nat) (a0 : LPt) : Option LPt :=
 gd (decide (0 < (a0.length : Int))) <|
 gd (few (0 + a0.length)) <|
 some ([] ++ a0)
theorem zm3 (k:Nat) (a0:LPt):zqz [] tb k Tryz.f53 zgG [.d kLP] kPP 44 a0=zaZ k a0:=by kernel_rfl
theorem ziS (k:Nat):zf1 Tryz.prog 53 [.d kLP] kPP 44 (fun x=>zaZ k x):=⟨rfl,rfl,fun x y h=>(zjS zO mix (zp.nil _) Tryz.func53 (N:=k) (an:=zgG) rfl rfl (by kernel_rfl)).2.2 x y ((zm3 k x).trans h)⟩
end
end Go.Proofs.YtpkkcjmblocjdaaGreat.AM
