/- The functions, by their texts: written by a program. -/
import Derived.Test.YtpkkcjmblocjdaaGreatGa0
import Derived.Test.YtpkkcjmblocjdaaGreatSrt
set_option linter.unusedVariables false
set_option linter.unusedSimpArgs false
set_option linter.unusedSectionVars false
set_option maxRecDepth 100000
namespace Go.Proofs.YtpkkcjmblocjdaaGreat.AM
open Go.RowKit Go.Proofs
noncomputable section
def zht:Ann:=uLf
def zbg (k : Nat) (a0 : LPt) : Option LPt :=
 gd (decide (0 < (a0.length : Int))) <|
 gd (few (0 + a0.length)) <|
 some ([] ++ a0)
theorem znj (k:Nat) (a0:LPt):zrh [] tb k Tryz.f53 zht [.d kLP] kPP 44 a0=zbg k a0:=by kernel_rfl
theorem zjw (k:Nat):zgO Tryz.prog 53 [.d kLP] kPP 44 (fun x=>zbg k x):=⟨rfl,rfl,fun x y h=>(zkP zO mix (zo.nil _) Tryz.func53 (N:=k) (an:=zht) rfl rfl (by kernel_rfl)).2.2 x y ((znj k x).trans h)⟩
end
end Go.Proofs.YtpkkcjmblocjdaaGreat.AM
