/- slices.Clone of places copies. -/
import Derived.Test.YtpkkcjmblocjdaaGreatGa1
set_option linter.unusedVariables false
set_option linter.unusedSimpArgs false
set_option linter.unusedSectionVars false
set_option maxRecDepth 100000
namespace Go.Proofs.YtpkkcjmblocjdaaGreat.AM
open Go.RowKit Go.Proofs
theorem zzd:zsh Tryz.prog 53 (.pair kI kI) 44:=zwv (zjw 0) fun xs h0 h1=>by
 have e1:decide (0<(List.length (α:=Int×Int) xs:Int))=true:=decide_eq_true (by
  have h0':0<List.length (α:=Int×Int) xs:=h0
  omega)
 have e2:few (0+List.length (α:=Int×Int) xs)=true:=decide_eq_true (by
  have h1':List.length (α:=Int×Int) xs<4294967296:=h1
  omega)
 show zbg 0 xs=some xs
 unfold zbg
 rw [e1,e2]
 rfl
theorem zzo:Yz Tryz.prog tbm:=zyl (f:=53) (t:=44) (e:=.pair kI kI) (by kernel_rfl) rfl zzd
end Go.Proofs.YtpkkcjmblocjdaaGreat.AM
