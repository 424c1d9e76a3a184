/- The abstract machine, 30: a law's call. -/
import Derived.Test.YtpkkcjmblocjdaaGreatAm
set_option linter.unusedVariables false
set_option linter.unusedSimpArgs false
set_option linter.unusedSectionVars false
section
namespace Go.Proofs.YtpkkcjmblocjdaaGreat.AM
open Go.RowKit Go.ChangeShapes Go.WideShapes
def zAj (P:Program) (t:TypeId) (κ:Kd):Bool:=match P.underlying t,κ with
 |some (.struct _),.pair _ _=>true
 |some (.array _ _),.pair _ _=>true
 |some (.int j),.int k=>kb j k
 |some .bool,.bool=>true
 |some (.slice _),.sl _=>true
 |_,_=>false
theorem zx6 {P:Program} {W W0:World} {base:Nat} {t:TypeId} {κ:Kd} {v:Value} {x:κ.T} {R:Nat→Prop} (ht:zAj P t κ=true) (hv:Value.okWide P W .any base t v) (hx:qd W0 R κ x v.cells.toList):zf (Qo W0 R) (κ.av x) v:=by
 unfold zAj at ht
 split at ht
 ·rename_i fs a b hu
  unfold Value.okWide at hv
  rw [hu] at hv
  obtain ⟨cs,rfl,_⟩:=hv
  simp only [Kd.av,zf]
  exact ⟨cs.toList,by simp,qd.cells (Γ:=Qo W0 R) hx⟩
 ·rename_i n e a b hu
  unfold Value.okWide at hv
  rw [hu] at hv
  obtain ⟨cs,rfl,_⟩:=hv
  simp only [Kd.av,zf]
  exact ⟨cs.toList,by simp,qd.cells (Γ:=Qo W0 R) hx⟩
 ·rename_i j k hu
  obtain ⟨n,rfl⟩:=okWide_int hu hv
  simp only [qd,Value.cells] at hx
  simp only [Kd.av,zf]
  simpa using hx
 ·rename_i hu
  unfold Value.okWide at hv
  rw [hu] at hv
  simp only at hv
  have hb:∃b,v=.bool b:=by
   unfold Cell.okWide at hv
   simp only [hu] at hv
   unfold Cell.ok at hv
   simp only [hu] at hv
   cases v<;>simp_all
  obtain ⟨b,rfl⟩:=hb
  simp only [qd,Value.cells] at hx
  simp only [Kd.av,zf]
  simpa using hx
 ·rename_i e κ' hu
  obtain ⟨a,len,cap,rfl⟩:=okWide_slice hu hv
  simp only [Kd.av,zf]
  exact hx
 ·cases ht
theorem ztH {P : Program} {fid : Nat} {ps : List Sh} {F : shT ps → Option Bool} (ht : zv P fid ps [.bool] F) {f : Func} (hf : P.funcs[fid]? = some f) (hb : f.body.isSome = true) (hname : (f.name == "runtime.NumGoroutine") = false) {x : shT ps} (hx : F x = some true) {W : World} {us : List Value}
  (hr:zq (Qo W (fun b=>b<W.heap.size)) (zdU ps x) us):Calls P fid us.toArray W fun e W'=>e=.returned (.bool true)∧Below W.heap.size W W':=by
 obtain ⟨c,hc⟩:=Option.isSome_iff_exists.1 hb
 rcases ht x true hx W _ us (fun _ h=>h) hr with ⟨_,h⟩|⟨u,w',h,_⟩
 ·refine Calls.mono h fun e W' he=>?_
  obtain ⟨v,rfl,hB,R',_,_,_,hv⟩:=he
  replace hv:zf (Qo W' R') (.bool true) v:=hv
  simp only [zf] at hv
  exact ⟨by rw [hv],hB.1⟩
 ·rw [Zv hf hname hc] at h
  cases h
end Go.Proofs.YtpkkcjmblocjdaaGreat.AM
end
