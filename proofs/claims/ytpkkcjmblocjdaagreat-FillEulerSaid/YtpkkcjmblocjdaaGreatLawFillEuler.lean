/- The row of the law FillEuler: for every input the call returns true, and each argument reads as before. Conditions: none beyond the given row's. -/
import Derived.Test.YtpkkcjmblocjdaaGreatRows
import Derived.Test.YtpkkcjmblocjdaaGreatGa9
import Derived.Test.YtpkkcjmblocjdaaGreatPureFillEuler
import Derived.Test.YtpkkcjmblocjdaaGreatAn
import Derived.WalkKit
import Derived.ProofKit
import Derived.OpenShut
import Derived.ShutString
import Derived.ChangeOld
import Derived.Below
import Derived.SizedLaws
set_option linter.unusedVariables false
set_option linter.unusedSimpArgs false
set_option linter.unusedSectionVars false
namespace Go.Proofs.YtpkkcjmblocjdaaGreat.fillEuler
open Go.ChangeShapes Go.WideShapes Go.ChangeAt Go.RowKit Go.Proofs.YtpkkcjmblocjdaaGreat.AM
theorem own:ownKnob Tryz.prog.godebug=none:=by kernel_rfl
theorem laidOut:laidOutB Tryz.prog=true:=by kernel_rfl
set_option maxRecDepth 100000 in
theorem lifted (os:Os) (started:os.Started) (H:Type) (enc:TypeId×Value→H) :
  ReturnsInHanded {} Tryz.checked os 6 .any (Rows.fillEulerSpec.pre6 enc Tryz.prog Tryz.f6 Rows.fillEulerRow.domain false) (Rows.fillEulerSpec.post enc Tryz.prog Tryz.f6 false true false false):=by
 refine returnsInHanded_of_change_sized (C:=Tryz.checked) own started (by kernel_rfl) Tryz.func6
  (ChangeSpec.witness6 (enc:=enc) (C:=Tryz.checked) false ⟨#[],#[.agg #[.slice none 0 0,.slice none 0 0,.slice none 0 0]],[]⟩ 8 (by kernel_rfl) (by kernel_rfl) (by kernel_rfl) (by kernel_rfl)) ?_
 intro W base args ds gs before hval0 hW hcnd hsz0 _
 have hval:∀(j:Nat) t v,Tryz.f6.params[j]?=some t→args[j]?=some v→Value.okWide Tryz.prog W .any base t v:=hval0
 have hW':=hW
 obtain ⟨p,q,hA0,hV,rfl,hfz,hnd⟩:=hW
 have hA:DataW.TrodAll enc Tryz.prog W 0 (fun _=>true) true Tryz.f6.params.toList args.toList ds p:=hA0
 rw [Tryz.params6] at hA hval
 obtain ⟨v0,vs0,d0,ds0,p0,q0,hargs,rfl,rfl,h0,r0⟩:=trodAll_cons hA
 obtain ⟨rfl,rfl,rfl⟩:=trodAll_nil r0
 obtain rfl:args=#[v0]:=by cases args;simp_all
 obtain ⟨rfl,rfl⟩:=trodVars_none hV
 have lt0:∀x∈p0,x.block<W.heap.size:=by obtain ⟨m,hm⟩:=h0;exact DataW.trod_lt m _ _ _ hm
 obtain ⟨x0,K0,g0⟩:=zwS (d:=9) (κ:=(.pair (.sl (.pair kI kI)) (.pair (.sl (.pair kI kI)) (.sl (.pair kI kI))))) (by kernel_rfl) h0
 have e0:=zx6 (κ:=(.pair (.sl (.pair kI kI)) (.pair (.sl (.pair kI kI)) (.sl (.pair kI kI))))) (by kernel_rfl) (hval 0 25 v0 rfl rfl) K0
 obtain ⟨k,hk⟩:=Pure.zsM x0 g0
 clear hA0 hval0 hsz0
 have hr:zq (Qo W (fun b=>b<W.heap.size)) (zdU [.d (.pair (.sl (.pair kI kI)) (.pair (.sl (.pair kI kI)) (.sl (.pair kI kI))))] x0) [v0]:=by
  show zq _ [Kd.av (.pair (.sl (.pair kI kI)) (.pair (.sl (.pair kI kI)) (.sl (.pair kI kI)))) x0] _
  simp only [zq]
  exact ⟨_,_,rfl,e0,rfl⟩
 refine (ztH (XZ k) Tryz.func6 (by kernel_rfl) (by kernel_rfl) (x:=x0) hk hr).mono fun e W' ⟨he,bel⟩=>?_
 subst he
 exact ⟨_,rfl,_,_,_,[],_,[],hW',trodAll_mk1 (shut_bool Tryz.underlying4 _),(trodAll_cons_mk (Below.trod laidOut (by kernel_rfl) (of_decide_eq_true (by kernel_rfl)) h0 bel lt0) trodAll_mk0),rfl,bel.frame _,fun h=>by cases h⟩
theorem over:Rows.fillEulerRow.holds Tryz.pinned (OpenSpec.ofChange Rows.fillEulerSpec) :=
 OpenClaim.holds_of_wide 6 Tryz.f6 rfl rfl rfl rfl rfl rfl rfl ⟨rfl,rfl,rfl,rfl,rfl⟩ rfl rfl rfl rfl rfl (by kernel_rfl) Tryz.func6 (by kernel_rfl)
  (of_decide_eq_true (by kernel_rfl)) (by unfold Func.isWrapper;first|(rw [if_pos (by decide +kernel)];kernel_rfl)|(rw [if_neg (by decide +kernel)];exact ⟨rfl,rfl⟩))
  (fun os started H enc _=>lifted os started H enc)
theorem proved:Rows.FillEulerSaid:=over
#print axioms proved
end Go.Proofs.YtpkkcjmblocjdaaGreat.fillEuler
namespace Go.Proofs.YtpkkcjmblocjdaaGreat
theorem fillEuler_holds:Rows.FillEulerSaid:=fillEuler.proved
end Go.Proofs.YtpkkcjmblocjdaaGreat
