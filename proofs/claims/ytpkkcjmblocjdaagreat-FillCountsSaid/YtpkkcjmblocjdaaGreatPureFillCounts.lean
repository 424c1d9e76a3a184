/- The plain law of FillCounts. -/
import Derived.Test.YtpkkcjmblocjdaaGreatT21
set_option linter.unusedVariables false
set_option linter.unusedSimpArgs false
set_option linter.unusedSectionVars false
namespace Go.Proofs.YtpkkcjmblocjdaaGreat.Pure
open Go.RowKit Go.Proofs.YtpkkcjmblocjdaaGreat.AM PL
set_option maxHeartbeats 4000000 in
theorem zpY (m:Nat) (hm:130000≤m) (p:zx):jQ (m+1000) p=some true:=by
 unfold jQ ZS
 have kn:(bnd (ju (m+1000)) fun r5=>some r5)=some true:=by rw [zwj,zr]
 obtain ⟨bm,hm1,hm2⟩:=zwK (m+1000) p
 rw [show ∀(A B:_),zz A B=B A from fun _ _=>rfl]
 rw [show jc (m+1000) (p.1,p.2.1,p.2.2)=_ from hm1,zr]
 cases bm with
 |true=>exact kn
 |false =>
  rw [cF]
  rcases zyP (hm2 rfl) with hb|h
  ·rw [show qD (m+1000) (p.1,p.2.1,p.2.2)=_ from zpp m hb,zr]
   exact kn
  ·rw [show qD (m+1000) (p.1,p.2.1,p.2.2)=_ from ztE m h.sm,zr]
   cases hg:zbR p with
   |false=>exact kn
   |true =>
    have RR:=zik h.sm hg
    have R:=RR.rt
    have he:=znx m h
    have hk:=zmo m h
    rw [if_pos hg] at he hk
    have hn:=h.n
    have hl:=h.l
    rw [Bool.not_true]
    dsimp only
    rw [cF,show ZB (m+1000) (p.1,p.2.1,p.2.2)=_ from hk,zr,show jl (m+1000) (p.1,p.2.1,p.2.2)=_ from he,zr,zte m hm R (by omega) (by omega),zr,zwM m R (by omega),zr]
    have dl:=zsi p
    refine (zG (fun i=>(p,(p.1,ZK p,QG p),0,ZL p,0,Xk p,sN (kf p) i,(i:Int))) (Xk p).length (fun _=>some true) (fun nx=>?_) (fun i hi nx hnx=>?_) _ 0 (Nat.zero_le _) (by omega))
    ·dsimp only
     have tc:=zlA RR
     have ec:=zsD RR
     have kb:=zyM p (Xk p).length
     rw [zzx] at tc ec
     generalize sN (kf p) (Xk p).length=K at *
     simp only [zz]
     rw [zh (by omega),zk trivial,zk trivial,zl (x:=2*(p.1.length:Int)) (by omega) (by omega),zl (x:=2*(p.1.length:Int)-(p.2.1.length:Int)) (by omega) (by omega),zl (x:=2*K) (by omega) (by omega),zl (x:=2*(p.1.length:Int)-(p.2.1.length:Int)-2*K) (by omega) (by omega),zk tc,zl (x:=3*(p.1.length:Int)) (by omega) (by omega),zl (x:=3*(p.1.length:Int)-(p.2.1.length:Int)) (by omega) (by omega),zl (x:=3*K) (by omega) (by omega),zl (x:=3*(p.1.length:Int)-(p.2.1.length:Int)-3*K) (by omega) (by omega),zk ec]
     exact kn
    ·dsimp only at hnx ⊢
     have hin:inb (i:Int) (Xk p).length=true:=zM ⟨by omega,by omega⟩
     have kb:=zyM p i
     have e:sN (kf p) (i+1)=sN (kf p) i+kf p i:=rfl
     rw [zk (by omega),hin,gT,zt4 hi,zl (x:=(i:Int)+1) (by omega) (by omega),zl (x:=sN (kf p) i+1) (by omega) (by omega)]
     rw [e] at hnx
     rcases zzv p i with h1|h1
     ·rw [h1] at hnx ⊢
      rw [if_pos rfl,zl (x:=2*0) (by omega) (by omega),zl (by omega) (by omega),show sN (kf p) i+1-2*0=sN (kf p) i+1 by omega]
      exact hnx
     ·rw [h1] at hnx ⊢
      rw [if_neg (by decide),zl (x:=2*1) (by omega) (by omega),zl (by omega) (by omega),show sN (kf p) i+1-2*1=sN (kf p) i+-1 by omega]
      exact hnx
theorem zpA (x0:((List (Int×Int))×((List (Int×Int))×(List (Int×Int))))) (g0:Kd.good (.pair (.sl (.pair kI kI)) (.pair (.sl (.pair kI kI)) (.sl (.pair kI kI)))) x0):∃k,jQ k x0=some true:=⟨130000+1000,zpY 130000 (by decide) x0⟩
end Go.Proofs.YtpkkcjmblocjdaaGreat.Pure
