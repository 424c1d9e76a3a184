/- The plain law of FillEuler. -/
import Derived.Test.YtpkkcjmblocjdaaGreatT21
set_option linter.unusedVariables false
set_option linter.unusedSimpArgs false
set_option linter.unusedSectionVars false
namespace Go.Proofs.YtpkkcjmblocjdaaGreat.Pure
open Go.RowKit Go.Proofs.YtpkkcjmblocjdaaGreat.AM PL
set_option maxHeartbeats 4000000 in
theorem zto (m:Nat) (hm:130000≤m) (p:zy):Zf (m+1000) p=some true:=by
 unfold Zf QB
 have kn:(bnd (jB (m+1000)) fun r5=>some r5)=some true:=by rw [zyn,zr]
 obtain ⟨bm,hm1,hm2⟩:=zxz (m+1000) p
 rw [show ∀(A B:_),zx A B=B A from fun _ _=>rfl]
 rw [show jg (m+1000) (p.1,p.2.1,p.2.2)=_ from hm1,zr]
 cases bm with
 |true=>exact kn
 |false =>
  rw [cF]
  rcases zzN (hm2 rfl) with hb|h
  ·rw [show qB (m+1000) (p.1,p.2.1,p.2.2)=_ from zq5 m hb,zr]
   exact kn
  ·rw [show qB (m+1000) (p.1,p.2.1,p.2.2)=_ from zvr m h.sm,zr]
   cases hg:zcx p with
   |false=>exact kn
   |true =>
    have RR:=zi3 h.sm hg
    have R:=RR.rt
    have hk:=znP m h
    rw [if_pos hg] at hk
    have hn:=h.n
    have hl:=h.l
    have hs:=zpW R
    have hs':p.1.length*p.1.length≤576:=Nat.mul_le_mul hn hn
    have hfa:=zwy m (ji p) (by omega)
    have hco:jz (m+1000) ((ji p).map zgq)=some ((p.1.length:Int),((j3 p).length:Int),((ji p).length:Int)):=by
     rw [ztT m _ (by rw [List.length_map];omega) (fun c hc=>by
      obtain ⟨t,_,rfl⟩:=List.mem_map.1 hc
      show 3≤900
      decide) (by rw [zhC,zgM];omega) (zvT R (by omega)),zsN R,zhC,zqu RR,List.length_map]
    rw [Bool.not_true]
    dsimp only
    rw [cF,show ZN (m+1000) (p.1,p.2.1,p.2.2)=_ from hk,zr,za5 rfl,hfa,zr,hco,zr,ztN m hm R (by omega) (by omega),zr,zxB m R (by omega),zr]
    have dl:=ztJ p
    refine (zG (fun i=>(p,(p.1.length:Int),((j3 p).length:Int),((ji p).length:Int),XN p,sN (kf p) i,(i:Int))) (XN p).length (fun _=>some true) (fun nx=>?_) (fun i hi nx hnx=>?_) _ 0 (Nat.zero_le _) (by omega))
    ·dsimp only
     have tc:=zmZ RR
     have ec:=ztE RR
     have kb:=zzf p (XN p).length
     rw [zAH] at tc ec
     generalize sN (kf p) (XN p).length=K at *
     simp only [zx]
     rw [zg (by omega),zl (x:=(p.1.length:Int)-((j3 p).length:Int)) (by omega) (by omega),zl (x:=(p.1.length:Int)-((j3 p).length:Int)+((ji p).length:Int)) (by omega) (by omega),zk (by omega),zk trivial]
     exact kn
    ·dsimp only at hnx ⊢
     have hin:inb (i:Int) (XN p).length=true:=zA ⟨by omega,by omega⟩
     have kb:=zzf p i
     have e:sN (kf p) (i+1)=sN (kf p) i+kf p i:=rfl
     simp only [zx]
     rw [zk (by omega),hin,gT,zvQ hi,zl (x:=(i:Int)+1) (by omega) (by omega)]
     rw [e] at hnx
     rcases zAC p i with h1|h1
     ·rw [h1] at hnx ⊢
      rw [if_pos rfl,zk rfl,zl (x:=sN (kf p) i+1) (by omega) (by omega)]
      exact hnx
     ·rw [h1] at hnx ⊢
      rw [if_neg (by decide),zg (by decide),zl (x:=sN (kf p) i-1) (by omega) (by omega)]
      exact hnx
theorem zsM (x0:((List (Int×Int))×((List (Int×Int))×(List (Int×Int))))) (g0:Kd.good (.pair (.sl (.pair kI kI)) (.pair (.sl (.pair kI kI)) (.sl (.pair kI kI)))) x0):∃k,Zf k x0=some true:=⟨130000+1000,zto 130000 (by decide) x0⟩
end Go.Proofs.YtpkkcjmblocjdaaGreat.Pure
