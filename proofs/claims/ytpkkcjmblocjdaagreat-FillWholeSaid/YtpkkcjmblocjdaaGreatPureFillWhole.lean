/- The plain law of FillWhole. -/
import Derived.Test.YtpkkcjmblocjdaaGreatT19
set_option linter.unusedVariables false
set_option linter.unusedSimpArgs false
set_option linter.unusedSectionVars false
namespace Go.Proofs.YtpkkcjmblocjdaaGreat.Pure
open Go.RowKit Go.Proofs.YtpkkcjmblocjdaaGreat.AM PL
def zkl (T:List Tr) (v:Int) (j:Nat):Bool:=(List.range j).any fun i=>decide ((tt T (i:Int)).1=v)||(decide ((tt T (i:Int)).2.1=v)||decide ((tt T (i:Int)).2.2=v))
theorem zqg (T:List Tr) (v:Int) (j:Nat):zkl T v (j+1)=(zkl T v j||(decide ((tt T (j:Int)).1=v)||(decide ((tt T (j:Int)).2.1=v)||decide ((tt T (j:Int)).2.2=v)))):=by
 unfold zkl
 rw [List.range_succ,List.any_append,List.any_cons,List.any_nil,Bool.or_false]
set_option maxHeartbeats 4000000 in
theorem ztD (m:Nat) (hm:130000≤m) (p:zJ):Zn (m+1000) p=some true:=by
 unfold Zn QR
 have kn:(bnd (jH (m+1000)) fun r5=>some r5)=some true:=by rw [zxa,zt]
 obtain ⟨bm,hm1,hm2⟩:=zx8 (m+1000) p
 rw [show ∀(A B:_),zz A B=B A from fun _ _=>rfl]
 rw [show js (m+1000) (p.1,p.2.1,p.2.2)=_ from hm1,zt]
 cases bm with
 |true=>exact kn
 |false =>
  rw [cF]
  rcases zzO (hm2 rfl) with hb|h
  ·rw [show qG (m+1000) (p.1,p.2.1,p.2.2)=_ from zqm m hb,zt]
   exact kn
  ·rw [show qG (m+1000) (p.1,p.2.1,p.2.2)=_ from zuq m h.sm,zt]
   cases hg:zcB p with
   |false=>exact kn
   |true =>
    have RR:=zjx h.sm hg
    have R:=RR.rt
    have hk:=zok m h
    rw [if_pos hg] at hk
    have hs:=zqa R
    have hq:=zmB p
    have hn:=h.n
    have hs':p.1.length*p.1.length≤576:=Nat.mul_le_mul hn hn
    have hS:(jb p).length≤200:=by
     have:=h.l;have:=h.i
     rw [hq]
     show (p.2.1++p.2.2).length≤200
     rw [List.length_append];omega
    have hT:(qt p).length≤192:=by omega
    have hfc:QI (m+1000) (p.1,qt p,jb p)=some 0:=by
     rw [zpI m (p.1,qt p,jb p) (by dsimp only;omega) (by dsimp only;omega) (by dsimp only;omega),zrq R]
    have hck:jL (m+1000) (p.1,qt p,jb p)=some 0:=by
     rw [zuL m (p.1,qt p,jb p) (by dsimp only;omega) (by dsimp only;omega) (by dsimp only;omega),←zwr,zrq R]
    have fit:∀i,inr i p.1.length→Fit (pt p.1 i):=fun i h=>R.fine.sm.fit h
    have inT:∀t∈qt p,inr t.1 p.1.length∧inr t.2.1 p.1.length∧inr t.2.2 p.1.length:=fun t ht=>by
     obtain ⟨_,g⟩:=(zf4 R t).1 ht
     exact ⟨g.T.r.1,g.T.r.2.1,g.T.r.2.2⟩
    obtain ⟨ra,a1,a2,a3⟩:=zqE (P:=p.1) (S:=jb p) m (by omega) inT fit
    obtain ⟨rd,d1,d2,d3⟩:=zv2 m hm R (by omega) (by have:=h.l;omega)
    have bA:=zcX (f:=crT p.1) (l:=qt p) (B:=147573952589676412928) fun t ht=>by
     obtain ⟨r1,r2,r3⟩:=inT t ht
     exact zf8 (fit _ r1) (fit _ r2) (fit _ r3)
    have ea:val ra=val rd:=by rw [a3,d3,ztS R]
    have hcm:=zAo m a2 d2 (by unfold Mod;omega) (by unfold Mod;omega) ea
    rw [Bool.not_true]
    dsimp only
    rw [cF,show ZY (m+1000) (p.1,p.2.1,p.2.2)=_ from hk,zt]
    rw [show ∀(A B:_),zz A B=B A from fun _ _=>rfl]
    dsimp only
    rw [KH rfl,hfc,zt,KH rfl,hck,zt,KH rfl,zx6 m _ (by omega),zt,Bool.not_true,cF,a1,zt,show jv (m+1000) (p.1,p.2.1,p.2.2)=_ from d1,zt]
    rw [hcm,zt,KH rfl]
    refine Q3 (fun i=>(p,(p.1,qt p,jb p),(i:Int))) p.1.length rfl (fun next=>?_) (fun i hi next hnx=>?_) _ (by omega)
    ·dsimp only
     rw [zg (by omega),show qr (m+1000) (p.1,p.2.1,p.2.2)=_ from zqX (m+1000) h.sm,zt]
     have hsl:(sgs p).length≤200:=by rw [←hq];exact hS
     refine Q3 (fun i=>((p.1,qt p,jb p),sgs p,(i:Int))) (sgs p).length rfl (fun nx=>?_) (fun i hi nx hnx=>?_) _ (by omega)
     ·dsimp only
      rw [zg (by omega)]
      simp only [zz]
      rw [zl (by rw [hq])]
      exact kn
     ·dsimp only
      have hin:inb (i:Int) (sgs p).length=true:=zF ⟨by omega,by omega⟩
      have mem:=List.getElem_mem hi
      simp only [zz,hin,gT,z7 _ (sgs p) i hi]
      rw [zl (by omega),zo (x:=(i:Int)+1) (by omega) (by omega)]
      generalize (sgs p)[i]=s at *
      have us:up s∈jb p:=(Xm p _).2 ⟨s,mem,rfl⟩
      have ue:=zfX R us
      have J:=zab R.fine
      have hlt:∀q∈jb p,q.1<q.2:=fun q hq=>(J.ok _ (zfX R hq)).2
      have hne:s.1≠s.2:=fun e=>by
       have:=hlt _ us
       unfold up mnI mxI at this
       dsimp only at this
       rw [e] at this
       split at this<;>omega
      have hh:=(zqJ hlt hne).1 us
      rw [zyD m _ _ _ (by omega),hh,zt,Bool.not_true,cF,zox m _ _ _ (by omega),zt,zox m _ _ _ (by omega)]
      have ge:GE p s.1 s.2:=by
       rcases zc0 s with e|e
       ·rw [e] at ue;exact .inl ue
       ·rw [e] at ue;exact .inr ue
      have lf:∀q:Pt,Jd (qt p) q<0↔¬∃c,QP p q.1 q.2 c:=fun q=>by rw [zhD,zlq R]
      by_cases c1:Jd (qt p) (s.1,s.2)<0
      ·rw [zl c1,zt]
       have c2:¬Jd (qt p) (s.2,s.1)<0:=fun c2=>by
        rcases zlr R ge with g|g
        ·exact (lf _).1 c1 g
        ·exact (lf _).1 c2 g
       rw [decide_eq_false c2,cF]
       exact hnx
      ·rw [zg c1,cF]
       exact hnx
    ·dsimp only
     have hiv:inr (i:Int) p.1.length:=⟨by omega,by omega⟩
     rw [zl (by omega)]
     refine (zG (fun j=>(p,(p.1,qt p,jb p),(i:Int),zkl (qt p) (i:Int) j,(j:Int))) (qt p).length (fun _=>some true) (fun nx=>?_) (fun j hj nx hnj=>?_) _ 0 (Nat.zero_le _) (by omega))
     ·dsimp only
      have hall:zkl (qt p) (i:Int) (qt p).length=true:=by
       obtain ⟨t,ht,h⟩:=ztN RR hiv
       obtain ⟨k,hk,rfl⟩:=List.mem_iff_getElem.1 ht
       unfold zkl
       rw [List.any_eq_true]
       refine ⟨k,List.mem_range.2 hk,?_⟩
       rw [zbx hk]
       rcases h with h|h|h<;>simp [h]
      rw [zg (by omega),hall,Bool.not_true,cF,zo (x:=(i:Int)+1) (by omega) (by omega)]
      exact hnx
     ·dsimp only at hnj ⊢
      have hin:inb (j:Int) (qt p).length=true:=zF ⟨by omega,by omega⟩
      rw [zqg] at hnj
      simp only [zz,hin,gT]
      rw [zl (by omega),zo (x:=(j:Int)+1) (by omega) (by omega)]
      show (bif _ then _ else bif decide ((tt (qt p) (j:Int)).1=(i:Int)) then _ else bif decide ((tt (qt p) (j:Int)).2.1=(i:Int)) then _ else nx (_,_,_,decide ((tt (qt p) (j:Int)).2.2=(i:Int)),_))=_
      revert hnj
      cases zkl (qt p) (i:Int) j with
      |true=>intro hnj;rw [cT];rw [Bool.true_or] at hnj;exact hnj
      |false =>
       intro hnj
       rw [Bool.false_or] at hnj
       rw [cF]
       revert hnj
       cases decide ((tt (qt p) (j:Int)).1=(i:Int)) with
       |true=>intro hnj;rw [Bool.true_or] at hnj;rw [cT];exact hnj
       |false =>
        intro hnj
        rw [Bool.false_or] at hnj
        rw [cF]
        revert hnj
        cases decide ((tt (qt p) (j:Int)).2.1=(i:Int)) with
        |true=>intro hnj;rw [Bool.true_or] at hnj;rw [cT];exact hnj
        |false=>intro hnj;rw [Bool.false_or] at hnj;rw [cF];exact hnj
theorem zsY (x0:((List (Int×Int))×((List (Int×Int))×(List (Int×Int))))) (g0:Kd.good (.pair (.sl (.pair kI kI)) (.pair (.sl (.pair kI kI)) (.sl (.pair kI kI)))) x0):∃k,Zn k x0=some true:=⟨130000+1000,ztD 130000 (by decide) x0⟩
end Go.Proofs.YtpkkcjmblocjdaaGreat.Pure
