/- The reference's numbers: products. -/
import Derived.Test.YtpkkcjmblocjdaaGreatH13
set_option linter.unusedVariables false
set_option linter.unusedSimpArgs false
set_option linter.unusedSectionVars false
namespace Go.Proofs.YtpkkcjmblocjdaaGreat.Pure
open Go.RowKit Go.Proofs.YtpkkcjmblocjdaaGreat.AM
theorem zrP:∀(ds:List Int) (n:Nat) (v:Int),n<ds.length→nat (ds.set n v)=nat ds+65536^n*(v-dg ds n)
 |[],n,v,h=>by simp at h
 |d::r,0,v,h=>by
  simp only [List.set_cons_zero,nat,dg,List.getD_cons_zero,Int.pow_zero]
  omega
 |d::r,n+1,v,h=>by
  have ih:=zrP r n v (by simpa using h)
  have e:dg (d::r) (n+1)=dg r n:=by simp [dg]
  simp only [List.set_cons_succ,nat,e]
  rw [ih,Int.pow_succ]
  grind
theorem ztU (ds:List Int) (n k:Nat) (v:Int) (h:n<ds.length):dg (ds.set n v) k=if k=n then v else dg ds k:=by
 unfold dg
 by_cases e:k=n
 ·subst e;simp [List.getD_eq_getElem?_getD,h]
 ·rw [if_neg e]
  simp [List.getD_eq_getElem?_getD,List.getElem?_set_ne (Ne.symm e)]
theorem zyB {ds:List Int} (hd:Dig ds) (n:Nat) {v:Int} (h0:0≤v) (h1:v<65536):Dig (ds.set n v):=by
 intro d hx
 rcases List.mem_or_eq_of_mem_set hx with hx|rfl
 ·exact hd d hx
 ·exact ⟨h0,h1⟩
abbrev ISt:Type:=Nm×Nm×Nm×List Int×Int×Int×Int
theorem zv5 {ρ:Type} (a b:Nm) (ha:Dig a.2) (hb:Dig b.2) (i:Nat) (hi:i<a.2.length) (z:Nm) (f:ISt→(ISt→Option ρ)→Option ρ) (done:List Int→Option ρ)
  (hend:∀acc (j:Nat) next,¬j<b.2.length→f (a,b,z,acc,(i:Int),0,(j:Int)) next=done acc)
  (hstep:∀acc c (j:Nat) next,(j<b.2.length∨c>0)→Dig acc→acc.length=a.2.length+b.2.length+1→j≤b.2.length→0≤c→c<65536 →
   f (a,b,z,acc,(i:Int),c,(j:Int)) next=next (a,b,z,acc.set (i+j) ((dg acc (i+j)+dg a.2 i*dg b.2 j+c) % 65536),(i:Int),(dg acc (i+j)+dg a.2 i*dg b.2 j+c) / 65536,((j+1:Nat):Int))) (m:Nat) :
  ∀(q j:Nat) (acc:List Int) (c:Int),j+q=b.2.length+1→Dig acc→acc.length=a.2.length+b.2.length+1→0≤c→c<65536→(j=b.2.length+1→c=0)→(∀k,i+b.2.length≤k→j≤b.2.length→dg acc k=0)→(∀k,i+b.2.length<k→dg acc k=0) →
   ∃es,zw f (m+q+1) (a,b,z,acc,(i:Int),c,(j:Int))=done es∧Dig es∧es.length=a.2.length+b.2.length+1∧nat es=nat acc+65536^(i+j)*c+65536^i*dg a.2 i*(nat b.2-nat (b.2.take j))∧∀k,i+b.2.length<k→dg es k=0:=by
 have fin:∀(q j:Nat) (acc:List Int),¬j<b.2.length→Dig acc→acc.length=a.2.length+b.2.length+1→(∀k,i+b.2.length<k→dg acc k=0) →
   ∃es,zw f (q+1) (a,b,z,acc,(i:Int),0,(j:Int))=done es∧Dig es∧es.length=a.2.length+b.2.length+1∧nat es=nat acc+65536^(i+j)*0+65536^i*dg a.2 i*(nat b.2-nat (b.2.take j))∧∀k,i+b.2.length<k→dg es k=0:=by
  intro q j acc hj hd hl hz
  refine ⟨acc,by rw [q6,hend acc j _ hj],hd,hl,?_,hz⟩
  rw [List.take_of_length_le (by omega)]
  simp
 intro q
 induction q with
 |zero =>
  intro j acc c hj hd hl hc0 hc1 hz hz1 hz2
  have:=hz (by omega)
  subst this
  exact fin m j acc (by omega) hd hl hz2
 |succ q ih =>
  intro j acc c hj hd hl hc0 hc1 hz hz1 hz2
  by_cases hgo:j<b.2.length∨c>0
  ·rw [show m+(q+1)+1=(m+q+1)+1 by omega,q6,hstep acc c j _ hgo hd hl (by omega) hc0 hc1]
   have r0:=jI hd (i+j)
   have r1:=jI ha i
   have r2:=jI hb j
   have hp0:0≤dg a.2 i*dg b.2 j:=Int.mul_nonneg r1.1 r2.1
   have hp1:dg a.2 i*dg b.2 j≤65535*65535:=Int.mul_le_mul (by omega) (by omega) r2.1 (by omega)
   have hlt:i+j<acc.length:=by omega
   have hzj:¬j<b.2.length→dg acc (i+j)=0∧dg b.2 j=0:=by
    intro h
    refine ⟨hz1 (i+j) (by omega) (by omega),?_⟩
    unfold dg
    simp [List.getD_eq_getElem?_getD,show ¬j<b.2.length from h]
   obtain ⟨es,h1,h2,h3,h4,h5⟩:=ih (j+1) (acc.set (i+j) ((dg acc (i+j)+dg a.2 i*dg b.2 j+c) % 65536)) ((dg acc (i+j)+dg a.2 i*dg b.2 j+c) / 65536) (by omega) (zyB hd _ (by omega) (by omega)) (by simp [hl]) (by omega) (by omega)
    (fun e=>by
     obtain ⟨e1,e2⟩:=hzj (by omega)
     rw [e1,e2,Int.mul_zero]
     omega)
    (fun k hk hj'=>by
     rw [ztU _ _ _ _ hlt,if_neg (by omega)]
     exact hz1 k hk (by omega))
    (fun k hk=>by
     rw [ztU _ _ _ _ hlt]
     split
     ·omega
     ·exact hz2 k hk)
   refine ⟨es,h1,h2,h3,?_,h5⟩
   rw [h4,zrP _ _ _ hlt,Yt]
   have hs:(dg acc (i+j)+dg a.2 i*dg b.2 j+c) % 65536+65536*((dg acc (i+j)+dg a.2 i*dg b.2 j+c) / 65536)=dg acc (i+j)+dg a.2 i*dg b.2 j+c:=Int.emod_add_mul_ediv ..
   have hpw:(65536:Int)^(i+(j+1))=65536^(i+j)*65536:=by rw [←Nat.add_assoc];exact Int.pow_succ ..
   have hpj:(65536:Int)^(i+j)=65536^i*65536^j:=Int.pow_add ..
   rw [hpw,hpj]
   generalize (dg acc (i+j)+dg a.2 i*dg b.2 j+c) % 65536=R at *
   generalize (dg acc (i+j)+dg a.2 i*dg b.2 j+c) / 65536=Q at *
   have hR:R=dg acc (i+j)+dg a.2 i*dg b.2 j+c-65536*Q:=by omega
   rw [hR]
   grind
  ·have hc:c=0:=by omega
   subst hc
   exact fin (m+(q+1)) j acc (by omega) hd hl hz2
end Go.Proofs.YtpkkcjmblocjdaaGreat.Pure
