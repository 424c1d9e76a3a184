/- The reference's numbers: sums of one sign. -/
import Derived.Test.YtpkkcjmblocjdaaGreatH8
set_option linter.unusedVariables false
set_option linter.unusedSimpArgs false
set_option linter.unusedSectionVars false
namespace Go.Proofs.YtpkkcjmblocjdaaGreat.Pure
open Go.RowKit Go.Proofs.YtpkkcjmblocjdaaGreat.AM
theorem zoF {x:Int} (h:0≤x):x.tmod 65536=x % 65536:=Int.tmod_eq_emod_of_nonneg h
theorem zo8 {x:Int} (h:0≤x):x.tdiv 65536=x / 65536:=Int.tdiv_eq_ediv_of_nonneg h
abbrev PSt:Type:=Nm×Nm×Nm×List Int×Int×Int
theorem zs0 (k:Nat) (a b:Nm) (ha:Dig a.2) (hb:Dig b.2) (f:PSt→(PSt→Option Nm)→Option Nm) (mx:Nat) (h1:a.2.length≤mx) (h2:b.2.length≤mx)
  (hend:∀z acc (i:Nat) next,¬i<a.2.length→¬i<b.2.length→f (a,b,z,acc,0,(i:Int)) next=bnd (zu k a.1 acc) fun r=>some (r.1,r.2))
  (hstep:∀z acc c (i:Nat) next,(i<a.2.length∨i<b.2.length∨c>0)→acc.length=i→i≤mx→0≤c→c≤1→f (a,b,z,acc,c,(i:Int)) next=next (a,b,z,acc++[(dg a.2 i+dg b.2 i+c) % 65536],(dg a.2 i+dg b.2 i+c) / 65536,((i+1:Nat):Int))) (m:Nat) :
  ∀(q i:Nat) (z:Nm) (acc:List Int) (c:Int),i+q=mx+1→acc.length=i→Dig acc→0≤c→c≤1→(i=mx+1→c=0)→nat acc+65536^i*c=nat (a.2.take i)+nat (b.2.take i) →
   ∃es,zw f (m+q+1) (a,b,z,acc,c,(i:Int))=(bnd (zu k a.1 es) fun r=>some (r.1,r.2))∧Dig es∧nat es=nat a.2+nat b.2∧es.length≤mx+1:=by
 have fin:∀(q i:Nat) (z:Nm) (acc:List Int),¬i<a.2.length→¬i<b.2.length→acc.length=i→i≤mx+1→Dig acc→nat acc+65536^i*0=nat (a.2.take i)+nat (b.2.take i) →
   ∃es,zw f (q+1) (a,b,z,acc,0,(i:Int))=(bnd (zu k a.1 es) fun r=>some (r.1,r.2))∧Dig es∧nat es=nat a.2+nat b.2∧es.length≤mx+1:=by
  intro q i z acc ha' hb' hl hi hd hn
  refine ⟨acc,by rw [q6,hend z acc i _ ha' hb'],hd,?_,by omega⟩
  rw [List.take_of_length_le (by omega),List.take_of_length_le (by omega)] at hn
  omega
 intro q
 induction q with
 |zero =>
  intro i z acc c hi hl hd hc0 hc1 hz hn
  have:=hz (by omega)
  subst this
  exact fin m i z acc (by omega) (by omega) hl (by omega) hd hn
 |succ q ih =>
  intro i z acc c hi hl hd hc0 hc1 hz hn
  by_cases hgo:i<a.2.length∨i<b.2.length∨c>0
  ·rw [show m+(q+1)+1=(m+q+1)+1 by omega,q6,hstep z acc c i _ hgo hl (by omega) hc0 hc1]
   have ra:=jI ha i
   have rb:=jI hb i
   refine ih (i+1) z _ _ (by omega) (by simp [hl]) ?_ (by omega) (by omega) ?_ ?_
   ·intro d hx
    rcases List.mem_append.1 hx with hx|hx
    ·exact hd d hx
    ·obtain rfl:d=_:=by simpa using hx
     omega
   ·intro e
    have ea:dg a.2 i=0:=by unfold dg;simp [List.getD_eq_getElem?_getD];rw [List.getElem?_eq_none (by omega)];rfl
    have eb:dg b.2 i=0:=by unfold dg;simp [List.getD_eq_getElem?_getD];rw [List.getElem?_eq_none (by omega)];rfl
    rw [ea,eb]
    omega
   ·rw [zhe,hl,Yt,Yt]
    simp only [nat]
    have hp:(65536:Int)^(i+1)=65536^i*65536:=Int.pow_succ ..
    rw [hp]
    have hs:(dg a.2 i+dg b.2 i+c) % 65536+65536*((dg a.2 i+dg b.2 i+c) / 65536)=dg a.2 i+dg b.2 i+c:=Int.emod_add_mul_ediv ..
    have e:65536^i*((dg a.2 i+dg b.2 i+c) % 65536)+65536^i*65536*((dg a.2 i+dg b.2 i+c) / 65536)=65536^i*(dg a.2 i+dg b.2 i+c):=by
     rw [←hs]
     grind
    grind
  ·have hc:c=0:=by omega
   subst hc
   obtain ⟨es,h⟩:=fin (m+(q+1)) i z acc (by omega) (by omega) hl (by omega) hd hn
   exact ⟨es,h⟩
end Go.Proofs.YtpkkcjmblocjdaaGreat.Pure
