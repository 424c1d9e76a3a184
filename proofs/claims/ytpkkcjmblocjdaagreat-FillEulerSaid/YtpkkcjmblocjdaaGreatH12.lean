/- The reference's numbers: a difference; sums. -/
import Derived.Test.YtpkkcjmblocjdaaGreatH11
set_option linter.unusedVariables false
set_option linter.unusedSimpArgs false
set_option linter.unusedSectionVars false
namespace Go.Proofs.YtpkkcjmblocjdaaGreat.Pure
open Go.RowKit Go.Proofs.YtpkkcjmblocjdaaGreat.AM
abbrev MSt:Type:=Nm×List Int×Int×Nm×Nm×Int
theorem zsH (k:Nat) (a b:Nm) (ha:Ok a) (hb:Ok b) (hlt:nat b.2≤nat a.2) (hl:b.2.length≤a.2.length) (f:MSt→(MSt→Option Nm)→Option Nm)
  (hend:∀z acc c next,f (z,acc,c,a,b,(a.2.length:Int)) next=bnd (zu k a.1 acc) fun r=>some (r.1,r.2))
  (hstep:∀z acc c (i:Nat) next,i<a.2.length→acc.length=i→0≤c→c≤1→f (z,acc,c,a,b,(i:Int)) next=next (z,acc++[(dg a.2 i-dg b.2 i-c) % 65536],(if dg a.2 i-dg b.2 i-c<0 then 1 else 0),a,b,((i+1:Nat):Int))) (m:Nat) :
  ∀(q i:Nat) (z:Nm) (acc:List Int) (c:Int),i+q=a.2.length→acc.length=i→Dig acc→0≤c→c≤1→nat acc-65536^i*c=nat (a.2.take i)-nat (b.2.take i) →
   ∃es,zw f (m+q+1) (z,acc,c,a,b,(i:Int))=(bnd (zu k a.1 es) fun r=>some (r.1,r.2))∧Dig es∧nat es=nat a.2-nat b.2∧es.length=a.2.length:=by
 intro q
 induction q with
 |zero =>
  intro i z acc c hi hla hd hc0 hc1 hn
  have e:i=a.2.length:=by omega
  subst e
  refine ⟨acc,by rw [q6,hend],hd,?_,hla⟩
  rw [List.take_length,List.take_of_length_le hl] at hn
  have h1:=zeQ hd
  rw [hla] at h1
  have hc:c=0:=by
   apply Decidable.byContradiction
   intro hne
   have:c=1:=by omega
   rw [this,Int.mul_one] at hn
   omega
  rw [hc] at hn
  omega
 |succ q ih =>
  intro i z acc c hi hla hd hc0 hc1 hn
  rw [show m+(q+1)+1=(m+q+1)+1 by omega,q6,hstep z acc c i _ (by omega) hla hc0 hc1]
  have ra:=jI ha.dig i
  have rb:=jI hb.dig i
  refine ih (i+1) z _ _ (by omega) (by simp [hla]) ?_ (by split<;>omega) (by split<;>omega) ?_
  ·intro d hx
   rcases List.mem_append.1 hx with hx|hx
   ·exact hd d hx
   ·obtain rfl:d=_:=by simpa using hx
    omega
  ·rw [zhe,hla,Yt,Yt]
   simp only [nat]
   have hp:(65536:Int)^(i+1)=65536^i*65536:=Int.pow_succ ..
   rw [hp]
   have hs:(dg a.2 i-dg b.2 i-c) % 65536-65536*(if dg a.2 i-dg b.2 i-c<0 then 1 else 0)=dg a.2 i-dg b.2 i-c:=by split<;>omega
   have e:65536^i*((dg a.2 i-dg b.2 i-c) % 65536)-65536^i*65536*(if dg a.2 i-dg b.2 i-c<0 then 1 else 0)=65536^i*(dg a.2 i-dg b.2 i-c):=by
    rw [←hs]
    grind
   grind
end Go.Proofs.YtpkkcjmblocjdaaGreat.Pure
