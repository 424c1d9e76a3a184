/- The reference's numbers: products. -/
import Derived.Test.YtpkkcjmblocjdaaGreatH14
set_option linter.unusedVariables false
set_option linter.unusedSimpArgs false
set_option linter.unusedSectionVars false
namespace Go.Proofs.YtpkkcjmblocjdaaGreat.Pure
open Go.RowKit Go.Proofs.YtpkkcjmblocjdaaGreat.AM
abbrev OSt:Type:=Nm×Nm×Nm×List Int×Int
theorem zq1 (k:Nat) (neg:Bool) (a b:Nm) (z:Nm) (F:OSt→(OSt→Option Nm)→Option Nm)
  (hend:∀acc next,F (a,b,z,acc,(a.2.length:Int)) next=bnd (zu k neg acc) fun r=>some (r.1,r.2))
  (hrow:∀acc (i:Nat) next,i<a.2.length→Dig acc→acc.length=a.2.length+b.2.length+1→(∀k,i+b.2.length≤k→dg acc k=0) →
   ∃es,F (a,b,z,acc,(i:Int)) next=next (a,b,z,es,((i+1:Nat):Int))∧Dig es∧es.length=a.2.length+b.2.length+1∧nat es=nat acc+65536^(i+0)*0+65536^i*dg a.2 i*(nat b.2-nat (b.2.take 0))∧∀k,i+b.2.length<k→dg es k=0) (m:Nat) :
  ∀(q i:Nat) (acc:List Int),i+q=a.2.length→Dig acc→acc.length=a.2.length+b.2.length+1→(∀k,i+b.2.length≤k→dg acc k=0)→nat acc=nat (a.2.take i)*nat b.2 →
   ∃es,zw F (m+q+1) (a,b,z,acc,(i:Int))=(bnd (zu k neg es) fun r=>some (r.1,r.2))∧Dig es∧nat es=nat a.2*nat b.2∧es.length=a.2.length+b.2.length+1:=by
 intro q
 induction q with
 |zero =>
  intro i acc hi hd hl hz hn
  have e:i=a.2.length:=by omega
  subst e
  refine ⟨acc,by rw [q6,hend],hd,?_,hl⟩
  rw [hn,List.take_length]
 |succ q ih =>
  intro i acc hi hd hl hz hn
  rw [show m+(q+1)+1=(m+q+1)+1 by omega,q6]
  obtain ⟨es,h1,h2,h3,h4,h5⟩:=hrow acc i (zw F (m+q+1)) (by omega) hd hl hz
  rw [h1]
  refine ih (i+1) es (by omega) h2 h3 (fun k hk=>h5 k (by omega)) ?_
  rw [h4,hn,Yt]
  have e0:nat (b.2.take 0)=0:=by simp [nat]
  rw [e0]
  grind
theorem ztw (m:Nat) (neg:Bool) (a b:Nm) (la:a.2.length≤20) (lb:b.2.length≤20) (z:Nm) (F:OSt→(OSt→Option Nm)→Option Nm)
  (hend:∀acc next,F (a,b,z,acc,(a.2.length:Int)) next=bnd (zu (m+100) neg acc) fun r=>some (r.1,r.2))
  (hrow:∀acc (i:Nat) next,i<a.2.length→Dig acc→acc.length=a.2.length+b.2.length+1→(∀k,i+b.2.length≤k→dg acc k=0) →
   ∃es,F (a,b,z,acc,(i:Int)) next=next (a,b,z,es,((i+1:Nat):Int))∧Dig es∧es.length=a.2.length+b.2.length+1∧nat es=nat acc+65536^(i+0)*0+65536^i*dg a.2 i*(nat b.2-nat (b.2.take 0))∧∀k,i+b.2.length<k→dg es k=0) (v:Int) (hv:v=if neg=true then -(nat a.2*nat b.2) else nat a.2*nat b.2) :
  ∃y,zw F (m+100) (a,b,z,List.replicate (a.2.length+b.2.length+1) 0,0)=some y∧Ok y∧val y=v∧y.2.length≤a.2.length+b.2.length+1:=by
 have hdg:∀n k,dg (List.replicate n 0) k=0:=by
  intro n k
  unfold dg
  by_cases h:k<n
  ·simp [List.getD_eq_getElem?_getD,h]
  ·simp [List.getD_eq_getElem?_getD,h]
 have hn0:∀n,nat (List.replicate n 0)=0:=by
  intro n
  induction n with
  |zero=>rfl
  |succ n ih=>simp only [List.replicate_succ,nat,ih];rfl
 have hdd:∀n,Dig (List.replicate n 0):=by
  intro n d hd
  have:=List.eq_of_mem_replicate hd
  omega
 obtain ⟨es,h1,h2,h3,h4⟩:=zq1 (m+100) neg a b z F hend hrow (m+99-a.2.length) a.2.length 0 (List.replicate (a.2.length+b.2.length+1) 0) (by omega) (hdd _) (by simp) (fun k _=>hdg _ k) (by rw [hn0];simp [nat])
 rw [show m+99-a.2.length+a.2.length+1=m+100 by omega,show ((0:Nat):Int)=0 from rfl] at h1
 rw [h1,zk5 (m+100) _ es (by omega) (by omega),zr]
 refine ⟨_,rfl,zmf h2 _ (Nat.le_refl _),?_,Nat.le_trans (znX _ _ _) (by omega)⟩
 show val (tr neg es es.length)=_
 rw [zkI h2 _ (Nat.le_refl _),List.take_length,h3,hv]
theorem zsX (p q:Bool) (x y:Int):(if p=true then -x else x)*(if q=true then -y else y)=if (!(p==q))=true then -(x*y) else x*y:=by
 cases p<;>cases q<;>simp [Int.mul_neg,Int.neg_mul]
theorem zdi (m:Nat) (a b:Nm) (ha:Ok a) (hb:Ok b) (la:a.2.length≤20) (lb:b.2.length≤20):∃y,zK (m+100) a b=some y∧Ok y∧val y=val a*val b∧y.2.length≤a.2.length+b.2.length+1:=by
 unfold zK QD
 have ew:w64 (w64 ((a.2.length:Int)+(b.2.length:Int))+1)=((a.2.length+b.2.length+1:Nat):Int):=by
  rw [zl (x:=(a.2.length:Int)+(b.2.length:Int)) (by omega) (by omega),zl (by omega) (by omega)]
  omega
 rw [ew,zP (decide_eq_true (by omega)),zP (by unfold zfY few;exact decide_eq_true (by omega))]
 have er:rpL ((a.2.length+b.2.length+1:Nat):Int) (0:Int)=List.replicate (a.2.length+b.2.length+1) 0:=by
  unfold rpL
  rw [Int.toNat_natCast]
 rw [er]
 refine ztw m (!(a.1==b.1)) a b la lb (false,[]) _ (fun acc next=>?_) (fun acc i next hi hd hl hz=>?_) (val a*val b) (zsX a.1 b.1 _ _)
 ·dsimp only
  rw [zg (by omega)]
 ·dsimp only
  rw [zk (show (i:Int)<(a.2.length:Int) by omega)]
  rw [show m+100=(m+98-b.2.length)+(b.2.length+1)+1 by omega]
  refine zv5 a b ha.dig hb.dig i hi (false,[]) _ (fun es=>next (a,b,(false,[]),es,((i+1:Nat):Int))) (fun acc j nx hj=>?_) (fun acc c j nx hgo hd hl hj hc0 hc1=>?_) (m+98-b.2.length) (b.2.length+1) 0 acc 0 (by omega) hd hl (by omega) (by omega) (fun _=>rfl) (fun k hk _=>hz k hk) (fun k hk=>hz k (by omega))
  ·dsimp only
   simp only [zx]
   rw [zg (show ¬(j:Int)<(b.2.length:Int) by omega),zl (x:=(i:Int)+1) (by omega) (by omega)]
   rfl
  ·dsimp only
   simp only [zx]
   rw [zjH]
   simp only [zr]
   have r0:=jI hd (i+j)
   have r1:=jI ha.dig i
   have r2:=jI hb.dig j
   have hp0:0≤dg a.2 i*dg b.2 j:=Int.mul_nonneg r1.1 r2.1
   have hp1:dg a.2 i*dg b.2 j≤65535*65535:=Int.mul_le_mul (by omega) (by omega) r2.1 (by omega)
   have e1:w64 ((i:Int)+(j:Int))=((i+j:Nat):Int):=by rw [zl (by omega) (by omega)];omega
   have e2:rdD 0 acc ((i+j:Nat):Int)=dg acc (i+j):=by rw [zY _ _ (i+j) (by omega)];unfold dg;simp [List.getD_eq_getElem?_getD,show i+j<acc.length by omega]
   have e3:rdD 0 a.2 (i:Int)=dg a.2 i:=by rw [zY _ _ i hi];unfold dg;simp [List.getD_eq_getElem?_getD,hi]
   have e4:∀v:Int,stL acc ((i+j:Nat):Int) v=acc.set (i+j) v:=fun v=>by unfold stL;rw [Int.toNat_natCast]
   have g1:inb ((i+j:Nat):Int) acc.length=true:=zA ⟨by omega,by omega⟩
   have g2:inb (i:Int) a.2.length=true:=zA ⟨by omega,by omega⟩
   rw [e1,e2,e3,g1,g2,zl (x:=dg a.2 i*dg b.2 j) (by omega) (by omega),zl (x:=dg acc (i+j)+dg a.2 i*dg b.2 j) (by omega) (by omega),zl (x:=dg acc (i+j)+dg a.2 i*dg b.2 j+c) (by omega) (by omega),zoF (by omega),zo8 (by omega),zl (x:=(dg acc (i+j)+dg a.2 i*dg b.2 j+c) / 65536) (by omega) (by omega),zl (x:=(j:Int)+1) (by omega) (by omega),e4]
   by_cases q1:j<b.2.length
   ·rw [zk (show (j:Int)<(b.2.length:Int) by omega)];rfl
   ·rw [zg (show ¬(j:Int)<(b.2.length:Int) by omega),decide_eq_true (show c>0 by omega)];rfl
end Go.Proofs.YtpkkcjmblocjdaaGreat.Pure
