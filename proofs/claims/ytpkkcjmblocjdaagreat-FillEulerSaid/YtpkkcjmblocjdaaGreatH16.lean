/- The reference's side: what it comes to. -/
import Derived.Test.YtpkkcjmblocjdaaGreatH15
set_option linter.unusedVariables false
set_option linter.unusedSimpArgs false
set_option linter.unusedSectionVars false
namespace Go.Proofs.YtpkkcjmblocjdaaGreat.Pure
open Go.RowKit Go.Proofs.YtpkkcjmblocjdaaGreat.AM
theorem zgI {x:Nm} (h:Ok x) {n:Nat} (h1:-(65536^n)<val x) (h2:val x<65536^n):x.2.length≤n:=by
 apply Decidable.byContradiction
 intro hn
 obtain ⟨q,hq⟩:∃q,x.2.length=q+1:=⟨x.2.length-1,by omega⟩
 have g:=znw h hq
 have p:=zj6 (show n≤q by omega)
 unfold val at h1 h2
 split at h1<;>split at h2<;>first|omega|contradiction
theorem zmc (m:Nat) (a:Int) (h:-4294967296≤a∧a≤4294967296):∃y,ZT (m+100) a=some y∧Ok y∧val y=a∧y.2.length≤3:=by
 obtain ⟨y,h1,h2,h3,h4⟩:=ztr (m+90) a (by omega)
 refine ⟨y,?_,h2,h3,h4⟩
 unfold ZT KU
 rw [show m+100=m+90+10 by omega,h1,zr]
theorem zyb (m:Nat) (a b:Nm) (ha:Ok a) (hb:Ok b) (la:a.2.length≤40) (lb:b.2.length≤40):∃y,jD (m+100) a b=some y∧Ok y∧val y=val a-val b:=by
 unfold jD JI
 obtain ⟨n,n1,n2,n3⟩:=zy0 (m+100) hb
 have nl:n.2.length≤40:=by
  have:n.2.length≤b.2.length:=by
   refine zgI n2 ?_ ?_
   ·have:=zeQ hb.dig;have:=JA hb.dig;rw [n3];unfold val;split<;>omega
   ·have:=zeQ hb.dig;have:=JA hb.dig;rw [n3];unfold val;split<;>omega
  omega
 obtain ⟨y,y1,y2,y3,_⟩:=ziW m a n ha n2 la nl
 refine ⟨y,?_,y2,by rw [y3,n3];omega⟩
 have eb:qm (m+100) (b.1,b.2)=some n:=n1
 have ea:zD (m+100) (a.1,a.2) (n.1,n.2)=some y:=y1
 rw [eb,zr,ea,zr]
theorem zaC {x y:Int} (hx:-4294967296≤x∧x≤4294967296) (hy:-4294967296≤y∧y≤4294967296):-18446744073709551616≤x*y∧x*y≤18446744073709551616:=by
 have h:((x*y).natAbs:Int)≤4294967296*4294967296:=by
  rw [Int.natAbs_mul,Int.natCast_mul]
  exact Int.mul_le_mul (by omega) (by omega) (by omega) (by omega)
 omega
theorem zvv (m:Nat) (a b c d:Nm) (ha:Ok a) (hb:Ok b) (hc:Ok c) (hd:Ok d) (la:a.2.length≤3) (lb:b.2.length≤3) (lc:c.2.length≤3) (ld:d.2.length≤3) :
  ∃y,q8 (m+100) a b c d=some y∧Ok y∧val y=val a*val d-val b*val c:=by
 unfold q8 KQ
 obtain ⟨x,x1,x2,x3,x4⟩:=zdi m a d ha hd (by omega) (by omega)
 obtain ⟨z,z1,z2,z3,z4⟩:=zdi m b c hb hc (by omega) (by omega)
 obtain ⟨y,y1,y2,y3⟩:=zyb m x z x2 z2 (by omega) (by omega)
 refine ⟨y,?_,y2,by rw [y3,x3,z3]⟩
 have e1:zK (m+100) (a.1,a.2) (d.1,d.2)=some x:=x1
 have e2:zK (m+100) (b.1,b.2) (c.1,c.2)=some z:=z1
 have e3:jD (m+100) (x.1,x.2) (z.1,z.2)=some y:=y1
 rw [e1,zr,e2,zr,e3,zr]
theorem zzk (m:Nat) (a b c:Pt) (ha:Fit a) (hb:Fit b) (hc:Fit c):∃y,Zy (m+100) a b c=some y∧Ok y∧val y=crs a b c:=by
 unfold Fit at ha hb hc
 obtain ⟨a1,p1,o1,v1,l1⟩:=zmc m a.1 (by omega)
 obtain ⟨a2,p2,o2,v2,l2⟩:=zmc m a.2 (by omega)
 obtain ⟨b1,p3,o3,v3,l3⟩:=zmc m b.1 (by omega)
 obtain ⟨b2,p4,o4,v4,l4⟩:=zmc m b.2 (by omega)
 obtain ⟨c1,p5,o5,v5,l5⟩:=zmc m c.1 (by omega)
 obtain ⟨c2,p6,o6,v6,l6⟩:=zmc m c.2 (by omega)
 obtain ⟨d1,q1,r1,s1⟩:=zvv m a1 a2 b1 b2 o1 o2 o3 o4 l1 l2 l3 l4
 obtain ⟨d2,q2,r2,s2⟩:=zvv m b1 b2 c1 c2 o3 o4 o5 o6 l3 l4 l5 l6
 obtain ⟨d3,q3,r3,s3⟩:=zvv m c1 c2 a1 a2 o5 o6 o1 o2 l5 l6 l1 l2
 rw [v1,v2,v3,v4] at s1
 rw [v3,v4,v5,v6] at s2
 rw [v5,v6,v1,v2] at s3
 have w1:=zaC (x:=a.1) (y:=b.2) (by omega) (by omega)
 have w2:=zaC (x:=a.2) (y:=b.1) (by omega) (by omega)
 have w3:=zaC (x:=b.1) (y:=c.2) (by omega) (by omega)
 have w4:=zaC (x:=b.2) (y:=c.1) (by omega) (by omega)
 have w5:=zaC (x:=c.1) (y:=a.2) (by omega) (by omega)
 have w6:=zaC (x:=c.2) (y:=a.1) (by omega) (by omega)
 have hp:(65536:Int)^8=340282366920938463463374607431768211456:=by decide
 have k1:d1.2.length≤8:=zgI r1 (by rw [hp,s1];omega) (by rw [hp,s1];omega)
 have k2:d2.2.length≤8:=zgI r2 (by rw [hp,s2];omega) (by rw [hp,s2];omega)
 have k3:d3.2.length≤8:=zgI r3 (by rw [hp,s3];omega) (by rw [hp,s3];omega)
 obtain ⟨e,t1,t2,t3,_⟩:=ziW m d1 d2 r1 r2 (by omega) (by omega)
 have k4:e.2.length≤8:=zgI t2 (by rw [hp,t3,s1,s2];omega) (by rw [hp,t3,s1,s2];omega)
 obtain ⟨y,u1,u2,u3,_⟩:=ziW m e d3 t2 r3 (by omega) (by omega)
 refine ⟨y,?_,u2,?_⟩
 ·unfold Zy Kl
  rw [p1,p2,p3,p4,p5,p6]
  simp only [zr]
  have f1:q8 (m+100) (a1.1,a1.2) (a2.1,a2.2) (b1.1,b1.2) (b2.1,b2.2)=some d1:=q1
  have f2:q8 (m+100) (b1.1,b1.2) (b2.1,b2.2) (c1.1,c1.2) (c2.1,c2.2)=some d2:=q2
  have f3:q8 (m+100) (c1.1,c1.2) (c2.1,c2.2) (a1.1,a1.2) (a2.1,a2.2)=some d3:=q3
  have f4:zD (m+100) (d1.1,d1.2) (d2.1,d2.2)=some e:=t1
  have f5:zD (m+100) (e.1,e.2) (d3.1,d3.2)=some y:=u1
  rw [f1,zr,f2,zr,f4,zr,f3,zr,f5,zr]
 ·rw [u3,t3,s1,s2,s3]
  unfold crs
  grind
theorem zm7 (m:Nat) (a b c:Pt):qX (m+100) a b c=some (ori a b c):=by
 unfold qX Jm
 have fit_f:∀p:Pt,zX (m+100) p=some (decide (Fit p)):=by
  intro p
  unfold zX
  simp only [zx]
  have no:∀h:¬Fit p,(some false:Option Bool)=some (decide (Fit p)):=fun h=>by rw [decide_eq_false h]
  by_cases h1:p.1≥-4294967296
  ·rw [zk h1]
   by_cases h2:p.1≤4294967296
   ·rw [zk h2]
    by_cases h3:p.2≥-4294967296
    ·rw [zk h3]
     congr 1
     rw [decide_eq_decide]
     unfold Fit
     omega
    ·rw [zg h3];exact no (by unfold Fit;omega)
   ·rw [zg h2];exact no (by unfold Fit;omega)
  ·rw [zg h1];exact no (by unfold Fit;omega)
 simp only [Ye,zx]
 rw [fit_f,fit_f,fit_f]
 simp only [zr]
 unfold ori
 by_cases h1:Fit a
 ·by_cases h2:Fit b
  ·by_cases h3:Fit c
   ·obtain ⟨y,q1,q2,q3⟩:=zzk m a b c h1 h2 h3
    have q4:zW (m+100) (y.1,y.2)=some (sg (val y)):=zok (m+100) q2
    rw [if_pos ⟨h1,h2,h3⟩,decide_eq_true h1,decide_eq_true h2,decide_eq_true h3,q1]
    simp only [Bool.not_true,cF,zr]
    rw [q4,q3]
    rfl
   ·rw [if_neg (fun x=>h3 x.2.2),decide_eq_true h1,decide_eq_true h2,decide_eq_false h3];rfl
  ·rw [if_neg (fun x=>h2 x.2.1),decide_eq_true h1,decide_eq_false h2];rfl
 ·rw [if_neg (fun x=>h1 x.1),decide_eq_false h1];rfl
end Go.Proofs.YtpkkcjmblocjdaaGreat.Pure
