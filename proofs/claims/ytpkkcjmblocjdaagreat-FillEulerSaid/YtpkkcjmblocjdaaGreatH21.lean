/- The reference's answer whether a place lies on a segment. -/
import Derived.Test.YtpkkcjmblocjdaaGreatH18
set_option linter.unusedVariables false
set_option linter.unusedSimpArgs false
set_option linter.unusedSectionVars false
namespace Go.Proofs.YtpkkcjmblocjdaaGreat.Pure
open Go.RowKit Go.Proofs.YtpkkcjmblocjdaaGreat.AM
theorem zfF (x:Int):-9223372036854775808≤w64 x∧w64 x≤9223372036854775807:=by
 have:w64 x=(x+9223372036854775808) % 18446744073709551616-9223372036854775808:=by
  simp only [w64,IntKind.wrap,IntKind.signed,IntKind.bits]
  simp
  omega
 omega
theorem zu8 (k:Nat) (p:Pt):zX k p=some (decide (Fit p)):=by
 unfold zX
 simp only [zx]
 have no:∀h:¬Fit p,(some false:Option Bool)=some (decide (Fit p)):=fun h=>by rw [decide_eq_false h]
 by_cases h1:p.1≥-4294967296
 ·rw [zk h1]
  by_cases h2:p.1≤4294967296
  ·rw [zk h2]
   by_cases h3:p.2≥-4294967296
   ·rw [zk h3]
    congr 1
    rw [decide_eq_decide]
    unfold Fit
    omega
   ·rw [zg h3];exact no (by unfold Fit;omega)
  ·rw [zg h2];exact no (by unfold Fit;omega)
 ·rw [zg h1];exact no (by unfold Fit;omega)
theorem zuB (m:Nat) (a b p:Pt):qY (m+100) a b p=some (decide (On a b p)):=by
 unfold qY Yv
 obtain ⟨y0,p0,o0,v0,l0⟩:=Q6 (m+90) (w64 (p.1-a.1)) (zfF _)
 obtain ⟨y1,p1,o1,v1,l1⟩:=Q6 (m+90) (w64 (b.1-p.1)) (zfF _)
 obtain ⟨y2,p2,o2,v2,l2⟩:=Q6 (m+90) (w64 (p.2-a.2)) (zfF _)
 obtain ⟨y3,p3,o3,v3,l3⟩:=Q6 (m+90) (w64 (b.2-p.2)) (zfF _)
 obtain ⟨t0,q0,r0,s0,k0⟩:=zdi m y0 y1 o0 o1 (by omega) (by omega)
 obtain ⟨t1,q1,r1,s1,k1⟩:=zdi m y2 y3 o2 o3 (by omega) (by omega)
 obtain ⟨z,z1,z2,z3,_⟩:=ziW m t0 t1 r0 r1 (by omega) (by omega)
 rw [v0,v1] at s0
 rw [v2,v3] at s1
 rw [s0,s1] at z3
 have e0:zJ (m+100) (w64 (p.1-a.1))=some y0:=p0
 have e1:zJ (m+100) (w64 (b.1-p.1))=some y1:=p1
 have e2:zJ (m+100) (w64 (p.2-a.2))=some y2:=p2
 have e3:zJ (m+100) (w64 (b.2-p.2))=some y3:=p3
 have f0:zK (m+100) (y0.1,y0.2) (y1.1,y1.2)=some t0:=q0
 have f1:zK (m+100) (y2.1,y2.2) (y3.1,y3.2)=some t1:=q1
 have f2:zD (m+100) (t0.1,t0.2) (t1.1,t1.2)=some z:=z1
 have f3:zW (m+100) (z.1,z.2)=some (sg (val z)):=zok (m+100) z2
 rw [e0,e1,e2,e3]
 simp only [zr]
 rw [f0,f1]
 simp only [zr]
 rw [f2]
 simp only [zr,Ye,zx,eqP]
 rw [zu8,zu8,zu8,zm7,f3]
 simp only [zr]
 have no:∀h:¬On a b p,(some false:Option Bool)=some (decide (On a b p)):=fun h=>by rw [decide_eq_false h]
 by_cases hab:a=b
 ·rw [Qx (by simp [hab])];exact no fun x=>x.1 hab
 rw [Kh (by simp [hab])]
 by_cases h1:Fit a
 ·rw [zk h1]
  by_cases h2:Fit b
  ·rw [zk h2]
   by_cases h3:Fit p
   ·rw [zk h3,ori,if_pos ⟨h1,h2,h3⟩]
    by_cases h4:sg (crs a b p)=0
    ·rw [zk h4]
     have h5:=zhl.1 h4
     congr 1
     rw [decide_eq_decide]
     have g1:=h1;have g2:=h2;have g3:=h3
     unfold Fit at g1 g2 g3
     rw [zl (x:=p.1-a.1) (by omega) (by omega),zl (x:=b.1-p.1) (by omega) (by omega),zl (x:=p.2-a.2) (by omega) (by omega),zl (x:=b.2-p.2) (by omega) (by omega)] at z3
     have hs:sg (val z)≥0↔0≤val z:=by unfold sg;(repeat' split)<;>omega
     rw [hs,z3,zya hab h5]
     exact ⟨fun x=>⟨hab,⟨h1,h2,h3⟩,h5,x⟩,fun x=>x.2.2.2⟩
    ·rw [zg h4];exact no fun x=>h4 (zhl.2 x.2.2.1)
   ·rw [zg h3];exact no fun x=>h3 x.2.1.2.2
  ·rw [zg h2];exact no fun x=>h2 x.2.1.2.1
 ·rw [zg h1];exact no fun x=>h1 x.2.1.1
theorem zsI (m:Nat) (a b p:Pt):jj (m+100) a b p=some (decide (Ins a b p)):=by
 unfold jj Jn
 simp only [Ye,zx,eqP]
 have no:∀h:¬Ins a b p,(some false:Option Bool)=some (decide (Ins a b p)):=fun h=>by rw [decide_eq_false h]
 rw [zuB,zr]
 by_cases h:On a b p
 ·rw [zk h]
  by_cases h1:p=a
  ·rw [Qx (by simp [h1])]
   exact no fun x=>x.2.1 h1
  ·rw [Kh (by simp [h1])]
   congr 1
   rw [←decide_not,decide_eq_decide]
   exact ⟨fun x=>⟨h,h1,x⟩,fun x=>x.2.2⟩
 ·rw [zg h]
  exact no fun x=>h x.1
end Go.Proofs.YtpkkcjmblocjdaaGreat.Pure
