/- The program's and the reference's answers are alike. -/
import Derived.Test.YtpkkcjmblocjdaaGreatH19
set_option linter.unusedVariables false
set_option linter.unusedSimpArgs false
set_option linter.unusedSectionVars false
namespace Go.Proofs.YtpkkcjmblocjdaaGreat.Pure
open Go.RowKit Go.Proofs.YtpkkcjmblocjdaaGreat.AM
theorem zuI {a b:Pt} (h:a≠b):b.1-a.1≠0∨b.2-a.2≠0:=by
 apply Decidable.byContradiction
 intro hh
 exact h (by cases a;cases b;simp at *;omega)
theorem ZI {x y:Int} (h:x≠0) (e:x*y=0):y=0:=(Int.mul_eq_zero.1 e).resolve_left h
theorem zak {p q r s:Pt} (h:p≠q) (hr:crs p q r=0) (hs:crs p q s=0):crs p r s=0∧crs r s p=0∧crs r s q=0∧crs q r s=0:=by
 unfold crs at *
 rcases zuI h with hh|hh
 ·refine ⟨ZI hh ?_,ZI hh ?_,ZI hh ?_,ZI hh ?_⟩<;>grind
 ·refine ⟨ZI hh ?_,ZI hh ?_,ZI hh ?_,ZI hh ?_⟩<;>grind
theorem za0 {a b c d:Pt} (hab:a≠b) (h0:crs a b c=0) (hn:¬(Btw a.1 b.1 c.1∧Btw a.2 b.2 c.2)):sg (crs c d a)=sg (crs c d b):=by
 have hl:∀{u v p q:Int},u≠0→u*p=v*q→(0<v∨v<0)→True:=fun _ _ _=>trivial
 have key:∀{u v w x y K:Int},0<u*u→u*x=v*K→u*y=w*K→0<v*w→sg x=sg y:=by
  intro u v w x y K hu hx hy hvw
  have hu0:u≠0:=by rintro rfl;simp at hu
  have hv0:v≠0:=by rintro rfl;simp at hvw
  have hw0:w≠0:=by rintro rfl;simp at hvw
  have e:(v*v)*y=(v*w)*x:=by
   have:u*((v*v)*y)=u*((v*w)*x):=by grind
   exact Int.eq_of_mul_eq_mul_left hu0 this
  have hv2:0<v*v:=by rcases Int.lt_or_gt_of_ne hv0 with q|q;exact Int.mul_pos_of_neg_of_neg q q;exact Int.mul_pos q q
  exact (zuS hv2 hvw e).symm
 have out:∀{x y z:Int},¬Btw x y z→0<(x-z)*(y-z):=by
  intro x y z h
  unfold Btw at h
  by_cases h1:x>z
  ·exact Int.mul_pos (by omega) (by omega)
  ·exact Int.mul_pos_of_neg_of_neg (by omega) (by omega)
 have bt:∀x y z:Int,((0≤z-x∧z-x≤y-x)∨(y-x≤z-x∧z-x≤0))↔Btw x y z:=by intro x y z;unfold Btw;omega
 have sq:∀{u:Int},u≠0→0<u*u:=by
  intro u h;rcases Int.lt_or_gt_of_ne h with q|q;exact Int.mul_pos_of_neg_of_neg q q;exact Int.mul_pos q q
 rcases zuI hab with hu|hu
 ·have hx:¬Btw a.1 b.1 c.1:=by
   intro h1
   exact hn ⟨h1,(bt _ _ _).1 (zmj hu (by unfold crs at h0;omega) ((bt _ _ _).2 h1))⟩
  refine key (u:=b.1-a.1) (v:=a.1-c.1) (w:=b.1-c.1) (K:=(d.1-c.1)*(b.2-a.2)-(d.2-c.2)*(b.1-a.1)) (sq hu) ?_ ?_ (out hx)
  ·unfold crs at *;grind
  ·unfold crs at *;grind
 ·have hx:¬Btw a.2 b.2 c.2:=by
   intro h1
   exact hn ⟨(bt _ _ _).1 (zmj hu (by unfold crs at h0;omega) ((bt _ _ _).2 h1)),h1⟩
  refine key (u:=b.2-a.2) (v:=a.2-c.2) (w:=b.2-c.2) (K:=(d.1-c.1)*(b.2-a.2)-(d.2-c.2)*(b.1-a.1)) (sq hu) ?_ ?_ (out hx)
  ·unfold crs at *;grind
  ·unfold crs at *;grind
section
variable {a b c d:Pt} (hb:¬Bad a b c d)
include hb
theorem nb:a≠b∧c≠d∧Fit a∧Fit b∧Fit c∧Fit d :=
 ⟨fun e=>hb (Or.inl e),fun e=>hb (Or.inr (Or.inl e)),Decidable.not_not.1 fun e=>hb (Or.inr (Or.inr e))⟩
theorem zzE:inn a b c d=XS a b c d+KT a b c d:=by
 obtain ⟨hab,hcd,fa,fb,fc,fd⟩:=nb hb
 have e1:decide (On a b c)=(decide (Ins a b c)||(decide (a=c)||decide (b=c))):=by
  rw [Bool.eq_iff_iff];simp only [decide_eq_true_eq,Bool.or_eq_true];rw [ziQ hab ⟨fa,fb,fc⟩];exact ⟨fun h=>by rcases h with h|h|h<;>simp [h],fun h=>by rcases h with h|h|h<;>simp [h]⟩
 have e2:decide (On a b d)=(decide (Ins a b d)||(decide (a=d)||decide (b=d))):=by
  rw [Bool.eq_iff_iff];simp only [decide_eq_true_eq,Bool.or_eq_true];rw [ziQ hab ⟨fa,fb,fd⟩];exact ⟨fun h=>by rcases h with h|h|h<;>simp [h],fun h=>by rcases h with h|h|h<;>simp [h]⟩
 have e3:(decide (On c d a)&&!decide (a=c)&&!decide (a=d))=decide (Ins c d a):=by
  rw [Bool.eq_iff_iff,decide_eq_true_eq];unfold Ins;simp [and_assoc]
 have e4:(decide (On c d b)&&!decide (b=c)&&!decide (b=d))=decide (Ins c d b):=by
  rw [Bool.eq_iff_iff,decide_eq_true_eq];unfold Ins;simp [and_assoc]
 unfold inn XS KT
 rw [e1,e2,e3,e4]
 have q1:¬(decide (Ins a b c)=true∧(decide (a=c)=true∨decide (b=c)=true)):=by
  simp only [decide_eq_true_eq];rintro ⟨h,e|e⟩;exact h.2.1 e.symm;exact h.2.2 e.symm
 have q2:¬(decide (Ins a b d)=true∧(decide (a=d)=true∨decide (b=d)=true)):=by
  simp only [decide_eq_true_eq];rintro ⟨h,e|e⟩;exact h.2.1 e.symm;exact h.2.2 e.symm
 have q3:¬(decide (a=c)=true∧decide (b=c)=true):=by simp only [decide_eq_true_eq];rintro ⟨e,e'⟩;exact hab (e.trans e'.symm)
 have q4:¬(decide (a=d)=true∧decide (b=d)=true):=by simp only [decide_eq_true_eq];rintro ⟨e,e'⟩;exact hab (e.trans e'.symm)
 generalize decide (Ins a b c)=x1 at *;generalize decide (Ins a b d)=x2 at *;generalize decide (Ins c d a)=x3 at *;generalize decide (Ins c d b)=x4 at *
 generalize decide (a=c)=y1 at *;generalize decide (a=d)=y2 at *;generalize decide (b=c)=y3 at *;generalize decide (b=d)=y4 at *
 clear e1 e2 e3 e4
 revert x1 x2 x3 x4 y1 y2 y3 y4
 decide +kernel
omit hb in
theorem zj2 (p q r:Pt) (fp:Fit p) (fq:Fit q) (fr:Fit r):ori p q r=0↔crs p q r=0:=by
 rw [ori,if_pos ⟨fp,fq,fr⟩,zhl]
omit hb in
theorem zAM {a b c d:Int} (n1:a≠c) (n2:a≠d) (n3:b≠c) (n4:b≠d):[decide (Btw a b c),decide (Btw a b d),decide (Btw c d a),decide (Btw c d b)].count true≠1:=by
 by_cases p1:Btw a b c<;>by_cases p2:Btw a b d<;>by_cases p3:Btw c d a<;>by_cases p4:Btw c d b<;>simp [p1,p2,p3,p4]<;>(unfold Btw at *;omega)
theorem zwV (h1:crs a b c=0) (h2:crs a b d=0) (he:KT a b c d=0):XS a b c d≠1:=by
 obtain ⟨hab,hcd,fa,fb,fc,fd⟩:=nb hb
 have hne:=zth.1 he
 obtain ⟨_,k1,k2,_⟩:=zak hab h1 h2
 have i1:Ins a b c↔Btw a.1 b.1 c.1∧Btw a.2 b.2 c.2:=⟨fun h=>h.1.2.2.2,fun h=>⟨⟨hab,⟨fa,fb,fc⟩,h1,h⟩,fun e=>hne (by simp [e]),fun e=>hne (by simp [e])⟩⟩
 have i2:Ins a b d↔Btw a.1 b.1 d.1∧Btw a.2 b.2 d.2:=⟨fun h=>h.1.2.2.2,fun h=>⟨⟨hab,⟨fa,fb,fd⟩,h2,h⟩,fun e=>hne (by simp [e]),fun e=>hne (by simp [e])⟩⟩
 have i3:Ins c d a↔Btw c.1 d.1 a.1∧Btw c.2 d.2 a.2:=⟨fun h=>h.1.2.2.2,fun h=>⟨⟨hcd,⟨fc,fd,fa⟩,k1,h⟩,fun e=>hne (by simp [e]),fun e=>hne (by simp [e])⟩⟩
 have i4:Ins c d b↔Btw c.1 d.1 b.1∧Btw c.2 d.2 b.2:=⟨fun h=>h.1.2.2.2,fun h=>⟨⟨hcd,⟨fc,fd,fb⟩,k2,h⟩,fun e=>hne (by simp [e]),fun e=>hne (by simp [e])⟩⟩
 have bt:∀x y z:Int,((0≤z-x∧z-x≤y-x)∨(y-x≤z-x∧z-x≤0))↔Btw x y z:=by intro x y z;unfold Btw;omega
 have fst:∀{p q r:Pt},q.1-p.1≠0→crs p q r=0→(Btw p.1 q.1 r.1∧Btw p.2 q.2 r.2↔Btw p.1 q.1 r.1):=fun hu h=>⟨fun x=>x.1,fun x=>⟨x,(bt _ _ _).1 (zmj hu (by unfold crs at h;omega) ((bt _ _ _).2 x))⟩⟩
 have snd:∀{p q r:Pt},q.2-p.2≠0→crs p q r=0→(Btw p.1 q.1 r.1∧Btw p.2 q.2 r.2↔Btw p.2 q.2 r.2):=fun hu h=>⟨fun x=>x.2,fun x=>⟨(bt _ _ _).1 (zmj hu (by unfold crs at h;omega) ((bt _ _ _).2 x)),x⟩⟩
 have eqv:∀{p q x y:Pt},p≠q→crs p q x=0→crs p q y=0→(q.1-p.1≠0→x.1=y.1→x=y)∧(q.2-p.2≠0→x.2=y.2→x=y):=by
  intro p q x y h hx hy
  unfold crs at hx hy
  refine ⟨fun hu e=>?_,fun hu e=>?_⟩
  ·have:(q.1-p.1)*(x.2-y.2)=0:=by rw [e] at hx;grind
   have:=ZI hu this
   exact Prod.ext e (by omega)
  ·have:(q.2-p.2)*(x.1-y.1)=0:=by rw [e] at hx;grind
   have:=ZI hu this
   exact Prod.ext (by omega) e
 have za:crs a b a=0:=by unfold crs;grind
 have zb:crs a b b=0:=by unfold crs;grind
 unfold XS
 rcases zuI hab with hu|hu
 ·have hw:d.1-c.1≠0:=by
   intro e
   exact hcd ((eqv hab h1 h2).1 hu (by omega))
  rw [fst hu h1] at i1;rw [fst hu h2] at i2;rw [fst hw k1] at i3;rw [fst hw k2] at i4
  have n1:a.1≠c.1:=fun e=>hne (.inl ((eqv hab za h1).1 hu e))
  have n2:a.1≠d.1:=fun e=>hne (.inr (.inl ((eqv hab za h2).1 hu e)))
  have n3:b.1≠c.1:=fun e=>hne (.inr (.inr (.inl ((eqv hab zb h1).1 hu e))))
  have n4:b.1≠d.1:=fun e=>hne (.inr (.inr (.inr ((eqv hab zb h2).1 hu e))))
  rw [decide_eq_decide.2 i1,decide_eq_decide.2 i2,decide_eq_decide.2 i3,decide_eq_decide.2 i4]
  exact zAM n1 n2 n3 n4
 ·have hw:d.2-c.2≠0:=by
   intro e
   exact hcd ((eqv hab h1 h2).2 hu (by omega))
  rw [snd hu h1] at i1;rw [snd hu h2] at i2;rw [snd hw k1] at i3;rw [snd hw k2] at i4
  have n1:a.2≠c.2:=fun e=>hne (.inl ((eqv hab za h1).2 hu e))
  have n2:a.2≠d.2:=fun e=>hne (.inr (.inl ((eqv hab za h2).2 hu e)))
  have n3:b.2≠c.2:=fun e=>hne (.inr (.inr (.inl ((eqv hab zb h1).2 hu e))))
  have n4:b.2≠d.2:=fun e=>hne (.inr (.inr (.inr ((eqv hab zb h2).2 hu e))))
  rw [decide_eq_decide.2 i1,decide_eq_decide.2 i2,decide_eq_decide.2 i3,decide_eq_decide.2 i4]
  exact zAM n1 n2 n3 n4
theorem zxd (h:¬(crs a b c=0∧crs a b d=0)):XS a b c d+KT a b c d≤1:=by
 obtain ⟨hab,hcd,fa,fb,fc,fd⟩:=nb hb
 have za:∀p q:Pt,crs p q p=0:=by intro p q;unfold crs;grind
 have zb:∀p q:Pt,crs p q q=0:=by intro p q;unfold crs;grind
 have zc:∀p q:Pt,crs p p q=0:=by intro p q;unfold crs;grind
 have zza:∀x1 x2 x3 x4 y1 y2 y3 y4:Bool,
   ¬(x1=true∧x2=true)→¬(x1=true∧x3=true)→¬(x1=true∧x4=true)→¬(x2=true∧x3=true)→¬(x2=true∧x4=true)→¬(x3=true∧x4=true) →
   ¬(y1=true∧y2=true)→¬(y1=true∧y3=true)→¬(y1=true∧y4=true)→¬(y2=true∧y3=true)→¬(y2=true∧y4=true)→¬(y3=true∧y4=true) →
   ¬(x1=true∧y1=true)→¬(x1=true∧y2=true)→¬(x1=true∧y3=true)→¬(x1=true∧y4=true) →
   ¬(x2=true∧y1=true)→¬(x2=true∧y2=true)→¬(x2=true∧y3=true)→¬(x2=true∧y4=true) →
   ¬(x3=true∧y1=true)→¬(x3=true∧y2=true)→¬(x3=true∧y3=true)→¬(x3=true∧y4=true) →
   ¬(x4=true∧y1=true)→¬(x4=true∧y2=true)→¬(x4=true∧y3=true)→¬(x4=true∧y4=true) →
   [x1,x2,x3,x4].count true+[y1,y2,y3,y4].count true≤1:=by
  intro x1 x2 x3 x4 y1 y2 y3 y4
  cases x1<;>cases x2<;>cases x3<;>cases x4<;>cases y1<;>cases y2<;>cases y3<;>cases y4<;>simp
 have line:∀{p q r s:Pt},p≠q→crs p q r=0→crs p q s=0→crs p q r=0∧crs p q s=0∧crs p r s=0∧crs r s p=0∧crs r s q=0∧crs q r s=0:=fun h1 h2 h3=>by
  obtain ⟨k1,k2,k3,k4⟩:=zak h1 h2 h3;exact ⟨h2,h3,k1,k2,k3,k4⟩
 unfold XS KT
 apply zza<;>simp only [decide_eq_true_eq]<;>rintro ⟨e1,e2⟩
 ·exact h ⟨e1.1.2.2.1,e2.1.2.2.1⟩
 ·have:=zak (p:=c) (q:=a) (r:=b) (s:=d) e1.2.1 (by have:=e1.1.2.2.1;unfold crs at *;grind) (by have:=e2.1.2.2.1;unfold crs at *;grind)
  exact h ⟨e1.1.2.2.1,by have:=this.2.2.2;unfold crs at *;grind⟩
 ·have:=zak (p:=c) (q:=b) (r:=a) (s:=d) e1.2.2 (by have:=e1.1.2.2.1;unfold crs at *;grind) (by have:=e2.1.2.2.1;unfold crs at *;grind)
  exact h ⟨e1.1.2.2.1,by have:=this.2.2.2;unfold crs at *;grind⟩
 ·have:=zak (p:=d) (q:=a) (r:=b) (s:=c) e1.2.1 (by have:=e1.1.2.2.1;unfold crs at *;grind) (by have:=e2.1.2.2.1;unfold crs at *;grind)
  exact h ⟨by have:=this.2.2.2;unfold crs at *;grind,e1.1.2.2.1⟩
 ·have:=zak (p:=d) (q:=b) (r:=a) (s:=c) e1.2.2 (by have:=e1.1.2.2.1;unfold crs at *;grind) (by have:=e2.1.2.2.1;unfold crs at *;grind)
  exact h ⟨by have:=this.2.2.2;unfold crs at *;grind,e1.1.2.2.1⟩
 ·have:=zak (p:=c) (q:=d) (r:=a) (s:=b) hcd e1.1.2.2.1 e2.1.2.2.1
  exact h ⟨this.2.1,this.2.2.1⟩
 ·exact hcd (e1.symm.trans e2)
 ·exact hab (e1.trans e2.symm)
 ·exact h ⟨by rw [←e1];exact za _ _,by rw [←e2];exact zb _ _⟩
 ·exact h ⟨by rw [←e2];exact zb _ _,by rw [←e1];exact za _ _⟩
 ·exact hab (e1.trans e2.symm)
 ·exact hcd (e1.symm.trans e2)
 ·exact e1.2.1 e2.symm
 ·exact h ⟨e1.1.2.2.1,by rw [←e2];exact za _ _⟩
 ·exact e1.2.2 e2.symm
 ·exact h ⟨e1.1.2.2.1,by rw [←e2];exact zb _ _⟩
 ·exact h ⟨by rw [←e2];exact za _ _,e1.1.2.2.1⟩
 ·exact e1.2.1 e2.symm
 ·exact h ⟨by rw [←e2];exact zb _ _,e1.1.2.2.1⟩
 ·exact e1.2.2 e2.symm
 ·exact e1.2.1 e2
 ·exact e1.2.2 e2
 ·exact h ⟨by rw [←e2];exact zb _ _,by have:=e1.1.2.2.1;rw [←e2] at this;unfold crs at *;grind⟩
 ·exact h ⟨by have:=e1.1.2.2.1;rw [←e2] at this;unfold crs at *;grind,by rw [←e2];exact zb _ _⟩
 ·exact h ⟨by rw [←e2];exact za _ _,by have:=e1.1.2.2.1;rw [←e2] at this;unfold crs at *;grind⟩
 ·exact h ⟨by have:=e1.1.2.2.1;rw [←e2] at this;unfold crs at *;grind,by rw [←e2];exact za _ _⟩
 ·exact e1.2.1 e2
 ·exact e1.2.2 e2
theorem zwP:zxp a b c d=how a b c d:=by
 obtain ⟨hab,hcd,fa,fb,fc,fd⟩:=nb hb
 have o1:=zj2 a b c fa fb fc
 have o2:=zj2 a b d fa fb fd
 have he:=(zwh hb).2
 have hons:=(zwh hb).1
 unfold zxp
 by_cases hx:ori a b c=0∧ori a b d=0
 ·rw [if_pos hx,zzE hb]
  have hc:¬Cro a b c d:=by rintro ⟨h,_⟩;rw [hx.1] at h;simp at h
  have hi:=zwV hb (o1.1 hx.1) (o2.1 hx.2)
  rw [how,if_neg hc]
  (repeat' split)<;>omega
 ·rw [if_neg hx]
  have h1:=zxd hb (by rw [←o1,←o2];exact hx)
  by_cases hc:Cro a b c d
  ·have h0:=zxt hc
   have hne:ori a b c≠ori a b d∧ori c d a≠ori c d b:=by
    constructor
    ·intro e;have h:=hc.1;rw [e] at h;have:=Jh a b d;rcases (show ori a b d=-1∨ori a b d=0∨ori a b d=1 by omega) with q|q|q<;>rw [q] at h<;>omega
    ·intro e;have h:=hc.2;rw [e] at h;have:=Jh c d b;rcases (show ori c d b=-1∨ori c d b=0∨ori c d b=1 by omega) with q|q|q<;>rw [q] at h<;>omega
   rw [if_neg (by omega),if_neg (by omega),if_pos hne,how,if_pos hc]
  ·rw [how,if_neg hc]
   by_cases hz:ons a b c d=0
   ·have hno:¬(ori a b c≠ori a b d∧ori c d a≠ori c d b):=by
     rintro ⟨n1,n2⟩
     have non:¬(On a b c∨On a b d∨On c d a∨On c d b):=by
      have:=(zvd _ _ _ _).1 hz
      simpa only [decide_eq_true_eq] using this
     have nO:∀{p q r:Pt},p≠q→Fit p→Fit q→Fit r→¬On p q r→crs p q r=0→¬(Btw p.1 q.1 r.1∧Btw p.2 q.2 r.2):=fun h f1 f2 f3 hn h0 hB=>hn ⟨h,⟨f1,f2,f3⟩,h0,hB⟩
     have p1:ori a b c≠0:=by
      intro e
      have e0:=o1.1 e
      have:=za0 (d:=d) hab e0 (nO hab fa fb fc (fun x=>non (.inl x)) e0)
      apply n2;rw [ori,ori,if_pos ⟨fc,fd,fa⟩,if_pos ⟨fc,fd,fb⟩,this]
     have p2:ori a b d≠0:=by
      intro e
      have e0:=o2.1 e
      have:=za0 (d:=c) hab e0 (nO hab fa fb fd (fun x=>non (.inr (.inl x))) e0)
      apply n2;rw [ori,ori,if_pos ⟨fc,fd,fa⟩,if_pos ⟨fc,fd,fb⟩,←Int.neg_inj]
      have t:∀x:Pt,-sg (crs c d x)=sg (crs d c x):=by intro x;rw [zk3 d c];unfold sg;(repeat' split)<;>omega
      rw [t,t,this]
     have p3:ori c d a≠0:=by
      intro e
      have e0:=(zj2 c d a fc fd fa).1 e
      have:=za0 (d:=b) hcd e0 (nO hcd fc fd fa (fun x=>non (.inr (.inr (.inl x)))) e0)
      apply n1;rw [ori,ori,if_pos ⟨fa,fb,fc⟩,if_pos ⟨fa,fb,fd⟩,this]
     have p4:ori c d b≠0:=by
      intro e
      have e0:=(zj2 c d b fc fd fb).1 e
      have:=za0 (d:=a) hcd e0 (nO hcd fc fd fb (fun x=>non (.inr (.inr (.inr x)))) e0)
      apply n1;rw [ori,ori,if_pos ⟨fa,fb,fc⟩,if_pos ⟨fa,fb,fd⟩,←Int.neg_inj]
      have t:∀x:Pt,-sg (crs a b x)=sg (crs b a x):=by intro x;rw [zk3 b a];unfold sg;(repeat' split)<;>omega
      rw [t,t,this]
     apply hc
     have mul:∀{x y:Int},(-1≤x∧x≤1)→(-1≤y∧y≤1)→x≠0→y≠0→x≠y→x*y<0:=by
      intro x y hx hy h1 h2 h3
      rcases (show x=-1∨x=1 by omega) with rfl|rfl<;>omega
     exact ⟨mul (Jh _ _ _) (Jh _ _ _) p1 p2 n1,mul (Jh _ _ _) (Jh _ _ _) p3 p4 n2⟩
    rw [if_neg (by omega),if_neg (by omega),if_neg hno,if_neg (by omega),if_neg (by omega),if_neg (by omega)]
   ·(repeat' split)<;>omega
end
theorem zvh (a b c d:Pt):zrq a b c d=QF a b c d:=by
 unfold zrq QF
 by_cases hb:Bad a b c d
 ·rw [if_pos hb,if_pos hb]
 ·rw [if_neg hb,if_neg hb,zwP hb]
end Go.Proofs.YtpkkcjmblocjdaaGreat.Pure
