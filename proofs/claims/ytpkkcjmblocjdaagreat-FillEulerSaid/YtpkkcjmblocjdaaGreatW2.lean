/- Where a point lies: the reference's functions come to the same. -/
import Derived.Test.YtpkkcjmblocjdaaGreatW1
set_option linter.unusedVariables false
set_option linter.unusedSimpArgs false
set_option linter.unusedSectionVars false
namespace Go.Proofs.YtpkkcjmblocjdaaGreat.Pure
open Go.RowKit Go.Proofs.YtpkkcjmblocjdaaGreat.AM
theorem zBc (m:Nat) (a b q:Pt):Qw (m+400) a b q=some (decide (On a b q)):=by
 unfold Qw Yx
 simp only [Ye]
 rw [show m+400=(m+300)+100 by omega,zuB,zr]
theorem ztf (m:Nat) (a b q:Pt) (ha:Fit a) (hb:Fit b) (hq:Fit q):jJ (m+400) a b q=some (decide (sg (crs a b q)*sg (b.2-a.2)>0)):=by
 unfold Fit at ha hb hq
 have w:∀{x y:Int},-4294967296≤x→x≤4294967296→-4294967296≤y→y≤4294967296→w64 (x-y)=x-y:=fun h1 h2 h3 h4=>zl (by omega) (by omega)
 obtain ⟨y0,p0,o0,v0,l0⟩:=Q6 (m+390) (b.2-a.2) (by omega)
 obtain ⟨y1,p1,o1,v1,l1⟩:=Q6 (m+390) a.1 (by omega)
 obtain ⟨y3,p3,o3,v3,l3⟩:=Q6 (m+390) (b.1-a.1) (by omega)
 obtain ⟨y4,p4,o4,v4,l4⟩:=Q6 (m+390) (q.2-a.2) (by omega)
 obtain ⟨y7,p7,o7,v7,l7⟩:=Q6 (m+390) q.1 (by omega)
 obtain ⟨t2,p2,o2,v2,l2⟩:=zdi (m+300) y1 y0 o1 o0 (by omega) (by omega)
 obtain ⟨t5,p5,o5,v5,l5⟩:=zdi (m+300) y3 y4 o3 o4 (by omega) (by omega)
 obtain ⟨t6,p6,o6,v6,l6⟩:=ziW (m+300) t2 t5 o2 o5 (by omega) (by omega)
 obtain ⟨t8,p8,o8,v8,l8⟩:=zdi (m+300) y7 y0 o7 o0 (by omega) (by omega)
 obtain ⟨t9,p9,o9,v9⟩:=zy0 (m+400) o8
 have bd:∀{x y:Int},-8589934592≤x→x≤8589934592→-8589934592≤y→y≤8589934592→-73786976294838206464≤x*y∧x*y≤73786976294838206464:=by
  intro x y h1 h2 h3 h4
  have h:((x*y).natAbs:Int)≤8589934592*8589934592:=by
   rw [Int.natAbs_mul,Int.natCast_mul]
   exact Int.mul_le_mul (by omega) (by omega) (by omega) (by omega)
  omega
 have k1:=bd (x:=a.1) (y:=b.2-a.2) (by omega) (by omega) (by omega) (by omega)
 have k2:=bd (x:=b.1-a.1) (y:=q.2-a.2) (by omega) (by omega) (by omega) (by omega)
 have k3:=bd (x:=q.1) (y:=b.2-a.2) (by omega) (by omega) (by omega) (by omega)
 rw [v1,v0] at v2
 rw [v3,v4] at v5
 rw [v7,v0] at v8
 rw [v2,v5] at v6
 rw [v8] at v9
 have e5:(65536:Int)^6=79228162514264337593543950336:=by decide
 have l6':t6.2.length≤6:=zgI o6 (by rw [v6,e5];omega) (by rw [v6,e5];omega)
 have l9':t9.2.length≤6:=zgI o9 (by rw [v9,e5];omega) (by rw [v9,e5];omega)
 obtain ⟨t10,p10,o10,v10,l10⟩:=ziW (m+300) t6 t9 o6 o9 (by omega) (by omega)
 have s1:zW (m+400) (t10.1,t10.2)=some (sg (val t10)):=zok (m+400) o10
 have s2:zW (m+400) (y0.1,y0.2)=some (sg (val y0)):=zok (m+400) o0
 unfold jJ QZ
 rw [w (by omega) (by omega) (by omega) (by omega),w (by omega) (by omega) (by omega) (by omega),w (by omega) (by omega) (by omega) (by omega)]
 have e0:zJ (m+400) (b.2-a.2)=some y0:=p0
 have e1:zJ (m+400) a.1=some y1:=p1
 have e3:zJ (m+400) (b.1-a.1)=some y3:=p3
 have e4:zJ (m+400) (q.2-a.2)=some y4:=p4
 have e7:zJ (m+400) q.1=some y7:=p7
 have e2:zK (m+400) (y1.1,y1.2) (y0.1,y0.2)=some t2:=p2
 have e55:zK (m+400) (y3.1,y3.2) (y4.1,y4.2)=some t5:=p5
 have e6:zD (m+400) (t2.1,t2.2) (t5.1,t5.2)=some t6:=p6
 have e8:zK (m+400) (y7.1,y7.2) (y0.1,y0.2)=some t8:=p8
 have e9:qm (m+400) (t8.1,t8.2)=some t9:=p9
 have e10:zD (m+400) (t6.1,t6.2) (t9.1,t9.2)=some t10:=p10
 rw [e0,zr,e1,zr,e2,zr,e3,zr,e4,zr,e55,zr,e6,zr,e7,zr,e8,zr,e9,zr,e10,zr,s1,zr,s2,zr]
 have hv:val t10=crs a b q:=by rw [v10,v6,v9];unfold crs;grind
 rw [hv,v0]
 have hr:∀x:Int,-1≤sg x∧sg x≤1:=by intro x;unfold sg;(repeat' split)<;>omega
 have:=zgG (hr (crs a b q)) (hr (b.2-a.2))
 rw [zl (by omega) (by omega)]
theorem zjL (k:Nat) {g:Int} (h1:1≤g) (h2:g≤3) {a:Pt} (ha:Fit a):qO k a g=some (sc g a):=by
 unfold qO
 rw [zqv h1 h2 ha]
theorem zzY (k:Nat) (p:Pt):zX k p=some (decide (Fit p)):=zu8 k p
theorem zrr (m:Nat) (p l:List Pt) (g:Int) (hg1:1≤g) (hg2:g≤3) (hl:l.length≤350):q7 (m+400) p l g=some (okl p g l):=by
 unfold q7 JK
 refine zG (fun i=>(p,l,g,(i:Int))) l.length (fun i=>some (okl p g (l.drop i))) ?_ ?_ (m+400) 0 (Nat.zero_le _) (by omega)
 ·intro next
  dsimp only
  rw [zg (by omega),List.drop_length];rfl
 ·intro i hi next hn
  dsimp only at hn ⊢
  simp only [zx]
  rw [zk (by omega),zP (zA ⟨by omega,by omega⟩),zY _ l i hi,zl (x:=(i:Int)+1) (by omega) (by omega),List.drop_eq_getElem_cons hi]
  have hn':next (p,l,g,(i:Int)+1)=some (okl p g (l.drop (i+1))):=hn
  generalize l[i]=s
  simp only [Ye,eqP,zzY,zr]
  rw [hn']
  have no:¬OkS p g s→okl p g (s::l.drop (i+1))=false:=by
   intro h
   unfold okl
   rw [List.all_cons,decide_eq_false h];simp
  have yes:OkS p g s→okl p g (s::l.drop (i+1))=okl p g (l.drop (i+1)):=by
   intro h
   unfold okl
   rw [List.all_cons,decide_eq_true h];simp
  by_cases h1:s.1<0
  ·rw [zk h1,no (fun h=>by have:=h.1.1;unfold inr at this;omega)];rfl
  rw [zg h1]
  by_cases h3:s.2<0
  ·rw [zk h3,no (fun h=>by have:=h.1.2;unfold inr at this;omega)];rfl
  rw [zg h3]
  by_cases h2:s.1≥(p.length:Int)
  ·rw [zk h2,no (fun h=>by have:=h.1.1;unfold inr at this;omega)];rfl
  rw [zg h2]
  by_cases h4:s.2≥(p.length:Int)
  ·rw [zk h4,no (fun h=>by have:=h.1.2;unfold inr at this;omega)];rfl
  rw [zg h4]
  have r1:inr s.1 p.length:=⟨by omega,by omega⟩
  have r2:inr s.2 p.length:=⟨by omega,by omega⟩
  simp only [Jw r1,Jw r2,gT]
  have ea:rdD (0,0) p s.1=pt p s.1:=rfl
  have eb:rdD (0,0) p s.2=pt p s.2:=rfl
  rw [ea,eb]
  by_cases h5:pt p s.1=pt p s.2
  ·rw [zk h5,no (fun h=>h.2.1 h5)]
  rw [zg h5]
  by_cases f1:Fit (pt p s.1)
  case neg=>rw [decide_eq_false f1,no (fun h=>f1 h.2.2.1.1)];rfl
  by_cases f2:Fit (pt p s.2)
  case neg=>rw [decide_eq_true f1,decide_eq_false f2,no (fun h=>f2 h.2.2.1.2)];rfl
  rw [zjL _ hg1 hg2 f1,zjL _ hg1 hg2 f2]
  simp only [zr,Ye]
  by_cases f3:Fit (sc g (pt p s.1))
  case neg=>rw [decide_eq_true f1,decide_eq_true f2,decide_eq_false f3,no (fun h=>f3 h.2.2.2.1)];rfl
  by_cases f4:Fit (sc g (pt p s.2))
  case neg=>rw [decide_eq_true f1,decide_eq_true f2,decide_eq_true f3,decide_eq_false f4,no (fun h=>f4 h.2.2.2.2)];rfl
  rw [decide_eq_true f1,decide_eq_true f2,decide_eq_true f3,decide_eq_true f4,yes ⟨⟨r1,r2⟩,h5,⟨f1,f2⟩,f3,f4⟩];rfl
theorem zye {a b q:Pt}:decide (Rgt a b q)=(!(decide (a.2>q.2)==decide (b.2>q.2))&&decide (sg (crs a b q)*sg (b.2-a.2)>0)):=by
 rw [Bool.eq_iff_iff]
 simp only [decide_eq_true_eq,Bool.and_eq_true,Bool.not_eq_true',beq_eq_false_iff_ne,ne_eq,decide_eq_decide]
 unfold Rgt
 have hs:∀x:Int,(0<x∧sg x=1)∨(x=0∧sg x=0)∨(x<0∧sg x=-1):=by intro x;unfold sg;(repeat' split)<;>omega
 generalize crs a b q=c
 have h1:=hs c
 have h2:=hs (b.2-a.2)
 generalize sg c=u at *
 generalize sg (b.2-a.2)=v at *
 rcases h1 with ⟨h1,rfl⟩|⟨h1,rfl⟩|⟨h1,rfl⟩<;>rcases h2 with ⟨h2,rfl⟩|⟨h2,rfl⟩|⟨h2,rfl⟩<;>omega
theorem zny (m:Nat) (p l:List Pt) (g:Int) (q:Pt) (hg1:1≤g) (hg2:g≤3) (hl:l.length≤350) (hk:okl p g l=true) (hq:Fit q):qx (m+400) p l g q=some (whr (l.map (sgm p g)) q):=by
 unfold qx JE whr
 refine Ql (fun n s v=>∃(i x:Nat),i≤l.length∧x≤i∧n=l.length-i∧s=(p,l,g,q,(x:Int),(i:Int))∧v=some (if rim ((l.drop i).map (sgm p g)) q=true then 0 else if xor (decide (x % 2=1)) (par ((l.drop i).map (sgm p g)) q)=true then 1 else -1)) ?_ (m+400) l.length _ _ ⟨0,0,by omega,by omega,rfl,rfl,by simp⟩ (by omega)
 rintro n s v ⟨i,x,hi,hx,rfl,rfl,rfl⟩ next hn
 by_cases e:i=l.length
 ·subst e
  dsimp only
  rw [zg (by omega),List.drop_length,List.map_nil]
  have e0:((x:Int).tmod 2=1)↔x % 2=1:=by rw [Int.tmod_eq_emod_of_nonneg (by omega)];omega
  have e1:rim [] q=false:=rfl
  have e2:par [] q=false:=rfl
  rw [decide_eq_decide.2 e0,e1,e2]
  cases decide (x % 2=1)<;>rfl
 ·have hi':i<l.length:=by omega
  dsimp only
  simp only [zx]
  rw [zk (by omega),zP (zA ⟨by omega,by omega⟩),zY _ l i hi',zl (x:=(i:Int)+1) (by omega) (by omega),zl (x:=(x:Int)+1) (by omega) (by omega),List.drop_eq_getElem_cons hi',List.map_cons]
  have hin:inb (i:Int) l.length=true:=zA ⟨by omega,by omega⟩
  have hs:OkS p g l[i]:=of_decide_eq_true (List.all_eq_true.1 hk _ (List.getElem_mem _))
  generalize l[i]=s at hs ⊢
  simp only [hin,Jw hs.1.1,Jw hs.1.2,gT,Ye,cF]
  have ea:rdD (0,0) p s.1=pt p s.1:=rfl
  have eb:rdD (0,0) p s.2=pt p s.2:=rfl
  rw [ea,eb,zjL _ hg1 hg2 hs.2.2.1.1,zjL _ hg1 hg2 hs.2.2.1.2]
  simp only [zr,Ye]
  rw [zBc,ztf m _ _ _ hs.2.2.2.1 hs.2.2.2.2 hq]
  simp only [zr]
  have hn':∀y:Nat,y≤i+1→next (p,l,g,q,(y:Int),(i:Int)+1)=some (if rim ((l.drop (i+1)).map (sgm p g)) q=true then 0 else if xor (decide (y % 2=1)) (par ((l.drop (i+1)).map (sgm p g)) q)=true then 1 else -1):=fun y hy=>hn (l.length-(i+1)) _ _ (by omega) ⟨i+1,y,by omega,hy,rfl,rfl,rfl⟩
  have hn1:next (p,l,g,q,(x:Int)+1,(i:Int)+1)=_:=hn' (x+1) (by omega)
  rw [hn' x (by omega),hn1,zo7,zkQ]
  have e1:(sgm p g s).1=sc g (pt p s.1):=rfl
  have e2:(sgm p g s).2=sc g (pt p s.2):=rfl
  rw [e1,e2,zye]
  by_cases h1:On (sc g (pt p s.1)) (sc g (pt p s.2)) q
  ·rw [zk h1,decide_eq_true h1];rfl
  ·rw [zg h1,decide_eq_false h1,Bool.false_or]
   have e3:decide ((x+1) % 2=1)=!decide (x % 2=1):=by rw [←decide_not,decide_eq_decide];omega
   rw [e3]
   generalize (decide ((sc g (pt p s.1)).2>q.2)==decide ((sc g (pt p s.2)).2>q.2))=c1
   generalize decide (sg (crs (sc g (pt p s.1)) (sc g (pt p s.2)) q)*sg ((sc g (pt p s.2)).2-(sc g (pt p s.1)).2)>0)=c2
   generalize decide (x % 2=1)=c3
   generalize par ((l.drop (i+1)).map (sgm p g)) q=c4
   cases c1<;>cases c2<;>cases c3<;>cases c4<;>rfl
end Go.Proofs.YtpkkcjmblocjdaaGreat.Pure
