/- What two segments have in common: what the functions come to. -/
import Derived.Test.YtpkkcjmblocjdaaGreatH2
set_option linter.unusedVariables false
set_option linter.unusedSimpArgs false
set_option linter.unusedSectionVars false
namespace Go.Proofs.YtpkkcjmblocjdaaGreat.Pure
open Go.RowKit Go.Proofs.YtpkkcjmblocjdaaGreat.AM
theorem zG {α ρ:Type} {f:α→(α→Option ρ)→Option ρ} (st:Nat→α) (n:Nat) (P:Nat→Option ρ) (h0:∀next,f (st n) next=P n) (hs:∀i,i<n→∀next,next (st (i+1))=P (i+1)→f (st i) next=P i) :
  ∀(q i:Nat),i≤n→n-i<q→zA f q (st i)=P i
 |0,i,_,h=>by omega
 |q+1,i,hi,h=>by
  rw [jc]
  by_cases e:i=n
  ·subst e;exact h0 _
  ·exact hs i (by omega) _ (zG st n P h0 hs q (i+1) (by omega) (by omega))
abbrev Pt:Type:=Int×Int
theorem cT {α:Type} (x y:α):(bif true then x else y)=x:=rfl
theorem cF {α:Type} (x y:α):(bif false then x else y)=y:=rfl
theorem Y0 (a:Pt):(a.1,a.2)=a:=rfl
theorem eqP {a b:Pt}:((decide (a.1=b.1))&&(decide (a.2=b.2)))=decide (a=b):=by
 rw [Bool.eq_iff_iff];cases a;cases b;simp
def Fit (p:Pt):Prop:=-4294967296≤p.1∧p.1≤4294967296∧-4294967296≤p.2∧p.2≤4294967296
instance (p:Pt):Decidable (Fit p):=inferInstanceAs (Decidable (_∧_∧_∧_))
theorem z7 {α:Type} (d:α) (l:List α) (i:Nat) (h:i<l.length):rdD d l (i:Int)=l[i]:=by
 simp [rdD,List.getD_eq_getElem?_getD,h]
theorem zk6 (m:Nat) (l:List Pt) (hl:l.length≤5):qz (m+6) l=some (l.all fun p=>decide (Fit p)):=by
 unfold qz
 refine zG (fun i=>(l,(l.length:Int),(i:Int))) l.length (fun i=>some ((l.drop i).all fun p=>decide (Fit p))) ?_ ?_ (m+6) 0 (Nat.zero_le _) (by omega)
 ·intro next
  dsimp only
  rw [zg (by omega),List.drop_length];rfl
 ·intro i hi next hn
  dsimp only at hn ⊢
  rw [zl (by omega),z6 (zF ⟨by omega,by omega⟩),z7 _ l i hi]
  simp only [zz]
  rw [zo (by omega) (by omega),List.drop_eq_getElem_cons hi,List.all_cons]
  generalize l[i]=p
  have hn':next (l,(l.length:Int),(i:Int)+1)=some ((l.drop (i+1)).all fun p=>decide (Fit p)):=hn
  rw [hn']
  by_cases h:Fit p
  ·have h':=h
   unfold Fit at h'
   rw [zg (by omega),zg (by omega),zg (by omega),zg (by omega),decide_eq_true h,Bool.true_and]
  ·rw [decide_eq_false h,Bool.false_and]
   unfold Fit at h
   by_cases h1:p.1 < -4294967296
   ·rw [zl h1];rfl
   ·rw [zg h1]
    by_cases h2:p.1>4294967296
    ·rw [zl h2];rfl
    ·rw [zg h2]
     by_cases h3:p.2 < -4294967296
     ·rw [zl h3];rfl
     ·rw [zg h3,zl (by omega)]
theorem zw0 (m:Nat) (l:List Int) (hl:l.length≤5) (hx:∀x∈l,-4611686018427387904≤x∧x≤4611686018427387904):YJ (m+6) l=some (l.all fun x=>decide ((x.natAbs:Int)<1073741824)):=by
 unfold YJ zdn
 refine zG (fun i=>(l,(l.length:Int),(i:Int))) l.length (fun i=>some ((l.drop i).all fun x=>decide ((x.natAbs:Int)<1073741824))) ?_ ?_ (m+6) 0 (Nat.zero_le _) (by omega)
 ·intro next
  dsimp only
  rw [zg (by omega),List.drop_length];rfl
 ·intro i hi next hn
  dsimp only at hn ⊢
  have hm:=hx l[i] (List.getElem_mem _)
  rw [zl (by omega),z6 (zF ⟨by omega,by omega⟩),z7 _ l i hi,zo (by omega) (by omega),List.drop_eq_getElem_cons hi,List.all_cons]
  generalize l[i]=p at hm
  have hn':next (l,(l.length:Int),(i:Int)+1)=some ((l.drop (i+1)).all fun x=>decide ((x.natAbs:Int)<1073741824)):=hn
  rw [hn',zqr (by omega) (by omega),zt]
  by_cases h:(p.natAbs:Int)<1073741824
  ·rw [zg (by omega),decide_eq_true h,Bool.true_and]
  ·rw [zl (by omega),decide_eq_false h,Bool.false_and]
def crs (a b c:Pt):Int:=(b.1-a.1)*(c.2-a.2)-(b.2-a.2)*(c.1-a.1)
theorem zuK (m:Nat) (a b c:Pt) (ha:Fit a) (hb:Fit b) (hc:Fit c):KR (m+6) a b c=some (sg (crs a b c)):=by
 unfold Fit at ha hb hc
 unfold KR zb9 crs
 rw [zo (x:=b.1-a.1) (by omega) (by omega),zo (x:=c.2-a.2) (by omega) (by omega),zo (x:=b.2-a.2) (by omega) (by omega),zo (x:=c.1-a.1) (by omega) (by omega)]
 have hp:-8589934592≤b.1-a.1∧b.1-a.1≤8589934592:=by omega
 have hq:-8589934592≤c.2-a.2∧c.2-a.2≤8589934592:=by omega
 have hr:-8589934592≤b.2-a.2∧b.2-a.2≤8589934592:=by omega
 have hs:-8589934592≤c.1-a.1∧c.1-a.1≤8589934592:=by omega
 generalize b.1-a.1=p at *
 generalize c.2-a.2=q at *
 generalize b.2-a.2=r at *
 generalize c.1-a.1=s at *
 rw [zw0 m _ (by simp) (by intro x hx;simp at hx;omega),zt,show m+6=(m+1)+5 from rfl,zxh (by omega) (by omega) (by omega) (by omega) (by omega) (by omega) (by omega) (by omega),zt]
 by_cases h:([p,q,r,s].all fun x=>decide ((x.natAbs:Int)<1073741824))=true
 ·rw [Ky h]
  simp at h
  obtain ⟨h1,h2,h3,h4⟩:=h
  have b1:((p*q).natAbs:Int)≤1073741824*1073741824:=by
   rw [Int.natAbs_mul,Int.natCast_mul]
   exact Int.mul_le_mul (Int.le_of_lt h1) (Int.le_of_lt h2) (by omega) (by omega)
  have b2:((r*s).natAbs:Int)≤1073741824*1073741824:=by
   rw [Int.natAbs_mul,Int.natCast_mul]
   exact Int.mul_le_mul (Int.le_of_lt h3) (Int.le_of_lt h4) (by omega) (by omega)
  generalize p*q=m at *
  generalize r*s=n at *
  rw [zo (x:=m) (by omega) (by omega),zo (x:=n) (by omega) (by omega),zo (x:=m-n) (by omega) (by omega)]
  by_cases h:m-n>0
  ·rw [zl h,sg,if_pos h]
  ·rw [zg h,sg,if_neg h]
   by_cases h':m-n<0
   ·rw [zl h',if_pos h']
   ·rw [zg h',if_neg h']
 ·rw [QD (by simpa using h)]
def ori (a b c:Pt):Int:=if Fit a∧Fit b∧Fit c then sg (crs a b c) else 0
theorem zAm {a b c:Pt}:([a,b,c].all fun p=>decide (Fit p))=decide (Fit a∧Fit b∧Fit c):=by
 rw [Bool.eq_iff_iff];simp
theorem zAV {a b c d:Pt}:([a,b,c,d].all fun p=>decide (Fit p))=decide (Fit a∧Fit b∧Fit c∧Fit d):=by
 rw [Bool.eq_iff_iff];simp
theorem zbk (m:Nat) (a b c:Pt):qQ (m+6) a b c=some (ori a b c):=by
 unfold qQ zcc ori
 simp only [Y0]
 rw [zk6 m [a,b,c] (by simp),zt,zAm]
 by_cases h:Fit a∧Fit b∧Fit c
 ·rw [if_pos h,QD (by simp [h]),zuK m a b c h.1 h.2.1 h.2.2,zt]
 ·rw [if_neg h,Ky (by simp [h])]
def Btw (a b c:Int):Prop:=(a≤c∨b≤c)∧(c≤a∨c≤b)
instance (a b c:Int):Decidable (Btw a b c):=inferInstanceAs (Decidable (_∧_))
theorem znb (k:Nat) (a b c:Int):Jc k a b c=some (decide (Btw a b c)):=by
 unfold Jc
 simp only [zz]
 have h1:(mnI a b≤c)↔(a≤c∨b≤c):=by unfold mnI;split<;>omega
 have h2:(c≤mxI a b)↔(c≤a∨c≤b):=by unfold mxI;split<;>omega
 by_cases h:mnI a b≤c
 ·rw [zl h]
  congr 1;rw [decide_eq_decide];unfold Btw;constructor
  ·exact fun x=>⟨h1.1 h,h2.1 x⟩
  ·exact fun x=>h2.2 x.2
 ·rw [zg h]
  congr 1;symm;rw [decide_eq_false_iff_not];exact fun x=>h (h1.2 x.1)
def On (a b p:Pt):Prop:=a≠b∧(Fit a∧Fit b∧Fit p)∧crs a b p=0∧Btw a.1 b.1 p.1∧Btw a.2 b.2 p.2
instance (a b p:Pt):Decidable (On a b p):=inferInstanceAs (Decidable (_∧_))
theorem zhG {x:Int}:sg x=0↔x=0:=by unfold sg;(repeat' split)<;>omega
theorem zAN (m:Nat) (a b p:Pt):Yl (m+6) a b p=some (decide (On a b p)):=by
 unfold Yl ziT
 simp only [Y0,zz,eqP]
 have no:∀h:¬On a b p,(some false:Option Bool)=some (decide (On a b p)):=fun h=>by rw [decide_eq_false h]
 by_cases h:a=b
 ·rw [QD (by simp [h])]
  exact no fun x=>x.1 h
 rw [Ky (by simp [h]),zk6 m [a,b,p] (by simp),zt,zAm]
 by_cases hf:Fit a∧Fit b∧Fit p
 ·rw [zl hf,zbk,zt,ori,if_pos hf]
  by_cases h0:sg (crs a b p)=0
  ·rw [zl h0,znb,zt]
   by_cases h1:Btw a.1 b.1 p.1
   ·rw [zl h1,znb,zt]
    congr 1
    rw [decide_eq_decide]
    exact ⟨fun x=>⟨h,hf,zhG.1 h0,h1,x⟩,fun x=>x.2.2.2.2⟩
   ·rw [zg h1]
    exact no fun x=>h1 x.2.2.2.1
  ·rw [zg h0]
   exact no fun x=>h0 (zhG.2 x.2.2.1)
 ·rw [zg hf]
  exact no fun x=>hf x.2.1
def Ins (a b p:Pt):Prop:=On a b p∧p≠a∧p≠b
instance (a b p:Pt):Decidable (Ins a b p):=inferInstanceAs (Decidable (_∧_))
theorem zcI (m:Nat) (a b p:Pt):jA (m+6) a b p=some (decide (Ins a b p)):=by
 unfold jA zcq
 simp only [Y0,zz,eqP]
 have no:∀h:¬Ins a b p,(some false:Option Bool)=some (decide (Ins a b p)):=fun h=>by rw [decide_eq_false h]
 rw [zAN,zt]
 by_cases h:On a b p
 ·rw [zl h]
  by_cases h1:p=a
  ·rw [QD (by simp [h1])]
   exact no fun x=>x.2.1 h1
  ·rw [Ky (by simp [h1])]
   congr 1
   rw [←decide_not,decide_eq_decide]
   exact ⟨fun x=>⟨h,h1,x⟩,fun x=>x.2.2⟩
 ·rw [zg h]
  exact no fun x=>h x.1
theorem zst (m:Nat) (l:List Bool) (hl:l.length≤5):Kq (m+6) l=some ((l.count true:Nat):Int):=by
 unfold Kq
 refine zG (fun i=>((((l.take i).count true:Nat):Int),l,(l.length:Int),(i:Int))) l.length (fun _=>some ((l.count true:Nat):Int)) ?_ ?_ (m+6) 0 (Nat.zero_le _) (by omega)
 ·intro next
  dsimp only
  rw [zg (by omega),List.take_length]
 ·intro i hi next hn
  dsimp only at hn ⊢
  have hc:(l.take i).count true≤i:=Nat.le_trans List.count_le_length (by rw [List.length_take];omega)
  rw [List.take_succ_eq_append_getElem hi,List.count_append,List.count_singleton] at hn
  rw [zl (by omega),z6 (zF ⟨by omega,by omega⟩),z7 _ l i hi]
  simp only [zz]
  rw [zo (x:=(i:Int)+1) (by omega) (by omega),zo (by omega) (by omega)]
  generalize l[i]=b at hn ⊢
  cases b
  ·exact hn
  ·exact hn
def Yh (a b c d:Pt):Nat:=[decide (a=c),decide (a=d),decide (b=c),decide (b=d)].count true
def zar (a b c d:Pt):Nat:=[decide (Ins a b c),decide (Ins a b d),decide (Ins c d a),decide (Ins c d b)].count true
def Cro (a b c d:Pt):Prop:=ori a b c*ori a b d<0∧ori c d a*ori c d b<0
instance (a b c d:Pt):Decidable (Cro a b c d):=inferInstanceAs (Decidable (_∧_))
def Bad (a b c d:Pt):Prop:=a=b∨c=d∨¬(Fit a∧Fit b∧Fit c∧Fit d)
instance (a b c d:Pt):Decidable (Bad a b c d):=inferInstanceAs (Decidable (_∨_))
def how (a b c d:Pt):Int:=if Cro a b c d then 3 else if Yh a b c d=2∨zar a b c d>1∨(Yh a b c d=1∧zar a b c d=1) then 4 else if Yh a b c d=1 then 1 else if zar a b c d=1 then 2 else 0
def QT (a b c d:Pt):Int×Int:=if Bad a b c d then (0,2) else (how a b c d,0)
theorem Q6 (a b c:Pt):-1≤ori a b c∧ori a b c≤1:=by unfold ori sg;(repeat' split)<;>omega
theorem zg0 {x y:Int} (h1:-1≤x∧x≤1) (h2:-1≤y∧y≤1):-1≤x*y∧x*y≤1:=by
 have:x=-1∨x=0∨x=1:=by omega
 rcases this with rfl|rfl|rfl<;>omega
theorem zvq (m:Nat) (a b c d:Pt):QE (m+6) a b c d=some (QT a b c d):=by
 unfold QE zfm
 simp only [Y0,zz,eqP]
 by_cases h1:a=b
 ·rw [zl h1]
  simp only [cT,cF]
  rw [QT,if_pos (show Bad a b c d from Or.inl h1)]
 rw [zg h1]
 by_cases h2:c=d
 ·rw [zl h2]
  simp only [cT,cF]
  rw [QT,if_pos (show Bad a b c d from Or.inr (Or.inl h2))]
 rw [zg h2,zk6 m [a,b,c,d] (by simp),zt,zAV]
 by_cases hnf:¬(Fit a∧Fit b∧Fit c∧Fit d)
 ·rw [Ky (by simp [hnf]),QT,if_pos (show Bad a b c d from Or.inr (Or.inr hnf))]
 have hf:=Decidable.not_not.1 hnf
 have hb:¬Bad a b c d:=by
  rintro (h|h|h)
  ·exact h1 h
  ·exact h2 h
  ·exact h hf
 rw [QD (by simp [hf]),QT,if_neg hb,zst m _ (by simp),zcI,zcI,zcI,zcI]
 simp only [zt]
 rw [zst m _ (by simp),zbk,zbk,zbk,zbk]
 simp only [zt]
 have r1:=zg0 (Q6 a b c) (Q6 a b d)
 have r2:=zg0 (Q6 c d a) (Q6 c d b)
 rw [zo (by omega) (by omega),zo (by omega) (by omega)]
 have e1:[decide (a=c),decide (a=d),decide (b=c),decide (b=d)].count true=Yh a b c d:=rfl
 have e2:[decide (Ins a b c),decide (Ins a b d),decide (Ins c d a),decide (Ins c d b)].count true=zar a b c d:=rfl
 rw [e1,e2]
 by_cases hc:Cro a b c d
 ·rw [zl hc.1,zl hc.2,how,if_pos hc]
 ·have hx:∀X:Bool→Option (Int×Int),(bif decide (ori a b c*ori a b d<0) then X (decide (ori c d a*ori c d b<0)) else X false)=X false:=by
   intro X
   by_cases h3:ori a b c*ori a b d<0
   ·rw [zl h3,decide_eq_false (fun h4=>hc ⟨h3,h4⟩)]
   ·rw [zg h3]
  rw [hx (fun y17=>bif y17 then some (3,0) else _)]
  simp only [cF]
  rw [how,if_neg hc]
  by_cases q1:Yh a b c d=2
  ·rw [zl (by omega),cT,if_pos (Or.inl q1)]
  ·rw [zg (by omega)]
   by_cases q2:zar a b c d>1
   ·rw [zl (by omega),cT,if_pos (Or.inr (Or.inl q2))]
   ·rw [zg (by omega)]
    by_cases q3:Yh a b c d=1
    ·rw [zl (show ((Yh a b c d:Nat):Int)=1 by omega)]
     by_cases q4:zar a b c d=1
     ·rw [decide_eq_true (show ((zar a b c d:Nat):Int)=1 by omega),cT,if_pos (Or.inr (Or.inr ⟨q3,q4⟩))]
     ·rw [decide_eq_false (show ¬((zar a b c d:Nat):Int)=1 by omega),if_neg (by omega)]
      rw [cF,zl (by omega),if_pos q3]
    ·rw [zg (show ¬((Yh a b c d:Nat):Int)=1 by omega),if_neg (by omega)]
     rw [zg (show ¬((Yh a b c d:Nat):Int)=1 by omega),if_neg q3]
     by_cases q4:zar a b c d=1
     ·rw [zl (by omega),if_pos q4]
     ·rw [zg (by omega),if_neg q4]
end Go.Proofs.YtpkkcjmblocjdaaGreat.Pure
