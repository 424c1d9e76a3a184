/- What two segments have in common: what the functions come to. -/
import Derived.Test.YtpkkcjmblocjdaaGreatH2
set_option linter.unusedVariables false
set_option linter.unusedSimpArgs false
set_option linter.unusedSectionVars false
namespace Go.Proofs.YtpkkcjmblocjdaaGreat.Pure
open Go.RowKit Go.Proofs.YtpkkcjmblocjdaaGreat.AM
theorem zG {α ρ:Type} {f:α→(α→Option ρ)→Option ρ} (st:Nat→α) (n:Nat) (P:Nat→Option ρ) (h0:∀next,f (st n) next=P n) (hs:∀i,i<n→∀next,next (st (i+1))=P (i+1)→f (st i) next=P i) :
  ∀(q i:Nat),i≤n→n-i<q→zw f q (st i)=P i
 |0,i,_,h=>by omega
 |q+1,i,hi,h=>by
  rw [q6]
  by_cases e:i=n
  ·subst e;exact h0 _
  ·exact hs i (by omega) _ (zG st n P h0 hs q (i+1) (by omega) (by omega))
abbrev Pt:Type:=Int×Int
theorem cT {α:Type} (x y:α):(bif true then x else y)=x:=rfl
theorem cF {α:Type} (x y:α):(bif false then x else y)=y:=rfl
theorem Ye (a:Pt):(a.1,a.2)=a:=rfl
theorem eqP {a b:Pt}:((decide (a.1=b.1))&&(decide (a.2=b.2)))=decide (a=b):=by
 rw [Bool.eq_iff_iff];cases a;cases b;simp
def Fit (p:Pt):Prop:=-4294967296≤p.1∧p.1≤4294967296∧-4294967296≤p.2∧p.2≤4294967296
instance (p:Pt):Decidable (Fit p):=inferInstanceAs (Decidable (_∧_∧_∧_))
theorem zY {α:Type} (d:α) (l:List α) (i:Nat) (h:i<l.length):rdD d l (i:Int)=l[i]:=by
 simp [rdD,List.getD_eq_getElem?_getD,h]
theorem zkc (m:Nat) (l:List Pt) (hl:l.length≤5):qu (m+6) l=some (l.all fun p=>decide (Fit p)):=by
 unfold qu
 refine zG (fun i=>(l,(l.length:Int),(i:Int))) l.length (fun i=>some ((l.drop i).all fun p=>decide (Fit p))) ?_ ?_ (m+6) 0 (Nat.zero_le _) (by omega)
 ·intro next
  dsimp only
  rw [zg (by omega),List.drop_length];rfl
 ·intro i hi next hn
  dsimp only at hn ⊢
  rw [zk (by omega),zP (zA ⟨by omega,by omega⟩),zY _ l i hi]
  simp only [zx]
  rw [zl (by omega) (by omega),List.drop_eq_getElem_cons hi,List.all_cons]
  generalize l[i]=p
  have hn':next (l,(l.length:Int),(i:Int)+1)=some ((l.drop (i+1)).all fun p=>decide (Fit p)):=hn
  rw [hn']
  by_cases h:Fit p
  ·have h':=h
   unfold Fit at h'
   rw [zg (by omega),zg (by omega),zg (by omega),zg (by omega),decide_eq_true h,Bool.true_and]
  ·rw [decide_eq_false h,Bool.false_and]
   unfold Fit at h
   by_cases h1:p.1 < -4294967296
   ·rw [zk h1];rfl
   ·rw [zg h1]
    by_cases h2:p.1>4294967296
    ·rw [zk h2];rfl
    ·rw [zg h2]
     by_cases h3:p.2 < -4294967296
     ·rw [zk h3];rfl
     ·rw [zg h3,zk (by omega)]
theorem zw9 (m:Nat) (l:List Int) (hl:l.length≤5) (hx:∀x∈l,-4611686018427387904≤x∧x≤4611686018427387904):Ya (m+6) l=some (l.all fun x=>decide ((x.natAbs:Int)<1073741824)):=by
 unfold Ya zdj
 refine zG (fun i=>(l,(l.length:Int),(i:Int))) l.length (fun i=>some ((l.drop i).all fun x=>decide ((x.natAbs:Int)<1073741824))) ?_ ?_ (m+6) 0 (Nat.zero_le _) (by omega)
 ·intro next
  dsimp only
  rw [zg (by omega),List.drop_length];rfl
 ·intro i hi next hn
  dsimp only at hn ⊢
  have hm:=hx l[i] (List.getElem_mem _)
  rw [zk (by omega),zP (zA ⟨by omega,by omega⟩),zY _ l i hi,zl (by omega) (by omega),List.drop_eq_getElem_cons hi,List.all_cons]
  generalize l[i]=p at hm
  have hn':next (l,(l.length:Int),(i:Int)+1)=some ((l.drop (i+1)).all fun x=>decide ((x.natAbs:Int)<1073741824)):=hn
  rw [hn',zqc (by omega) (by omega),zr]
  by_cases h:(p.natAbs:Int)<1073741824
  ·rw [zg (by omega),decide_eq_true h,Bool.true_and]
  ·rw [zk (by omega),decide_eq_false h,Bool.false_and]
def crs (a b c:Pt):Int:=(b.1-a.1)*(c.2-a.2)-(b.2-a.2)*(c.1-a.1)
theorem zt9 (m:Nat) (a b c:Pt) (ha:Fit a) (hb:Fit b) (hc:Fit c):Kp (m+6) a b c=some (sg (crs a b c)):=by
 unfold Fit at ha hb hc
 unfold Kp zbw crs
 rw [zl (x:=b.1-a.1) (by omega) (by omega),zl (x:=c.2-a.2) (by omega) (by omega),zl (x:=b.2-a.2) (by omega) (by omega),zl (x:=c.1-a.1) (by omega) (by omega)]
 have hp:-8589934592≤b.1-a.1∧b.1-a.1≤8589934592:=by omega
 have hq:-8589934592≤c.2-a.2∧c.2-a.2≤8589934592:=by omega
 have hr:-8589934592≤b.2-a.2∧b.2-a.2≤8589934592:=by omega
 have hs:-8589934592≤c.1-a.1∧c.1-a.1≤8589934592:=by omega
 generalize b.1-a.1=p at *
 generalize c.2-a.2=q at *
 generalize b.2-a.2=r at *
 generalize c.1-a.1=s at *
 rw [zw9 m _ (by simp) (by intro x hx;simp at hx;omega),zr,show m+6=(m+1)+5 from rfl,zyo (by omega) (by omega) (by omega) (by omega) (by omega) (by omega) (by omega) (by omega),zr]
 by_cases h:([p,q,r,s].all fun x=>decide ((x.natAbs:Int)<1073741824))=true
 ·rw [Kh h]
  simp at h
  obtain ⟨h1,h2,h3,h4⟩:=h
  have b1:((p*q).natAbs:Int)≤1073741824*1073741824:=by
   rw [Int.natAbs_mul,Int.natCast_mul]
   exact Int.mul_le_mul (Int.le_of_lt h1) (Int.le_of_lt h2) (by omega) (by omega)
  have b2:((r*s).natAbs:Int)≤1073741824*1073741824:=by
   rw [Int.natAbs_mul,Int.natCast_mul]
   exact Int.mul_le_mul (Int.le_of_lt h3) (Int.le_of_lt h4) (by omega) (by omega)
  generalize p*q=m at *
  generalize r*s=n at *
  rw [zl (x:=m) (by omega) (by omega),zl (x:=n) (by omega) (by omega),zl (x:=m-n) (by omega) (by omega)]
  by_cases h:m-n>0
  ·rw [zk h,sg,if_pos h]
  ·rw [zg h,sg,if_neg h]
   by_cases h':m-n<0
   ·rw [zk h',if_pos h']
   ·rw [zg h',if_neg h']
 ·rw [Qx (by simpa using h)]
def ori (a b c:Pt):Int:=if Fit a∧Fit b∧Fit c then sg (crs a b c) else 0
theorem zAN {a b c:Pt}:([a,b,c].all fun p=>decide (Fit p))=decide (Fit a∧Fit b∧Fit c):=by
 rw [Bool.eq_iff_iff];simp
theorem zBg {a b c d:Pt}:([a,b,c,d].all fun p=>decide (Fit p))=decide (Fit a∧Fit b∧Fit c∧Fit d):=by
 rw [Bool.eq_iff_iff];simp
theorem zaP (m:Nat) (a b c:Pt):qK (m+6) a b c=some (ori a b c):=by
 unfold qK zb0 ori
 simp only [Ye]
 rw [zkc m [a,b,c] (by simp),zr,zAN]
 by_cases h:Fit a∧Fit b∧Fit c
 ·rw [if_pos h,Qx (by simp [h]),zt9 m a b c h.1 h.2.1 h.2.2,zr]
 ·rw [if_neg h,Kh (by simp [h])]
def Btw (a b c:Int):Prop:=(a≤c∨b≤c)∧(c≤a∨c≤b)
instance (a b c:Int):Decidable (Btw a b c):=inferInstanceAs (Decidable (_∧_))
theorem zm5 (k:Nat) (a b c:Int):QR k a b c=some (decide (Btw a b c)):=by
 unfold QR
 simp only [zx]
 have h1:(mnI a b≤c)↔(a≤c∨b≤c):=by unfold mnI;split<;>omega
 have h2:(c≤mxI a b)↔(c≤a∨c≤b):=by unfold mxI;split<;>omega
 by_cases h:mnI a b≤c
 ·rw [zk h]
  congr 1;rw [decide_eq_decide];unfold Btw;constructor
  ·exact fun x=>⟨h1.1 h,h2.1 x⟩
  ·exact fun x=>h2.2 x.2
 ·rw [zg h]
  congr 1;symm;rw [decide_eq_false_iff_not];exact fun x=>h (h1.2 x.1)
def On (a b p:Pt):Prop:=a≠b∧(Fit a∧Fit b∧Fit p)∧crs a b p=0∧Btw a.1 b.1 p.1∧Btw a.2 b.2 p.2
instance (a b p:Pt):Decidable (On a b p):=inferInstanceAs (Decidable (_∧_))
theorem zhl {x:Int}:sg x=0↔x=0:=by unfold sg;(repeat' split)<;>omega
theorem zAh (m:Nat) (a b p:Pt):K3 (m+6) a b p=some (decide (On a b p)):=by
 unfold K3 ziJ
 simp only [Ye,zx,eqP]
 have no:∀h:¬On a b p,(some false:Option Bool)=some (decide (On a b p)):=fun h=>by rw [decide_eq_false h]
 by_cases h:a=b
 ·rw [Qx (by simp [h])]
  exact no fun x=>x.1 h
 rw [Kh (by simp [h]),zkc m [a,b,p] (by simp),zr,zAN]
 by_cases hf:Fit a∧Fit b∧Fit p
 ·rw [zk hf,zaP,zr,ori,if_pos hf]
  by_cases h0:sg (crs a b p)=0
  ·rw [zk h0,zm5,zr]
   by_cases h1:Btw a.1 b.1 p.1
   ·rw [zk h1,zm5,zr]
    congr 1
    rw [decide_eq_decide]
    exact ⟨fun x=>⟨h,hf,zhl.1 h0,h1,x⟩,fun x=>x.2.2.2.2⟩
   ·rw [zg h1]
    exact no fun x=>h1 x.2.2.2.1
  ·rw [zg h0]
   exact no fun x=>h0 (zhl.2 x.2.2.1)
 ·rw [zg hf]
  exact no fun x=>hf x.2.1
def Ins (a b p:Pt):Prop:=On a b p∧p≠a∧p≠b
instance (a b p:Pt):Decidable (Ins a b p):=inferInstanceAs (Decidable (_∧_))
theorem zcK (m:Nat) (a b p:Pt):jm (m+6) a b p=some (decide (Ins a b p)):=by
 unfold jm zbQ
 simp only [Ye,zx,eqP]
 have no:∀h:¬Ins a b p,(some false:Option Bool)=some (decide (Ins a b p)):=fun h=>by rw [decide_eq_false h]
 rw [zAh,zr]
 by_cases h:On a b p
 ·rw [zk h]
  by_cases h1:p=a
  ·rw [Qx (by simp [h1])]
   exact no fun x=>x.2.1 h1
  ·rw [Kh (by simp [h1])]
   congr 1
   rw [←decide_not,decide_eq_decide]
   exact ⟨fun x=>⟨h,h1,x⟩,fun x=>x.2.2⟩
 ·rw [zg h]
  exact no fun x=>h x.1
theorem zsq (m:Nat) (l:List Bool) (hl:l.length≤5):J5 (m+6) l=some ((l.count true:Nat):Int):=by
 unfold J5
 refine zG (fun i=>((((l.take i).count true:Nat):Int),l,(l.length:Int),(i:Int))) l.length (fun _=>some ((l.count true:Nat):Int)) ?_ ?_ (m+6) 0 (Nat.zero_le _) (by omega)
 ·intro next
  dsimp only
  rw [zg (by omega),List.take_length]
 ·intro i hi next hn
  dsimp only at hn ⊢
  have hc:(l.take i).count true≤i:=Nat.le_trans List.count_le_length (by rw [List.length_take];omega)
  rw [List.take_succ_eq_append_getElem hi,List.count_append,List.count_singleton] at hn
  rw [zk (by omega),zP (zA ⟨by omega,by omega⟩),zY _ l i hi]
  simp only [zx]
  rw [zl (x:=(i:Int)+1) (by omega) (by omega),zl (by omega) (by omega)]
  generalize l[i]=b at hn ⊢
  cases b
  ·exact hn
  ·exact hn
def KT (a b c d:Pt):Nat:=[decide (a=c),decide (a=d),decide (b=c),decide (b=d)].count true
def XS (a b c d:Pt):Nat:=[decide (Ins a b c),decide (Ins a b d),decide (Ins c d a),decide (Ins c d b)].count true
def Cro (a b c d:Pt):Prop:=ori a b c*ori a b d<0∧ori c d a*ori c d b<0
instance (a b c d:Pt):Decidable (Cro a b c d):=inferInstanceAs (Decidable (_∧_))
def Bad (a b c d:Pt):Prop:=a=b∨c=d∨¬(Fit a∧Fit b∧Fit c∧Fit d)
instance (a b c d:Pt):Decidable (Bad a b c d):=inferInstanceAs (Decidable (_∨_))
def how (a b c d:Pt):Int:=if Cro a b c d then 3 else if KT a b c d=2∨XS a b c d>1∨(KT a b c d=1∧XS a b c d=1) then 4 else if KT a b c d=1 then 1 else if XS a b c d=1 then 2 else 0
def QF (a b c d:Pt):Int×Int:=if Bad a b c d then (0,2) else (how a b c d,0)
theorem Jh (a b c:Pt):-1≤ori a b c∧ori a b c≤1:=by unfold ori sg;(repeat' split)<;>omega
theorem zgG {x y:Int} (h1:-1≤x∧x≤1) (h2:-1≤y∧y≤1):-1≤x*y∧x*y≤1:=by
 have:x=-1∨x=0∨x=1:=by omega
 rcases this with rfl|rfl|rfl<;>omega
theorem zwo (m:Nat) (a b c d:Pt):Qr (m+6) a b c d=some (QF a b c d):=by
 unfold Qr zeH
 simp only [Ye,zx,eqP]
 by_cases h1:a=b
 ·rw [zk h1]
  simp only [cT,cF]
  rw [QF,if_pos (show Bad a b c d from Or.inl h1)]
 rw [zg h1]
 by_cases h2:c=d
 ·rw [zk h2]
  simp only [cT,cF]
  rw [QF,if_pos (show Bad a b c d from Or.inr (Or.inl h2))]
 rw [zg h2,zkc m [a,b,c,d] (by simp),zr,zBg]
 by_cases hnf:¬(Fit a∧Fit b∧Fit c∧Fit d)
 ·rw [Kh (by simp [hnf]),QF,if_pos (show Bad a b c d from Or.inr (Or.inr hnf))]
 have hf:=Decidable.not_not.1 hnf
 have hb:¬Bad a b c d:=by
  rintro (h|h|h)
  ·exact h1 h
  ·exact h2 h
  ·exact h hf
 rw [Qx (by simp [hf]),QF,if_neg hb,zsq m _ (by simp),zcK,zcK,zcK,zcK]
 simp only [zr]
 rw [zsq m _ (by simp),zaP,zaP,zaP,zaP]
 simp only [zr]
 have r1:=zgG (Jh a b c) (Jh a b d)
 have r2:=zgG (Jh c d a) (Jh c d b)
 rw [zl (by omega) (by omega),zl (by omega) (by omega)]
 have e1:[decide (a=c),decide (a=d),decide (b=c),decide (b=d)].count true=KT a b c d:=rfl
 have e2:[decide (Ins a b c),decide (Ins a b d),decide (Ins c d a),decide (Ins c d b)].count true=XS a b c d:=rfl
 rw [e1,e2]
 by_cases hc:Cro a b c d
 ·rw [zk hc.1,zk hc.2,how,if_pos hc]
 ·have hx:∀X:Bool→Option (Int×Int),(bif decide (ori a b c*ori a b d<0) then X (decide (ori c d a*ori c d b<0)) else X false)=X false:=by
   intro X
   by_cases h3:ori a b c*ori a b d<0
   ·rw [zk h3,decide_eq_false (fun h4=>hc ⟨h3,h4⟩)]
   ·rw [zg h3]
  rw [hx (fun y17=>bif y17 then some (3,0) else _)]
  simp only [cF]
  rw [how,if_neg hc]
  by_cases q1:KT a b c d=2
  ·rw [zk (by omega),cT,if_pos (Or.inl q1)]
  ·rw [zg (by omega)]
   by_cases q2:XS a b c d>1
   ·rw [zk (by omega),cT,if_pos (Or.inr (Or.inl q2))]
   ·rw [zg (by omega)]
    by_cases q3:KT a b c d=1
    ·rw [zk (show ((KT a b c d:Nat):Int)=1 by omega)]
     by_cases q4:XS a b c d=1
     ·rw [decide_eq_true (show ((XS a b c d:Nat):Int)=1 by omega),cT,if_pos (Or.inr (Or.inr ⟨q3,q4⟩))]
     ·rw [decide_eq_false (show ¬((XS a b c d:Nat):Int)=1 by omega),if_neg (by omega)]
      rw [cF,zk (by omega),if_pos q3]
    ·rw [zg (show ¬((KT a b c d:Nat):Int)=1 by omega),if_neg (by omega)]
     rw [zg (show ¬((KT a b c d:Nat):Int)=1 by omega),if_neg q3]
     by_cases q4:XS a b c d=1
     ·rw [zk (by omega),if_pos q4]
     ·rw [zg (by omega),if_neg q4]
end Go.Proofs.YtpkkcjmblocjdaaGreat.Pure
