/- Where a point lies, plain; the program's functions come to it. -/
import Derived.Test.YtpkkcjmblocjdaaGreatH21
set_option linter.unusedVariables false
set_option linter.unusedSimpArgs false
set_option linter.unusedSectionVars false
namespace Go.Proofs.YtpkkcjmblocjdaaGreat.Pure
open Go.RowKit Go.Proofs.YtpkkcjmblocjdaaGreat.AM
theorem Ql {α ρ:Type} (R:Nat→α→Option ρ→Prop) {f:α→(α→Option ρ)→Option ρ} (h:∀n s v,R n s v→∀next,(∀n' s' v',n'<n→R n' s' v'→next s'=v')→f s next=v) :
  ∀(q n:Nat) (s:α) (v:Option ρ),R n s v→n<q→zw f q s=v
 |0,n,s,v,_,hq=>by omega
 |q+1,n,s,v,hr,hq=>by
  rw [q6]
  exact h n s v hr _ fun n' s' v' hn hr'=>Ql R h q n' s' v' hr' (by omega)
theorem gT {ρ:Type} (x:Option ρ):gd true x=x:=rfl
abbrev Sg:Type:=Pt×Pt
def pt (p:List Pt) (i:Int):Pt:=rdD (0,0) p i
def sc (g:Int) (a:Pt):Pt:=(g*a.1,g*a.2)
theorem zgs (a:Pt):sc 1 a=a:=by unfold sc;simp
def inr (i:Int) (n:Nat):Prop:=0≤i∧i<(n:Int)
instance (i:Int) (n:Nat):Decidable (inr i n):=inferInstanceAs (Decidable (_∧_))
theorem Jw {i:Int} {n:Nat} (h:inr i n):inb i n=true:=zA h
def OkS (p:List Pt) (g:Int) (s:Pt):Prop:=(inr s.1 p.length∧inr s.2 p.length)∧pt p s.1≠pt p s.2∧(Fit (pt p s.1)∧Fit (pt p s.2))∧Fit (sc g (pt p s.1))∧Fit (sc g (pt p s.2))
instance (p:List Pt) (g:Int) (s:Pt):Decidable (OkS p g s):=inferInstanceAs (Decidable (_∧_))
def sgm (p:List Pt) (g:Int) (s:Pt):Sg:=(sc g (pt p s.1),sc g (pt p s.2))
def okl (p:List Pt) (g:Int) (l:List Pt):Bool:=l.all fun s=>decide (OkS p g s)
def Rgt (a b q:Pt):Prop:=(a.2≤q.2∧q.2<b.2∧0<crs a b q)∨(b.2≤q.2∧q.2<a.2∧crs a b q<0)
instance (a b q:Pt):Decidable (Rgt a b q):=inferInstanceAs (Decidable (_∨_))
def rim (L:List Sg) (q:Pt):Bool:=L.any fun s=>decide (On s.1 s.2 q)
def par:List Sg→Pt→Bool
 |[],_=>false
 |s::L,q=>xor (decide (Rgt s.1 s.2 q)) (par L q)
theorem zo7 (s:Sg) (L:List Sg) (q:Pt):rim (s::L) q=(decide (On s.1 s.2 q)||rim L q):=rfl
theorem zkQ (s:Sg) (L:List Sg) (q:Pt):par (s::L) q=xor (decide (Rgt s.1 s.2 q)) (par L q):=rfl
def whr (L:List Sg) (q:Pt):Int:=if rim L q=true then 0 else if par L q=true then 1 else -1
def atv (p:List Pt) (l:List Pt) (g:Int) (q:Pt):Int×Int:=if okl p g l=true∧Fit q then (whr (l.map (sgm p g)) q,0) else (0,2)
theorem zoV (m:Nat) (l:List Pt) (h:l.length≤5):qu (m+400) l=some (l.all fun p=>decide (Fit p)):=zkc (m+394) l h
theorem onP (m:Nat) (a b q:Pt):K3 (m+400) a b q=some (decide (On a b q)):=zAh (m+394) a b q
theorem zBh (m:Nat) (a b q:Pt):qK (m+400) a b q=some (ori a b q):=zaP (m+394) a b q
theorem Jc (a b x:Pt):crs b a x=-crs a b x:=by unfold crs;grind
theorem zzt {a b:Pt}:([a,b].all fun p=>decide (Fit p))=decide (Fit a∧Fit b):=by
 rw [Bool.eq_iff_iff];simp
theorem zxP {a:Pt}:([a].all fun p=>decide (Fit p))=decide (Fit a):=by
 rw [Bool.eq_iff_iff];simp
theorem zwO (m:Nat) (a b q:Pt) (ha:Fit a) (hb:Fit b) (hq:Fit q):JH (m+400) a b q=some (decide (Rgt a b q)):=by
 unfold JH zaV
 simp only [zx,zBh,zr,Ye]
 have e1:ori a b q=sg (crs a b q):=by rw [ori,if_pos ⟨ha,hb,hq⟩]
 have e2:ori b a q=sg (crs b a q):=by rw [ori,if_pos ⟨hb,ha,hq⟩]
 have sp:∀{x:Int},sg x>0↔0<x:=by intro x;unfold sg;(repeat' split)<;>omega
 rw [e1,e2,Jc a b]
 simp only [sp]
 have no:¬Rgt a b q→(some false:Option Bool)=some (decide (Rgt a b q)):=fun h=>by rw [decide_eq_false h]
 by_cases h:a.2>b.2
 ·rw [zk h]
  by_cases h1:b.2≤q.2
  ·rw [zk h1]
   by_cases h2:q.2<a.2
   ·rw [zk h2];congr 1;rw [decide_eq_decide];unfold Rgt;omega
   ·rw [zg h2];exact no (by unfold Rgt;omega)
  ·rw [zg h1];exact no (by unfold Rgt;omega)
 ·rw [zg h]
  by_cases h1:a.2≤q.2
  ·rw [zk h1]
   by_cases h2:q.2<b.2
   ·rw [zk h2];congr 1;rw [decide_eq_decide];unfold Rgt;omega
   ·rw [zg h2];exact no (by unfold Rgt;omega)
  ·rw [zg h1];exact no (by unfold Rgt;omega)
theorem zrs (m:Nat) (L:List Sg) (q:Pt) (hl:L.length≤350) (hL:∀s∈L,Fit s.1∧Fit s.2) (hq:Fit q):ZR (m+400) L q=some (whr L q):=by
 unfold ZR zaJ whr
 refine Ql (fun n s v=>∃(i:Nat) (x:Int),i≤L.length∧(x=1∨x=-1)∧n=L.length-i∧s=(q,x,L,(L.length:Int),(i:Int))∧v=some (if rim (L.drop i) q=true then 0 else if par (L.drop i) q=true then -x else x)) ?_ (m+400) L.length _ _ ⟨0,-1,by omega,.inr rfl,rfl,rfl,rfl⟩ (by omega)
 rintro n s v ⟨i,x,hi,hx,rfl,rfl,rfl⟩ next hn
 by_cases e:i=L.length
 ·subst e
  dsimp only
  rw [zg (by omega),List.drop_length];rfl
 ·have hi':i<L.length:=by omega
  dsimp only
  simp only [zx]
  rw [zk (by omega),zP (zA ⟨by omega,by omega⟩),zY _ L i hi',zl (x:=(i:Int)+1) (by omega) (by omega),zl (x:=0-x) (by omega) (by omega),List.drop_eq_getElem_cons hi']
  have hs:=hL L[i] (List.getElem_mem _)
  generalize L[i]=s at hs ⊢
  simp only [Ye,zx]
  rw [onP,zwO m _ _ _ hs.1 hs.2 hq]
  simp only [zr]
  have hn':∀y,y=1∨y=-1→next (q,y,L,(L.length:Int),(i:Int)+1)=some (if rim (L.drop (i+1)) q=true then 0 else if par (L.drop (i+1)) q=true then -y else y):=fun y hy=>hn (L.length-(i+1)) _ _ (by omega) ⟨i+1,y,by omega,hy,rfl,rfl,rfl⟩
  rw [hn' x hx,hn' (0-x) (by omega)]
  rw [zo7,zkQ]
  by_cases h1:On s.1 s.2 q
  ·rw [zk h1,decide_eq_true h1];rfl
  ·rw [zg h1,decide_eq_false h1,Bool.false_or]
   by_cases h2:Rgt s.1 s.2 q
   ·rw [zk h2,decide_eq_true h2]
    have e0:0-x=-x:=by omega
    have e1:-(0-x)=x:=by omega
    rw [e1,e0]
    cases par (L.drop (i+1)) q<;>rfl
   ·rw [zg h2,decide_eq_false h2,Bool.false_xor]
theorem zqv {g:Int} (h1:1≤g) (h2:g≤3) {a:Pt} (ha:Fit a):(w64 (g*a.1),w64 (g*a.2))=sc g a:=by
 unfold Fit at ha
 have hg:g=1∨g=2∨g=3:=by omega
 unfold sc
 rcases hg with rfl|rfl|rfl<;>rw [zl (by omega) (by omega),zl (by omega) (by omega)]
theorem zzq (m:Nat) (p l:List Pt) (hl:l.length≤350):Ja (m+400) p l ((),())=some (if okl p 1 l=true then (l.map (sgm p 1),true) else ([],false)):=by
 unfold Ja XY
 refine Ql (fun n s v=>∃(i:Nat) (out:List Sg),i≤l.length∧out.length=i∧n=l.length-i∧s=(p,((),()),out,l,(l.length:Int),(i:Int))∧v=some (if okl p 1 (l.drop i)=true then (out++(l.drop i).map (sgm p 1),true) else ([],false))) ?_ (m+400) l.length _ _ ⟨0,[],by omega,rfl,rfl,rfl,rfl⟩ (by omega)
 rintro n s v ⟨i,out,hi,ho,rfl,rfl,rfl⟩ next hn
 by_cases e:i=l.length
 ·subst e
  dsimp only
  rw [zg (by omega),List.drop_length,if_pos (show okl p 1 []=true from rfl),List.map_nil,List.append_nil]
 ·have hi':i<l.length:=by omega
  dsimp only
  simp only [zx]
  rw [zk (by omega),zP (zA ⟨by omega,by omega⟩),zY _ l i hi',zl (x:=(i:Int)+1) (by omega) (by omega),List.drop_eq_getElem_cons hi']
  have hfew:few (out.length+1)=true:=by unfold few;simp;omega
  simp only [hfew,gT]
  generalize l[i]=s
  have hn':∀o,o.length=i+1→next (p,((),()),o,l,(l.length:Int),(i:Int)+1)=some (if okl p 1 (l.drop (i+1))=true then (o++(l.drop (i+1)).map (sgm p 1),true) else ([],false)):=fun o ho=>hn (l.length-(i+1)) _ _ (by omega) ⟨i+1,o,by omega,ho,rfl,rfl,rfl⟩
  simp only [Ye,zx,eqP,Ko,zr,zoV _ [_,_] (show [_,_].length≤5 by simp),zzt]
  rw [hn' _ (by simp;omega),List.map_cons]
  have no:¬OkS p 1 s→(if okl p 1 (s::l.drop (i+1))=true then (out++(sgm p 1 s::(l.drop (i+1)).map (sgm p 1)),true) else (([]:List Sg),false))=([],false):=by
   intro h
   rw [if_neg]
   unfold okl
   rw [List.all_cons,decide_eq_false h];simp
  have yes:OkS p 1 s→okl p 1 (s::l.drop (i+1))=okl p 1 (l.drop (i+1)):=by
   intro h
   unfold okl
   rw [List.all_cons,decide_eq_true h];simp
  by_cases h1:s.1<0
  ·rw [zk h1,no (fun h=>by have:=h.1.1;unfold inr at this;omega)];rfl
  rw [zg h1]
  by_cases h2:s.1≥(p.length:Int)
  ·rw [zk h2,no (fun h=>by have:=h.1.1;unfold inr at this;omega)];rfl
  rw [zg h2]
  by_cases h3:s.2<0
  ·rw [zk h3,no (fun h=>by have:=h.1.2;unfold inr at this;omega)];rfl
  rw [zg h3]
  by_cases h4:s.2≥(p.length:Int)
  ·rw [zk h4,no (fun h=>by have:=h.1.2;unfold inr at this;omega)];rfl
  rw [zg h4]
  have r1:inr s.1 p.length:=⟨by omega,by omega⟩
  have r2:inr s.2 p.length:=⟨by omega,by omega⟩
  simp only [Jw r1,Jw r2,gT]
  have ea:rdD (0,0) p s.1=pt p s.1:=rfl
  have eb:rdD (0,0) p s.2=pt p s.2:=rfl
  rw [ea,eb]
  by_cases h5:pt p s.1=pt p s.2
  ·rw [zk h5,no (fun h=>h.2.1 h5)];rfl
  rw [zg h5]
  by_cases h6:Fit (pt p s.1)∧Fit (pt p s.2)
  ·rw [decide_eq_true h6]
   have hk:OkS p 1 s:=⟨⟨r1,r2⟩,h5,h6,by rw [zgs];exact h6.1,by rw [zgs];exact h6.2⟩
   rw [yes hk]
   simp only [Bool.not_true,cF,List.append_assoc,List.cons_append,List.nil_append]
   unfold sgm
   simp only [zgs]
  ·rw [decide_eq_false h6,no (fun h=>h6 h.2.2.1)];rfl
theorem zxU (m:Nat) (p l:List Pt) (g:Int) (hg1:1≤g) (hg2:g≤3) (hl:l.length≤350):KG (m+400) p l (g,())=some (if okl p g l=true then (l.map (sgm p g),true) else ([],false)):=by
 unfold KG zbL
 refine Ql (fun n s v=>∃(i:Nat) (out:List Sg),i≤l.length∧out.length=i∧n=l.length-i∧s=(p,(g,()),out,l,(l.length:Int),(i:Int))∧v=some (if okl p g (l.drop i)=true then (out++(l.drop i).map (sgm p g),true) else ([],false))) ?_ (m+400) l.length _ _ ⟨0,[],by omega,rfl,rfl,rfl,rfl⟩ (by omega)
 rintro n s v ⟨i,out,hi,ho,rfl,rfl,rfl⟩ next hn
 by_cases e:i=l.length
 ·subst e
  dsimp only
  rw [zg (by omega),List.drop_length,if_pos (show okl p g []=true from rfl),List.map_nil,List.append_nil]
 ·have hi':i<l.length:=by omega
  dsimp only
  simp only [zx]
  rw [zk (by omega),zP (zA ⟨by omega,by omega⟩),zY _ l i hi',zl (x:=(i:Int)+1) (by omega) (by omega),List.drop_eq_getElem_cons hi']
  have hfew:few (out.length+1)=true:=by unfold few;simp;omega
  simp only [hfew,gT]
  generalize l[i]=s
  have hn':∀o,o.length=i+1→next (p,(g,()),o,l,(l.length:Int),(i:Int)+1)=some (if okl p g (l.drop (i+1))=true then (o++(l.drop (i+1)).map (sgm p g),true) else ([],false)):=fun o ho=>hn (l.length-(i+1)) _ _ (by omega) ⟨i+1,o,by omega,ho,rfl,rfl,rfl⟩
  simp only [Ye,zx,eqP,QQ,zr,zoV _ [_,_] (show [_,_].length≤5 by simp),zzt]
  rw [hn' _ (by simp;omega),List.map_cons]
  have no:¬OkS p g s→(if okl p g (s::l.drop (i+1))=true then (out++(sgm p g s::(l.drop (i+1)).map (sgm p g)),true) else (([]:List Sg),false))=([],false):=by
   intro h
   rw [if_neg]
   unfold okl
   rw [List.all_cons,decide_eq_false h];simp
  have yes:OkS p g s→okl p g (s::l.drop (i+1))=okl p g (l.drop (i+1)):=by
   intro h
   unfold okl
   rw [List.all_cons,decide_eq_true h];simp
  by_cases h1:s.1<0
  ·rw [zk h1,no (fun h=>by have:=h.1.1;unfold inr at this;omega)];rfl
  rw [zg h1]
  by_cases h2:s.1≥(p.length:Int)
  ·rw [zk h2,no (fun h=>by have:=h.1.1;unfold inr at this;omega)];rfl
  rw [zg h2]
  by_cases h3:s.2<0
  ·rw [zk h3,no (fun h=>by have:=h.1.2;unfold inr at this;omega)];rfl
  rw [zg h3]
  by_cases h4:s.2≥(p.length:Int)
  ·rw [zk h4,no (fun h=>by have:=h.1.2;unfold inr at this;omega)];rfl
  rw [zg h4]
  have r1:inr s.1 p.length:=⟨by omega,by omega⟩
  have r2:inr s.2 p.length:=⟨by omega,by omega⟩
  simp only [Jw r1,Jw r2,gT]
  have ea:rdD (0,0) p s.1=pt p s.1:=rfl
  have eb:rdD (0,0) p s.2=pt p s.2:=rfl
  rw [ea,eb]
  by_cases h5:pt p s.1=pt p s.2
  ·rw [zk h5,no (fun h=>h.2.1 h5)];rfl
  rw [zg h5]
  by_cases h6:Fit (pt p s.1)∧Fit (pt p s.2)
  ·rw [decide_eq_true h6]
   simp only [zqv hg1 hg2 h6.1,zqv hg1 hg2 h6.2]
   by_cases h7:Fit (sc g (pt p s.1))∧Fit (sc g (pt p s.2))
   ·have hk:OkS p g s:=⟨⟨r1,r2⟩,h5,h6,h7⟩
    rw [yes hk,decide_eq_true h7]
    simp only [Bool.not_true,cF,List.append_assoc,List.cons_append,List.nil_append]
    rfl
   ·rw [decide_eq_false h7,no (fun h=>h7 h.2.2.2)];rfl
  ·rw [decide_eq_false h6,no (fun h=>h6 h.2.2.1)];rfl
theorem zrH {p:List Pt} {g:Int} {l:List Pt} (h:okl p g l=true):∀s∈l.map (sgm p g),Fit s.1∧Fit s.2:=by
 intro s hs
 obtain ⟨t,ht,rfl⟩:=List.mem_map.1 hs
 have:=of_decide_eq_true (List.all_eq_true.1 h t ht)
 exact this.2.2.2
theorem zBb (m:Nat) (p l:List Pt) (q:Pt) (hl:l.length≤350):KV (m+400) p l q=some (atv p l 1 q):=by
 unfold KV zfa atv
 simp only [zx,Ye]
 rw [zzq m p l hl,zr,zoV _ [_] (by simp),zr,zxP]
 by_cases h:okl p 1 l=true
 ·rw [if_pos h]
  by_cases hq:Fit q
  ·rw [if_pos ⟨h,hq⟩,decide_eq_true hq,zrs m _ q (by simpa using hl) (zrH h) hq];rfl
  ·rw [if_neg (fun x=>hq x.2),decide_eq_false hq];rfl
 ·rw [if_neg h,if_neg (fun x=>h x.1)];rfl
end Go.Proofs.YtpkkcjmblocjdaaGreat.Pure
