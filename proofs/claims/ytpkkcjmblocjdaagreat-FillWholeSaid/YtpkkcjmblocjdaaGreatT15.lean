/- Words, loops, orders: for layer 12. -/
import Derived.Test.YtpkkcjmblocjdaaGreatV9
import Derived.Test.YtpkkcjmblocjdaaGreatSrt
set_option linter.unusedVariables false
set_option linter.unusedSimpArgs false
set_option linter.unusedSectionVars false
section
namespace Go.Proofs.YtpkkcjmblocjdaaGreat.Pure
open Go.RowKit Go.Proofs.YtpkkcjmblocjdaaGreat.AM PL
theorem KH {α:Type} {p:Prop} [Decidable p] {x y:α} (h:p):(bif !(decide p) then x else y)=y:=by rw [decide_eq_true h];rfl
theorem zb5 {α:Type} {p:Prop} [Decidable p] {x y:α} (h:¬p):(bif !(decide p) then x else y)=x:=by rw [decide_eq_false h];rfl
theorem zvh {α ρ:Type} {f:α→(α→Option ρ)→Option ρ} (st:Nat→α) (n:Nat) (b:Nat→Bool) (v e:Option ρ) (h0:∀next,f (st n) next=e) (hs:∀i,i<n→∀next,f (st i) next=bif b i then v else next (st (i+1))) (q:Nat) (hq:n<q) :
  zA f q (st 0)=bif (List.range n).any b then v else e:=by
 refine (zG st n (fun i=>bif (List.range' i (n-i)).any b then v else e) ?_ ?_ q 0 (Nat.zero_le _) (by omega)).trans ?_
 ·intro next
  rw [h0,Nat.sub_self]
  rfl
 ·intro i hi next hn
  rw [hs i hi,hn,show n-i=(n-(i+1))+1 by omega,List.range'_succ,List.any_cons]
  cases b i<;>rfl
 ·rw [List.range_eq_range']
  rfl
theorem Q8 {α ρ:Type} {f:α→(α→Option ρ)→Option ρ} (st:Nat→α) (n:Nat) (b:Nat→Bool) (v e:Option ρ) {s0:α} (es:s0=st 0) (h0:∀next,f (st n) next=e) (hs:∀i,i<n→∀next,f (st i) next=bif b i then v else next (st (i+1))) (q:Nat) (hq:n<q) :
  zA f q s0=bif (List.range n).any b then v else e:=by rw [es];exact zvh st n b v e h0 hs q hq
theorem Q3 {α ρ:Type} {f:α→(α→Option ρ)→Option ρ} (st:Nat→α) (n:Nat) {v:Option ρ} {s0:α} (e:s0=st 0) (h0:∀next,f (st n) next=v) (hs:∀i,i<n→∀next,next (st (i+1))=v→f (st i) next=v) (q:Nat) (hq:n<q):zA f q s0=v:=by
 rw [e]
 exact zG st n (fun _=>v) h0 hs q 0 (Nat.zero_le _) (by omega)
theorem zke {α ρ:Type} (Q:ρ→Prop) (I:Nat→α→Prop) {f:α→(α→Option ρ)→Option ρ} (h:∀n s,I n s→∀next,(∀n' s',n'<n→I n' s'→∃r,next s'=some r∧Q r)→∃r,f s next=some r∧Q r) :
  ∀(q n:Nat) (s:α),I n s→n<q→∃r,zA f q s=some r∧Q r
 |0,n,s,_,hq=>by omega
 |q+1,n,s,hi,hq=>by
  rw [jc]
  exact h n s hi _ fun n' s' hn hi'=>zke Q I h q n' s' hi' (by omega)
theorem zwQ {α ρ:Type} (k0:Option ρ) (k1:α→List α→Option ρ):nxt [] k0 k1=k0:=rfl
theorem zzS {α ρ:Type} {es:List α} {k0:Option ρ} {k1:α→List α→Option ρ} {y:ρ} (hne:es≠[]) (h:∀(j:Nat) (e:α),es[j]?=some e→k1 e (es.eraseIdx j)=some y):nxt es k0 k1=some y:=by
 cases es with
 |nil=>exact absurd rfl hne
 |cons e r =>
  unfold nxt
  simp only
  split
  ·rename_i hc
   have h1:=hc.choose_spec 0 e rfl
   rw [h 0 e rfl] at h1
   rw [h1]
  ·rename_i hc
   exact absurd ⟨y,h⟩ hc
theorem zk8 {α:Type}:∀{es:List α} {j:Nat} {e:α},es[j]?=some e→(e::es.eraseIdx j).Perm es
 |[],j,e,h=>by simp at h
 |x::es,0,e,h=>by
  simp only [List.getElem?_cons_zero,Option.some.injEq] at h
  subst h
  exact List.Perm.refl _
 |x::es,j+1,e,h=>by
  have ih:=zk8 (es:=es) (j:=j) (e:=e) (by simpa using h)
  rw [List.eraseIdx_cons_succ]
  exact (List.Perm.swap x e _).trans (ih.cons x)
theorem Xp {α:Type} (l:List α) (i:Nat) (h:i<l.length):l.take (i+1)=l.take i++[l[i]]:=by rw [List.take_add_one,List.getElem?_eq_getElem h];rfl
theorem zm4 {α β:Type} (g:α→List β) (l:List α) (i:Nat) (h:i<l.length):(l.take (i+1)).flatMap g=(l.take i).flatMap g++g l[i]:=by rw [Xp l i h,List.flatMap_append];simp
theorem zuX {α β:Type} (g:α→β) (l:List α) (i:Nat) (h:i<l.length):(l.take (i+1)).map g=(l.take i).map g++[g l[i]]:=by rw [Xp l i h,List.map_append];rfl
theorem zz1 (k:Pt):(fun p:Pt×Bool=>Kd.eqT kk k p.1)=fun p=>decide (k=p.1):=funext fun p=>zqN k p.1
theorem zzz (es:List (Pt×Bool)) (k:Pt):hsM kk .bool es k=es.any fun p=>decide (k=p.1):=by
 rw [←zz1]
 rfl
def yes (l:List Pt):List (Pt×Bool):=l.map fun s=>(s,true)
theorem zqH (l:List Pt) (k:Pt):hsM kk .bool (yes l) k=decide (k∈l):=by
 rw [zzz]
 unfold yes
 rw [Bool.eq_iff_iff,List.any_eq_true,decide_eq_true_eq]
 constructor
 ·rintro ⟨p,hp,h⟩
  rw [decide_eq_true_eq] at h
  obtain ⟨s,hs,rfl⟩:=List.mem_map.1 hp
  rw [h];exact hs
 ·intro h
  exact ⟨(k,true),List.mem_map.2 ⟨k,h,rfl⟩,decide_eq_true rfl⟩
theorem zwl {κ ν:Kd} (p:κ.T×ν.T) (es:List (κ.T×ν.T)) (k:κ.T):lkM κ ν (p::es) k=bif Kd.eqT κ k p.1 then p.2 else lkM κ ν es k:=by
 cases hb:Kd.eqT κ k p.1<;>simp only [lkM,List.find?_cons,hb,cond]
theorem zeR:∀(l:List Pt) (k:Pt),toT Bool (lkM kk .bool (yes l) k)=decide (k∈l)
 |[],k=>rfl
 |s::l,k=>by
  have e:lkM kk .bool (yes (s::l)) k=bif decide (k=s) then true else lkM kk .bool (yes l) k:=by
   rw [←zqN]
   exact zwl (κ:=kk) (ν:=.bool) (s,true) (yes l) k
  have ih:=zeR l k
  by_cases h:k=s
  ·rw [decide_eq_true (List.mem_cons.2 (.inl h))]
   refine (congrArg (toT Bool) e).trans ?_
   rw [decide_eq_true h];rfl
  ·refine (congrArg (toT Bool) e).trans ?_
   rw [decide_eq_false h]
   refine ih.trans ?_
   rw [Bool.eq_iff_iff,decide_eq_true_eq,decide_eq_true_eq,List.mem_cons]
   simp [h]
theorem zra (l:List Pt) (k:Pt):adM kk .bool (yes l) k true=yes (l++[k]):=by
 unfold yes;rw [List.map_append];rfl
structure zl7 {α:Type} (lt:α→α→Prop):Prop where
 irr:∀a,¬lt a a
 tr:∀{a b c},lt a b→lt b c→lt a c
 tri:∀{a b},¬lt a b→¬lt b a→a=b
section
variable {α:Type} {lt:α→α→Prop}
theorem zl7.ext (o:zl7 lt):∀{l r:List α},l.Pairwise lt→r.Pairwise lt→(∀x,x∈l↔x∈r)→l=r
 |[],[],_,_,_=>rfl
 |[],y::r,_,_,h=>absurd ((h y).2 List.mem_cons_self) (List.not_mem_nil)
 |x::l,[],_,_,h=>absurd ((h x).1 List.mem_cons_self) (List.not_mem_nil)
 |x::l,y::r,hl,hr,h=>by
  have hl':=List.pairwise_cons.1 hl
  have hr':=List.pairwise_cons.1 hr
  have e:x=y:=by
   have h1:=(h x).1 List.mem_cons_self
   have h2:=(h y).2 List.mem_cons_self
   rcases List.mem_cons.1 h1 with e|h1
   ·exact e
   ·rcases List.mem_cons.1 h2 with e|h2
    ·exact e.symm
    ·exact absurd (o.tr (hl'.1 y h2) (hr'.1 x h1)) (o.irr x)
  subst e
  congr 1
  refine o.ext hl'.2 hr'.2 fun z=>⟨fun hz=>?_,fun hz=>?_⟩
  ·have:=(h z).1 (List.mem_cons_of_mem _ hz)
   rcases List.mem_cons.1 this with e|h2
   ·subst e;exact absurd (hl'.1 z hz) (o.irr z)
   ·exact h2
  ·have:=(h z).2 (List.mem_cons_of_mem _ hz)
   rcases List.mem_cons.1 this with e|h2
   ·subst e;exact absurd (hr'.1 z hz) (o.irr z)
   ·exact h2
theorem KL (cf:α→α→Int) (l:List α):(Xw cf l).Perm l:=List.mergeSort_perm _ _
theorem zl7.pair (o:zl7 lt) {cf:α→α→Int} (hc:∀a b,cf a b<0↔lt a b) (l:List α):(Xw cf l).Pairwise fun x y=>¬lt y x:=by
 unfold Xw
 have:=List.pairwise_mergeSort (le:=fun x y:α=>!(decide (cf y x<0))) (fun a b c h1 h2=>by
  simp only [Bool.not_eq_true',decide_eq_false_iff_not,hc] at *
  intro h
  apply h1
  by_cases h3:lt b c
  ·by_cases h4:lt a b
   ·exact absurd (o.tr h4 (o.tr h3 h)) (o.irr a)
   ·by_cases h5:lt b a
    ·exact h5
    ·rw [o.tri h4 h5] at h;exact absurd (o.tr h h3) (o.irr c)
  ·rw [o.tri h3 h2];exact h) (fun a b=>by
  simp only [Bool.or_eq_true,Bool.not_eq_true',decide_eq_false_iff_not,hc]
  by_cases h:lt b a
  ·exact .inr fun h'=>o.irr a (o.tr h' h)
  ·exact .inl h) l
 exact this.imp fun h=>by simpa [hc] using h
theorem zl7.srt (o:zl7 lt) {cf:α→α→Int} (hc:∀a b,cf a b<0↔lt a b) {l:List α} (h:l.Nodup):(Xw cf l).Pairwise lt:=by
 have hn:(Xw cf l).Nodup:=(KL cf l).symm.nodup h
 refine List.Pairwise.imp₂ ?_ (o.pair hc l) hn
 intro a b h1 h2
 by_cases h3:lt a b
 ·exact h3
 ·exact absurd (o.tri h3 h1) h2
theorem zl7.nodup (o:zl7 lt) {l:List α} (h:l.Pairwise lt):l.Nodup:=h.imp fun {a b} hab e=>by subst e;exact o.irr _ hab
end
def ltS (a b:Pt):Prop:=a.1<b.1∨(a.1=b.1∧a.2<b.2)
instance : DecidableRel ltS:=fun a b=>inferInstanceAs (Decidable (_∨_))
abbrev Tr:Type:=Int×Int×Int
def ltT (a b:Tr):Prop:=a.1<b.1∨(a.1=b.1∧(a.2.1<b.2.1∨(a.2.1=b.2.1∧a.2.2<b.2.2)))
instance : DecidableRel ltT:=fun a b=>inferInstanceAs (Decidable (_∨_))
theorem zlJ:zl7 ltS where
 irr a:=by unfold ltS;omega
 tr {a b c}:=by unfold ltS;omega
 tri {a b} h1 h2:=by unfold ltS at h1 h2;exact Prod.ext (by omega) (by omega)
theorem zv1:zl7 ltT where
 irr a:=by unfold ltT;omega
 tr {a b c}:=by unfold ltT;omega
 tri {a b} h1 h2:=by unfold ltT at h1 h2;exact Prod.ext (by omega) (Prod.ext (by omega) (by omega))
theorem zw8 (a b:Pt):J8 a b<0↔ltS a b:=by unfold J8 ltS;(repeat' split)<;>omega
theorem zzy (a b:Tr):Yp a b<0↔ltT a b:=by unfold Yp ltT;(repeat' split)<;>omega
end Go.Proofs.YtpkkcjmblocjdaaGreat.Pure
end
section
namespace Go.Proofs.YtpkkcjmblocjdaaGreat.Pure
open Go.RowKit Go.Proofs.YtpkkcjmblocjdaaGreat.AM PL
def zcE (a b c:Int):Tr:=if a≤b∧a≤c then (a,b,c) else if b≤c∧b≤a then (b,c,a) else (c,a,b)
def ZE (p:List Pt) (a b c:Int):Tr×Bool :=
 if inr a p.length∧inr b p.length∧inr c p.length then
  (if ori (pt p a) (pt p b) (pt p c)=0 then ((0,0,0),false) else if ori (pt p a) (pt p b) (pt p c)=-1 then (zcE a c b,true) else (zcE a b c,true))
 else ((0,0,0),false)
theorem zAv (m:Nat) (a b q:Pt):qQ (m+1000) a b q=some (ori a b q):=zbk (m+994) a b q
theorem zAi (m:Nat) (a b q:Pt):qy (m+1000) a b q=some (ori a b q):=ziE (m+900) a b q
def zAd (a b c:Int) (i:Nat):Int:=if i=0 then a else if i=1 then b else c
theorem zAx {F:(Int×Int×Int×Int×Int×Int)→((Int×Int×Int×Int×Int×Int)→Option (Tr×Bool))→Option (Tr×Bool)}
  (hF:∀a b c x y z next,F (a,b,c,x,y,z) next=if a>b∨a>c then next (b,c,a,x,y,z) else some ((a,b,c),true)) (m:Nat) (a b c x y z:Int) :
  zA F (m+1000) (a,b,c,x,y,z)=some (zcE a b c,true):=by
 rw [show m+1000=(m+997)+1+1+1 from rfl,jc,hF]
 unfold zcE
 by_cases h1:a≤b∧a≤c
 ·rw [if_neg (by omega),if_pos h1]
 rw [if_pos (by omega),if_neg h1,jc,hF]
 by_cases h2:b≤c∧b≤a
 ·rw [if_neg (by omega),if_pos h2]
 rw [if_pos (by omega),if_neg h2,jc,hF,if_neg (by omega)]
theorem zyI (m:Nat) (p:List Pt) (a b c:Int) (hp:p.length≤1000):Z3 (m+1000) p a b c=some (ZE p a b c):=by
 unfold Z3 zgO
 refine (Q8 (fun i=>(p,a,b,c,(0,0,0),(a,b,c),(i:Int))) 3 (fun i=>!decide (inr (zAd a b c i) p.length)) (some ((0,0,0),false)) (if inr a p.length∧inr b p.length∧inr c p.length then some (ZE p a b c) else none) rfl (fun next=>?_) (fun i hi next=>?_) (m+1000) (by omega)).trans ?_
 ·dsimp only
  rw [zg (by omega)]
  by_cases h:inr a p.length∧inr b p.length∧inr c p.length
  ·rw [if_pos h,z6 (zF h.1),z6 (zF h.2.1),z6 (zF h.2.2)]
   simp only [zz]
   have e:∀i:Int,((rdD (0,0) p i).1,(rdD (0,0) p i).2)=pt p i:=fun _=>rfl
   rw [e,e,e,zAv,zt]
   unfold ZE
   rw [if_pos h]
   by_cases h0:ori (pt p a) (pt p b) (pt p c)=0
   ·rw [zl h0,if_pos h0]
   rw [zg h0,if_neg h0]
   have hF:∀a b c x y z (next:(Int×Int×Int×Int×Int×Int)→Option (Tr×Bool)),(bif decide (a>b) then (bif true then next (b,c,a,x,y,z) else some ((a,b,c),true)) else (bif decide (a>c) then next (b,c,a,x,y,z) else some ((a,b,c),true)))=if a>b∨a>c then next (b,c,a,x,y,z) else some ((a,b,c),true):=by
    intro a b c x y z next
    by_cases h1:a>b
    ·rw [zl h1,if_pos (.inl h1)];rfl
    ·rw [zg h1]
     by_cases h2:a>c
     ·rw [zl h2,if_pos (.inr h2)]
     ·rw [zg h2,if_neg (by omega)]
   by_cases h1:ori (pt p a) (pt p b) (pt p c)=-1
   ·rw [zl h1,if_pos h1]
    exact zAx (fun a b c x y z next=>hF a b c x y z next) m _ _ _ _ _ _
   ·rw [zg h1,if_neg h1]
    exact zAx (fun a b c x y z next=>hF a b c x y z next) m _ _ _ _ _ _
  ·rw [if_neg h]
   by_cases ha:inr a p.length
   ·rw [z6 (zF ha)]
    by_cases hb:inr b p.length
    ·rw [z6 (zF hb)]
     have hc:¬inr c p.length:=fun hc=>h ⟨ha,hb,hc⟩
     have:inb c p.length=false:=by unfold inb;unfold inr at hc;simp;omega
     rw [this];rfl
    ·have:inb b p.length=false:=by unfold inb;unfold inr at hb;simp;omega
     rw [this];rfl
   ·have:inb a p.length=false:=by unfold inb;unfold inr at ha;simp;omega
    rw [this];rfl
 ·dsimp only
  rw [zl (by omega)]
  simp only [zz]
  rw [zo (x:=(i:Int)+1) (by omega) (by omega)]
  have key:∀(v:Int) (N:Option (Tr×Bool)),(bif decide (v<0) then (bif true then some (((0,0,0),false):Tr×Bool) else N) else (bif decide (v≥(p.length:Int)) then some ((0,0,0),false) else N))=bif !decide (inr v p.length) then some ((0,0,0),false) else N:=by
   intro v N
   by_cases h:inr v p.length
   ·rw [KH h]
    have h':=h
    unfold inr at h'
    rw [zg (by omega),zg (by omega)]
   ·rw [zb5 h]
    unfold inr at h
    by_cases h1:v<0
    ·rw [zl h1];rfl
    ·rw [zg h1,zl (by omega)]
  match i,hi with
  |0,_=>exact key a _
  |1,_=>exact key b _
  |2,_=>exact key c _
 ·have e:(List.range 3).any (fun i=>!decide (inr (zAd a b c i) p.length))=!decide (inr a p.length∧inr b p.length∧inr c p.length):=by
   show (!decide (inr a p.length)||(!decide (inr b p.length)||(!decide (inr c p.length)||false)))=_
   by_cases ha:inr a p.length<;>by_cases hb:inr b p.length<;>by_cases hc:inr c p.length<;>simp [ha,hb,hc]
  rw [e]
  by_cases h:inr a p.length∧inr b p.length∧inr c p.length
  ·rw [KH h,if_pos h]
  ·rw [zb5 h]
   unfold ZE
   rw [if_neg h]
theorem zaV (a b c:Pt):ori b c a=ori a b c:=by
 unfold ori;rw [zyh]
 by_cases h:Fit a∧Fit b∧Fit c
 ·rw [if_pos h,if_pos ⟨h.2.1,h.2.2,h.1⟩]
 ·rw [if_neg h,if_neg fun x=>h ⟨x.2.2,x.1,x.2.1⟩]
theorem zvz (a b c:Pt):ori b a c=-ori a b c:=znQ a b c
theorem zxs (a b c:Pt):ori a c b=-ori a b c:=by
 have h1:=zaV a c b
 have h2:=zvz b c a
 have h3:=zaV a b c
 omega
theorem zka (a b:Pt):ori a a b=0:=by have:=zvz a a b;omega
theorem zsJ (a b:Pt):ori a b a=0:=by rw [←zaV,←zaV,zka]
theorem zsF (a b:Pt):ori b a a=0:=by rw [←zaV,zka]
def zl6 (a b c:Int):List Tr:=[(a,b,c),(b,c,a),(c,a,b),(a,c,b),(c,b,a),(b,a,c)]
def zoh (p:List Pt) (t:Tr):Prop:=t.1<t.2.1∧t.1<t.2.2∧ori (pt p t.1) (pt p t.2.1) (pt p t.2.2)=1
instance (p:List Pt) (t:Tr):Decidable (zoh p t):=inferInstanceAs (Decidable (_∧_∧_))
theorem zuW (p:List Pt) (a b c:Int) (h:ori (pt p a) (pt p b) (pt p c)≠0):(zl6 a b c).find? (fun t=>decide (zoh p t))=some (ZE p a b c).1∨¬(inr a p.length∧inr b p.length∧inr c p.length):=by
 by_cases hr:inr a p.length∧inr b p.length∧inr c p.length
 ·refine .inl ?_
  have hab:a≠b:=fun e=>h (by rw [e];exact zka _ _)
  have hbc:b≠c:=fun e=>h (by rw [e];exact zsF _ _)
  have hac:a≠c:=fun e=>h (by rw [e];exact zsJ _ _)
  have o2:=zaV (pt p a) (pt p b) (pt p c)
  have o3:=zaV (pt p b) (pt p c) (pt p a)
  have o4:=zxs (pt p a) (pt p b) (pt p c)
  have o5:=zaV (pt p a) (pt p c) (pt p b)
  have o6:=zaV (pt p c) (pt p b) (pt p a)
  have hg:=Q6 (pt p a) (pt p b) (pt p c)
  unfold ZE
  rw [if_pos hr,if_neg h]
  rcases show ori (pt p a) (pt p b) (pt p c)=1∨ori (pt p a) (pt p b) (pt p c)=-1 by omega with e|e
  ·have q2:ori (pt p b) (pt p c) (pt p a)=1:=by omega
   have q3:ori (pt p c) (pt p a) (pt p b)=1:=by omega
   have q4:ori (pt p a) (pt p c) (pt p b)=-1:=by omega
   have q5:ori (pt p c) (pt p b) (pt p a)=-1:=by omega
   have q6:ori (pt p b) (pt p a) (pt p c)=-1:=by omega
   simp [zl6,zcE,List.find?_cons,zoh,e,q2,q3,q4,q5,q6]
   by_cases h1:a<b<;>by_cases h2:a<c<;>by_cases h3:b<c<;>simp [h1,h2,h3]<;>(repeat' split)<;>(try rfl)<;>(try omega)<;>(try (exfalso;omega))<;>simp_all<;>omega
  ·have q2:ori (pt p b) (pt p c) (pt p a)=-1:=by omega
   have q3:ori (pt p c) (pt p a) (pt p b)=-1:=by omega
   have q4:ori (pt p a) (pt p c) (pt p b)=1:=by omega
   have q5:ori (pt p c) (pt p b) (pt p a)=1:=by omega
   have q6:ori (pt p b) (pt p a) (pt p c)=1:=by omega
   simp [zl6,zcE,List.find?_cons,zoh,e,q2,q3,q4,q5,q6]
   by_cases h1:a<b<;>by_cases h2:a<c<;>by_cases h3:b<c<;>simp [h1,h2,h3]<;>(repeat' split)<;>(try rfl)<;>(try omega)<;>(try (exfalso;omega))<;>simp_all<;>omega
 ·exact .inr hr
end Go.Proofs.YtpkkcjmblocjdaaGreat.Pure
end
section
namespace Go.Proofs.YtpkkcjmblocjdaaGreat.Pure
open Go.RowKit Go.Proofs.YtpkkcjmblocjdaaGreat.AM PL
theorem zzV {p:List Pt} {a b c:Int} (h:inr a p.length∧inr b p.length∧inr c p.length):∀t∈zl6 a b c,inr t.1 p.length∧inr t.2.1 p.length∧inr t.2.2 p.length:=by
 obtain ⟨h1,h2,h3⟩:=h
 intro t ht
 simp only [zl6,List.mem_cons,List.not_mem_nil,or_false] at ht
 rcases ht with rfl|rfl|rfl|rfl|rfl|rfl
 ·exact ⟨h1,h2,h3⟩
 ·exact ⟨h2,h3,h1⟩
 ·exact ⟨h3,h1,h2⟩
 ·exact ⟨h1,h3,h2⟩
 ·exact ⟨h3,h2,h1⟩
 ·exact ⟨h2,h1,h3⟩
def zAX:Option Tr→Option (Tr×Bool)
 |some t=>some (t,true)
 |none=>some ((0,0,0),false)
theorem zy6 (m:Nat) (p:List Pt) (a b c:Int) (hp:p.length≤1000):Zm (m+1000) p a b c=some (ZE p a b c):=by
 unfold Zm Yi
 simp only [zz]
 have no:¬(inr a p.length∧inr b p.length∧inr c p.length)→some (((0,0,0),false):Tr×Bool)=some (ZE p a b c):=fun h=>by unfold ZE;rw [if_neg h]
 by_cases h1:a<0
 ·rw [zl h1];exact no fun h=>by have:=h.1;unfold inr at this;omega
 rw [zg h1]
 by_cases h2:b<0
 ·rw [zl h2];exact no fun h=>by have:=h.2.1;unfold inr at this;omega
 rw [zg h2]
 by_cases h3:c<0
 ·rw [zl h3];exact no fun h=>by have:=h.2.2;unfold inr at this;omega
 rw [zg h3]
 by_cases h4:a≥(p.length:Int)
 ·rw [zl h4];exact no fun h=>by have:=h.1;unfold inr at this;omega
 rw [zg h4]
 by_cases h5:b≥(p.length:Int)
 ·rw [zl h5];exact no fun h=>by have:=h.2.1;unfold inr at this;omega
 rw [zg h5]
 by_cases h6:c≥(p.length:Int)
 ·rw [zl h6];exact no fun h=>by have:=h.2.2;unfold inr at this;omega
 rw [zg h6]
 have hr:inr a p.length∧inr b p.length∧inr c p.length:=by unfold inr;omega
 have ep:∀i:Int,((rdD (0,0) p i).1,(rdD (0,0) p i).2)=pt p i:=fun _=>rfl
 simp only [Zz hr.1,Zz hr.2.1,Zz hr.2.2,gT,ep,zAi,zt]
 by_cases h0:ori (pt p a) (pt p b) (pt p c)=0
 ·rw [decide_eq_true h0]
  show some _=_
  unfold ZE
  rw [if_pos hr,if_pos h0]
 ·rw [decide_eq_false h0,cF]
  have hsix:(zl6 a b c).length=6:=rfl
  refine (zG (fun i=>(p,(0,0,0),zl6 a b c,(i:Int))) 6 (fun i=>zAX (((zl6 a b c).drop i).find? fun t=>decide (zoh p t))) (fun next=>?_) (fun i hi next hn=>?_) (m+1000) 0 (by omega) (by omega)).trans ?_
  ·dsimp only
   rw [zg (by omega)]
   rfl
  ·have hi':i<(zl6 a b c).length:=by omega
   dsimp only
   rw [zl (by omega),z6 (zF ⟨by omega,by omega⟩),z7 _ _ i hi',zo (x:=(i:Int)+1) (by omega) (by omega),List.drop_eq_getElem_cons hi',List.find?_cons]
   have hm:=zzV hr _ (List.getElem_mem hi')
   generalize (zl6 a b c)[i]=t at *
   by_cases c1:t.1<t.2.1
   ·rw [zl c1]
    by_cases c2:t.1<t.2.2
    ·rw [zl c2,z6 (zF hm.1),z6 (zF hm.2.1),z6 (zF hm.2.2),ep,ep,ep]
     by_cases c3:ori (pt p t.1) (pt p t.2.1) (pt p t.2.2)=1
     ·rw [decide_eq_true c3,decide_eq_true (show zoh p t from ⟨c1,c2,c3⟩)];rfl
     ·rw [decide_eq_false c3,decide_eq_false (show ¬zoh p t from fun h=>c3 h.2.2)];exact hn
    ·rw [zg c2,decide_eq_false (show ¬zoh p t from fun h=>c2 h.2.1)];exact hn
   ·rw [zg c1,decide_eq_false (show ¬zoh p t from fun h=>c1 h.1)];exact hn
  ·rw [List.drop_zero]
   rcases zuW p a b c h0 with e|e
   ·rw [e]
    unfold ZE
    rw [if_pos hr,if_neg h0]
    by_cases hx:ori (pt p a) (pt p b) (pt p c)=-1
    ·rw [if_pos hx];rfl
    ·rw [if_neg hx];rfl
   ·exact absurd hr e
theorem zwU (k:Nat) (t:Tr):Ks k t=some ((t.1,t.2.1),(t.2.1,t.2.2),(t.2.2,t.1)):=rfl
theorem zAr (k:Nat) (s:Pt):JA k s=some (mnI s.1 s.2,mxI s.1 s.2):=rfl
theorem byT (m:Nat) (a b:Tr):Jj (m+1000) a b=some (Yp a b):=zrY (m+995) a b
theorem byS (m:Nat) (a b:Pt):QH (m+1000) a b=some (J8 a b):=zsN (m+995) a b
theorem zvM (k:Nat) (a b:Tr):jd k a b=some (decide (ltT a b)):=by
 unfold jd
 by_cases h1:a.1=b.1
 ·rw [KH h1]
  by_cases h2:a.2.1=b.2.1
  ·rw [KH h2]
   exact congrArg some (decide_eq_decide.2 (by unfold ltT;omega))
  ·rw [zb5 h2]
   exact congrArg some (decide_eq_decide.2 (by unfold ltT;omega))
 ·rw [zb5 h1]
  exact congrArg some (decide_eq_decide.2 (by unfold ltT;omega))
end Go.Proofs.YtpkkcjmblocjdaaGreat.Pure
end
section
namespace Go.Proofs.YtpkkcjmblocjdaaGreat.Pure
open Go.RowKit Go.Proofs.YtpkkcjmblocjdaaGreat.AM PL
theorem ztW {α ρ:Type} {f:α→(α→Option ρ)→Option ρ} (I:Nat→Prop) (st:Nat→α) (n:Nat) (b:Nat→Bool) (v e:Option ρ) {s0:α} (es:s0=st 0) (hI:I 0) (h0:I n→∀next,f (st n) next=e) (hs:∀i,i<n→I i→(∀next,f (st i) next=bif b i then v else next (st (i+1)))∧(b i=false→I (i+1))) (q:Nat) (hq:n<q) :
  zA f q s0=bif (List.range n).any b then v else e:=by
 rw [es]
 have main:∀(q i:Nat),I i→i≤n→n-i<q→zA f q (st i)=bif (List.range' i (n-i)).any b then v else e:=by
  intro q
  induction q with
  |zero=>intro i _ _ h;omega
  |succ q ih =>
   intro i hi hin hq
   rw [jc]
   by_cases h:i=n
   ·subst h;rw [h0 hi,Nat.sub_self];rfl
   ·obtain ⟨h1,h2⟩:=hs i (by omega) hi
    rw [h1,show n-i=(n-(i+1))+1 by omega,List.range'_succ,List.any_cons]
    cases hb:b i with
    |true=>rfl
    |false=>exact ih (i+1) (h2 hb) (by omega) (by omega)
 rw [main q 0 hI (by omega) (by omega),List.range_eq_range']
 rfl
abbrev jO:Type:=List Pt×List Tr×List Pt
def rv (s:Pt):Pt:=(s.2,s.1)
def up (s:Pt):Pt:=(mnI s.1 s.2,mxI s.1 s.2)
def qM (t:Tr):List Pt:=[(t.1,t.2.1),(t.2.1,t.2.2),(t.2.2,t.1)]
def sd (t:Tr) (j:Nat):Pt:=if j=0 then (t.1,t.2.1) else if j=1 then (t.2.1,t.2.2) else (t.2.2,t.1)
def tt (T:List Tr) (i:Int):Tr:=rdD (0,0,0) T i
theorem zbx {T:List Tr} {i:Nat} (h:i<T.length):tt T (i:Int)=T[i]:=z7 _ T i h
theorem zqG (t:Tr) (j:Nat) (h:j<3):(qM t).take (j+1)=(qM t).take j++[sd t j]:=by
 match j,h with
 |0,_=>rfl
 |1,_=>rfl
 |2,_=>rfl
def Eo (T:List Tr) (i:Nat):List Pt:=(T.take i).flatMap qM
theorem zxm {T:List Tr} {i:Nat} (h:i<T.length):Eo T (i+1)=Eo T i++qM T[i]:=zm4 qM T i h
def Ql (P:List Pt) (T:List Tr) (i:Nat):Bool:=decide (ZE P (tt T i).1 (tt T i).2.1 (tt T i).2.2≠(tt T i,true))||(decide (0<i)&&decide (¬ltT (tt T (i-1:Nat)) (tt T i)))
def zgg (T:List Tr) (i:Nat):Bool:=(List.range 3).any fun j=>decide (sd (tt T i) j∈Eo T i++(qM (tt T i)).take j)
def X8 (E S:List Pt) (i:Nat):Bool:=decide ((pt S i).1≥(pt S i).2)||((decide (0<i)&&decide (¬ltS (pt S (i-1:Nat)) (pt S i)))||(decide (pt S i∉E)&&decide (rv (pt S i)∉E)))
def zbE (E S:List Pt) (s:Pt):Bool:=decide (rv s∉E)&&decide (up s∉S)
def zqw (m:jO):Int :=
 bif (List.range m.2.1.length).any (fun i=>Ql m.1 m.2.1 i||zgg m.2.1 i) then 2
 else bif (List.range m.2.2.length).any (X8 (Eo m.2.1 m.2.1.length) m.2.2) then 2
 else bif (Eo m.2.1 m.2.1.length).any (zbE (Eo m.2.1 m.2.1.length) m.2.2) then 2 else 0
theorem zyC (a b:Pt):J8 a b≥0↔¬ltS a b:=by rw [←zw8];omega
theorem zyJ (a b:Tr):Yp a b≥0↔¬ltT a b:=by rw [←zzy];omega
theorem zwO (E:List Pt) (b:Pt→Bool):(yes E).any (fun e=>b e.1)=E.any b:=by unfold yes;rw [List.any_map];rfl
theorem zAR (m : Nat) {E S : List Pt} (hE : E.length ≤ 900) {F : (List (Pt × Bool) × List (Pt × Bool) × List (Pt × Bool)) → ((List (Pt × Bool) × List (Pt × Bool) × List (Pt × Bool)) → Option Int) → Option Int}
    (hF : ∀ x52 x53 x54 next51, F (x52, x53, x54) next51 = nxt x54 (some 0) (fun e r55 =>
        bif !(toT Bool (lkM (.pair (.int .i64) (.int .i64)) .bool x52 (e.1.2, e.1.1))) then
         bnd (JA (m + 1000) (e.1.1, e.1.2)) fun r63 =>
         (bif !(toT Bool (lkM (.pair (.int .i64) (.int .i64)) .bool x53 (r63.1, r63.2))) then some 2 else next51 (x52, x53, r55))
        else
         (bif false then some 2 else next51 (x52, x53, r55)))) :
    zA F (m + 1000) (yes E, yes S, yes E) = some (bif E.any (zbE E S) then 2 else 0) := by
  refine (Q7 (fun n s v => ∃ rs : List (Pt × Bool), n = rs.length ∧ s = (yes E, yes S, rs) ∧ v = some (bif rs.any (fun e => zbE E S e.1) then 2 else 0)) ?_ (m + 1000) E.length _ _ ⟨yes E, by simp [yes], rfl, rfl⟩ (by omega)).trans (by rw [zwO])
  rintro n s v ⟨rs, rfl, rfl, rfl⟩ next hn
  rw [hF]
  by_cases he : rs = []
  · subst he; rw [zwQ]; rfl
  refine zzS he fun j e hj => ?_
  have hpm := zk8 hj
  have hany : rs.any (fun e => zbE E S e.1) = (zbE E S e.1 || (rs.eraseIdx j).any fun e => zbE E S e.1) := by
    rw [← List.any_cons (f := fun e : Pt × Bool => zbE E S e.1)]
    exact (hpm.any_eq).symm
  have hnx : next (yes E, yes S, rs.eraseIdx j) = some (bif (rs.eraseIdx j).any (fun e => zbE E S e.1) then 2 else 0) := by
    refine hn _ _ _ ?_ ⟨_, rfl, rfl, rfl⟩
    have := hpm.length_eq
    simp only [List.length_cons] at this
    omega
  have k1 : toT Bool (lkM (.pair (.int .i64) (.int .i64)) .bool (yes E) (e.1.2, e.1.1)) = decide (rv e.1 ∈ E) := zeR E (rv e.1)
  have k2 : toT Bool (lkM (.pair (.int .i64) (.int .i64)) .bool (yes S) (mnI e.1.1 e.1.2, mxI e.1.1 e.1.2)) = decide (up e.1 ∈ S) := zeR S (up e.1)
  rw [k1, zAr, zt, k2, hany]
  by_cases h1 : rv e.1 ∈ E
  · rw [KH h1, cF, hnx]
    have : zbE E S e.1 = false := by unfold zbE; simp [h1]
    rw [this, Bool.false_or]
  · rw [zb5 h1]
    by_cases h2 : up e.1 ∈ S
    · rw [KH h2, hnx]
      have : zbE E S e.1 = false := by unfold zbE; simp [h2]
      rw [this, Bool.false_or]
    · rw [zb5 h2]
      have : zbE E S e.1 = true := by unfold zbE; simp [h1, h2]
      rw [this, Bool.true_or]; rfl
theorem zAZ (m : Nat) {P : List Pt} {T : List Tr} {E S : List Pt} (hS : S.length ≤ 900) {K : List (Pt × Bool) → List (Pt × Bool) → Option Int} {e : Option Int} (hK : K (yes E) (yes S) = e) {F : (jO × List (Pt × Bool) × List (Pt × Bool) × List Pt × Int × Int) → ((jO × List (Pt × Bool) × List (Pt × Bool) × List Pt × Int × Int) → Option Int) → Option Int}
    (hF : ∀ (x35 : jO) x36 x37 x38 x39 x40 next34, F (x35, x36, x37, x38, x39, x40) next34 =
     bif decide (x40 < x39) then
      gd (inb x40 x38.length) <|
      zz (α := (jO × ((List ((Int × Int) × Bool)) × ((List ((Int × Int) × Bool)) × ((Int × Int) × ((List (Int × Int)) × (Int × (Int × Bool)))))))) (fun (y41, y42, y43, y44, y45, y46, y47, y48) =>
       bif y48 then
        some 2
       else
        gd (!(hsM (.pair (.int .i64) (.int .i64)) .bool y43 (y44.1, y44.2))) <|
        next34 ((y41.1, y41.2.1, y41.2.2), y42, adM (.pair (.int .i64) (.int .i64)) .bool y43 (y44.1, y44.2) true, y45, y46, w64 (y47 + 1))) fun j49 =>
      bif decide ((rdD (0, 0) x38 x40).1 ≥ (rdD (0, 0) x38 x40).2) then
       j49 ((x35.1, x35.2.1, x35.2.2), x36, x37, ((rdD (0, 0) x38 x40).1, (rdD (0, 0) x38 x40).2), x38, x39, x40, true)
      else
       bif decide (x40 > 0) then
        gd (inb (w64 (x40 - 1)) x35.2.2.length) <|
        bnd (QH (m + 1000) ((rdD (0, 0) x35.2.2 (w64 (x40 - 1))).1, (rdD (0, 0) x35.2.2 (w64 (x40 - 1))).2) ((rdD (0, 0) x38 x40).1, (rdD (0, 0) x38 x40).2)) fun r50 =>
        bif decide (r50 ≥ 0) then
         j49 ((x35.1, x35.2.1, x35.2.2), x36, x37, ((rdD (0, 0) x38 x40).1, (rdD (0, 0) x38 x40).2), x38, x39, x40, true)
        else
         bif !(toT Bool (lkM (.pair (.int .i64) (.int .i64)) .bool x36 ((rdD (0, 0) x38 x40).1, (rdD (0, 0) x38 x40).2))) then
          j49 ((x35.1, x35.2.1, x35.2.2), x36, x37, ((rdD (0, 0) x38 x40).1, (rdD (0, 0) x38 x40).2), x38, x39, x40, !(toT Bool (lkM (.pair (.int .i64) (.int .i64)) .bool x36 ((rdD (0, 0) x38 x40).2, (rdD (0, 0) x38 x40).1))))
         else
          j49 ((x35.1, x35.2.1, x35.2.2), x36, x37, ((rdD (0, 0) x38 x40).1, (rdD (0, 0) x38 x40).2), x38, x39, x40, false)
       else
        bif !(toT Bool (lkM (.pair (.int .i64) (.int .i64)) .bool x36 ((rdD (0, 0) x38 x40).1, (rdD (0, 0) x38 x40).2))) then
         j49 ((x35.1, x35.2.1, x35.2.2), x36, x37, ((rdD (0, 0) x38 x40).1, (rdD (0, 0) x38 x40).2), x38, x39, x40, !(toT Bool (lkM (.pair (.int .i64) (.int .i64)) .bool x36 ((rdD (0, 0) x38 x40).2, (rdD (0, 0) x38 x40).1))))
        else
         j49 ((x35.1, x35.2.1, x35.2.2), x36, x37, ((rdD (0, 0) x38 x40).1, (rdD (0, 0) x38 x40).2), x38, x39, x40, false)
     else K x36 x37) :
    zA F (m + 1000) ((P, T, S), yes E, [], S, (S.length : Int), 0) = bif (List.range S.length).any (X8 E S) then some 2 else e := by
  refine (ztW (fun i => (S.take i).Pairwise ltS) (fun i => ((P, T, S), yes E, yes (S.take i), S, (S.length : Int), (i : Int))) S.length (X8 E S) (some 2) e rfl (by simp) (fun hI next => ?_) (fun i hi hI => ?_) (m + 1000) (by omega))
  · rw [hF, zg (by omega), List.take_length]
    exact hK
  · have hS' : pt S (i : Int) = S[i] := ZS hi
    refine ⟨fun next => ?_, fun hb => ?_⟩
    · rw [hF, zl (by omega), z6 (zF ⟨by omega, by omega⟩)]
      have ep : ∀ i : Int, ((rdD (0, 0) S i).1, (rdD (0, 0) S i).2) = pt S i := fun _ => rfl
      have e0 : rdD (0, 0) S (i : Int) = pt S (i : Int) := rfl
      rw [e0]
      have k1 : toT Bool (lkM (.pair (.int .i64) (.int .i64)) .bool (yes E) ((pt S (i : Int)).1, (pt S (i : Int)).2)) = decide (pt S (i : Int) ∈ E) := zeR E (pt S (i : Int))
      have k2 : toT Bool (lkM (.pair (.int .i64) (.int .i64)) .bool (yes E) ((pt S (i : Int)).2, (pt S (i : Int)).1)) = decide (rv (pt S (i : Int)) ∈ E) := zeR E (rv (pt S (i : Int)))
      simp only [zz, k1, k2]
      rw [zo (x := (i : Int) + 1) (by omega) (by omega)]
      have hst : ¬ (X8 E S i = true) → gd (!(hsM (.pair (.int .i64) (.int .i64)) .bool (yes (S.take i)) (pt S (i : Int)))) (next ((P, T, S), yes E, adM (.pair (.int .i64) (.int .i64)) .bool (yes (S.take i)) (pt S (i : Int)) true, S, (S.length : Int), (i : Int) + 1)) = next ((P, T, S), yes E, yes (S.take (i + 1)), S, (S.length : Int), ((i + 1 : Nat) : Int)) := by
        intro hb
        have hno : pt S (i : Int) ∉ S.take i := by
          intro hm
          by_cases h0 : i = 0
          · subst h0; simp at hm
          · have hl : ltS (pt S ((i - 1 : Nat) : Int)) (pt S (i : Int)) := by
              apply Decidable.byContradiction
              intro hc
              apply hb
              unfold X8
              simp [show 0 < i by omega, hc]
            have hx : S.take i = S.take (i - 1) ++ [S[i - 1]] := by
              have := Xp S (i - 1) (by omega)
              rwa [show i - 1 + 1 = i by omega] at this
            rw [ZS (show i - 1 < S.length by omega)] at hl
            rw [hx] at hm hI
            rcases List.mem_append.1 hm with h | h
            · exact zlJ.irr _ (zlJ.tr ((List.pairwise_append.1 hI).2.2 _ h _ (by simp)) hl)
            · rw [List.mem_singleton.1 h] at hl; exact zlJ.irr _ hl
        have h1 : hsM (.pair (.int .i64) (.int .i64)) .bool (yes (S.take i)) (pt S (i : Int)) = false := (zqH _ _).trans (decide_eq_false hno)
        have h2 : adM (.pair (.int .i64) (.int .i64)) .bool (yes (S.take i)) (pt S (i : Int)) true = yes (S.take (i + 1)) := (zra _ _).trans (by rw [Xp S i hi, hS'])
        rw [h1, h2]; rfl
      by_cases h1 : (pt S (i : Int)).1 ≥ (pt S (i : Int)).2
      · rw [show X8 E S i = true by unfold X8; simp [h1]]
        rw [zl h1]; rfl
      rw [zg h1]
      have tail : (∀ (h : i = 0 ∨ ltS (pt S ((i - 1 : Nat) : Int)) (pt S (i : Int))), (bif !decide (pt S (i : Int) ∈ E) then (bif !decide (rv (pt S (i : Int)) ∈ E) then some 2 else gd (!(hsM (.pair (.int .i64) (.int .i64)) .bool (yes (S.take i)) (pt S (i : Int)))) (next ((P, T, S), yes E, adM (.pair (.int .i64) (.int .i64)) .bool (yes (S.take i)) (pt S (i : Int)) true, S, (S.length : Int), (i : Int) + 1))) else (bif false then some 2 else gd (!(hsM (.pair (.int .i64) (.int .i64)) .bool (yes (S.take i)) (pt S (i : Int)))) (next ((P, T, S), yes E, adM (.pair (.int .i64) (.int .i64)) .bool (yes (S.take i)) (pt S (i : Int)) true, S, (S.length : Int), (i : Int) + 1)))) = bif X8 E S i then some 2 else next ((P, T, S), yes E, yes (S.take (i + 1)), S, (S.length : Int), ((i + 1 : Nat) : Int))) := by
        intro hl
        have hl' : (decide (0 < i) && decide (¬ ltS (pt S ((i - 1 : Nat) : Int)) (pt S (i : Int)))) = false := by
          rcases hl with h | h
          · subst h; rfl
          · rw [decide_eq_false (not_not_intro h), Bool.and_false]
        by_cases h2 : pt S (i : Int) ∈ E
        · have : X8 E S i = false := by unfold X8; rw [hl']; simp [h1, h2]
          rw [KH h2, cF, this, cF]
          exact hst (by rw [this]; decide)
        · rw [zb5 h2]
          by_cases h3 : rv (pt S (i : Int)) ∈ E
          · have : X8 E S i = false := by unfold X8; rw [hl']; simp [h1, h3]
            rw [KH h3, this, cF]
            exact hst (by rw [this]; decide)
          · have : X8 E S i = true := by unfold X8; simp [h2, h3]
            rw [zb5 h3, this]; rfl
      by_cases h0 : i = 0
      · subst h0
        rw [zg (by omega)]
        exact tail (.inl rfl)
      · rw [zl (show (i : Int) > 0 by omega), zo (x := (i : Int) - 1) (by omega) (by omega), show (i : Int) - 1 = ((i - 1 : Nat) : Int) by omega, z6 (zF ⟨by omega, by omega⟩), ep, byS, zt]
        by_cases hl : ltS (pt S ((i - 1 : Nat) : Int)) (pt S (i : Int))
        · rw [zg (fun h => (zyC _ _).1 h hl)]
          exact tail (.inr hl)
        · rw [zl ((zyC _ _).2 hl)]
          have : X8 E S i = true := by unfold X8; simp [show 0 < i by omega, hl]
          rw [this]; rfl
    · rw [Xp S i hi, List.pairwise_append]
      refine ⟨hI, by simp, fun a ha b hb' => ?_⟩
      rw [List.mem_singleton.1 hb', ← hS']
      by_cases h0 : i = 0
      · subst h0; simp at ha
      · have hl : ltS (pt S ((i - 1 : Nat) : Int)) (pt S (i : Int)) := by
          apply Decidable.byContradiction
          intro hc
          have : X8 E S i = true := by unfold X8; simp [show 0 < i by omega, hc]
          rw [this] at hb; cases hb
        have hx : S.take i = S.take (i - 1) ++ [S[i - 1]] := by
          have := Xp S (i - 1) (by omega)
          rwa [show i - 1 + 1 = i by omega] at this
        rw [ZS (show i - 1 < S.length by omega)] at hl
        rw [hx] at ha hI
        rcases List.mem_append.1 ha with h | h
        · exact zlJ.tr ((List.pairwise_append.1 hI).2.2 _ h _ (by simp)) hl
        · rw [List.mem_singleton.1 h]; exact hl
theorem zAW (m : Nat) {M : jO} {T : List Tr} {n i : Int} (E0 : List Pt) (t : Tr) {N : jO → List (Pt × Bool) → List Tr → Int → Int → Option Int} {F : (jO × List (Pt × Bool) × List Tr × Int × Int × ((Pt × Pt × Pt) × Int)) → ((jO × List (Pt × Bool) × List Tr × Int × Int × ((Pt × Pt × Pt) × Int)) → Option Int) → Option Int}
    (hF : ∀ (x16 : jO) x17 x18 x19 x20 (x21 : Pt × Pt × Pt) x22 next15, F (x16, x17, x18, x19, x20, x21, x22) next15 =
       bif decide (x22 < 3) then
        zz (α := (jO × ((List ((Int × Int) × Bool)) × ((Int × Int) × ((List (Int × (Int × Int))) × (Int × (Int × (((Int × Int) × ((Int × Int) × (Int × Int))) × Int)))))))) (fun (y23, y24, y25, y26, y27, y28, y29, y30) =>
         bif toT Bool (lkM (.pair (.int .i64) (.int .i64)) .bool y24 (y25.1, y25.2)) then
          some 2
         else
          gd (!(hsM (.pair (.int .i64) (.int .i64)) .bool y24 (y25.1, y25.2))) <|
          next15 ((y23.1, y23.2.1, y23.2.2), adM (.pair (.int .i64) (.int .i64)) .bool y24 (y25.1, y25.2) true, y26, y27, y28, ((y29.1.1, y29.1.2), (y29.2.1.1, y29.2.1.2), y29.2.2.1, y29.2.2.2), w64 (y30 + 1))) fun j31 =>
        bif decide (x22 = 0) then
         j31 ((x16.1, x16.2.1, x16.2.2), x17, (x21.1.1, x21.1.2), x18, x19, x20, ((x21.1.1, x21.1.2), (x21.2.1.1, x21.2.1.2), x21.2.2.1, x21.2.2.2), x22)
        else
         bif decide (x22 = 1) then
          j31 ((x16.1, x16.2.1, x16.2.2), x17, (x21.2.1.1, x21.2.1.2), x18, x19, x20, ((x21.1.1, x21.1.2), (x21.2.1.1, x21.2.1.2), x21.2.2.1, x21.2.2.2), x22)
         else
          bif decide (x22 = 2) then
           j31 ((x16.1, x16.2.1, x16.2.2), x17, (x21.2.2.1, x21.2.2.2), x18, x19, x20, ((x21.1.1, x21.1.2), (x21.2.1.1, x21.2.1.2), x21.2.2.1, x21.2.2.2), x22)
          else
           none
       else N (x16.1, x16.2.1, x16.2.2) x17 x18 x19 x20) :
    zA F (m + 1000) (M, yes E0, T, n, i, ((t.1, t.2.1), (t.2.1, t.2.2), t.2.2, t.1), 0) = bif (List.range 3).any (fun j => decide (sd t j ∈ E0 ++ (qM t).take j)) then some 2 else N M (yes (E0 ++ qM t)) T n i := by
  refine Q8 (fun j => (M, yes (E0 ++ (qM t).take j), T, n, i, ((t.1, t.2.1), (t.2.1, t.2.2), t.2.2, t.1), (j : Int))) 3 (fun j => decide (sd t j ∈ E0 ++ (qM t).take j)) (some 2) _ ?_ (fun nx => ?_) (fun j hj nx => ?_) _ (by omega)
  · simp [qM]
  · rw [hF, zg (by omega)]
    rfl
  · rw [hF, zl (by omega)]
    simp only [zz]
    rw [zo (x := (j : Int) + 1) (by omega) (by omega)]
    have key : ∀ s, s = sd t j → (bif toT Bool (lkM (.pair (.int .i64) (.int .i64)) .bool (yes (E0 ++ (qM t).take j)) s) then some 2 else gd (!(hsM (.pair (.int .i64) (.int .i64)) .bool (yes (E0 ++ (qM t).take j)) s)) (nx (M, adM (.pair (.int .i64) (.int .i64)) .bool (yes (E0 ++ (qM t).take j)) s true, T, n, i, ((t.1, t.2.1), (t.2.1, t.2.2), t.2.2, t.1), (j : Int) + 1))) = bif decide (sd t j ∈ E0 ++ (qM t).take j) then some 2 else nx (M, yes (E0 ++ (qM t).take (j + 1)), T, n, i, ((t.1, t.2.1), (t.2.1, t.2.2), t.2.2, t.1), ((j + 1 : Nat) : Int)) := by
      rintro s rfl
      have h0 := zeR (E0 ++ (qM t).take j) (sd t j)
      have h1 := zqH (E0 ++ (qM t).take j) (sd t j)
      have h2 := zra (E0 ++ (qM t).take j) (sd t j)
      rw [show toT Bool (lkM (.pair (.int .i64) (.int .i64)) .bool (yes (E0 ++ (qM t).take j)) (sd t j)) = _ from h0, show hsM (.pair (.int .i64) (.int .i64)) .bool (yes (E0 ++ (qM t).take j)) (sd t j) = _ from h1, show adM (.pair (.int .i64) (.int .i64)) .bool (yes (E0 ++ (qM t).take j)) (sd t j) true = _ from h2, zqG _ j hj, List.append_assoc]
      by_cases h : sd t j ∈ E0 ++ (qM t).take j
      · rw [decide_eq_true h]; rfl
      · rw [decide_eq_false h]; rfl
    match j, hj with
    | 0, _ => exact key _ rfl
    | 1, _ => exact key _ rfl
    | 2, _ => exact key _ rfl
theorem zAS (m : Nat) {P : List Pt} {T : List Tr} {S : List Pt} (hp : P.length ≤ 200) (hT : T.length ≤ 900) {K : jO → List (Pt × Bool) → Option Int} {e : Option Int} (hK : K (P, T, S) (yes (Eo T T.length)) = e) {G : (jO × List (Pt × Bool) × List Tr × Int × Int → Option Int) → jO → List (Pt × Bool) → List Tr → Int → Int → Pt × Pt × Pt → Option Int}
    (hG : ∀ next (E0 : List Pt) (i : Int) (t : Tr), G next (P, T, S) (yes E0) T (T.length : Int) i ((t.1, t.2.1), (t.2.1, t.2.2), t.2.2, t.1) = bif (List.range 3).any (fun j => decide (sd t j ∈ E0 ++ (qM t).take j)) then some 2 else next ((P, T, S), yes (E0 ++ qM t), T, (T.length : Int), w64 (i + 1)))
    {F : (jO × List (Pt × Bool) × List Tr × Int × Int) → ((jO × List (Pt × Bool) × List Tr × Int × Int) → Option Int) → Option Int}
    (hF : ∀ (x1 : jO) x2 x3 x4 x5 next0, F (x1, x2, x3, x4, x5) next0 = bif decide (x5 < x4) then
    gd (inb x5 x3.length) <|
    bnd (Z3 (m + 1000) x1.1 (rdD (0, 0, 0) x3 x5).1 (rdD (0, 0, 0) x3 x5).2.1 (rdD (0, 0, 0) x3 x5).2.2) fun r6 =>
    zz (α := (jO × ((List ((Int × Int) × Bool)) × ((Int × (Int × Int)) × ((List (Int × (Int × Int))) × (Int × (Int × Bool))))))) (fun (y7, y8, y9, y10, y11, y12, y13) =>
     bif y13 then
      some 2
     else
      bnd (Ks (m + 1000) (y9.1, y9.2.1, y9.2.2)) fun r14 =>
      G next0 y7 y8 y10 y11 y12 r14) fun j32 =>
    bif !r6.2 then
     j32 ((x1.1, x1.2.1, x1.2.2), x2, ((rdD (0, 0, 0) x3 x5).1, (rdD (0, 0, 0) x3 x5).2.1, (rdD (0, 0, 0) x3 x5).2.2), x3, x4, x5, true)
    else
     bif !((decide (r6.1.1 = (rdD (0, 0, 0) x3 x5).1)) && ((decide (r6.1.2.1 = (rdD (0, 0, 0) x3 x5).2.1)) && (decide (r6.1.2.2 = (rdD (0, 0, 0) x3 x5).2.2)))) then
      j32 ((x1.1, x1.2.1, x1.2.2), x2, ((rdD (0, 0, 0) x3 x5).1, (rdD (0, 0, 0) x3 x5).2.1, (rdD (0, 0, 0) x3 x5).2.2), x3, x4, x5, true)
     else
      bif decide (x5 > 0) then
       gd (inb (w64 (x5 - 1)) x1.2.1.length) <|
       bnd (Jj (m + 1000) ((rdD (0, 0, 0) x1.2.1 (w64 (x5 - 1))).1, (rdD (0, 0, 0) x1.2.1 (w64 (x5 - 1))).2.1, (rdD (0, 0, 0) x1.2.1 (w64 (x5 - 1))).2.2) ((rdD (0, 0, 0) x3 x5).1, (rdD (0, 0, 0) x3 x5).2.1, (rdD (0, 0, 0) x3 x5).2.2)) fun r33 =>
       j32 ((x1.1, x1.2.1, x1.2.2), x2, ((rdD (0, 0, 0) x3 x5).1, (rdD (0, 0, 0) x3 x5).2.1, (rdD (0, 0, 0) x3 x5).2.2), x3, x4, x5, decide (r33 ≥ 0))
      else
       j32 ((x1.1, x1.2.1, x1.2.2), x2, ((rdD (0, 0, 0) x3 x5).1, (rdD (0, 0, 0) x3 x5).2.1, (rdD (0, 0, 0) x3 x5).2.2), x3, x4, x5, false)
   else K x1 x2) :
    zA F (m + 1000) ((P, T, S), [], T, (T.length : Int), 0) = bif (List.range T.length).any (fun i => Ql P T i || zgg T i) then some 2 else e := by
  refine Q8 (fun i => ((P, T, S), yes (Eo T i), T, (T.length : Int), (i : Int))) T.length (fun i => Ql P T i || zgg T i) (some 2) e rfl (fun next => ?_) (fun i hi next => ?_) (m + 1000) (by omega)
  · rw [hF, zg (by omega)]
    exact hK
  · have ht : tt T (i : Int) = T[i] := zbx hi
    rw [hF, zl (by omega), z6 (zF ⟨by omega, by omega⟩)]
    have ep : ∀ i : Int, ((rdD (0, 0, 0) T i).1, (rdD (0, 0, 0) T i).2.1, (rdD (0, 0, 0) T i).2.2) = tt T i := fun _ => rfl
    have ep1 : ∀ i : Int, rdD (0, 0, 0) T i = tt T i := fun _ => rfl
    simp only [zz, ep, ep1, zyI m P _ _ _ (show P.length ≤ 1000 by omega), zt, zwU]
    have hL : G next (P, T, S) (yes (Eo T i)) T (T.length : Int) (i : Int) (((tt T (i : Int)).1, (tt T (i : Int)).2.1), ((tt T (i : Int)).2.1, (tt T (i : Int)).2.2), (tt T (i : Int)).2.2, (tt T (i : Int)).1) = bif zgg T i then some 2 else next ((P, T, S), yes (Eo T (i + 1)), T, (T.length : Int), ((i + 1 : Nat) : Int)) := by
      rw [hG, zxm hi, ← ht, zo (x := (i : Int) + 1) (by omega) (by omega)]
      rfl
    rw [hL]
    by_cases h1 : (ZE P (tt T i).1 (tt T i).2.1 (tt T i).2.2).2 = true
    · rw [h1]
      by_cases h2 : (ZE P (tt T i).1 (tt T i).2.1 (tt T i).2.2).1 = tt T i
      · rw [h2]
        have ef : decide (ZE P (tt T i).1 (tt T i).2.1 (tt T i).2.2 ≠ (tt T i, true)) = false := decide_eq_false (not_not_intro (Prod.ext h2 h1))
        simp only [decide_true, Bool.and_self, Bool.not_true, cF]
        by_cases h0 : i = 0
        · subst h0
          rw [zg (by omega)]
          have : Ql P T 0 = false := by unfold Ql; rw [ef]; rfl
          rw [this, Bool.false_or]
        · rw [zl (show (i : Int) > 0 by omega), zo (x := (i : Int) - 1) (by omega) (by omega), show (i : Int) - 1 = ((i - 1 : Nat) : Int) by omega, z6 (zF ⟨by omega, by omega⟩), byT, zt]
          by_cases hl : ltT (tt T ((i - 1 : Nat) : Int)) (tt T (i : Int))
          · rw [decide_eq_false (fun h => (zyJ _ _).1 h hl)]
            have : Ql P T i = false := by unfold Ql; rw [ef]; simp [hl]
            rw [this, Bool.false_or]; rfl
          · rw [decide_eq_true ((zyJ _ _).2 hl)]
            have : Ql P T i = true := by unfold Ql; simp [show 0 < i by omega, hl]
            rw [this]; rfl
      · have : Ql P T i = true := by unfold Ql; rw [decide_eq_true (show ZE P (tt T i).1 (tt T i).2.1 (tt T i).2.2 ≠ (tt T i, true) from fun h => h2 (congrArg Prod.fst h)), Bool.true_or]
        rw [this]
        have hne : ((decide ((ZE P (tt T i).1 (tt T i).2.1 (tt T i).2.2).1.1 = (tt T i).1)) && ((decide ((ZE P (tt T i).1 (tt T i).2.1 (tt T i).2.2).1.2.1 = (tt T i).2.1)) && (decide ((ZE P (tt T i).1 (tt T i).2.1 (tt T i).2.2).1.2.2 = (tt T i).2.2)))) = false := by
          rw [Bool.eq_false_iff]
          intro h
          simp only [Bool.and_eq_true, decide_eq_true_eq] at h
          exact h2 (Prod.ext h.1 (Prod.ext h.2.1 h.2.2))
        rw [hne]; rfl
    · have h1' : (ZE P (tt T i).1 (tt T i).2.1 (tt T i).2.2).2 = false := by simpa using h1
      have : Ql P T i = true := by unfold Ql; rw [decide_eq_true (show ZE P (tt T i).1 (tt T i).2.1 (tt T i).2.2 ≠ (tt T i, true) from fun h => h1 (congrArg Prod.snd h)), Bool.true_or]
      rw [h1', this]; rfl
theorem zpI (m : Nat) (M : jO) (hp : M.1.length ≤ 200) (hT : M.2.1.length ≤ 200) (hS : M.2.2.length ≤ 200) : QI (m + 1000) M = some (zqw M) := by
  obtain ⟨P, T, S⟩ := M
  dsimp only at hp hT hS
  unfold QI zdR
  have ev : zqw (P, T, S) = bif (List.range T.length).any (fun i => Ql P T i || zgg T i) then 2 else bif (List.range S.length).any (X8 (Eo T T.length) S) then 2 else bif (Eo T T.length).any (zbE (Eo T T.length) S) then 2 else 0 := rfl
  rw [ev]
  show zA _ (m + 1000) ((P, T, S), [], T, (T.length : Int), 0) = _
  generalize hE : Eo T T.length = E
  have hEl : E.length ≤ 600 := by
    rw [← hE]
    have : ∀ l : List Tr, (l.flatMap qM).length = 3 * l.length := by
      intro l
      induction l with
      | nil => rfl
      | cons t l ih => rw [List.flatMap_cons, List.length_append, ih]; show 3 + _ = _; rw [List.length_cons]; omega
    unfold Eo
    rw [List.take_length, this]
    omega
  refine Eq.trans (zAS m (P := P) (T := T) (S := S) (e := bif (List.range S.length).any (X8 E S) then some 2 else some (bif E.any (zbE E S) then 2 else 0)) (K := fun x1 x2 =>
          zA (α := (((List (Int × Int)) × ((List (Int × (Int × Int))) × (List (Int × Int)))) × ((List ((Int × Int) × Bool)) × ((List ((Int × Int) × Bool)) × ((List (Int × Int)) × (Int × Int)))))) (fun (x35, x36, x37, x38, x39, x40) next34 =>
           bif decide (x40 < x39) then
            gd (inb x40 x38.length) <|
            zz (α := (((List (Int × Int)) × ((List (Int × (Int × Int))) × (List (Int × Int)))) × ((List ((Int × Int) × Bool)) × ((List ((Int × Int) × Bool)) × ((Int × Int) × ((List (Int × Int)) × (Int × (Int × Bool)))))))) (fun (y41, y42, y43, y44, y45, y46, y47, y48) =>
             bif y48 then
              some 2
             else
              gd (!(hsM (.pair (.int .i64) (.int .i64)) .bool y43 (y44.1, y44.2))) <|
              next34 ((y41.1, y41.2.1, y41.2.2), y42, adM (.pair (.int .i64) (.int .i64)) .bool y43 (y44.1, y44.2) true, y45, y46, w64 (y47 + 1))) fun j49 =>
            bif decide ((rdD (0, 0) x38 x40).1 ≥ (rdD (0, 0) x38 x40).2) then
             j49 ((x35.1, x35.2.1, x35.2.2), x36, x37, ((rdD (0, 0) x38 x40).1, (rdD (0, 0) x38 x40).2), x38, x39, x40, true)
            else
             bif decide (x40 > 0) then
              gd (inb (w64 (x40 - 1)) x35.2.2.length) <|
              bnd (QH (m + 1000) ((rdD (0, 0) x35.2.2 (w64 (x40 - 1))).1, (rdD (0, 0) x35.2.2 (w64 (x40 - 1))).2) ((rdD (0, 0) x38 x40).1, (rdD (0, 0) x38 x40).2)) fun r50 =>
              bif decide (r50 ≥ 0) then
               j49 ((x35.1, x35.2.1, x35.2.2), x36, x37, ((rdD (0, 0) x38 x40).1, (rdD (0, 0) x38 x40).2), x38, x39, x40, true)
              else
               bif !(toT Bool (lkM (.pair (.int .i64) (.int .i64)) .bool x36 ((rdD (0, 0) x38 x40).1, (rdD (0, 0) x38 x40).2))) then
                j49 ((x35.1, x35.2.1, x35.2.2), x36, x37, ((rdD (0, 0) x38 x40).1, (rdD (0, 0) x38 x40).2), x38, x39, x40, !(toT Bool (lkM (.pair (.int .i64) (.int .i64)) .bool x36 ((rdD (0, 0) x38 x40).2, (rdD (0, 0) x38 x40).1))))
               else
                j49 ((x35.1, x35.2.1, x35.2.2), x36, x37, ((rdD (0, 0) x38 x40).1, (rdD (0, 0) x38 x40).2), x38, x39, x40, false)
             else
              bif !(toT Bool (lkM (.pair (.int .i64) (.int .i64)) .bool x36 ((rdD (0, 0) x38 x40).1, (rdD (0, 0) x38 x40).2))) then
               j49 ((x35.1, x35.2.1, x35.2.2), x36, x37, ((rdD (0, 0) x38 x40).1, (rdD (0, 0) x38 x40).2), x38, x39, x40, !(toT Bool (lkM (.pair (.int .i64) (.int .i64)) .bool x36 ((rdD (0, 0) x38 x40).2, (rdD (0, 0) x38 x40).1))))
              else
               j49 ((x35.1, x35.2.1, x35.2.2), x36, x37, ((rdD (0, 0) x38 x40).1, (rdD (0, 0) x38 x40).2), x38, x39, x40, false)
           else
            zA (α := ((List ((Int × Int) × Bool)) × ((List ((Int × Int) × Bool)) × (List ((Int × Int) × Bool))))) (fun (x52, x53, x54) next51 =>
             nxt x54 (
              some 0) (fun (e56, e57) r55 =>
              zz (α := ((List ((Int × Int) × Bool)) × ((List ((Int × Int) × Bool)) × ((List ((Int × Int) × Bool)) × Bool)))) (fun (y58, y59, y60, y61) =>
               bif y61 then
                some 2
               else
                next51 (y58, y59, y60)) fun j62 =>
              bif !(toT Bool (lkM (.pair (.int .i64) (.int .i64)) .bool x52 (e56.2, e56.1))) then
               bnd (JA (m + 1000) (e56.1, e56.2)) fun r63 =>
               j62 (x52, x53, r55, !(toT Bool (lkM (.pair (.int .i64) (.int .i64)) .bool x53 (r63.1, r63.2))))
              else
               j62 (x52, x53, r55, false))) (m + 1000) (x36, x37, x36)) (m + 1000) ((x1.1, x1.2.1, x1.2.2), x2, [], x1.2.2, (x1.2.2.length : Int), 0)) (G := fun next0 y7 y8 y10 y11 y12 r14 =>
            zA (α := (((List (Int × Int)) × ((List (Int × (Int × Int))) × (List (Int × Int)))) × ((List ((Int × Int) × Bool)) × ((List (Int × (Int × Int))) × (Int × (Int × (((Int × Int) × ((Int × Int) × (Int × Int))) × Int))))))) (fun (x16, x17, x18, x19, x20, x21, x22) next15 =>
             bif decide (x22 < 3) then
              zz (α := (((List (Int × Int)) × ((List (Int × (Int × Int))) × (List (Int × Int)))) × ((List ((Int × Int) × Bool)) × ((Int × Int) × ((List (Int × (Int × Int))) × (Int × (Int × (((Int × Int) × ((Int × Int) × (Int × Int))) × Int)))))))) (fun (y23, y24, y25, y26, y27, y28, y29, y30) =>
               bif toT Bool (lkM (.pair (.int .i64) (.int .i64)) .bool y24 (y25.1, y25.2)) then
                some 2
               else
                gd (!(hsM (.pair (.int .i64) (.int .i64)) .bool y24 (y25.1, y25.2))) <|
                next15 ((y23.1, y23.2.1, y23.2.2), adM (.pair (.int .i64) (.int .i64)) .bool y24 (y25.1, y25.2) true, y26, y27, y28, ((y29.1.1, y29.1.2), (y29.2.1.1, y29.2.1.2), y29.2.2.1, y29.2.2.2), w64 (y30 + 1))) fun j31 =>
              bif decide (x22 = 0) then
               j31 ((x16.1, x16.2.1, x16.2.2), x17, (x21.1.1, x21.1.2), x18, x19, x20, ((x21.1.1, x21.1.2), (x21.2.1.1, x21.2.1.2), x21.2.2.1, x21.2.2.2), x22)
              else
               bif decide (x22 = 1) then
                j31 ((x16.1, x16.2.1, x16.2.2), x17, (x21.2.1.1, x21.2.1.2), x18, x19, x20, ((x21.1.1, x21.1.2), (x21.2.1.1, x21.2.1.2), x21.2.2.1, x21.2.2.2), x22)
               else
                bif decide (x22 = 2) then
                 j31 ((x16.1, x16.2.1, x16.2.2), x17, (x21.2.2.1, x21.2.2.2), x18, x19, x20, ((x21.1.1, x21.1.2), (x21.2.1.1, x21.2.1.2), x21.2.2.1, x21.2.2.2), x22)
                else
                 none
             else
              next0 ((x16.1, x16.2.1, x16.2.2), x17, x18, x19, w64 (x20 + 1))) (m + 1000) ((y7.1, y7.2.1, y7.2.2), y8, y10, y11, y12, ((r14.1.1, r14.1.2), (r14.2.1.1, r14.2.1.2), r14.2.2.1, r14.2.2.2), 0)) hp (by omega) ?hK ?hG (fun _ _ _ _ _ _ => rfl)) ?_
  case hK =>
    rw [hE]
    refine zAZ m (P := P) (T := T) (E := E) (S := S) (by omega) ?_ (fun _ _ _ _ _ _ _ => rfl)
    exact zAR m (by omega) (fun _ _ _ _ => rfl)
  case hG =>
    intro next E0 i t
    exact zAW m E0 t (N := fun a b c d e => next (a, b, c, d, w64 (e + 1))) (fun _ _ _ _ _ _ _ _ => rfl)
  cases (List.range T.length).any (fun i => Ql P T i || zgg T i) <;> cases (List.range S.length).any (X8 E S) <;> rfl
end Go.Proofs.YtpkkcjmblocjdaaGreat.Pure
end
section
namespace Go.Proofs.YtpkkcjmblocjdaaGreat.Pure
open Go.RowKit Go.Proofs.YtpkkcjmblocjdaaGreat.AM PL
def lfB (T:List Tr) (s:Pt):Nat→Nat→Bool:=fun _ k=>decide (s∈qM (tt T (k:Int)))
def opI:Option Nat→Int
 |some k=>(k:Int)
 |none=>-1
def Jd (T:List Tr) (s:Pt):Int:=opI (row (lfB T s) T.length 0 0)
theorem Xr (t:Tr) (s:Pt):s∈qM t↔sd t 0=s∨sd t 1=s∨sd t 2=s:=by
 unfold qM sd
 simp only [List.mem_cons,List.not_mem_nil,or_false]
 constructor
 ·rintro (h|h|h)
  ·exact .inl h.symm
  ·exact .inr (.inl h.symm)
  ·exact .inr (.inr h.symm)
 ·rintro (h|h|h)
  ·exact .inl h.symm
  ·exact .inr (.inl h.symm)
  ·exact .inr (.inr h.symm)
theorem zmI (t:Tr) {j:Nat} (h:j<3):rdD (0,0) (qM t) (j:Int)=sd t j:=by
 match j,h with
 |0,_=>rfl
 |1,_=>rfl
 |2,_=>rfl
theorem zzi (b:Nat→Bool):(List.range 3).any b=(b 0||(b 1||b 2)):=by
 show (b 0||(b 1||(b 2||false)))=_
 rw [Bool.or_false]
theorem zox (m:Nat) (T:List Tr) (a b:Int) (hT:T.length≤900):qd (m+1000) T a b=some (Jd T (a,b)):=by
 unfold qd Kz Jd
 refine zG (fun i=>(T,a,b,(i:Int))) T.length (fun i=>some (opI (row (lfB T (a,b)) T.length 0 i))) (fun next=>?_) (fun i hi next hn=>?_) (m+1000) 0 (by omega) (by omega)
 ·dsimp only
  rw [zg (by omega),Jp];rfl
 ·have ht:tt T (i:Int)=T[i]:=zbx hi
  dsimp only
  rw [zl (by omega),z6 (zF ⟨by omega,by omega⟩)]
  have es:qN (m+1000) ((rdD (0,0,0) T (i:Int)).1,(rdD (0,0,0) T (i:Int)).2.1,(rdD (0,0,0) T (i:Int)).2.2)=some (qM (tt T (i:Int))):=rfl
  rw [es,zt,Qb _ hi]
  refine (Q8 (fun j=>(T,a,b,(i:Int),qM (tt T (i:Int)),(j:Int))) 3 (fun j=>decide (sd (tt T (i:Int)) j=(a,b))) (some (i:Int)) (next (T,a,b,((i+1:Nat):Int))) rfl (fun nx=>?_) (fun j hj nx=>?_) (m+1000) (by omega)).trans ?_
  ·dsimp only
   rw [zg (by omega),zo (x:=(i:Int)+1) (by omega) (by omega)]
   rfl
  ·dsimp only
   have hin:inb (j:Int) (qM (tt T (i:Int))).length=true:=zF ⟨by omega,by show (j:Int)<3;omega⟩
   simp only [zz,hin,gT,zmI _ hj]
   rw [zl (by omega),zo (x:=(j:Int)+1) (by omega) (by omega)]
   by_cases h1:(sd (tt T (i:Int)) j).1=a
   ·rw [zl h1]
    by_cases h2:(sd (tt T (i:Int)) j).2=b
    ·rw [decide_eq_true h2,decide_eq_true (show sd (tt T (i:Int)) j=(a,b) from Prod.ext h1 h2)];rfl
    ·rw [decide_eq_false h2,decide_eq_false (show ¬sd (tt T (i:Int)) j=(a,b) from fun h=>h2 (congrArg Prod.snd h))];rfl
   ·rw [zg h1,decide_eq_false (show ¬sd (tt T (i:Int)) j=(a,b) from fun h=>h1 (congrArg Prod.fst h))];rfl
  ·rw [zzi]
   by_cases h:(a,b)∈qM (tt T (i:Int))
   ·have hb:lfB T (a,b) 0 i=true:=decide_eq_true h
    have:(decide (sd (tt T (i:Int)) 0=(a,b))||(decide (sd (tt T (i:Int)) 1=(a,b))||decide (sd (tt T (i:Int)) 2=(a,b))))=true:=by
     simpa using (Xr _ _).1 h
    rw [hb,this];rfl
   ·have hb:lfB T (a,b) 0 i=false:=decide_eq_false h
    have:(decide (sd (tt T (i:Int)) 0=(a,b))||(decide (sd (tt T (i:Int)) 1=(a,b))||decide (sd (tt T (i:Int)) 2=(a,b))))=false:=by
     rw [Bool.eq_false_iff]
     intro h'
     exact h ((Xr _ _).2 (by simpa using h'))
    rw [hb,this,cF]
    exact hn
def zu2 (l:List Pt) (a b:Int):Bool:=l.any fun s=>decide ((s.1=a∧s.2=b)∨(s.1=b∧s.2=a))
theorem zi8 {α:Type} (d:α) (l:List α) (b:α→Bool):(List.range l.length).any (fun i=>b (rdD d l (i:Int)))=l.any b:=by
 rw [Bool.eq_iff_iff,List.any_eq_true,List.any_eq_true]
 constructor
 ·rintro ⟨i,hi,h⟩
  rw [List.mem_range] at hi
  rw [z7 d l i hi] at h
  exact ⟨_,List.getElem_mem hi,h⟩
 ·rintro ⟨x,hx,h⟩
  obtain ⟨i,hi,rfl⟩:=List.getElem_of_mem hx
  refine ⟨i,List.mem_range.2 hi,?_⟩
  rw [z7 d l i hi]
  exact h
theorem zyD (m:Nat) (l:List Pt) (a b:Int) (hl:l.length≤900):qP (m+1000) l a b=some (zu2 l a b):=by
 unfold qP
 refine (Q8 (fun i=>(l,a,b,(i:Int))) l.length (fun i=>decide (((rdD (0,0) l (i:Int)).1=a∧(rdD (0,0) l (i:Int)).2=b)∨((rdD (0,0) l (i:Int)).1=b∧(rdD (0,0) l (i:Int)).2=a))) (some true) (some false) rfl (fun nx=>?_) (fun i hi nx=>?_) (m+1000) (by omega)).trans ?_
 ·dsimp only
  rw [zg (by omega)]
 ·dsimp only
  have hin:inb (i:Int) l.length=true:=zF ⟨by omega,by omega⟩
  simp only [zz,hin,gT]
  rw [zl (by omega),zo (x:=(i:Int)+1) (by omega) (by omega)]
  generalize rdD (0,0) l (i:Int)=s
  have no:¬(s.1=b∧s.2=a)→¬(s.1=a∧s.2=b)→decide ((s.1=a∧s.2=b)∨(s.1=b∧s.2=a))=false:=fun h1 h2=>decide_eq_false (fun h=>h.elim h2 h1)
  by_cases h1:s.1=a
  ·rw [zl h1]
   by_cases h2:s.2=b
   ·rw [zl h2,decide_eq_true (show (s.1=a∧s.2=b)∨(s.1=b∧s.2=a) from .inl ⟨h1,h2⟩)];rfl
   ·rw [zg h2]
    by_cases h3:s.1=b
    ·rw [zl h3]
     by_cases h4:s.2=a
     ·rw [decide_eq_true h4,decide_eq_true (show (s.1=a∧s.2=b)∨(s.1=b∧s.2=a) from .inr ⟨h3,h4⟩)];rfl
     ·rw [decide_eq_false h4,no (fun h=>h4 h.2) (fun h=>h2 h.2)];rfl
    ·rw [zg h3,no (fun h=>h3 h.1) (fun h=>h2 h.2)];rfl
  ·rw [zg h1]
   by_cases h3:s.1=b
   ·rw [zl h3]
    by_cases h4:s.2=a
    ·rw [decide_eq_true h4,decide_eq_true (show (s.1=a∧s.2=b)∨(s.1=b∧s.2=a) from .inr ⟨h3,h4⟩)];rfl
    ·rw [decide_eq_false h4,no (fun h=>h4 h.2) (fun h=>h1 h.1)];rfl
   ·rw [zg h3,no (fun h=>h3 h.1) (fun h=>h1 h.1)];rfl
 ·rw [zi8 (0,0) l fun s=>decide ((s.1=a∧s.2=b)∨(s.1=b∧s.2=a))]
  show _=some (l.any _)
  cases l.any fun s=>decide ((s.1=a∧s.2=b)∨(s.1=b∧s.2=a))<;>rfl
end Go.Proofs.YtpkkcjmblocjdaaGreat.Pure
end
section
namespace Go.Proofs.YtpkkcjmblocjdaaGreat.Pure
open Go.RowKit Go.Proofs.YtpkkcjmblocjdaaGreat.AM PL
def zbo (T:List Tr) (S:List Pt) (i:Int) (t:Tr) (j:Nat):Bool:=decide (Jd T (sd t j)≠i)||(decide (Jd T (rv (sd t j))<0)&&!zu2 S (sd t j).1 (sd t j).2)
def Jt (T:List Tr) (S:List Pt) (i:Nat):Bool:=decide ((pt S i).1≥(pt S i).2)||((decide (0<i)&&decide (¬ltS (pt S (i-1:Nat)) (pt S i)))||(decide (Jd T (pt S i)<0)&&decide (Jd T (rv (pt S i))<0)))
def zrx (m:jO):Int :=
 bif (List.range m.2.1.length).any (fun i=>Ql m.1 m.2.1 i||(List.range 3).any (zbo m.2.1 m.2.2 (i:Int) (tt m.2.1 i))) then 2
 else bif (List.range m.2.2.length).any (Jt m.2.1 m.2.2) then 2 else 0
theorem zAL (m : Nat) {P : List Pt} {T : List Tr} {S : List Pt} (hT : T.length ≤ 900) (hS : S.length ≤ 900) (i : Int) (t : Tr) {N : jO → Int → Option Int} {F : (jO × Int × List Pt × Int) → ((jO × Int × List Pt × Int) → Option Int) → Option Int}
    (hF : ∀ (x10 : jO) x11 x12 x13 next9, F (x10, x11, x12, x13) next9 =
       bif decide (x13 < 3) then
        gd (inb x13 x12.length) <|
        gd (inb x13 x12.length) <|
        bnd (qd (m + 1000) x10.2.1 (rdD (0, 0) x12 x13).1 (rdD (0, 0) x12 x13).2) fun r14 =>
        bif !(decide (r14 = x11)) then
         some 2
        else
         zz (α := (((List (Int × Int)) × ((List (Int × (Int × Int))) × (List (Int × Int)))) × (Int × ((List (Int × Int)) × (Int × Bool))))) (fun (y15, y16, y17, y18, y19) =>
          bif y19 then
           some 2
          else
           next9 ((y15.1, y15.2.1, y15.2.2), y16, y17, w64 (y18 + 1))) fun j20 =>
         gd (inb x13 x12.length) <|
         gd (inb x13 x12.length) <|
         bnd (qd (m + 1000) x10.2.1 (rdD (0, 0) x12 x13).2 (rdD (0, 0) x12 x13).1) fun r21 =>
         bif decide (r21 < 0) then
          gd (inb x13 x12.length) <|
          gd (inb x13 x12.length) <|
          bnd (qP (m + 1000) x10.2.2 (rdD (0, 0) x12 x13).1 (rdD (0, 0) x12 x13).2) fun r22 =>
          j20 ((x10.1, x10.2.1, x10.2.2), x11, x12, x13, !r22)
         else
          j20 ((x10.1, x10.2.1, x10.2.2), x11, x12, x13, false)
       else N (x10.1, x10.2.1, x10.2.2) x11) :
    zA F (m + 1000) ((P, T, S), i, qM t, 0) = bif (List.range 3).any (zbo T S i t) then some 2 else N (P, T, S) i := by
  refine Q8 (fun j => ((P, T, S), i, qM t, (j : Int))) 3 (zbo T S i t) (some 2) _ rfl (fun nx => ?_) (fun j hj nx => ?_) _ (by omega)
  · rw [hF, zg (by omega)]
  · have hin : inb (j : Int) (qM t).length = true := zF ⟨by omega, by show (j : Int) < 3; omega⟩
    rw [hF, zl (by omega)]
    simp only [zz, hin, gT, zmI _ hj, zox m T _ _ hT, zyD m S _ _ hS, zt]
    rw [zo (x := (j : Int) + 1) (by omega) (by omega)]
    have e1 : Jd T ((sd t j).1, (sd t j).2) = Jd T (sd t j) := rfl
    have e2 : Jd T ((sd t j).2, (sd t j).1) = Jd T (rv (sd t j)) := rfl
    rw [e1, e2]
    by_cases h1 : Jd T (sd t j) = i
    · rw [KH h1]
      by_cases h2 : Jd T (rv (sd t j)) < 0
      · rw [zl h2]
        have : zbo T S i t j = !zu2 S (sd t j).1 (sd t j).2 := by unfold zbo; simp [h1, h2]
        rw [this]
        rfl
      · rw [zg h2, cF]
        have : zbo T S i t j = false := by unfold zbo; simp [h1, h2]
        rw [this]
        rfl
    · rw [zb5 h1]
      have : zbo T S i t j = true := by unfold zbo; simp [h1]
      rw [this]
      rfl
theorem zAJ (m : Nat) {P : List Pt} {T : List Tr} {S : List Pt} (hT : T.length ≤ 900) (hS : S.length ≤ 900) {F : (jO × Int) → ((jO × Int) → Option Int) → Option Int}
    (hF : ∀ (x26 : jO) x27 next25, F (x26, x27) next25 =
     bif decide (x27 < (x26.2.2.length : Int)) then
      gd (inb x27 x26.2.2.length) <|
      zz (α := (((List (Int × Int)) × ((List (Int × (Int × Int))) × (List (Int × Int)))) × (Int × ((Int × Int) × Bool)))) (fun (y28, y29, y30, y31) =>
       bif y31 then
        some 2
       else
        zz (α := (((List (Int × Int)) × ((List (Int × (Int × Int))) × (List (Int × Int)))) × (Int × Bool))) (fun (y32, y33, y34) =>
         bif y34 then
          some 2
         else
          next25 ((y32.1, y32.2.1, y32.2.2), w64 (y33 + 1))) fun j35 =>
        bnd (qd (m + 1000) y28.2.1 y30.1 y30.2) fun r36 =>
        bif decide (r36 < 0) then
         bnd (qd (m + 1000) y28.2.1 y30.2 y30.1) fun r37 =>
         j35 ((y28.1, y28.2.1, y28.2.2), y29, decide (r37 < 0))
        else
         j35 ((y28.1, y28.2.1, y28.2.2), y29, false)) fun j38 =>
      bif decide ((rdD (0, 0) x26.2.2 x27).1 ≥ (rdD (0, 0) x26.2.2 x27).2) then
       j38 ((x26.1, x26.2.1, x26.2.2), x27, ((rdD (0, 0) x26.2.2 x27).1, (rdD (0, 0) x26.2.2 x27).2), true)
      else
       bif decide (x27 > 0) then
        gd (inb (w64 (x27 - 1)) x26.2.2.length) <|
        bif decide ((rdD (0, 0) x26.2.2 (w64 (x27 - 1))).1 > (rdD (0, 0) x26.2.2 x27).1) then
         j38 ((x26.1, x26.2.1, x26.2.2), x27, ((rdD (0, 0) x26.2.2 x27).1, (rdD (0, 0) x26.2.2 x27).2), true)
        else
         gd (inb (w64 (x27 - 1)) x26.2.2.length) <|
         bif decide ((rdD (0, 0) x26.2.2 (w64 (x27 - 1))).1 = (rdD (0, 0) x26.2.2 x27).1) then
          gd (inb (w64 (x27 - 1)) x26.2.2.length) <|
          j38 ((x26.1, x26.2.1, x26.2.2), x27, ((rdD (0, 0) x26.2.2 x27).1, (rdD (0, 0) x26.2.2 x27).2), decide ((rdD (0, 0) x26.2.2 (w64 (x27 - 1))).2 ≥ (rdD (0, 0) x26.2.2 x27).2))
         else
          j38 ((x26.1, x26.2.1, x26.2.2), x27, ((rdD (0, 0) x26.2.2 x27).1, (rdD (0, 0) x26.2.2 x27).2), false)
       else
        j38 ((x26.1, x26.2.1, x26.2.2), x27, ((rdD (0, 0) x26.2.2 x27).1, (rdD (0, 0) x26.2.2 x27).2), false)
     else some 0) :
    zA F (m + 1000) ((P, T, S), 0) = some (bif (List.range S.length).any (Jt T S) then 2 else 0) := by
  refine (Q8 (fun i => ((P, T, S), (i : Int))) S.length (Jt T S) (some 2) (some 0) rfl (fun nx => ?_) (fun i hi nx => ?_) _ (by omega)).trans (by cases (List.range S.length).any (Jt T S) <;> rfl)
  · rw [hF, zg (by show ¬ (S.length : Int) < (S.length : Int); omega)]
  · have hin : inb (i : Int) S.length = true := zF ⟨by omega, by omega⟩
    rw [hF, zl (by show (i : Int) < (S.length : Int); omega)]
    have e0 : rdD (0, 0) S (i : Int) = pt S (i : Int) := rfl
    simp only [zz, hin, gT, e0, zox m T _ _ hT, zt]
    rw [zo (x := (i : Int) + 1) (by omega) (by omega)]
    have e1 : Jd T ((pt S (i : Int)).1, (pt S (i : Int)).2) = Jd T (pt S (i : Int)) := rfl
    have e2 : Jd T ((pt S (i : Int)).2, (pt S (i : Int)).1) = Jd T (rv (pt S (i : Int))) := rfl
    simp only [e1, e2]
    by_cases h1 : (pt S (i : Int)).1 ≥ (pt S (i : Int)).2
    · have : Jt T S i = true := by unfold Jt; simp [h1]
      rw [zl h1, this]; rfl
    rw [zg h1]
    have tail : (i = 0 ∨ ltS (pt S ((i - 1 : Nat) : Int)) (pt S (i : Int))) → ∀ A : Option Int, (bif decide (Jd T (pt S (i : Int)) < 0) then (bif decide (Jd T (rv (pt S (i : Int))) < 0) then some 2 else A) else (bif false then some 2 else A)) = bif Jt T S i then some 2 else A := by
      intro hl A
      have hl' : (decide (0 < i) && decide (¬ ltS (pt S ((i - 1 : Nat) : Int)) (pt S (i : Int)))) = false := by
        rcases hl with h | h
        · subst h; rfl
        · simp [h]
      by_cases h2 : Jd T (pt S (i : Int)) < 0
      · by_cases h3 : Jd T (rv (pt S (i : Int))) < 0
        · have : Jt T S i = true := by unfold Jt; simp [h2, h3]
          rw [zl h2, zl h3, this]; rfl
        · have : Jt T S i = false := by unfold Jt; rw [hl']; simp [h1, h3]
          rw [zl h2, zg h3, this]; rfl
      · have : Jt T S i = false := by unfold Jt; rw [hl']; simp [h1, h2]
        rw [zg h2, this]
    by_cases h0 : i = 0
    · subst h0
      rw [zg (by omega), cF]
      exact tail (.inl rfl) _
    · have hin2 : inb ((i - 1 : Nat) : Int) S.length = true := zF ⟨by omega, by omega⟩
      have e3 : ∀ j : Int, rdD (0, 0) S j = pt S j := fun _ => rfl
      rw [zl (show (i : Int) > 0 by omega), zo (x := (i : Int) - 1) (by omega) (by omega), show (i : Int) - 1 = ((i - 1 : Nat) : Int) by omega]
      simp only [hin2, gT, e3]
      have bad : ¬ ltS (pt S ((i - 1 : Nat) : Int)) (pt S (i : Int)) → Jt T S i = true := fun h => by unfold Jt; simp [show 0 < i by omega, h]
      by_cases c1 : (pt S ((i - 1 : Nat) : Int)).1 > (pt S (i : Int)).1
      · rw [zl c1, bad (by unfold ltS; omega)]; rfl
      · rw [zg c1]
        by_cases c2 : (pt S ((i - 1 : Nat) : Int)).1 = (pt S (i : Int)).1
        · rw [zl c2]
          by_cases c3 : (pt S ((i - 1 : Nat) : Int)).2 ≥ (pt S (i : Int)).2
          · rw [decide_eq_true c3, bad (by unfold ltS; omega)]; rfl
          · rw [decide_eq_false c3, cF]
            exact tail (.inr (by unfold ltS; omega)) _
        · rw [zg c2, cF]
          exact tail (.inr (by unfold ltS; omega)) _
theorem zz4 (m : Nat) {P : List Pt} {T : List Tr} {S : List Pt} (hp : P.length ≤ 200) (hT : T.length ≤ 900) {K : jO → Option Int} {e : Option Int} (hK : K (P, T, S) = e) {G : ((jO × Int) → Option Int) → jO → Int → Tr → List Pt → Option Int}
    (hG : ∀ next (i : Int) (t : Tr), G next (P, T, S) i t (qM t) = bif (List.range 3).any (zbo T S i t) then some 2 else next ((P, T, S), w64 (i + 1)))
    {F : (jO × Int) → ((jO × Int) → Option Int) → Option Int}
    (hF : ∀ (x1 : jO) x2 next0, F (x1, x2) next0 =
   bif decide (x2 < (x1.2.1.length : Int)) then
    gd (inb x2 x1.2.1.length) <|
    gd (inb x2 x1.2.1.length) <|
    gd (inb x2 x1.2.1.length) <|
    bnd (Zm (m + 1000) x1.1 (rdD (0, 0, 0) x1.2.1 x2).1 (rdD (0, 0, 0) x1.2.1 x2).2.1 (rdD (0, 0, 0) x1.2.1 x2).2.2) fun r3 =>
    zz (α := (((List (Int × Int)) × ((List (Int × (Int × Int))) × (List (Int × Int)))) × (Int × ((Int × (Int × Int)) × Bool)))) (fun (y4, y5, y6, y7) =>
     bif y7 then
      some 2
     else
      bnd (qN (m + 1000) (y6.1, y6.2.1, y6.2.2)) fun r8 =>
      G next0 y4 y5 y6 r8) fun j23 =>
    bif !r3.2 then
     j23 ((x1.1, x1.2.1, x1.2.2), x2, (r3.1.1, r3.1.2.1, r3.1.2.2), true)
    else
     gd (inb x2 x1.2.1.length) <|
     bif !((decide (r3.1.1 = (rdD (0, 0, 0) x1.2.1 x2).1)) && ((decide (r3.1.2.1 = (rdD (0, 0, 0) x1.2.1 x2).2.1)) && (decide (r3.1.2.2 = (rdD (0, 0, 0) x1.2.1 x2).2.2)))) then
      j23 ((x1.1, x1.2.1, x1.2.2), x2, (r3.1.1, r3.1.2.1, r3.1.2.2), true)
     else
      bif decide (x2 > 0) then
       gd (inb (w64 (x2 - 1)) x1.2.1.length) <|
       bnd (jd (m + 1000) ((rdD (0, 0, 0) x1.2.1 (w64 (x2 - 1))).1, (rdD (0, 0, 0) x1.2.1 (w64 (x2 - 1))).2.1, (rdD (0, 0, 0) x1.2.1 (w64 (x2 - 1))).2.2) (r3.1.1, r3.1.2.1, r3.1.2.2)) fun r24 =>
       j23 ((x1.1, x1.2.1, x1.2.2), x2, (r3.1.1, r3.1.2.1, r3.1.2.2), !r24)
      else
       j23 ((x1.1, x1.2.1, x1.2.2), x2, (r3.1.1, r3.1.2.1, r3.1.2.2), false)
   else K x1) :
    zA F (m + 1000) ((P, T, S), 0) = bif (List.range T.length).any (fun i => Ql P T i || (List.range 3).any (zbo T S (i : Int) (tt T i))) then some 2 else e := by
  refine Q8 (fun i => ((P, T, S), (i : Int))) T.length (fun i => Ql P T i || (List.range 3).any (zbo T S (i : Int) (tt T i))) (some 2) e rfl (fun next => ?_) (fun i hi next => ?_) (m + 1000) (by omega)
  · rw [hF, zg (by show ¬ (T.length : Int) < (T.length : Int); omega)]
    exact hK
  · have hin : inb (i : Int) T.length = true := zF ⟨by omega, by omega⟩
    rw [hF, zl (by show (i : Int) < (T.length : Int); omega)]
    have e0 : ∀ j : Int, rdD (0, 0, 0) T j = tt T j := fun _ => rfl
    have es : ∀ t : Tr, qN (m + 1000) (t.1, t.2.1, t.2.2) = some (qM t) := fun _ => rfl
    simp only [zz, hin, gT, e0, zy6 m P _ _ _ (show P.length ≤ 1000 by omega), zt, es, zvM]
    have hL : G next (P, T, S) (i : Int) (tt T (i : Int)) (qM (tt T (i : Int))) = bif (List.range 3).any (zbo T S (i : Int) (tt T i)) then some 2 else next ((P, T, S), ((i + 1 : Nat) : Int)) := by
      rw [hG, zo (x := (i : Int) + 1) (by omega) (by omega)]
      rfl
    by_cases h1 : (ZE P (tt T i).1 (tt T i).2.1 (tt T i).2.2).2 = true
    · rw [h1]
      by_cases h2 : (ZE P (tt T i).1 (tt T i).2.1 (tt T i).2.2).1 = tt T i
      · rw [h2]
        have ef : decide (ZE P (tt T i).1 (tt T i).2.1 (tt T i).2.2 ≠ (tt T i, true)) = false := decide_eq_false (not_not_intro (Prod.ext h2 h1))
        have eb : ((tt T (i : Int)).1, (tt T (i : Int)).2.1, (tt T (i : Int)).2.2) = tt T (i : Int) := rfl
        simp only [decide_true, Bool.and_self, Bool.not_true, cF, eb]
        rw [hL]
        by_cases h0 : i = 0
        · subst h0
          rw [zg (by omega)]
          have : Ql P T 0 = false := by unfold Ql; rw [ef]; rfl
          rw [this, Bool.false_or]
        · have hin2 : inb ((i - 1 : Nat) : Int) T.length = true := zF ⟨by omega, by omega⟩
          rw [zl (show (i : Int) > 0 by omega), zo (x := (i : Int) - 1) (by omega) (by omega), show (i : Int) - 1 = ((i - 1 : Nat) : Int) by omega, z6 hin2]
          by_cases hl : ltT (tt T ((i - 1 : Nat) : Int)) (tt T (i : Int))
          · have : Ql P T i = false := by unfold Ql; rw [ef]; simp [hl]
            rw [show (decide (ltT ((tt T ((i - 1 : Nat) : Int)).1, (tt T ((i - 1 : Nat) : Int)).2.1, (tt T ((i - 1 : Nat) : Int)).2.2) (tt T (i : Int)))) = true from decide_eq_true hl, this, Bool.false_or]; rfl
          · have : Ql P T i = true := by unfold Ql; simp [show 0 < i by omega, hl]
            rw [show (decide (ltT ((tt T ((i - 1 : Nat) : Int)).1, (tt T ((i - 1 : Nat) : Int)).2.1, (tt T ((i - 1 : Nat) : Int)).2.2) (tt T (i : Int)))) = false from decide_eq_false hl, this]; rfl
      · have : Ql P T i = true := by unfold Ql; rw [decide_eq_true (show ZE P (tt T i).1 (tt T i).2.1 (tt T i).2.2 ≠ (tt T i, true) from fun h => h2 (congrArg Prod.fst h)), Bool.true_or]
        rw [this]
        have hne : ((decide ((ZE P (tt T (i : Int)).1 (tt T (i : Int)).2.1 (tt T (i : Int)).2.2).1.1 = (tt T (i : Int)).1)) && ((decide ((ZE P (tt T (i : Int)).1 (tt T (i : Int)).2.1 (tt T (i : Int)).2.2).1.2.1 = (tt T (i : Int)).2.1)) && (decide ((ZE P (tt T (i : Int)).1 (tt T (i : Int)).2.1 (tt T (i : Int)).2.2).1.2.2 = (tt T (i : Int)).2.2)))) = false := by
          rw [Bool.eq_false_iff]
          intro h
          simp only [Bool.and_eq_true, decide_eq_true_eq] at h
          exact h2 (Prod.ext h.1 (Prod.ext h.2.1 h.2.2))
        rw [hne]; rfl
    · have h1' : (ZE P (tt T i).1 (tt T i).2.1 (tt T i).2.2).2 = false := by simpa using h1
      have : Ql P T i = true := by unfold Ql; rw [decide_eq_true (show ZE P (tt T i).1 (tt T i).2.1 (tt T i).2.2 ≠ (tt T i, true) from fun h => h1 (congrArg Prod.snd h)), Bool.true_or]
      rw [h1', this]; rfl
theorem zuL (m : Nat) (M : jO) (hp : M.1.length ≤ 200) (hT : M.2.1.length ≤ 200) (hS : M.2.2.length ≤ 200) : jL (m + 1000) M = some (zrx M) := by
  obtain ⟨P, T, S⟩ := M
  dsimp only at hp hT hS
  unfold jL JZ
  have ev : zrx (P, T, S) = bif (List.range T.length).any (fun i => Ql P T i || (List.range 3).any (zbo T S (i : Int) (tt T i))) then 2 else bif (List.range S.length).any (Jt T S) then 2 else 0 := rfl
  rw [ev]
  show zA _ (m + 1000) ((P, T, S), 0) = _
  refine Eq.trans (zz4 m (P := P) (T := T) (S := S) (e := some (bif (List.range S.length).any (Jt T S) then 2 else 0)) (K := fun x1 =>
          zA (α := (((List (Int × Int)) × ((List (Int × (Int × Int))) × (List (Int × Int)))) × Int)) (fun (x26, x27) next25 =>
           bif decide (x27 < (x26.2.2.length : Int)) then
            gd (inb x27 x26.2.2.length) <|
            zz (α := (((List (Int × Int)) × ((List (Int × (Int × Int))) × (List (Int × Int)))) × (Int × ((Int × Int) × Bool)))) (fun (y28, y29, y30, y31) =>
             bif y31 then
              some 2
             else
              zz (α := (((List (Int × Int)) × ((List (Int × (Int × Int))) × (List (Int × Int)))) × (Int × Bool))) (fun (y32, y33, y34) =>
               bif y34 then
                some 2
               else
                next25 ((y32.1, y32.2.1, y32.2.2), w64 (y33 + 1))) fun j35 =>
              bnd (qd (m + 1000) y28.2.1 y30.1 y30.2) fun r36 =>
              bif decide (r36 < 0) then
               bnd (qd (m + 1000) y28.2.1 y30.2 y30.1) fun r37 =>
               j35 ((y28.1, y28.2.1, y28.2.2), y29, decide (r37 < 0))
              else
               j35 ((y28.1, y28.2.1, y28.2.2), y29, false)) fun j38 =>
            bif decide ((rdD (0, 0) x26.2.2 x27).1 ≥ (rdD (0, 0) x26.2.2 x27).2) then
             j38 ((x26.1, x26.2.1, x26.2.2), x27, ((rdD (0, 0) x26.2.2 x27).1, (rdD (0, 0) x26.2.2 x27).2), true)
            else
             bif decide (x27 > 0) then
              gd (inb (w64 (x27 - 1)) x26.2.2.length) <|
              bif decide ((rdD (0, 0) x26.2.2 (w64 (x27 - 1))).1 > (rdD (0, 0) x26.2.2 x27).1) then
               j38 ((x26.1, x26.2.1, x26.2.2), x27, ((rdD (0, 0) x26.2.2 x27).1, (rdD (0, 0) x26.2.2 x27).2), true)
              else
               gd (inb (w64 (x27 - 1)) x26.2.2.length) <|
               bif decide ((rdD (0, 0) x26.2.2 (w64 (x27 - 1))).1 = (rdD (0, 0) x26.2.2 x27).1) then
                gd (inb (w64 (x27 - 1)) x26.2.2.length) <|
                j38 ((x26.1, x26.2.1, x26.2.2), x27, ((rdD (0, 0) x26.2.2 x27).1, (rdD (0, 0) x26.2.2 x27).2), decide ((rdD (0, 0) x26.2.2 (w64 (x27 - 1))).2 ≥ (rdD (0, 0) x26.2.2 x27).2))
               else
                j38 ((x26.1, x26.2.1, x26.2.2), x27, ((rdD (0, 0) x26.2.2 x27).1, (rdD (0, 0) x26.2.2 x27).2), false)
             else
              j38 ((x26.1, x26.2.1, x26.2.2), x27, ((rdD (0, 0) x26.2.2 x27).1, (rdD (0, 0) x26.2.2 x27).2), false)
           else
            some 0) (m + 1000) ((x1.1, x1.2.1, x1.2.2), 0)) (G := fun next0 y4 y5 y6 r8 =>
            zA (α := (((List (Int × Int)) × ((List (Int × (Int × Int))) × (List (Int × Int)))) × (Int × ((List (Int × Int)) × Int)))) (fun (x10, x11, x12, x13) next9 =>
             bif decide (x13 < 3) then
              gd (inb x13 x12.length) <|
              gd (inb x13 x12.length) <|
              bnd (qd (m + 1000) x10.2.1 (rdD (0, 0) x12 x13).1 (rdD (0, 0) x12 x13).2) fun r14 =>
              bif !(decide (r14 = x11)) then
               some 2
              else
               zz (α := (((List (Int × Int)) × ((List (Int × (Int × Int))) × (List (Int × Int)))) × (Int × ((List (Int × Int)) × (Int × Bool))))) (fun (y15, y16, y17, y18, y19) =>
                bif y19 then
                 some 2
                else
                 next9 ((y15.1, y15.2.1, y15.2.2), y16, y17, w64 (y18 + 1))) fun j20 =>
               gd (inb x13 x12.length) <|
               gd (inb x13 x12.length) <|
               bnd (qd (m + 1000) x10.2.1 (rdD (0, 0) x12 x13).2 (rdD (0, 0) x12 x13).1) fun r21 =>
               bif decide (r21 < 0) then
                gd (inb x13 x12.length) <|
                gd (inb x13 x12.length) <|
                bnd (qP (m + 1000) x10.2.2 (rdD (0, 0) x12 x13).1 (rdD (0, 0) x12 x13).2) fun r22 =>
                j20 ((x10.1, x10.2.1, x10.2.2), x11, x12, x13, !r22)
               else
                j20 ((x10.1, x10.2.1, x10.2.2), x11, x12, x13, false)
             else
              next0 ((x10.1, x10.2.1, x10.2.2), w64 (x11 + 1))) (m + 1000) ((y4.1, y4.2.1, y4.2.2), y5, r8, 0)) hp (by omega) ?hK ?hG (fun _ _ _ => rfl)) ?_
  case hK =>
    exact zAJ m (P := P) (T := T) (S := S) (by omega) (by omega) (fun _ _ _ => rfl)
  case hG =>
    intro next i t
    exact zAL m (P := P) (T := T) (S := S) (by omega) (by omega) i t (N := fun a b => next (a, w64 (b + 1))) (fun _ _ _ _ _ => rfl)
  cases (List.range T.length).any (fun i => Ql P T i || (List.range 3).any (zbo T S (i : Int) (tt T i))) <;> cases (List.range S.length).any (Jt T S) <;> rfl
end Go.Proofs.YtpkkcjmblocjdaaGreat.Pure
end
section
namespace Go.Proofs.YtpkkcjmblocjdaaGreat.Pure
open Go.RowKit Go.Proofs.YtpkkcjmblocjdaaGreat.AM PL
theorem zup {p:List Pt} {a b c:Int} {t:Tr} (h:ZE p a b c=(t,true)):inr a p.length∧inr b p.length∧inr c p.length∧ori (pt p a) (pt p b) (pt p c)≠0:=by
 unfold ZE at h
 split at h
 ·rename_i hr
  split at h
  ·cases h
  ·rename_i h0
   exact ⟨hr.1,hr.2.1,hr.2.2,h0⟩
 ·cases h
theorem zyW {a b c:Pt} (h:ori a b c≠0):a≠b∧b≠c∧c≠a :=
 ⟨fun e=>h (by rw [e];exact zka _ _),fun e=>h (by rw [e];exact zsF _ _),fun e=>h (by rw [e];exact zsJ _ _)⟩
theorem zrl {p:List Pt} {t:Tr} (h:ZE p t.1 t.2.1 t.2.2=(t,true)):t.1≠t.2.1∧t.2.1≠t.2.2∧t.2.2≠t.1:=by
 have h1:=zyW (zup h).2.2.2
 exact ⟨fun e=>h1.1 (by rw [e]),fun e=>h1.2.1 (by rw [e]),fun e=>h1.2.2 (by rw [e])⟩
theorem zhj {T:List Tr} {i:Nat} (hi:i≤T.length) {s:Pt}:s∈Eo T i↔∃k,k<i∧s∈qM (tt T (k:Int)):=by
 unfold Eo
 rw [List.mem_flatMap]
 constructor
 ·rintro ⟨t,ht,hs⟩
  obtain ⟨k,hk,rfl⟩:=List.getElem_of_mem ht
  rw [List.length_take] at hk
  refine ⟨k,by omega,?_⟩
  rw [zbx (show k<T.length by omega)]
  rwa [List.getElem_take] at hs
 ·rintro ⟨k,hk,hs⟩
  rw [zbx (show k<T.length by omega)] at hs
  refine ⟨T[k],?_,hs⟩
  rw [List.mem_take_iff_getElem]
  exact ⟨k,by omega,rfl⟩
theorem zhD {T:List Tr} {s:Pt}:Jd T s<0↔s∉Eo T T.length:=by
 obtain ⟨h1,h2⟩:=J6 (lfB T s) (n:=T.length) (a:=0) _ 0 rfl (by omega)
 rw [zhj (Nat.le_refl _)]
 unfold Jd
 cases hr:row (lfB T s) T.length 0 0 with
 |none =>
  refine ⟨fun _=>?_,fun _=>by show (-1:Int)<0;decide⟩
  rintro ⟨k,hk,hs⟩
  have:=h1 hr k (by omega) hk
  exact of_decide_eq_false this hs
 |some k =>
  obtain ⟨_,hk,hf,_⟩:=h2 k hr
  refine ⟨fun h=>?_,fun h=>?_⟩
  ·exfalso
   have:(k:Int)<0:=h
   omega
  ·exact absurd ⟨k,hk,of_decide_eq_true hf⟩ h
theorem zrP {T:List Tr} {s:Pt} {i:Nat} (hi:i<T.length) (hs:s∈qM (tt T (i:Int))):Jd T s=(i:Int)↔s∉Eo T i:=by
 obtain ⟨h1,h2⟩:=J6 (lfB T s) (n:=T.length) (a:=0) _ 0 rfl (by omega)
 rw [zhj (by omega)]
 unfold Jd
 cases hr:row (lfB T s) T.length 0 0 with
 |none=>exact absurd hs (of_decide_eq_false (h1 hr i (by omega) hi))
 |some k =>
  obtain ⟨_,hk,hf,hm⟩:=h2 k hr
  show (k:Int)=(i:Int)↔_
  constructor
  ·intro e
   rintro ⟨j,hj,hj'⟩
   have:=hm j (by omega) (by omega) (decide_eq_true hj')
   omega
  ·intro h
   have h3:=hm i (by omega) hi (decide_eq_true hs)
   have:¬k<i:=fun h4=>h ⟨k,h4,of_decide_eq_true hf⟩
   omega
theorem ziO (t:Tr) {j:Nat} (h:j<3):sd t j∈qM t:=by
 match j,h with
 |0,_=>exact (Xr t _).2 (.inl rfl)
 |1,_=>exact (Xr t _).2 (.inr (.inl rfl))
 |2,_=>exact (Xr t _).2 (.inr (.inr rfl))
theorem zq9 {t:Tr} {s:Pt} (h:s∈qM t):∃j,j<3∧sd t j=s:=by
 rcases (Xr t s).1 h with h|h|h
 ·exact ⟨0,by omega,h⟩
 ·exact ⟨1,by omega,h⟩
 ·exact ⟨2,by omega,h⟩
theorem zub {t:Tr} (h:t.1≠t.2.1∧t.2.1≠t.2.2∧t.2.2≠t.1) {j:Nat} (hj:j<3):sd t j∉(qM t).take j:=by
 obtain ⟨a,b,c⟩:=t
 dsimp only at h
 match j,hj with
 |0,_=>simp
 |1,_ =>
  show (b,c)∉[(a,b)]
  simp only [List.mem_singleton,Prod.mk.injEq]
  omega
 |2,_ =>
  show (c,a)∉[(a,b),(b,c)]
  simp only [List.mem_cons,List.not_mem_nil,or_false,Prod.mk.injEq]
  omega
theorem zqJ {S:List Pt} (hS:∀s∈S,s.1<s.2) {s:Pt} (hne:s.1≠s.2):up s∈S↔zu2 S s.1 s.2=true:=by
 unfold zu2
 rw [List.any_eq_true]
 constructor
 ·intro h
  refine ⟨up s,h,decide_eq_true ?_⟩
  unfold up mnI mxI
  dsimp only
  (repeat' split)<;>omega
 ·rintro ⟨q,hq,h⟩
  have h:=of_decide_eq_true h
  have hl:=hS q hq
  have:up s=q:=by
   unfold up mnI mxI
   (repeat' split)<;>(refine Prod.ext ?_ ?_<;>dsimp only<;>omega)
  rwa [this]
theorem zwr (M:jO):zqw M=zrx M:=by
 obtain ⟨P,T,S⟩:=M
 have ev:zrx (P,T,S)=bif (List.range T.length).any (fun i=>Ql P T i||(List.range 3).any (zbo T S (i:Int) (tt T i))) then 2 else bif (List.range S.length).any (Jt T S) then 2 else 0:=rfl
 have ev2:zqw (P,T,S)=bif (List.range T.length).any (fun i=>Ql P T i||zgg T i) then 2 else bif (List.range S.length).any (X8 (Eo T T.length) S) then 2 else bif (Eo T T.length).any (zbE (Eo T T.length) S) then 2 else 0:=rfl
 rw [ev,ev2]
 have hseg:(List.range S.length).any (X8 (Eo T T.length) S)=(List.range S.length).any (Jt T S):=by
  congr 1
  funext i
  unfold X8 Jt
  congr 2
  congr 1<;>(rw [decide_eq_decide];exact zhD.symm)
 rw [hseg]
 by_cases ht:∃i,i<T.length∧Ql P T i=true
 ·obtain ⟨i,hi,hb⟩:=ht
  have e1:(List.range T.length).any (fun i=>Ql P T i||zgg T i)=true:=List.any_eq_true.2 ⟨i,List.mem_range.2 hi,by rw [hb];rfl⟩
  have e2:(List.range T.length).any (fun i=>Ql P T i||(List.range 3).any (zbo T S (i:Int) (tt T i)))=true:=List.any_eq_true.2 ⟨i,List.mem_range.2 hi,by rw [hb];rfl⟩
  rw [e1,e2];rfl
 have htf:∀i,i<T.length→Ql P T i=false:=fun i hi=>by
  rw [Bool.eq_false_iff];exact fun h=>ht ⟨i,hi,h⟩
 have hne:∀i,i<T.length→(tt T (i:Int)).1≠(tt T (i:Int)).2.1∧(tt T (i:Int)).2.1≠(tt T (i:Int)).2.2∧(tt T (i:Int)).2.2≠(tt T (i:Int)).1:=by
  intro i hi
  have:=htf i hi
  unfold Ql at this
  rw [Bool.or_eq_false_iff] at this
  exact zrl (Decidable.not_not.1 (of_decide_eq_false this.1))
 have hsn:∀s∈Eo T T.length,s.1≠s.2:=by
  intro s hs
  obtain ⟨k,hk,hs⟩:=(zhj (Nat.le_refl _)).1 hs
  obtain ⟨h1,h2,h3⟩:=hne k hk
  rcases (Xr _ _).1 hs with e|e|e<;>rw [←e]
  ·exact h1
  ·exact h2
  ·exact h3
 have hedg:∀i,i<T.length→(zgg T i=true↔∃s∈qM (tt T (i:Int)),s∈Eo T i):=by
  intro i hi
  unfold zgg
  rw [List.any_eq_true]
  constructor
  ·rintro ⟨j,hj,h⟩
   rw [List.mem_range] at hj
   rcases List.mem_append.1 (of_decide_eq_true h) with h|h
   ·exact ⟨_,ziO _ hj,h⟩
   ·exact absurd h (zub (hne i hi) hj)
  ·rintro ⟨s,hs,h⟩
   obtain ⟨j,hj,rfl⟩:=zq9 hs
   exact ⟨j,List.mem_range.2 hj,decide_eq_true (List.mem_append_left _ h)⟩
 by_cases he:∃i,i<T.length∧zgg T i=true
 ·obtain ⟨i,hi,hb⟩:=he
  have e1:(List.range T.length).any (fun i=>Ql P T i||zgg T i)=true:=List.any_eq_true.2 ⟨i,List.mem_range.2 hi,by rw [hb,Bool.or_true]⟩
  obtain ⟨s,hs,h⟩:=(hedg i hi).1 hb
  obtain ⟨j,hj,rfl⟩:=zq9 hs
  have e2:(List.range T.length).any (fun i=>Ql P T i||(List.range 3).any (zbo T S (i:Int) (tt T i)))=true:=by
   refine List.any_eq_true.2 ⟨i,List.mem_range.2 hi,?_⟩
   rw [Bool.or_eq_true]
   refine .inr (List.any_eq_true.2 ⟨j,List.mem_range.2 hj,?_⟩)
   unfold zbo
   rw [Bool.or_eq_true]
   exact .inl (decide_eq_true fun e=>(zrP hi (ziO _ hj)).1 e h)
  rw [e1,e2];rfl
 have hef:∀i,i<T.length→∀s∈qM (tt T (i:Int)),s∉Eo T i:=fun i hi s hs h=>he ⟨i,hi,(hedg i hi).2 ⟨s,hs,h⟩⟩
 have e1:(List.range T.length).any (fun i=>Ql P T i||zgg T i)=false:=by
  rw [Bool.eq_false_iff]
  intro h
  obtain ⟨i,hi,h⟩:=List.any_eq_true.1 h
  rw [List.mem_range] at hi
  rw [htf i hi,Bool.false_or] at h
  exact he ⟨i,hi,h⟩
 rw [e1,cF]
 by_cases hg:∃i,i<S.length∧Jt T S i=true
 ·obtain ⟨i,hi,hb⟩:=hg
  have:(List.range S.length).any (Jt T S)=true:=List.any_eq_true.2 ⟨i,List.mem_range.2 hi,hb⟩
  rw [this]
  cases (List.range T.length).any (fun i=>Ql P T i||(List.range 3).any (zbo T S (i:Int) (tt T i)))<;>rfl
 have e3:(List.range S.length).any (Jt T S)=false:=by
  rw [Bool.eq_false_iff]
  intro h
  obtain ⟨i,hi,h⟩:=List.any_eq_true.1 h
  exact hg ⟨i,List.mem_range.1 hi,h⟩
 have hSl:∀s∈S,s.1<s.2:=by
  intro s hs
  obtain ⟨i,hi,rfl⟩:=List.getElem_of_mem hs
  apply Decidable.byContradiction
  intro h
  apply hg
  refine ⟨i,hi,?_⟩
  unfold Jt
  rw [ZS hi]
  simp [show S[i].1≥S[i].2 by omega]
 rw [e3,cF,cF]
 have:(Eo T T.length).any (zbE (Eo T T.length) S)=(List.range T.length).any (fun i=>Ql P T i||(List.range 3).any (zbo T S (i:Int) (tt T i))):=by
  rw [Bool.eq_iff_iff,List.any_eq_true,List.any_eq_true]
  constructor
  ·rintro ⟨s,hs,hb⟩
   obtain ⟨i,hi,hs'⟩:=(zhj (Nat.le_refl _)).1 hs
   obtain ⟨j,hj,rfl⟩:=zq9 hs'
   refine ⟨i,List.mem_range.2 hi,?_⟩
   rw [Bool.or_eq_true]
   refine .inr (List.any_eq_true.2 ⟨j,List.mem_range.2 hj,?_⟩)
   unfold zbE at hb
   rw [Bool.and_eq_true,decide_eq_true_eq,decide_eq_true_eq] at hb
   unfold zbo
   rw [Bool.or_eq_true,Bool.and_eq_true,decide_eq_true_eq,decide_eq_true_eq]
   refine .inr ⟨zhD.2 hb.1,?_⟩
   rw [Bool.not_eq_true',Bool.eq_false_iff]
   exact fun h=>hb.2 ((zqJ hSl (hsn _ hs)).2 h)
  ·rintro ⟨i,hi,hb⟩
   rw [List.mem_range] at hi
   rw [htf i hi,Bool.false_or] at hb
   obtain ⟨j,hj,hb⟩:=List.any_eq_true.1 hb
   rw [List.mem_range] at hj
   have hs:sd (tt T (i:Int)) j∈Eo T T.length:=(zhj (Nat.le_refl _)).2 ⟨i,hi,ziO _ hj⟩
   refine ⟨sd (tt T (i:Int)) j,hs,?_⟩
   unfold zbo at hb
   rw [Bool.or_eq_true,Bool.and_eq_true,decide_eq_true_eq,decide_eq_true_eq] at hb
   rcases hb with h|⟨h1,h2⟩
   ·exact absurd ((zrP hi (ziO _ hj)).2 (hef i hi _ (ziO _ hj))) h
   ·unfold zbE
    rw [Bool.and_eq_true,decide_eq_true_eq,decide_eq_true_eq]
    refine ⟨zhD.1 h1,fun h=>?_⟩
    rw [(zqJ hSl (hsn _ hs)).1 h] at h2
    cases h2
 rw [this]
end Go.Proofs.YtpkkcjmblocjdaaGreat.Pure
end
section
namespace Go.Proofs.YtpkkcjmblocjdaaGreat.Pure
open Go.RowKit Go.Proofs.YtpkkcjmblocjdaaGreat.AM PL
theorem zuB (m:Nat) (a b:List Pt) (ha:a.length≤1000) (hb:b.length≤1000):Xv (m+1000) [a,b]=some (a++b):=by
 unfold Xv
 have e0:rdD [] [a,b] ((0:Nat):Int)=a:=rfl
 have e1:rdD [] [a,b] ((1:Nat):Int)=b:=rfl
 refine Q3 (fun i=>([a,b],(if i=0 then 0 else if i=1 then (a.length:Int) else (a.length:Int)+(b.length:Int)),[a,b],2,(i:Int))) 2 rfl (fun next=>?_) (fun i hi next hn=>?_) _ (by omega)
 ·dsimp only
  rw [zg (by omega)]
  simp only [show ((2:Nat)=0)=False from by simp,show ((2:Nat)=1)=False from by simp,if_false]
  rw [z6 (decide_eq_true (by omega)),z6 (show zgc ((a.length:Int)+(b.length:Int))=true by unfold zgc;exact decide_eq_true (by omega))]
  refine Q3 (fun i=>((if i=0 then [] else if i=1 then a else a++b),[a,b],2,(i:Int))) 2 rfl (fun next=>?_) (fun i hi next hn=>?_) _ (by omega)
  ·dsimp only
   rw [zg (by omega)];rfl
  ·dsimp only
   rw [zl (by omega),z6 (zF ⟨by omega,by simp;omega⟩),zo (x:=(i:Int)+1) (by omega) (by omega),←hn]
   match i,hi with
   |0,_=>rw [z6 (ZU (by rw [e0];simp;omega)),e0];rfl
   |1,_=>rw [z6 (ZU (by rw [e1];simp;omega)),e1];rfl
 ·dsimp only
  simp only [zz]
  rw [zl (by omega),z6 (zF ⟨by omega,by simp;omega⟩),zo (x:=(i:Int)+1) (by omega) (by omega),←hn]
  match i,hi with
  |0,_ =>
   rw [e0]
   simp only [if_true]
   rw [zo (by omega) (by omega),zg (by omega),Int.zero_add]
   rfl
  |1,_ =>
   rw [e1]
   simp only [show ((1:Nat)=0)=False from by simp,if_false,if_true]
   rw [zo (by omega) (by omega),zg (by omega)]
   rfl
def jb (p:zJ):List Pt:=Xw J8 ((sgs p).map up)
theorem zro (m:Nat) (p:zJ) (h1:p.2.1.length≤400) (h2:p.2.2.length≤400):ZZ (m+1000) p=some (jb p):=by
 unfold ZZ zbO
 rw [zuB m _ _ (by omega) (by omega),zt]
 have hl:(p.2.1++p.2.2).length≤800:=by rw [List.length_append];omega
 refine Q3 (fun i=>(((p.2.1++p.2.2).take i).map up,p.2.1++p.2.2,((p.2.1++p.2.2).length:Int),(i:Int))) (p.2.1++p.2.2).length rfl (fun next=>?_) (fun i hi next hn=>?_) _ (by omega)
 ·dsimp only
  rw [zg (by omega),List.take_length,z6 (ZU (by rw [List.length_map];omega))]
  rfl
 ·dsimp only
  rw [zl (by omega),z6 (zF ⟨by omega,by omega⟩),z7 _ _ i hi,zAr,zt,z6 (ZU (by simp only [List.length_map,List.length_take];omega)),zo (x:=(i:Int)+1) (by omega) (by omega),←hn,zuX _ _ _ hi]
  rfl
def zwg (P:List Pt) (a b:Int):Bool:=P.any fun q=>decide (Ins (pt P a) (pt P b) q)
def zvR (P l:List Pt) (a b:Int):Bool:=l.any fun s=>decide ((QT (pt P a) (pt P b) (pt P s.1) (pt P s.2)).1>1)
def zeY (p:zJ) (l:List Pt) (a b:Int):Bool:=!zwg p.1 a b&&(!zvR p.1 l a b&&decide ((Yx p.1 p.2.1 [a,b]).1=1))
theorem zAj (b c:Bool):(bif b then some false else some c)=some (!b&&c):=by cases b<;>rfl
theorem zzG (m:Nat) {p:zJ} {l:List Pt} {a b:Int} (hp:p.1.length≤300) (hL:p.2.1.length≤350) (hl:l.length≤900) (ha:inr a p.1.length) (hb:inr b p.1.length) (hs:∀s∈l,oks p.1.length s):Yv (m+1000) p l a b=some (zeY p l a b):=by
 unfold Yv zfH zeY
 have ep:∀i:Int,((rdD (0,0) p.1 i).1,(rdD (0,0) p.1 i).2)=pt p.1 i:=fun _=>rfl
 refine (Q8 (fun i=>(l,a,b,p,p.1,(p.1.length:Int),(i:Int))) p.1.length (fun i=>decide (Ins (pt p.1 a) (pt p.1 b) (rdD (0,0) p.1 (i:Int)))) (some false) (some (!zvR p.1 l a b&&decide ((Yx p.1 p.2.1 [a,b]).1=1))) rfl (fun next=>?_) (fun i hi next=>?_) _ (by omega)).trans ?_
 ·dsimp only
  rw [zg (by omega)]
  refine (Q8 (fun i=>(a,b,p,l,(l.length:Int),(i:Int))) l.length (fun i=>decide ((QT (pt p.1 a) (pt p.1 b) (pt p.1 (rdD (0,0) l (i:Int)).1) (pt p.1 (rdD (0,0) l (i:Int)).2)).1>1)) (some false) (some (decide ((Yx p.1 p.2.1 [a,b]).1=1))) rfl (fun next=>?_) (fun i hi next=>?_) _ (by omega)).trans ?_
  ·dsimp only
   rw [zg (by omega),zyP m _ _ _ _ hL,zt]
  ·dsimp only
   have h0:=hs _ (List.getElem_mem hi)
   rw [zl (by omega),z6 (zF ⟨by omega,by omega⟩),z6 (zF ha),z6 (zF hb),z7 _ l i hi,z6 (zF h0.1),z6 (zF h0.2),ep,ep,ep,ep,zz9,zt,zo (x:=(i:Int)+1) (by omega) (by omega)]
   rfl
  ·rw [zi8 (0,0) l fun s=>decide ((QT (pt p.1 a) (pt p.1 b) (pt p.1 s.1) (pt p.1 s.2)).1>1)]
   exact zAj _ _
 ·dsimp only
  rw [zl (by omega),z6 (zF ⟨by omega,by omega⟩),z6 (zF ha),z6 (zF hb),ep,ep,ep,zAK,zt,zo (x:=(i:Int)+1) (by omega) (by omega)]
  rfl
 ·rw [zi8 (0,0) p.1 fun q=>decide (Ins (pt p.1 a) (pt p.1 b) q)]
  exact zAj _ _
def zeF (p:zJ) (a:Nat) (l:List Pt) (b:Nat):List Pt:=if zeY p l (a:Int) (b:Int)=true then l++[((a:Int),(b:Int))] else l
def zgi (p:zJ) (a j:Nat) (l:List Pt):List Pt:=(List.range' (a+1) j).foldl (zeF p a) l
def zeg (p:zJ) (j:Nat) (l:List Pt):List Pt:=(List.range j).foldl (fun l a=>zgi p a (p.1.length-(a+1)) l) l
theorem za4 (p:zJ) (a j:Nat) (l:List Pt):zgi p a (j+1) l=zeF p a (zgi p a j l) (a+1+j):=by
 unfold zgi
 rw [List.range'_concat,List.foldl_append,Nat.one_mul]
 rfl
theorem zc4 (p:zJ) (j:Nat) (l:List Pt):zeg p (j+1) l=zgi p j (p.1.length-(j+1)) (zeg p j l):=by
 unfold zeg
 rw [List.range_succ,List.foldl_append]
 rfl
structure zkU (p:zJ) (l:List Pt) (c:Nat):Prop where
 ok:∀s∈l,oks p.1.length s
 len:l.length≤120+c
theorem zkU.step {p:zJ} {l:List Pt} {c a b:Nat} (h:zkU p l c) (ha:a<p.1.length) (hb:b<p.1.length):zkU p (zeF p a l b) (c+1):=by
 unfold zeF
 split
 ·refine ⟨fun s hs=>?_,by rw [List.length_append];have:=h.len;simp;omega⟩
  rcases List.mem_append.1 hs with hs|hs
  ·exact h.ok s hs
  ·rw [List.mem_singleton.1 hs]
   exact ⟨⟨by omega,by dsimp only;omega⟩,⟨by omega,by dsimp only;omega⟩⟩
 ·exact ⟨h.ok,by have:=h.len;omega⟩
theorem zkU.inn {p:zJ} {l:List Pt} {c a:Nat} (h:zkU p l c):∀j,a+1+j≤p.1.length→zkU p (zgi p a j l) (c+j)
 |0,_=>h
 |j+1,hj=>by
  rw [za4]
  exact (h.inn j (by omega)).step (by omega) (by omega)
theorem zkU.out {p:zJ} {l:List Pt} (h:zkU p l 0):∀j,j≤p.1.length→zkU p (zeg p j l) (24*j)∨24<p.1.length
 |0,_=>.inl h
 |j+1,hj=>by
  by_cases hn:24<p.1.length
  ·exact .inr hn
  ·rcases h.out j (by omega) with h1|h1
   ·refine .inl ?_
    rw [zc4]
    have h2:=h1.inn (a:=j) (p.1.length-(j+1)) (by omega)
    exact ⟨h2.ok,by have:=h2.len;omega⟩
   ·exact .inr h1
theorem zyL {n:Nat} {s:Pt} (h:oks n s):oks n (up s):=by
 obtain ⟨⟨h1,h2⟩,⟨h3,h4⟩⟩:=h
 refine ⟨⟨?_,?_⟩,⟨?_,?_⟩⟩<;>(unfold up mnI mxI;dsimp only;split<;>omega)
theorem zmB (p:zJ):(jb p).length=(sgs p).length:=by unfold jb;rw [(KL _ _).length_eq,List.length_map]
theorem Xm (p:zJ) (s:Pt):s∈jb p↔∃q∈sgs p,up q=s:=by unfold jb;rw [(KL _ _).mem_iff,List.mem_map]
theorem znD {p:zJ} (h:Sm p) (h1:p.2.1.length≤60) (h2:p.2.2.length≤60):zkU p (jb p) 0:=by
 refine ⟨fun s hs=>?_,?_⟩
 ·obtain ⟨q,hq,rfl⟩:=(Xm p s).1 hs
  exact zyL (h.s q hq)
 ·rw [zmB]
  show (p.2.1++p.2.2).length≤_
  rw [List.length_append];omega
def YP (p:zJ):List Pt:=Xw J8 (zeg p p.1.length (jb p))
theorem zvl (m:Nat) {p:zJ} (h:Sm p):Kj (m+1000) p=some (zcB p):=by
 unfold Kj zdU
 rw [show JB (m+1000) (p.1,p.2.1,p.2.2)=some (zme p,0) from ztZ m h,zt]
 rfl
structure Few (p:zJ):Prop where
 sm:Sm p
 n:p.1.length≤24
 l:p.2.1.length≤60
 i:p.2.2.length≤60
theorem zrn (m:Nat) {p:zJ} (h:Few p):ZJ (m+1000) p=some (if zcB p=true then (YP p,0) else ([],2)):=by
 unfold ZJ zdv
 rw [show Kj (m+1000) (p.1,p.2.1,p.2.2)=_ from zvl m h.sm,zt]
 cases hg:zcB p with
 |false=>rfl
 |true =>
  simp only [Bool.not_true,cF,if_true]
  have hn:=h.n;have hL:=h.l;have hI:=h.i
  rw [show ZZ (m+1000) (p.1,p.2.1,p.2.2)=_ from zro m p (by omega) (by omega),zt]
  have I0:=znD h.sm hL hI
  have IO:∀j,j≤p.1.length→zkU p (zeg p j (jb p)) (24*j):=fun j hj=>(I0.out j hj).resolve_right (by omega)
  refine Q3 (fun i=>(p,zeg p i (jb p),(p.1.length:Int),(i:Int))) p.1.length rfl (fun next=>?_) (fun i hi next hn'=>?_) _ (by omega)
  ·dsimp only
   have:=(IO p.1.length (Nat.le_refl _)).len
   rw [zg (by omega),z6 (ZU (by omega))]
   rfl
  ·dsimp only
   have Ii:=IO i (by omega)
   rw [zl (by omega),zo (x:=(i:Int)+1) (by omega) (by omega)]
   refine Q3 (fun j=>(p,zgi p i j (zeg p i (jb p)),(i:Int),((i+1+j:Nat):Int),(p.1.length:Int),(i:Int))) (p.1.length-(i+1)) ?_ (fun nx=>?_) (fun j hj nx hnx=>?_) _ (by omega)
   ·rfl
   ·dsimp only
    rw [zg (by omega),←hn',zc4,zo (x:=(i:Int)+1) (by omega) (by omega)]
    rfl
   ·dsimp only
    have Ij:=Ii.inn (a:=i) j (by omega)
    have hlen:=Ij.len
    simp only [zz]
    rw [zl (by omega),show Yv (m+1000) (p.1,p.2.1,p.2.2) _ _ _=_ from zzG m (p:=p) (l:=zgi p i j (zeg p i (jb p))) (a:=(i:Int)) (b:=((i+1+j:Nat):Int)) (by omega) (by omega) (by omega) ⟨by omega,by omega⟩ ⟨by omega,by omega⟩ Ij.ok,zt,zo (x:=((i+1+j:Nat):Int)+1) (by omega) (by omega),←hnx,za4]
    unfold zeF
    cases hgo:zeY p (zgi p i j (zeg p i (jb p))) (i:Int) ((i+1+j:Nat):Int) with
    |true=>rw [cT,z6 (ZU (by omega)),if_pos rfl];rfl
    |false=>rw [cF,if_neg (by decide)];rfl
end Go.Proofs.YtpkkcjmblocjdaaGreat.Pure
end
section
namespace Go.Proofs.YtpkkcjmblocjdaaGreat.Pure
open Go.RowKit Go.Proofs.YtpkkcjmblocjdaaGreat.AM PL
theorem K4.dist {p:zJ} (h:K4 p) {i j:Nat} (hi:i<p.1.length) (hj:j<p.1.length) (e:pt p.1 (i:Int)=pt p.1 (j:Int)):i=j:=by
 have hall:=(Xo (alk p.1) (n:=p.1.length) _ 0 rfl (Nat.zero_le _)).1 h.n1
 rcases Nat.lt_trichotomy i j with hlt|he|hgt
 ·exact absurd (decide_eq_true e) (by have:=hall i j (by omega) hlt hj;unfold alk at this;rw [this];decide)
 ·exact he
 ·exact absurd (decide_eq_true e.symm) (by have:=hall j i (by omega) hgt hi;unfold alk at this;rw [this];decide)
theorem K4.distI {p:zJ} (h:K4 p) {i j:Int} (hi:inr i p.1.length) (hj:inr j p.1.length) (e:pt p.1 i=pt p.1 j):i=j:=by
 obtain ⟨h1,h2⟩:=hi
 obtain ⟨h3,h4⟩:=hj
 have:=h.dist (i:=i.toNat) (j:=j.toNat) (by omega) (by omega) (by rwa [Int.toNat_of_nonneg h1,Int.toNat_of_nonneg h3])
 omega
theorem zkR {P:List Pt} {a b:Int}:zwg P a b=false↔∀q∈P,¬Ins (pt P a) (pt P b) q:=by
 unfold zwg
 rw [List.any_eq_false]
 simp
theorem zbq {P l:List Pt} {a b:Int}:zvR P l a b=false↔∀s∈l,(QT (pt P a) (pt P b) (pt P s.1) (pt P s.2)).1≤1:=by
 unfold zvR
 rw [List.any_eq_false]
 constructor
 ·intro h s hs
  have:=h s hs
  rw [decide_eq_true_eq] at this
  omega
 ·intro h s hs
  have:=h s hs
  rw [decide_eq_true_eq]
  omega
theorem zdi {p:zJ} {l:List Pt} {a b:Int}:zeY p l a b=true↔zwg p.1 a b=false∧zvR p.1 l a b=false∧(Yx p.1 p.2.1 [a,b]).1=1:=by
 unfold zeY
 simp
theorem zp4 {p:zJ} {l l':List Pt} {a b:Int} (h:∀s∈l,s∈l') (hg:zeY p l' a b=true):zeY p l a b=true:=by
 rw [zdi] at *
 exact ⟨hg.1,zbq.2 fun s hs=>zbq.1 hg.2.1 s (h s hs),hg.2.2⟩
theorem zwh {p:zJ} (hF:K4 p) {l:List Pt} {a b:Int} (ha:inr a p.1.length) (hb:inr b p.1.length) (hab:a≠b) (h:zeY p l a b=true):(a,b)∉l:=by
 intro hm
 have h1:=zbq.1 (zdi.1 h).2.1 _ hm
 dsimp only at h1
 rw [ziH (fun e=>hab (hF.distI ha hb e)) (hF.sm.fit ha) (hF.sm.fit hb)] at h1
 omega
structure ziw (p:zJ) (l:List Pt):Prop where
 ok:∀s∈l,oks p.1.length s∧s.1<s.2
 nd:l.Nodup
 apart:l.Pairwise fun s q=>(QT (pt p.1 q.1) (pt p.1 q.2) (pt p.1 s.1) (pt p.1 s.2)).1≤1
 old:∀s∈jb p,s∈l
 new:∀s∈l,s∈jb p∨(zwg p.1 s.1 s.2=false∧(Yx p.1 p.2.1 [s.1,s.2]).1=1)
theorem ziS {p:zJ} {a b:Nat} {l:List Pt}:∀s∈l,s∈zeF p a l b:=by
 intro s hs
 unfold zeF
 split
 ·exact List.mem_append_left _ hs
 ·exact hs
theorem ziw.step {p:zJ} (hF:K4 p) {l:List Pt} {a b:Nat} (h:ziw p l) (hab:a<b) (hb:b<p.1.length):ziw p (zeF p a l b):=by
 have ha':inr (a:Int) p.1.length:=⟨by omega,by omega⟩
 have hb':inr (b:Int) p.1.length:=⟨by omega,by omega⟩
 unfold zeF
 split
 ·rename_i hg
  have hno:=zwh hF ha' hb' (by omega) hg
  have hg':=zdi.1 hg
  refine ⟨fun s hs=>?_,?_,?_,fun s hs=>List.mem_append_left _ (h.old s hs),fun s hs=>?_⟩
  ·rcases List.mem_append.1 hs with hs|hs
   ·exact h.ok s hs
   ·rw [List.mem_singleton.1 hs]
    exact ⟨⟨ha',hb'⟩,by dsimp only;omega⟩
  ·rw [List.nodup_append]
   exact ⟨h.nd,by simp,fun x hx y hy e=>hno (by rw [List.mem_singleton.1 hy] at e;rw [←e];exact hx)⟩
  ·rw [List.pairwise_append]
   refine ⟨h.apart,by simp,fun s hs q hq=>?_⟩
   rw [List.mem_singleton.1 hq]
   exact zbq.1 hg'.2.1 s hs
  ·rcases List.mem_append.1 hs with hs|hs
   ·exact h.new s hs
   ·rw [List.mem_singleton.1 hs]
    exact .inr ⟨hg'.1,hg'.2.2⟩
 ·exact h
theorem ziw.inn {p:zJ} (hF:K4 p) {l:List Pt} {a:Nat} (h:ziw p l):∀j,a+1+j≤p.1.length→ziw p (zgi p a j l)
 |0,_=>h
 |j+1,hj=>by
  rw [za4]
  exact (ziw.inn hF h j (by omega)).step hF (by omega) (by omega)
theorem ziw.out {p:zJ} (hF:K4 p) {l:List Pt} (h:ziw p l):∀j,j≤p.1.length→ziw p (zeg p j l)
 |0,_=>h
 |j+1,hj=>by
  rw [zc4]
  exact (ziw.out hF h j (by omega)).inn hF _ (by omega)
theorem zt4 (s:Pt):up s=nrm s:=rfl
theorem zAe {s:Pt} (h:s.1≠s.2):(up s).1<(up s).2:=by
 unfold up mnI mxI
 dsimp only
 (repeat' split)<;>omega
theorem zc0 (s:Pt):up s=s∨up s=rv s:=by
 unfold up rv mnI mxI
 by_cases h:s.1≤s.2
 ·refine .inl (Prod.ext ?_ ?_)<;>(dsimp only;split<;>omega)
 ·refine .inr (Prod.ext ?_ ?_)<;>(dsimp only;split<;>omega)
theorem zsE (P:List Pt) (s:Pt) (c d:Pt):QT (pt P (up s).1) (pt P (up s).2) c d=QT (pt P s.1) (pt P s.2) c d:=by
 rcases zc0 s with e|e
 ·rw [e]
 ·rw [e]
  unfold rv
  exact zdb _ _ _ _
theorem znf {p:zJ} (hF:K4 p):(sgs p).Pairwise fun s q=>(QT (pt p.1 q.1) (pt p.1 q.2) (pt p.1 s.1) (pt p.1 s.2)).1≤1:=by
 have hall:=(Xo (qW (ens p)) (n:=(ens p).length) _ 0 rfl (Nat.zero_le _)).1 hF.n3
 rw [List.pairwise_iff_getElem]
 intro i j hi hj hij
 have:=hall i j (by omega) hij (by rw [zdo];exact hj)
 unfold qW at this
 rw [XG p hi,XG p hj,ZS hi,ZS hj] at this
 have:=of_decide_eq_false this
 unfold en at this
 dsimp only at this
 rw [JC]
 omega
theorem zx1 {p:zJ} (hF:K4 p):ziw p (jb p):=by
 have hnd:((sgs p).map up).Nodup:=by
  rw [List.nodup_iff_pairwise_ne,List.pairwise_map]
  exact hF.two
 refine ⟨fun s hs=>?_,(KL _ _).symm.nodup hnd,?_,fun s hs=>hs,fun s hs=>.inl hs⟩
 ·obtain ⟨q,hq,rfl⟩:=(Xm p s).1 hs
  exact ⟨zyL (hF.sm.s q hq),zAe (hF.ok q hq).2⟩
 ·have h1:((sgs p).map up).Pairwise fun s q=>(QT (pt p.1 q.1) (pt p.1 q.2) (pt p.1 s.1) (pt p.1 s.2)).1≤1:=by
   rw [List.pairwise_map]
   refine (znf hF).imp fun {s q} h=>?_
   rw [zsE,JC,zsE,JC]
   exact h
  exact ((KL J8 ((sgs p).map up)).pairwise_iff (fun {s q} h=>by rw [JC];exact h)).2 h1
theorem zpO {p:zJ} {a:Nat} {l:List Pt}:∀j,∀s∈l,s∈zgi p a j l
 |0,s,hs=>hs
 |j+1,s,hs=>by rw [za4];exact ziS s (zpO j s hs)
theorem zmx {p:zJ} {a:Nat} {l:List Pt} (j:Nat):∀d,∀s∈zgi p a j l,s∈zgi p a (j+d) l
 |0,s,hs=>hs
 |d+1,s,hs=>by rw [show j+(d+1)=(j+d)+1 by omega,za4];exact ziS s (zmx j d s hs)
theorem znd {p:zJ} {l:List Pt} (j:Nat):∀d,∀s∈zeg p j l,s∈zeg p (j+d) l
 |0,s,hs=>hs
 |d+1,s,hs=>by rw [show j+(d+1)=(j+d)+1 by omega,zc4];exact zpO _ s (znd j d s hs)
def edg (p:zJ):List Pt:=zeg p p.1.length (jb p)
theorem zab {p:zJ} (hF:K4 p):ziw p (edg p):=(zx1 hF).out hF _ (Nat.le_refl _)
theorem zw9 {p:zJ} {a b:Nat} (hab:a<b) (hb:b<p.1.length):((a:Int),(b:Int))∈edg p∨zeY p (edg p) (a:Int) (b:Int)=false:=by
 have sub:∀s∈zgi p a (p.1.length-(a+1)) (zeg p a (jb p)),s∈edg p:=by
  intro s hs
  rw [←zc4] at hs
  have:=znd (p:=p) (l:=jb p) (a+1) (p.1.length-(a+1)) s hs
  rwa [show a+1+(p.1.length-(a+1))=p.1.length by omega] at this
 have sub1:∀s∈zeF p a (zgi p a (b-(a+1)) (zeg p a (jb p))) b,s∈edg p:=by
  intro s hs
  have e:=za4 p a (b-(a+1)) (zeg p a (jb p))
  rw [show a+1+(b-(a+1))=b by omega] at e
  rw [←e] at hs
  have:=zmx (p:=p) (b-(a+1)+1) (p.1.length-(a+1)-(b-(a+1)+1)) s hs
  rw [show b-(a+1)+1+(p.1.length-(a+1)-(b-(a+1)+1))=p.1.length-(a+1) by omega] at this
  exact sub s this
 cases hg:zeY p (zgi p a (b-(a+1)) (zeg p a (jb p))) (a:Int) (b:Int) with
 |true =>
  refine .inl (sub1 _ ?_)
  unfold zeF
  rw [if_pos hg]
  exact List.mem_append_right _ (by simp)
 |false =>
  refine .inr ?_
  rw [Bool.eq_false_iff]
  intro h
  have:=zp4 (fun s hs=>sub1 s (ziS s hs)) h
  rw [hg] at this
  cases this
theorem Jn (p:zJ) (s:Pt):s∈YP p↔s∈edg p:=(KL J8 (edg p)).mem_iff
theorem zhc {p:zJ} (hF:K4 p):(YP p).Pairwise ltS:=zlJ.srt zw8 (zab hF).nd
end Go.Proofs.YtpkkcjmblocjdaaGreat.Pure
end
section
namespace Go.Proofs.YtpkkcjmblocjdaaGreat.Pure
open Go.RowKit Go.Proofs.YtpkkcjmblocjdaaGreat.AM PL
def inT (P:List Pt) (t:Tr) (q:Pt):Bool:=decide (ori (pt P t.1) (pt P t.2.1) q≥0)&&(decide (ori (pt P t.2.1) (pt P t.2.2) q≥0)&&decide (ori (pt P t.2.2) (pt P t.1) q≥0))
def zts (t:Tr) (i:Int):Bool:=!(decide (i=t.1))&&(!(decide (i=t.2.1))&&!(decide (i=t.2.2)))
def zoZ (P:List Pt) (t:Tr):Bool:=!((List.range P.length).any fun i=>zts t (i:Int)&&inT P t (pt P (i:Int)))
theorem zAp (m:Nat) {P:List Pt} {t:Tr} (h:inr t.1 P.length∧inr t.2.1 P.length∧inr t.2.2 P.length) (q:Pt):za2 (m+1000) P t q=some (inT P t q):=by
 unfold za2 zi1 inT
 have ep:∀i:Int,((rdD (0,0) P i).1,(rdD (0,0) P i).2)=pt P i:=fun _=>rfl
 have eq:((q.1,q.2):Pt)=q:=rfl
 simp only [zz,Zz h.1,Zz h.2.1,Zz h.2.2,gT,ep,eq,zAv,zt]
 cases decide (ori (pt P t.1) (pt P t.2.1) q≥0)<;>cases decide (ori (pt P t.2.1) (pt P t.2.2) q≥0)<;>rfl
theorem zyb (m:Nat) {P:List Pt} {t:Tr} (hp:P.length≤900) (h:inr t.1 P.length∧inr t.2.1 P.length∧inr t.2.2 P.length):ZL (m+1000) P t=some (zoZ P t):=by
 unfold ZL zdp zoZ
 refine (Q8 (fun i=>(P,t,P,(P.length:Int),(i:Int))) P.length (fun i=>zts t (i:Int)&&inT P t (pt P (i:Int))) (some false) (some true) rfl (fun next=>?_) (fun i hi next=>?_) _ (by omega)).trans ?_
 ·dsimp only
  rw [zg (by omega)]
 ·dsimp only
  have ep:∀i:Int,((rdD (0,0) P i).1,(rdD (0,0) P i).2)=pt P i:=fun _=>rfl
  simp only [zz,ep]
  rw [zl (by omega),z6 (zF ⟨by omega,by omega⟩),show za2 (m+1000) P (t.1,t.2.1,t.2.2) (pt P (i:Int))=_ from zAp m h _,zt,zo (x:=(i:Int)+1) (by omega) (by omega)]
  unfold zts
  cases decide ((i:Int)=t.1)<;>cases decide ((i:Int)=t.2.1)<;>cases decide ((i:Int)=t.2.2)<;>rfl
 ·cases (List.range P.length).any fun i=>zts t (i:Int)&&inT P t (pt P (i:Int))<;>rfl
def zjH (p:zJ) (E:List Pt) (s:Pt) (c:Int):Option Tr :=
 if (s.1,c)∈E∧(s.2,c)∈E∧(ZE p.1 s.1 s.2 c).2=true∧(Yx p.1 p.2.1 [s.1,s.2,c]).1=1∧zoZ p.1 (ZE p.1 s.1 s.2 c).1=true then some (ZE p.1 s.1 s.2 c).1 else none
def znv (p:zJ) (E:List Pt) (s:Pt) (j:Nat):List Tr:=(List.range j).filterMap fun (j:Nat)=>zjH p E s (s.2+1+(j:Int))
def cnt (p:zJ) (s:Pt):Nat:=p.1.length-(s.2.toNat+1)
def zlT (p:zJ) (E:List Pt) (s:Pt):List Tr:=znv p E s (cnt p s)
def zoq (p:zJ) (E:List Pt):List Tr:=E.flatMap (zlT p E)
def qt (p:zJ):List Tr:=Xw Yp (zoq p (YP p))
theorem zsX (p:zJ) (E:List Pt) (s:Pt) (j:Nat):znv p E s (j+1)=znv p E s j++(zjH p E s (s.2+1+(j:Int))).toList:=by
 unfold znv
 rw [List.range_succ,List.filterMap_append]
 cases h:zjH p E s (s.2+1+(j:Int))<;>simp [h]
theorem zoM (p:zJ) (E:List Pt) (s:Pt) (j:Nat):(znv p E s j).length≤j:=by
 unfold znv
 exact Nat.le_trans (List.length_filterMap_le _ _) (by rw [List.length_range];exact Nat.le_refl _)
theorem XX {α β:Type} (f:α→List β) (n:Nat):∀l:List α,(∀x∈l,(f x).length≤n)→(l.flatMap f).length≤l.length*n
 |[],_=>by simp
 |x::l,h=>by
  rw [List.flatMap_cons,List.length_append,List.length_cons,Nat.add_mul,Nat.one_mul]
  have h1:=h x List.mem_cons_self
  have h2:=XX f n l fun y hy=>h y (List.mem_cons_of_mem _ hy)
  omega
theorem zzr (m:Nat) (p l:List Pt) (a b c:Int) (hl:l.length≤350):Zt (m+1000) p l a b c=some (Yx p l [a,b,c]):=by
 unfold Zt zbn
 rw [show Zc (m+1000) p l [a,b,c]=_ from zpL (m+600) p l [a,b,c] (by simp) (by simp) hl]
 rfl
theorem zuf {p:zJ} (h:Few p):∀s∈YP p,oks p.1.length s:=by
 intro s hs
 rw [Jn] at hs
 exact (((znD h.sm h.l h.i).out p.1.length (Nat.le_refl _)).resolve_right (by have:=h.n;omega)).ok s hs
theorem zp6 {p:zJ} (h:Few p):(YP p).length≤696:=by
 have h1:=(((znD h.sm h.l h.i).out p.1.length (Nat.le_refl _)).resolve_right (by have:=h.n;omega)).len
 have h2:=h.n
 unfold YP
 rw [(KL _ _).length_eq]
 omega
theorem zA1 (m:Nat) {ρ:Type} {p:zJ} (h:Few p) {D:jO} (E:List Pt) (hE:E.length≤700) (A:List Tr) (hA:A.length≤20000) {R S:List Pt} {s:Pt} (hs:oks p.1.length s) {x26:List Pt} {x27 x28:Int} {K:jO→List Pt→Int→Int→Option ρ} {F:(zJ×jO×List (Pt×Bool)×jO×Pt×Int×List Pt×Int×Int)→((zJ×jO×List (Pt×Bool)×jO×Pt×Int×List Pt×Int×Int)→Option ρ)→Option ρ}
  (hF:∀(c:Int) (B:List Tr) next,0≤c→c<p.1.length→B.length≤30000→F (p,D,yes E,(R,B,S),s,c,x26,x27,x28) next=next (p,D,yes E,(R,B++(zjH p E s c).toList,S),s,c+1,x26,x27,x28))
  (hK:∀(B:List Tr) next,F (p,D,yes E,(R,B,S),s,(p.1.length:Int),x26,x27,x28) next=K (R,B,S) x26 x27 x28) :
  zA F (m+1000) (p,D,yes E,(R,A,S),s,s.2+1,x26,x27,x28)=K (R,A++zlT p E s,S) x26 x27 x28:=by
 obtain ⟨_,h1,h2⟩:=hs
 have hn:=h.n
 refine Q3 (fun j=>(p,D,yes E,(R,A++znv p E s j,S),s,s.2+1+(j:Int),x26,x27,x28)) (cnt p s) ?_ (fun nx=>?_) (fun j hj nx hnx=>?_) _ (by unfold cnt;omega)
 ·show _=(p,D,yes E,(R,A++[],S),s,s.2+1+((0:Nat):Int),x26,x27,x28)
  rw [List.append_nil,show s.2+1+((0:Nat):Int)=s.2+1 by omega]
 ·rw [show s.2+1+(cnt p s:Int)=(p.1.length:Int) by unfold cnt;omega]
  exact hK _ _
 ·have:=zoM p E s j
  unfold cnt at hj
  rw [hF _ _ _ (by omega) (by omega) (by rw [List.length_append];omega),←hnx,zsX,List.append_assoc,show s.2+1+((j+1:Nat):Int)=s.2+1+(j:Int)+1 by omega]
end Go.Proofs.YtpkkcjmblocjdaaGreat.Pure
end
section
namespace Go.Proofs.YtpkkcjmblocjdaaGreat.Pure
open Go.RowKit Go.Proofs.YtpkkcjmblocjdaaGreat.AM PL
abbrev St9:Type:=zJ×jO×List (Pt×Bool)×jO×Pt×Int×List Pt×Int×Int
theorem zy4 (m : Nat) {ρ : Type} {p : zJ} (h : Few p) {D : jO} (E : List Pt) {R S : List Pt} {s : Pt} (hs : oks p.1.length s) {x26 : List Pt} {x27 x28 : Int} {K : zJ → jO → List (Pt × Bool) → jO → List Pt → Int → Int → Option ρ} {F : St9 → (St9 → Option ρ) → Option ρ}
    (hF : ∀ (x20 : zJ) (x21 : jO) x22 (x23 : jO) (x24 : Pt) (x25 : Int) x26 x27 x28 next19, F (x20, x21, x22, x23, x24, x25, x26, x27, x28) next19 =
        bif decide (x25 < (x20.1.length : Int)) then
         zz (α := (((List (Int × Int)) × ((List (Int × Int)) × (List (Int × Int)))) × (((List (Int × Int)) × ((List (Int × (Int × Int))) × (List (Int × Int)))) × ((List ((Int × Int) × Bool)) × (((List (Int × Int)) × ((List (Int × (Int × Int))) × (List (Int × Int)))) × ((Int × Int) × (Int × ((List (Int × Int)) × (Int × Int))))))))) (fun (y29, y30, y31, y32, y33, y34, y35, y36, y37) =>
          next19 ((y29.1, y29.2.1, y29.2.2), (y30.1, y30.2.1, y30.2.2), y31, (y32.1, y32.2.1, y32.2.2), (y33.1, y33.2), w64 (y34 + 1), y35, y36, y37)) fun j38 =>
         zz (α := (((List (Int × Int)) × ((List (Int × Int)) × (List (Int × Int)))) × (((List (Int × Int)) × ((List (Int × (Int × Int))) × (List (Int × Int)))) × ((List ((Int × Int) × Bool)) × (((List (Int × Int)) × ((List (Int × (Int × Int))) × (List (Int × Int)))) × ((Int × Int) × (Int × ((List (Int × Int)) × (Int × (Int × Bool)))))))))) (fun (y39, y40, y41, y42, y43, y44, y45, y46, y47, y48) =>
          bif y48 then
           j38 ((y39.1, y39.2.1, y39.2.2), (y40.1, y40.2.1, y40.2.2), y41, (y42.1, y42.2.1, y42.2.2), (y43.1, y43.2), y44, y45, y46, y47)
          else
           bnd (Z3 (m + 1000) y39.1 y43.1 y43.2 y44) fun r49 =>
           bnd (Zt (m + 1000) y39.1 y39.2.1 y43.1 y43.2 y44) fun r50 =>
           zz (α := (((List (Int × Int)) × ((List (Int × Int)) × (List (Int × Int)))) × (((List (Int × Int)) × ((List (Int × (Int × Int))) × (List (Int × Int)))) × ((List ((Int × Int) × Bool)) × (((List (Int × Int)) × ((List (Int × (Int × Int))) × (List (Int × Int)))) × ((Int × Int) × (Int × ((Int × (Int × Int)) × ((List (Int × Int)) × (Int × (Int × Bool))))))))))) (fun (y51, y52, y53, y54, y55, y56, y57, y58, y59, y60, y61) =>
            zz (α := (((List (Int × Int)) × ((List (Int × Int)) × (List (Int × Int)))) × (((List (Int × Int)) × ((List (Int × (Int × Int))) × (List (Int × Int)))) × ((List ((Int × Int) × Bool)) × (((List (Int × Int)) × ((List (Int × (Int × Int))) × (List (Int × Int)))) × ((Int × Int) × (Int × ((List (Int × Int)) × (Int × Int))))))))) (fun (y62, y63, y64, y65, y66, y67, y68, y69, y70) =>
             j38 ((y62.1, y62.2.1, y62.2.2), (y63.1, y63.2.1, y63.2.2), y64, (y65.1, y65.2.1, y65.2.2), (y66.1, y66.2), y67, y68, y69, y70)) fun j71 =>
            bif y61 then
             gd (few (y54.2.1.length + 1)) <|
             j71 ((y51.1, y51.2.1, y51.2.2), (y52.1, y52.2.1, y52.2.2), y53, (y54.1, y54.2.1 ++ [(y57.1, y57.2.1, y57.2.2)], y54.2.2), (y55.1, y55.2), y56, y58, y59, y60)
            else
             j71 ((y51.1, y51.2.1, y51.2.2), (y52.1, y52.2.1, y52.2.2), y53, (y54.1, y54.2.1, y54.2.2), (y55.1, y55.2), y56, y58, y59, y60)) fun j72 =>
           bif r49.2 then
            bif decide (r50.1 = 1) then
             bnd (ZL (m + 1000) y39.1 (r49.1.1, r49.1.2.1, r49.1.2.2)) fun r73 =>
             j72 ((y39.1, y39.2.1, y39.2.2), (y40.1, y40.2.1, y40.2.2), y41, (y42.1, y42.2.1, y42.2.2), (y43.1, y43.2), y44, (r49.1.1, r49.1.2.1, r49.1.2.2), y45, y46, y47, r73)
            else
             j72 ((y39.1, y39.2.1, y39.2.2), (y40.1, y40.2.1, y40.2.2), y41, (y42.1, y42.2.1, y42.2.2), (y43.1, y43.2), y44, (r49.1.1, r49.1.2.1, r49.1.2.2), y45, y46, y47, false)
           else
            j72 ((y39.1, y39.2.1, y39.2.2), (y40.1, y40.2.1, y40.2.2), y41, (y42.1, y42.2.1, y42.2.2), (y43.1, y43.2), y44, (r49.1.1, r49.1.2.1, r49.1.2.2), y45, y46, y47, false)) fun j74 =>
         bif !(toT Bool (lkM (.pair (.int .i64) (.int .i64)) .bool x22 (x24.1, x25))) then
          j74 ((x20.1, x20.2.1, x20.2.2), (x21.1, x21.2.1, x21.2.2), x22, (x23.1, x23.2.1, x23.2.2), (x24.1, x24.2), x25, x26, x27, x28, true)
         else
          j74 ((x20.1, x20.2.1, x20.2.2), (x21.1, x21.2.1, x21.2.2), x22, (x23.1, x23.2.1, x23.2.2), (x24.1, x24.2), x25, x26, x27, x28, !(toT Bool (lkM (.pair (.int .i64) (.int .i64)) .bool x22 (x24.2, x25))))
        else
         K x20 x21 x22 x23 x26 x27 x28) (c : Int) (B : List Tr) (next : St9 → Option ρ) (hc0 : 0 ≤ c) (hc : c < p.1.length) (hB : B.length ≤ 30000) :
    F (p, D, yes E, (R, B, S), s, c, x26, x27, x28) next = next (p, D, yes E, (R, B ++ (zjH p E s c).toList, S), s, c + 1, x26, x27, x28) := by
  have hn := h.n
  have k1 : toT Bool (lkM (.pair (.int .i64) (.int .i64)) .bool (yes E) (s.1, c)) = decide ((s.1, c) ∈ E) := zeR E (s.1, c)
  have k2 : toT Bool (lkM (.pair (.int .i64) (.int .i64)) .bool (yes E) (s.2, c)) = decide ((s.2, c) ∈ E) := zeR E (s.2, c)
  have et := zyI m p.1 s.1 s.2 c (by omega)
  have eh := zzr m p.1 p.2.1 s.1 s.2 c (by have := h.l; omega)
  have ea : B ++ [] = B := List.append_nil B
  rw [hF, zl (by omega)]
  simp only [zz, k1, k2]
  rw [zo (x := c + 1) (by omega) (by omega)]
  unfold zjH
  by_cases h1 : (s.1, c) ∈ E
  · rw [KH h1]
    by_cases h2 : (s.2, c) ∈ E
    · rw [decide_eq_true h2]
      simp only [Bool.not_true, cF]
      rw [et, zt, eh, zt]
      by_cases h3 : (ZE p.1 s.1 s.2 c).2 = true
      · rw [Ky h3]
        by_cases h4 : (Yx p.1 p.2.1 [s.1, s.2, c]).1 = 1
        · rw [zl h4]
          have hr : inr (ZE p.1 s.1 s.2 c).1.1 p.1.length ∧ inr (ZE p.1 s.1 s.2 c).1.2.1 p.1.length ∧ inr (ZE p.1 s.1 s.2 c).1.2.2 p.1.length := by
            have hr0 : inr c p.1.length := ⟨hc0, hc⟩
            unfold ZE at h3 ⊢
            rw [if_pos ⟨hs.1, hs.2, hr0⟩] at h3 ⊢
            split at h3
            · cases h3
            · rename_i h0
              rw [if_neg h0]
              have r3 : ∀ x y z : Int, inr x p.1.length → inr y p.1.length → inr z p.1.length → inr (zcE x y z).1 p.1.length ∧ inr (zcE x y z).2.1 p.1.length ∧ inr (zcE x y z).2.2 p.1.length := by
                intro x y z hx hy hz
                unfold zcE
                (repeat' split)
                · exact ⟨hx, hy, hz⟩
                · exact ⟨hy, hz, hx⟩
                · exact ⟨hz, hx, hy⟩
              split
              · exact r3 _ _ _ hs.1 hr0 hs.2
              · exact r3 _ _ _ hs.1 hs.2 hr0
          rw [show ZL (m + 1000) p.1 ((ZE p.1 s.1 s.2 c).1.1, (ZE p.1 s.1 s.2 c).1.2.1, (ZE p.1 s.1 s.2 c).1.2.2) = _ from zyb m (by omega) hr, zt]
          by_cases h5 : zoZ p.1 (ZE p.1 s.1 s.2 c).1 = true
          · rw [if_pos ⟨h1, h2, h3, h4, h5⟩, Ky h5, z6 (ZU (by omega))]
            rfl
          · rw [if_neg (fun x => h5 x.2.2.2.2), QD (by simpa using h5)]
            show _ = next (p, D, yes E, (R, B ++ [], S), s, c + 1, x26, x27, x28)
            rw [ea]
        · rw [zg h4, if_neg (fun x => h4 x.2.2.2.1)]
          show _ = next (p, D, yes E, (R, B ++ [], S), s, c + 1, x26, x27, x28)
          rw [ea]
      · rw [QD (by simpa using h3), if_neg (fun x => h3 x.2.2.1)]
        show _ = next (p, D, yes E, (R, B ++ [], S), s, c + 1, x26, x27, x28)
        rw [ea]
    · rw [decide_eq_false h2, if_neg (fun x => h2 x.2.1)]
      simp only [Bool.not_false, cT]
      show _ = next (p, D, yes E, (R, B ++ [], S), s, c + 1, x26, x27, x28)
      rw [ea]
  · rw [zb5 h1, if_neg (fun x => h1 x.1), cT]
    show _ = next (p, D, yes E, (R, B ++ [], S), s, c + 1, x26, x27, x28)
    rw [ea]
theorem zAt (m : Nat) {ρ : Type} {p : zJ} (h : Few p) {D : jO} (E : List Pt) (hE : E.length ≤ 700) (A : List Tr) (hA : A.length ≤ 20000) {R S : List Pt} {s : Pt} (hs : oks p.1.length s) {x26 : List Pt} {x27 x28 : Int} {K : zJ → jO → List (Pt × Bool) → jO → List Pt → Int → Int → Option ρ} {F : St9 → (St9 → Option ρ) → Option ρ}
    (hF : ∀ (x20 : zJ) (x21 : jO) x22 (x23 : jO) (x24 : Pt) (x25 : Int) x26 x27 x28 next19, F (x20, x21, x22, x23, x24, x25, x26, x27, x28) next19 =
        bif decide (x25 < (x20.1.length : Int)) then
         zz (α := (((List (Int × Int)) × ((List (Int × Int)) × (List (Int × Int)))) × (((List (Int × Int)) × ((List (Int × (Int × Int))) × (List (Int × Int)))) × ((List ((Int × Int) × Bool)) × (((List (Int × Int)) × ((List (Int × (Int × Int))) × (List (Int × Int)))) × ((Int × Int) × (Int × ((List (Int × Int)) × (Int × Int))))))))) (fun (y29, y30, y31, y32, y33, y34, y35, y36, y37) =>
          next19 ((y29.1, y29.2.1, y29.2.2), (y30.1, y30.2.1, y30.2.2), y31, (y32.1, y32.2.1, y32.2.2), (y33.1, y33.2), w64 (y34 + 1), y35, y36, y37)) fun j38 =>
         zz (α := (((List (Int × Int)) × ((List (Int × Int)) × (List (Int × Int)))) × (((List (Int × Int)) × ((List (Int × (Int × Int))) × (List (Int × Int)))) × ((List ((Int × Int) × Bool)) × (((List (Int × Int)) × ((List (Int × (Int × Int))) × (List (Int × Int)))) × ((Int × Int) × (Int × ((List (Int × Int)) × (Int × (Int × Bool)))))))))) (fun (y39, y40, y41, y42, y43, y44, y45, y46, y47, y48) =>
          bif y48 then
           j38 ((y39.1, y39.2.1, y39.2.2), (y40.1, y40.2.1, y40.2.2), y41, (y42.1, y42.2.1, y42.2.2), (y43.1, y43.2), y44, y45, y46, y47)
          else
           bnd (Z3 (m + 1000) y39.1 y43.1 y43.2 y44) fun r49 =>
           bnd (Zt (m + 1000) y39.1 y39.2.1 y43.1 y43.2 y44) fun r50 =>
           zz (α := (((List (Int × Int)) × ((List (Int × Int)) × (List (Int × Int)))) × (((List (Int × Int)) × ((List (Int × (Int × Int))) × (List (Int × Int)))) × ((List ((Int × Int) × Bool)) × (((List (Int × Int)) × ((List (Int × (Int × Int))) × (List (Int × Int)))) × ((Int × Int) × (Int × ((Int × (Int × Int)) × ((List (Int × Int)) × (Int × (Int × Bool))))))))))) (fun (y51, y52, y53, y54, y55, y56, y57, y58, y59, y60, y61) =>
            zz (α := (((List (Int × Int)) × ((List (Int × Int)) × (List (Int × Int)))) × (((List (Int × Int)) × ((List (Int × (Int × Int))) × (List (Int × Int)))) × ((List ((Int × Int) × Bool)) × (((List (Int × Int)) × ((List (Int × (Int × Int))) × (List (Int × Int)))) × ((Int × Int) × (Int × ((List (Int × Int)) × (Int × Int))))))))) (fun (y62, y63, y64, y65, y66, y67, y68, y69, y70) =>
             j38 ((y62.1, y62.2.1, y62.2.2), (y63.1, y63.2.1, y63.2.2), y64, (y65.1, y65.2.1, y65.2.2), (y66.1, y66.2), y67, y68, y69, y70)) fun j71 =>
            bif y61 then
             gd (few (y54.2.1.length + 1)) <|
             j71 ((y51.1, y51.2.1, y51.2.2), (y52.1, y52.2.1, y52.2.2), y53, (y54.1, y54.2.1 ++ [(y57.1, y57.2.1, y57.2.2)], y54.2.2), (y55.1, y55.2), y56, y58, y59, y60)
            else
             j71 ((y51.1, y51.2.1, y51.2.2), (y52.1, y52.2.1, y52.2.2), y53, (y54.1, y54.2.1, y54.2.2), (y55.1, y55.2), y56, y58, y59, y60)) fun j72 =>
           bif r49.2 then
            bif decide (r50.1 = 1) then
             bnd (ZL (m + 1000) y39.1 (r49.1.1, r49.1.2.1, r49.1.2.2)) fun r73 =>
             j72 ((y39.1, y39.2.1, y39.2.2), (y40.1, y40.2.1, y40.2.2), y41, (y42.1, y42.2.1, y42.2.2), (y43.1, y43.2), y44, (r49.1.1, r49.1.2.1, r49.1.2.2), y45, y46, y47, r73)
            else
             j72 ((y39.1, y39.2.1, y39.2.2), (y40.1, y40.2.1, y40.2.2), y41, (y42.1, y42.2.1, y42.2.2), (y43.1, y43.2), y44, (r49.1.1, r49.1.2.1, r49.1.2.2), y45, y46, y47, false)
           else
            j72 ((y39.1, y39.2.1, y39.2.2), (y40.1, y40.2.1, y40.2.2), y41, (y42.1, y42.2.1, y42.2.2), (y43.1, y43.2), y44, (r49.1.1, r49.1.2.1, r49.1.2.2), y45, y46, y47, false)) fun j74 =>
         bif !(toT Bool (lkM (.pair (.int .i64) (.int .i64)) .bool x22 (x24.1, x25))) then
          j74 ((x20.1, x20.2.1, x20.2.2), (x21.1, x21.2.1, x21.2.2), x22, (x23.1, x23.2.1, x23.2.2), (x24.1, x24.2), x25, x26, x27, x28, true)
         else
          j74 ((x20.1, x20.2.1, x20.2.2), (x21.1, x21.2.1, x21.2.2), x22, (x23.1, x23.2.1, x23.2.2), (x24.1, x24.2), x25, x26, x27, x28, !(toT Bool (lkM (.pair (.int .i64) (.int .i64)) .bool x22 (x24.2, x25))))
        else
         K x20 x21 x22 x23 x26 x27 x28) :
    zA F (m + 1000) (p, D, yes E, (R, A, S), s, s.2 + 1, x26, x27, x28) = K p D (yes E) (R, A ++ zlT p E s, S) x26 x27 x28 :=
  zA1 m h E hE A hA hs (K := fun a b c d => K p D (yes E) a b c d) (zy4 m h E hs hF) (fun B nx => by
    rw [hF]
    exact zg (by show ¬ (p.1.length : Int) < (p.1.length : Int); omega))
abbrev St7:Type:=zJ×jO×List (Pt×Bool)×jO×List Pt×Int×Int
theorem zz8 (m : Nat) {ρ : Type} {fin : List Pt → List Tr → List Pt → Option ρ} {p : zJ} (h : Few p) {D : jO} {R S : List Pt} (E : List Pt) (hE : E.length ≤ 700) (ho : ∀ s ∈ E, oks p.1.length s) {G : (St7 → Option ρ) → zJ → jO → List (Pt × Bool) → jO → Pt → Int → List Pt → Int → Int → Option ρ} {F : St7 → (St7 → Option ρ) → Option ρ}
    (hG : ∀ (A : List Tr) (s : Pt) (i : Int) next, A.length ≤ 20000 → oks p.1.length s → G next p D (yes E) (R, A, S) s (s.2 + 1) E (E.length : Int) i = next (p, D, yes E, (R, A ++ zlT p E s, S), E, (E.length : Int), w64 (i + 1)))
    (hF : ∀ (x12 : zJ) (x13 : jO) x14 (x15 : jO) (x16 : List Pt) (x17 x18 : Int) next11, F (x12, x13, x14, x15, x16, x17, x18) next11 =
      bif decide (x18 < x17) then
       gd (inb x18 x16.length) <|
       G next11 x12 x13 x14 x15 (rdD (0, 0) x16 x18) (w64 ((rdD (0, 0) x16 x18).2 + 1)) x16 x17 x18
      else
       gd (few x15.2.1.length) <|
       fin x15.1 (Xw Yp x15.2.1) x15.2.2) :
    zA F (m + 1000) (p, D, yes E, (R, [], S), E, (E.length : Int), 0) = fin R (Xw Yp (zoq p E)) S := by
  have hlen : ∀ i, i ≤ E.length → ((E.take i).flatMap (zlT p E)).length ≤ 20000 := by
    intro i hi
    have h1 := XX (zlT p E) 24 (E.take i) (fun s _ => Nat.le_trans (zoM p E s (cnt p s)) (by have := h.n; unfold cnt; omega))
    rw [List.length_take] at h1
    omega
  have ht : (zoq p E).length ≤ 20000 := by
    have := hlen E.length (Nat.le_refl _)
    rwa [List.take_length] at this
  refine Q3 (fun i => (p, D, yes E, (R, (E.take i).flatMap (zlT p E), S), E, (E.length : Int), (i : Int))) E.length rfl (fun nx => ?_) (fun i hi nx hnx => ?_) _ (by omega)
  · rw [hF, zg (by omega), List.take_length, z6 (ZU (by show (zoq p E).length < _; omega))]
    rfl
  · have hs := ho _ (List.getElem_mem hi)
    obtain ⟨_, a1, a2⟩ := hs
    have hn := h.n
    rw [hF, zl (by omega), z6 (zF ⟨by omega, by omega⟩), z7 _ _ i hi, zo (x := E[i].2 + 1) (by omega) (by omega), hG _ _ _ _ (hlen i (by omega)) (ho _ (List.getElem_mem hi)), zo (x := (i : Int) + 1) (by omega) (by omega), ← hnx, zm4 _ _ _ hi]
    rfl
theorem zyU (m : Nat) {p : zJ} (h : Few p) (hF : zcB p = true → K4 p ∧ p.1.length ≠ 0) : ZY (m + 1000) p = some (if zcB p = true then ((p.1, qt p, jb p), 0) else (([], [], []), 2)) := by
  unfold ZY zfl
  rw [show ZJ (m + 1000) (p.1, p.2.1, p.2.2) = _ from zrn m h, zt]
  cases hg : zcB p with
  | false => rfl
  | true =>
    obtain ⟨hf, hne⟩ := hF hg
    rw [if_pos rfl, if_pos rfl, KH rfl]
    have hlen := zp6 h
    have hnd : (YP p).Nodup := zlJ.nodup (zhc hf)
    have hok := zuf h
    have ht : qt p = Xw Yp (zoq p (YP p)) := rfl
    rw [ht]
    clear ht
    dsimp only
    generalize YP p = E at *
    have hn := h.n; have hL := h.l; have hI := h.i
    refine Q3 (fun i => (p, ([], [], []), E, yes (E.take i), E, (E.length : Int), (i : Int))) E.length rfl (fun nx => ?_) (fun i hi nx hnx => ?_) _ (by omega)
    · dsimp only
      rw [zg (by omega), z6 (decide_eq_true (by omega)), z6 (ZU (by omega)), show ZZ (m + 1000) (p.1, p.2.1, p.2.2) = _ from zro m p (by omega) (by omega), zt, List.take_length]
      refine Eq.trans (zz8 m h (ρ := jO × Int) (D := ([], [], [])) (R := p.1) (S := jb p) (fin := fun R T S => some ((R, T, S), 0)) E (by omega) hok (G := fun next11 x12 x13 x14 x15 s c x16 x17 x18 =>
               zA (α := (((List (Int × Int)) × ((List (Int × Int)) × (List (Int × Int)))) × (((List (Int × Int)) × ((List (Int × (Int × Int))) × (List (Int × Int)))) × ((List ((Int × Int) × Bool)) × (((List (Int × Int)) × ((List (Int × (Int × Int))) × (List (Int × Int)))) × ((Int × Int) × (Int × ((List (Int × Int)) × (Int × Int))))))))) (fun (x20, x21, x22, x23, x24, x25, x26, x27, x28) next19 =>
                bif decide (x25 < (x20.1.length : Int)) then
                 zz (α := (((List (Int × Int)) × ((List (Int × Int)) × (List (Int × Int)))) × (((List (Int × Int)) × ((List (Int × (Int × Int))) × (List (Int × Int)))) × ((List ((Int × Int) × Bool)) × (((List (Int × Int)) × ((List (Int × (Int × Int))) × (List (Int × Int)))) × ((Int × Int) × (Int × ((List (Int × Int)) × (Int × Int))))))))) (fun (y29, y30, y31, y32, y33, y34, y35, y36, y37) =>
                  next19 ((y29.1, y29.2.1, y29.2.2), (y30.1, y30.2.1, y30.2.2), y31, (y32.1, y32.2.1, y32.2.2), (y33.1, y33.2), w64 (y34 + 1), y35, y36, y37)) fun j38 =>
                 zz (α := (((List (Int × Int)) × ((List (Int × Int)) × (List (Int × Int)))) × (((List (Int × Int)) × ((List (Int × (Int × Int))) × (List (Int × Int)))) × ((List ((Int × Int) × Bool)) × (((List (Int × Int)) × ((List (Int × (Int × Int))) × (List (Int × Int)))) × ((Int × Int) × (Int × ((List (Int × Int)) × (Int × (Int × Bool)))))))))) (fun (y39, y40, y41, y42, y43, y44, y45, y46, y47, y48) =>
                  bif y48 then
                   j38 ((y39.1, y39.2.1, y39.2.2), (y40.1, y40.2.1, y40.2.2), y41, (y42.1, y42.2.1, y42.2.2), (y43.1, y43.2), y44, y45, y46, y47)
                  else
                   bnd (Z3 (m + 1000) y39.1 y43.1 y43.2 y44) fun r49 =>
                   bnd (Zt (m + 1000) y39.1 y39.2.1 y43.1 y43.2 y44) fun r50 =>
                   zz (α := (((List (Int × Int)) × ((List (Int × Int)) × (List (Int × Int)))) × (((List (Int × Int)) × ((List (Int × (Int × Int))) × (List (Int × Int)))) × ((List ((Int × Int) × Bool)) × (((List (Int × Int)) × ((List (Int × (Int × Int))) × (List (Int × Int)))) × ((Int × Int) × (Int × ((Int × (Int × Int)) × ((List (Int × Int)) × (Int × (Int × Bool))))))))))) (fun (y51, y52, y53, y54, y55, y56, y57, y58, y59, y60, y61) =>
                    zz (α := (((List (Int × Int)) × ((List (Int × Int)) × (List (Int × Int)))) × (((List (Int × Int)) × ((List (Int × (Int × Int))) × (List (Int × Int)))) × ((List ((Int × Int) × Bool)) × (((List (Int × Int)) × ((List (Int × (Int × Int))) × (List (Int × Int)))) × ((Int × Int) × (Int × ((List (Int × Int)) × (Int × Int))))))))) (fun (y62, y63, y64, y65, y66, y67, y68, y69, y70) =>
                     j38 ((y62.1, y62.2.1, y62.2.2), (y63.1, y63.2.1, y63.2.2), y64, (y65.1, y65.2.1, y65.2.2), (y66.1, y66.2), y67, y68, y69, y70)) fun j71 =>
                    bif y61 then
                     gd (few (y54.2.1.length + 1)) <|
                     j71 ((y51.1, y51.2.1, y51.2.2), (y52.1, y52.2.1, y52.2.2), y53, (y54.1, y54.2.1 ++ [(y57.1, y57.2.1, y57.2.2)], y54.2.2), (y55.1, y55.2), y56, y58, y59, y60)
                    else
                     j71 ((y51.1, y51.2.1, y51.2.2), (y52.1, y52.2.1, y52.2.2), y53, (y54.1, y54.2.1, y54.2.2), (y55.1, y55.2), y56, y58, y59, y60)) fun j72 =>
                   bif r49.2 then
                    bif decide (r50.1 = 1) then
                     bnd (ZL (m + 1000) y39.1 (r49.1.1, r49.1.2.1, r49.1.2.2)) fun r73 =>
                     j72 ((y39.1, y39.2.1, y39.2.2), (y40.1, y40.2.1, y40.2.2), y41, (y42.1, y42.2.1, y42.2.2), (y43.1, y43.2), y44, (r49.1.1, r49.1.2.1, r49.1.2.2), y45, y46, y47, r73)
                    else
                     j72 ((y39.1, y39.2.1, y39.2.2), (y40.1, y40.2.1, y40.2.2), y41, (y42.1, y42.2.1, y42.2.2), (y43.1, y43.2), y44, (r49.1.1, r49.1.2.1, r49.1.2.2), y45, y46, y47, false)
                   else
                    j72 ((y39.1, y39.2.1, y39.2.2), (y40.1, y40.2.1, y40.2.2), y41, (y42.1, y42.2.1, y42.2.2), (y43.1, y43.2), y44, (r49.1.1, r49.1.2.1, r49.1.2.2), y45, y46, y47, false)) fun j74 =>
                 bif !(toT Bool (lkM (.pair (.int .i64) (.int .i64)) .bool x22 (x24.1, x25))) then
                  j74 ((x20.1, x20.2.1, x20.2.2), (x21.1, x21.2.1, x21.2.2), x22, (x23.1, x23.2.1, x23.2.2), (x24.1, x24.2), x25, x26, x27, x28, true)
                 else
                  j74 ((x20.1, x20.2.1, x20.2.2), (x21.1, x21.2.1, x21.2.2), x22, (x23.1, x23.2.1, x23.2.2), (x24.1, x24.2), x25, x26, x27, x28, !(toT Bool (lkM (.pair (.int .i64) (.int .i64)) .bool x22 (x24.2, x25))))
                else
                 next11 ((x20.1, x20.2.1, x20.2.2), (x21.1, x21.2.1, x21.2.2), x22, (x23.1, x23.2.1, x23.2.2), x26, x27, w64 (x28 + 1))) (m + 1000) (x12, x13, x14, x15, s, c, x16, x17, x18)) ?hG (fun _ _ _ _ _ _ _ _ => rfl)) rfl
      intro A s i next hA hs
      exact zAt m h E (by omega) A hA hs (K := fun x20 x21 x22 x23 x26 x27 x28 => next (x20, x21, x22, x23, x26, x27, w64 (x28 + 1))) (fun _ _ _ _ _ _ _ _ _ _ => rfl)
    · dsimp only
      have hno : E[i] ∉ E.take i := by
        intro hm
        obtain ⟨k, hk, e⟩ := List.getElem_of_mem hm
        rw [List.length_take] at hk
        rw [List.getElem_take] at e
        exact List.pairwise_iff_getElem.1 (List.nodup_iff_pairwise_ne.1 hnd) k i (by omega) hi (by omega) e
      have h1 : hsM (.pair (.int .i64) (.int .i64)) .bool (yes (E.take i)) (E[i].1, E[i].2) = false := (zqH (E.take i) E[i]).trans (decide_eq_false hno)
      have h2 : adM (.pair (.int .i64) (.int .i64)) .bool (yes (E.take i)) (E[i].1, E[i].2) true = yes (E.take (i + 1)) := (zra (E.take i) E[i]).trans (by rw [Xp E i hi])
      rw [zl (by omega), z6 (zF ⟨by omega, by omega⟩), z7 _ _ i hi, h1, h2, zo (x := (i : Int) + 1) (by omega) (by omega), ← hnx]
      rfl
end Go.Proofs.YtpkkcjmblocjdaaGreat.Pure
end
section
namespace Go.Proofs.YtpkkcjmblocjdaaGreat.Pure
open Go.RowKit Go.Proofs.YtpkkcjmblocjdaaGreat.AM PL
theorem zmA {p:zJ} (h:Sm p) (hg:zcB p=true):K4 p∧p.1.length≠0:=by
 have R:=zjx h hg
 refine ⟨R.fine,fun e=>R.n6 ?_⟩
 cases hL:p.2.1 with
 |nil=>rfl
 |cons s l =>
  have:=(R.fine.okL s (by rw [hL];exact List.mem_cons_self)).1.1
  unfold inr at this
  omega
theorem zok (m:Nat) {p:zJ} (h:Few p):ZY (m+1000) p=some (if zcB p=true then ((p.1,qt p,jb p),0) else (([],[],[]),2)):=zyU m h (zmA h.sm)
theorem zxT (m:Nat) (l:List Tr) (hl:l.length≤900):qS (m+1000) l l=some true:=by
 unfold qS
 rw [KH rfl]
 refine Q3 (fun i=>(l,l,(i:Int))) l.length rfl (fun next=>?_) (fun i hi next hn=>?_) _ (by omega)
 ·dsimp only
  rw [zg (by omega)]
 ·dsimp only
  have hin:inb (i:Int) l.length=true:=zF ⟨by omega,by omega⟩
  simp only [hin,gT]
  rw [zl (by omega),zo (x:=(i:Int)+1) (by omega) (by omega)]
  simp only [decide_true,Bool.and_self,Bool.not_true,cF]
  exact hn
def sq0:zJ:=([(0,0),(4,0),(4,4),(0,4)],[(0,1),(1,2),(2,3),(3,0)],[])
theorem zvS:Sm sq0:=⟨by decide +kernel,by decide,by decide,by decide⟩
theorem zsn:Few sq0:=⟨zvS,by decide,by decide,by decide⟩
theorem zkp:zcB sq0=true:=by decide +kernel
theorem zww:K4 sq0:=(zmA zvS zkp).1
def sqE:List Pt:=[(0,1),(0,2),(0,3),(1,2),(2,3)]
def sqS:List Pt:=[(0,1),(0,3),(1,2),(2,3)]
def sqT:List Tr:=[(0,1,2),(0,2,3)]
theorem zpg:jb sq0=sqS:=by
 refine zlJ.ext (zlJ.srt zw8 (by decide)) (by decide) fun s=>?_
 refine ((KL J8 ((sgs sq0).map up)).mem_iff).trans ?_
 show s∈[(0,1),(1,2),(2,3),(0,3)]↔s∈[(0,1),(0,3),(1,2),(2,3)]
 simp only [List.mem_cons,List.not_mem_nil,or_false]
 constructor<;>(rintro (h|h|h|h)<;>simp [h])
theorem zyy:edg sq0=sqS++[(0,2)]:=by
 unfold edg
 rw [zpg]
 decide +kernel
theorem zmO:YP sq0=sqE:=by
 refine zlJ.ext (zhc zww) (by decide) fun s=>?_
 rw [Jn,zyy]
 show s∈[(0,1),(0,3),(1,2),(2,3),(0,2)]↔s∈[(0,1),(0,2),(0,3),(1,2),(2,3)]
 simp only [List.mem_cons,List.not_mem_nil,or_false]
 constructor<;>(rintro (h|h|h|h|h)<;>simp [h])
theorem zv0:qt sq0=sqT:=by
 have e:zoq sq0 sqE=sqT:=by decide +kernel
 unfold qt
 rw [zmO,e]
 exact zv1.ext (zv1.srt zzy (by decide)) (by decide) fun s=>(KL Yp sqT).mem_iff
theorem zze:Few ([],[],[]):=⟨⟨by decide +kernel,by decide,by decide,by decide⟩,by decide,by decide,by decide⟩
theorem zyw:zcB ([],[],[])=false:=by decide +kernel
theorem zxa (m:Nat):jH (m+1000)=some true:=by
 unfold jH J5
 have h1:=zrn m zsn
 rw [if_pos zkp,zmO] at h1
 have h2:=zok m zsn
 rw [if_pos zkp,zv0,zpg] at h2
 have h3:=zok m zze
 rw [zyw,if_neg (by decide)] at h3
 have h4:zqw (sq0.1,sqT,sqS)=0:=by decide +kernel
 have h5:=zpI m (sq0.1,sqT,sqS) (by decide) (by decide) (by decide)
 rw [h4] at h5
 rw [show ZJ (m+1000) ([(0,0),(4,0),(4,4),(0,4)],[(0,1),(1,2),(2,3),(3,0)],[])=_ from h1,zt,show ZY (m+1000) ([(0,0),(4,0),(4,4),(0,4)],[(0,1),(1,2),(2,3),(3,0)],[])=_ from h2,zt,h3,zt]
 simp only [zz]
 rw [show qT (m+1000) sqE [(0,1),(0,2),(0,3),(1,2),(2,3)]=_ from zye m sqE (by decide),zt,cT,zl trivial,show qS (m+1000) sqT [(0,1,2),(0,2,3)]=_ from zxT m sqT (by decide),zt,cT,zl trivial,h5,zt,zl rfl]
 rfl
end Go.Proofs.YtpkkcjmblocjdaaGreat.Pure
end
section
namespace Go.Proofs.YtpkkcjmblocjdaaGreat.Pure
open Go.RowKit Go.Proofs.YtpkkcjmblocjdaaGreat.AM PL
def zhU (p:zJ):Prop:=(p.1.length>24∧p.1.length≤200)∨(p.2.1.length>60∧p.2.1.length≤400)∨(p.2.2.length>60∧p.2.2.length≤400)∨p.1.length>300∨p.2.1.length>500∨p.2.2.length>500
theorem zx8 (k:Nat) (p:zJ):∃b,js k p=some b∧(b=false→¬zhU p):=by
 unfold js
 simp only [zz]
 have key:∀x:Option Bool,(∃b,x=some b∧(b=false→¬zhU p))→∃b,x=some b∧(b=false→¬zhU p):=fun _ h=>h
 have last:¬(p.1.length>24∧p.1.length≤200)→¬(p.2.1.length>60∧p.2.1.length≤400)→¬(p.2.2.length>60∧p.2.2.length≤400) →
   ∃b,(bif decide ((p.1.length:Int)>300) then some true else bif decide ((p.2.1.length:Int)>500) then some true else some (decide ((p.2.2.length:Int)>500)))=some b∧(b=false→¬zhU p):=by
  intro h1 h2 h3
  by_cases c1:(p.1.length:Int)>300
  ·rw [zl c1];exact ⟨true,rfl,fun h=>by cases h⟩
  rw [zg c1]
  by_cases c2:(p.2.1.length:Int)>500
  ·rw [zl c2];exact ⟨true,rfl,fun h=>by cases h⟩
  rw [zg c2]
  refine ⟨_,rfl,fun h=>?_⟩
  have:=of_decide_eq_false h
  unfold zhU
  omega
 have third:¬(p.1.length>24∧p.1.length≤200)→¬(p.2.1.length>60∧p.2.1.length≤400) →
   ∃b,(bif decide ((p.2.2.length:Int)>60) then bif decide ((p.2.2.length:Int)≤400) then some true else (bif decide ((p.1.length:Int)>300) then some true else bif decide ((p.2.1.length:Int)>500) then some true else some (decide ((p.2.2.length:Int)>500))) else (bif decide ((p.1.length:Int)>300) then some true else bif decide ((p.2.1.length:Int)>500) then some true else some (decide ((p.2.2.length:Int)>500))))=some b∧(b=false→¬zhU p):=by
  intro h1 h2
  by_cases c1:(p.2.2.length:Int)>60
  ·rw [zl c1]
   by_cases c2:(p.2.2.length:Int)≤400
   ·rw [zl c2];exact ⟨true,rfl,fun h=>by cases h⟩
   ·rw [zg c2];exact last h1 h2 (by omega)
  ·rw [zg c1];exact last h1 h2 (by omega)
 have second:¬(p.1.length>24∧p.1.length≤200) →
   ∃b,(bif decide ((p.2.1.length:Int)>60) then bif decide ((p.2.1.length:Int)≤400) then some true else (bif decide ((p.2.2.length:Int)>60) then bif decide ((p.2.2.length:Int)≤400) then some true else (bif decide ((p.1.length:Int)>300) then some true else bif decide ((p.2.1.length:Int)>500) then some true else some (decide ((p.2.2.length:Int)>500))) else (bif decide ((p.1.length:Int)>300) then some true else bif decide ((p.2.1.length:Int)>500) then some true else some (decide ((p.2.2.length:Int)>500)))) else (bif decide ((p.2.2.length:Int)>60) then bif decide ((p.2.2.length:Int)≤400) then some true else (bif decide ((p.1.length:Int)>300) then some true else bif decide ((p.2.1.length:Int)>500) then some true else some (decide ((p.2.2.length:Int)>500))) else (bif decide ((p.1.length:Int)>300) then some true else bif decide ((p.2.1.length:Int)>500) then some true else some (decide ((p.2.2.length:Int)>500)))))=some b∧(b=false→¬zhU p):=by
  intro h1
  by_cases c1:(p.2.1.length:Int)>60
  ·rw [zl c1]
   by_cases c2:(p.2.1.length:Int)≤400
   ·rw [zl c2];exact ⟨true,rfl,fun h=>by cases h⟩
   ·rw [zg c2];exact third h1 (by omega)
  ·rw [zg c1];exact third h1 (by omega)
 by_cases c1:(p.1.length:Int)>24
 ·rw [zl c1]
  by_cases c2:(p.1.length:Int)≤200
  ·rw [zl c2];exact ⟨true,rfl,fun h=>by cases h⟩
  ·rw [zg c2];exact second (by omega)
 ·rw [zg c1];exact second (by omega)
theorem zzO {p:zJ} (h:¬zhU p):chk p=false∨Few p:=by
 unfold zhU at h
 cases hc:chk p with
 |false=>exact .inl rfl
 |true =>
  refine .inr ?_
  have hf:ztT p:=by
   unfold chk at hc
   rw [Bool.and_eq_true] at hc
   exact of_decide_eq_true hc.1
  unfold ztT at hf
  exact ⟨⟨hc,by omega,by omega,by omega⟩,by omega,by omega,by omega⟩
end Go.Proofs.YtpkkcjmblocjdaaGreat.Pure
end
section
namespace Go.Proofs.YtpkkcjmblocjdaaGreat.Pure
open Go.RowKit Go.Proofs.YtpkkcjmblocjdaaGreat.AM PL
end Go.Proofs.YtpkkcjmblocjdaaGreat.Pure
end
section
namespace Go.Proofs.YtpkkcjmblocjdaaGreat.Pure
open Go.RowKit Go.Proofs.YtpkkcjmblocjdaaGreat.AM PL
end Go.Proofs.YtpkkcjmblocjdaaGreat.Pure
end
section
namespace Go.Proofs.YtpkkcjmblocjdaaGreat.Pure
open Go.RowKit Go.Proofs.YtpkkcjmblocjdaaGreat.AM PL
end Go.Proofs.YtpkkcjmblocjdaaGreat.Pure
end
