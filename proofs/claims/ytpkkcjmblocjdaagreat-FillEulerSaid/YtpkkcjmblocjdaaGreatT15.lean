/- Words, loops, orders: for layer 12. -/
import Derived.Test.YtpkkcjmblocjdaaGreatV9
import Derived.Test.YtpkkcjmblocjdaaGreatSrt
set_option linter.unusedVariables false
set_option linter.unusedSimpArgs false
set_option linter.unusedSectionVars false
section
namespace Go.Proofs.YtpkkcjmblocjdaaGreat.Pure
open Go.RowKit Go.Proofs.YtpkkcjmblocjdaaGreat.AM PL
theorem za5 {α:Type} {p:Prop} [Decidable p] {x y:α} (h:p):(bif !(decide p) then x else y)=y:=by rw [decide_eq_true h];rfl
theorem zgy {α:Type} {p:Prop} [Decidable p] {x y:α} (h:¬p):(bif !(decide p) then x else y)=x:=by rw [decide_eq_false h];rfl
theorem zcg {α ρ:Type} {f:α→(α→Option ρ)→Option ρ} (st:Nat→α) (n:Nat) (b:Nat→Bool) (v e:Option ρ) (h0:∀next,f (st n) next=e) (hs:∀i,i<n→∀next,f (st i) next=bif b i then v else next (st (i+1))) (q:Nat) (hq:n<q) :
  zw f q (st 0)=bif (List.range n).any b then v else e:=by
 refine (zG st n (fun i=>bif (List.range' i (n-i)).any b then v else e) ?_ ?_ q 0 (Nat.zero_le _) (by omega)).trans ?_
 ·intro next
  rw [h0,Nat.sub_self]
  rfl
 ·intro i hi next hn
  rw [hs i hi,hn,show n-i=(n-(i+1))+1 by omega,List.range'_succ,List.any_cons]
  cases b i<;>rfl
 ·rw [List.range_eq_range']
  rfl
theorem zaD {α ρ:Type} {f:α→(α→Option ρ)→Option ρ} (st:Nat→α) (n:Nat) (b:Nat→Bool) (v e:Option ρ) {s0:α} (es:s0=st 0) (h0:∀next,f (st n) next=e) (hs:∀i,i<n→∀next,f (st i) next=bif b i then v else next (st (i+1))) (q:Nat) (hq:n<q) :
  zw f q s0=bif (List.range n).any b then v else e:=by rw [es];exact zcg st n b v e h0 hs q hq
theorem Z6 {α ρ:Type} {f:α→(α→Option ρ)→Option ρ} (st:Nat→α) (n:Nat) {v:Option ρ} {s0:α} (e:s0=st 0) (h0:∀next,f (st n) next=v) (hs:∀i,i<n→∀next,next (st (i+1))=v→f (st i) next=v) (q:Nat) (hq:n<q):zw f q s0=v:=by
 rw [e]
 exact zG st n (fun _=>v) h0 hs q 0 (Nat.zero_le _) (by omega)
theorem zwY {α ρ:Type} (k0:Option ρ) (k1:α→List α→Option ρ):nxt [] k0 k1=k0:=rfl
theorem zAc {α ρ:Type} {es:List α} {k0:Option ρ} {k1:α→List α→Option ρ} {y:ρ} (hne:es≠[]) (h:∀(j:Nat) (e:α),es[j]?=some e→k1 e (es.eraseIdx j)=some y):nxt es k0 k1=some y:=by
 cases es with
 |nil=>exact absurd rfl hne
 |cons e r =>
  unfold nxt
  simp only
  split
  ·rename_i hc
   have h1:=hc.choose_spec 0 e rfl
   rw [h 0 e rfl] at h1
   rw [h1]
  ·rename_i hc
   exact absurd ⟨y,h⟩ hc
theorem zlx {α:Type}:∀{es:List α} {j:Nat} {e:α},es[j]?=some e→(e::es.eraseIdx j).Perm es
 |[],j,e,h=>by simp at h
 |x::es,0,e,h=>by
  simp only [List.getElem?_cons_zero,Option.some.injEq] at h
  subst h
  exact List.Perm.refl _
 |x::es,j+1,e,h=>by
  have ih:=zlx (es:=es) (j:=j) (e:=e) (by simpa using h)
  rw [List.eraseIdx_cons_succ]
  exact (List.Perm.swap x e _).trans (ih.cons x)
theorem Z7 {α:Type} (l:List α) (i:Nat) (h:i<l.length):l.take (i+1)=l.take i++[l[i]]:=by rw [List.take_add_one,List.getElem?_eq_getElem h];rfl
theorem zfx {α β:Type} (g:α→List β) (l:List α) (i:Nat) (h:i<l.length):(l.take (i+1)).flatMap g=(l.take i).flatMap g++g l[i]:=by rw [Z7 l i h,List.flatMap_append];simp
theorem zpe {α β:Type} (g:α→β) (l:List α) (i:Nat) (h:i<l.length):(l.take (i+1)).map g=(l.take i).map g++[g l[i]]:=by rw [Z7 l i h,List.map_append];rfl
theorem zt6 {α ρ:Type} {F:α→(α→Option ρ)→Option ρ} {k:Nat} {p:Prop} [Decidable p] {A B C:α} (hA:p→A=C) (hB:¬p→B=C):(bif decide p then zw F k A else zw F k B)=zw F k C:=by
 by_cases h:p
 ·rw [decide_eq_true h,hA h];rfl
 ·rw [decide_eq_false h,hB h];rfl
theorem zAR (k:Pt):(fun p:Pt×Bool=>Kd.eqT kk k p.1)=fun p=>decide (k=p.1):=funext fun p=>zqq k p.1
theorem zzb (es:List (Pt×Bool)) (k:Pt):hsM kk .bool es k=es.any fun p=>decide (k=p.1):=by
 rw [←zAR]
 rfl
def yes (l:List Pt):List (Pt×Bool):=l.map fun s=>(s,true)
theorem zqS (l:List Pt) (k:Pt):hsM kk .bool (yes l) k=decide (k∈l):=by
 rw [zzb]
 unfold yes
 rw [Bool.eq_iff_iff,List.any_eq_true,decide_eq_true_eq]
 constructor
 ·rintro ⟨p,hp,h⟩
  rw [decide_eq_true_eq] at h
  obtain ⟨s,hs,rfl⟩:=List.mem_map.1 hp
  rw [h];exact hs
 ·intro h
  exact ⟨(k,true),List.mem_map.2 ⟨k,h,rfl⟩,decide_eq_true rfl⟩
theorem zt8 {κ ν:Kd} (p:κ.T×ν.T) (es:List (κ.T×ν.T)) (k:κ.T):lkM κ ν (p::es) k=bif Kd.eqT κ k p.1 then p.2 else lkM κ ν es k:=by
 cases hb:Kd.eqT κ k p.1<;>simp only [lkM,List.find?_cons,hb,cond]
theorem ze7:∀(l:List Pt) (k:Pt),toT Bool (lkM kk .bool (yes l) k)=decide (k∈l)
 |[],k=>rfl
 |s::l,k=>by
  have e:lkM kk .bool (yes (s::l)) k=bif decide (k=s) then true else lkM kk .bool (yes l) k:=by
   rw [←zqq]
   exact zt8 (κ:=kk) (ν:=.bool) (s,true) (yes l) k
  have ih:=ze7 l k
  by_cases h:k=s
  ·rw [decide_eq_true (List.mem_cons.2 (.inl h))]
   refine (congrArg (toT Bool) e).trans ?_
   rw [decide_eq_true h];rfl
  ·refine (congrArg (toT Bool) e).trans ?_
   rw [decide_eq_false h]
   refine ih.trans ?_
   rw [Bool.eq_iff_iff,decide_eq_true_eq,decide_eq_true_eq,List.mem_cons]
   simp [h]
theorem zqb (l:List Pt) (k:Pt):adM kk .bool (yes l) k true=yes (l++[k]):=by
 unfold yes;rw [List.map_append];rfl
structure zlM {α:Type} (lt:α→α→Prop):Prop where
 irr:∀a,¬lt a a
 tr:∀{a b c},lt a b→lt b c→lt a c
 tri:∀{a b},¬lt a b→¬lt b a→a=b
section
variable {α:Type} {lt:α→α→Prop}
theorem zlM.ext (o:zlM lt):∀{l r:List α},l.Pairwise lt→r.Pairwise lt→(∀x,x∈l↔x∈r)→l=r
 |[],[],_,_,_=>rfl
 |[],y::r,_,_,h=>absurd ((h y).2 List.mem_cons_self) (List.not_mem_nil)
 |x::l,[],_,_,h=>absurd ((h x).1 List.mem_cons_self) (List.not_mem_nil)
 |x::l,y::r,hl,hr,h=>by
  have hl':=List.pairwise_cons.1 hl
  have hr':=List.pairwise_cons.1 hr
  have e:x=y:=by
   have h1:=(h x).1 List.mem_cons_self
   have h2:=(h y).2 List.mem_cons_self
   rcases List.mem_cons.1 h1 with e|h1
   ·exact e
   ·rcases List.mem_cons.1 h2 with e|h2
    ·exact e.symm
    ·exact absurd (o.tr (hl'.1 y h2) (hr'.1 x h1)) (o.irr x)
  subst e
  congr 1
  refine o.ext hl'.2 hr'.2 fun z=>⟨fun hz=>?_,fun hz=>?_⟩
  ·have:=(h z).1 (List.mem_cons_of_mem _ hz)
   rcases List.mem_cons.1 this with e|h2
   ·subst e;exact absurd (hl'.1 z hz) (o.irr z)
   ·exact h2
  ·have:=(h z).2 (List.mem_cons_of_mem _ hz)
   rcases List.mem_cons.1 this with e|h2
   ·subst e;exact absurd (hr'.1 z hz) (o.irr z)
   ·exact h2
theorem Ku (cf:α→α→Int) (l:List α):(Y0 cf l).Perm l:=List.mergeSort_perm _ _
theorem zlM.pair (o:zlM lt) {cf:α→α→Int} (hc:∀a b,cf a b<0↔lt a b) (l:List α):(Y0 cf l).Pairwise fun x y=>¬lt y x:=by
 unfold Y0
 have:=List.pairwise_mergeSort (le:=fun x y:α=>!(decide (cf y x<0))) (fun a b c h1 h2=>by
  simp only [Bool.not_eq_true',decide_eq_false_iff_not,hc] at *
  intro h
  apply h1
  by_cases h3:lt b c
  ·by_cases h4:lt a b
   ·exact absurd (o.tr h4 (o.tr h3 h)) (o.irr a)
   ·by_cases h5:lt b a
    ·exact h5
    ·rw [o.tri h4 h5] at h;exact absurd (o.tr h h3) (o.irr c)
  ·rw [o.tri h3 h2];exact h) (fun a b=>by
  simp only [Bool.or_eq_true,Bool.not_eq_true',decide_eq_false_iff_not,hc]
  by_cases h:lt b a
  ·exact .inr fun h'=>o.irr a (o.tr h' h)
  ·exact .inl h) l
 exact this.imp fun h=>by simpa [hc] using h
theorem zlM.srt (o:zlM lt) {cf:α→α→Int} (hc:∀a b,cf a b<0↔lt a b) {l:List α} (h:l.Nodup):(Y0 cf l).Pairwise lt:=by
 have hn:(Y0 cf l).Nodup:=(Ku cf l).symm.nodup h
 refine List.Pairwise.imp₂ ?_ (o.pair hc l) hn
 intro a b h1 h2
 by_cases h3:lt a b
 ·exact h3
 ·exact absurd (o.tri h3 h1) h2
theorem zlM.nodup (o:zlM lt) {l:List α} (h:l.Pairwise lt):l.Nodup:=h.imp fun {a b} hab e=>by subst e;exact o.irr _ hab
end
def ltS (a b:Pt):Prop:=a.1<b.1∨(a.1=b.1∧a.2<b.2)
instance : DecidableRel ltS:=fun a b=>inferInstanceAs (Decidable (_∨_))
abbrev Tr:Type:=Int×Int×Int
def ltT (a b:Tr):Prop:=a.1<b.1∨(a.1=b.1∧(a.2.1<b.2.1∨(a.2.1=b.2.1∧a.2.2<b.2.2)))
instance : DecidableRel ltT:=fun a b=>inferInstanceAs (Decidable (_∨_))
theorem zjr:zlM ltS where
 irr a:=by unfold ltS;omega
 tr {a b c}:=by unfold ltS;omega
 tri {a b} h1 h2:=by unfold ltS at h1 h2;exact Prod.ext (by omega) (by omega)
theorem zt0:zlM ltT where
 irr a:=by unfold ltT;omega
 tr {a b c}:=by unfold ltT;omega
 tri {a b} h1 h2:=by unfold ltT at h1 h2;exact Prod.ext (by omega) (Prod.ext (by omega) (by omega))
theorem zy9 (a b:Pt):JW a b<0↔ltS a b:=by unfold JW ltS;(repeat' split)<;>omega
theorem zzx (a b:Tr):KZ a b<0↔ltT a b:=by unfold KZ ltT;(repeat' split)<;>omega
end Go.Proofs.YtpkkcjmblocjdaaGreat.Pure
end
section
namespace Go.Proofs.YtpkkcjmblocjdaaGreat.Pure
open Go.RowKit Go.Proofs.YtpkkcjmblocjdaaGreat.AM PL
def zc7 (a b c:Int):Tr:=if a≤b∧a≤c then (a,b,c) else if b≤c∧b≤a then (b,c,a) else (c,a,b)
def K8 (p:List Pt) (a b c:Int):Tr×Bool :=
 if inr a p.length∧inr b p.length∧inr c p.length then
  (if ori (pt p a) (pt p b) (pt p c)=0 then ((0,0,0),false) else if ori (pt p a) (pt p b) (pt p c)=-1 then (zc7 a c b,true) else (zc7 a b c,true))
 else ((0,0,0),false)
theorem zAG (m:Nat) (a b q:Pt):qK (m+1000) a b q=some (ori a b q):=zaP (m+994) a b q
def zAx (a b c:Int) (i:Nat):Int:=if i=0 then a else if i=1 then b else c
theorem zA2 {F:(Int×Int×Int×Int×Int×Int)→((Int×Int×Int×Int×Int×Int)→Option (Tr×Bool))→Option (Tr×Bool)}
  (hF:∀a b c x y z next,F (a,b,c,x,y,z) next=if a>b∨a>c then next (b,c,a,x,y,z) else some ((a,b,c),true)) (m:Nat) (a b c x y z:Int) :
  zw F (m+1000) (a,b,c,x,y,z)=some (zc7 a b c,true):=by
 rw [show m+1000=(m+997)+1+1+1 from rfl,q6,hF]
 unfold zc7
 by_cases h1:a≤b∧a≤c
 ·rw [if_neg (by omega),if_pos h1]
 rw [if_pos (by omega),if_neg h1,q6,hF]
 by_cases h2:b≤c∧b≤a
 ·rw [if_neg (by omega),if_pos h2]
 rw [if_pos (by omega),if_neg h2,q6,hF,if_neg (by omega)]
theorem zyZ (m:Nat) (p:List Pt) (a b c:Int) (hp:p.length≤1000):ZU (m+1000) p a b c=some (K8 p a b c):=by
 unfold ZU zgS
 refine (zaD (fun i=>(p,a,b,c,(0,0,0),(a,b,c),(i:Int))) 3 (fun i=>!decide (inr (zAx a b c i) p.length)) (some ((0,0,0),false)) (if inr a p.length∧inr b p.length∧inr c p.length then some (K8 p a b c) else none) rfl (fun next=>?_) (fun i hi next=>?_) (m+1000) (by omega)).trans ?_
 ·dsimp only
  rw [zg (by omega)]
  by_cases h:inr a p.length∧inr b p.length∧inr c p.length
  ·rw [if_pos h,zP (zA h.1),zP (zA h.2.1),zP (zA h.2.2)]
   simp only [zx]
   have e:∀i:Int,((rdD (0,0) p i).1,(rdD (0,0) p i).2)=pt p i:=fun _=>rfl
   rw [e,e,e,zAG,zr]
   unfold K8
   rw [if_pos h]
   by_cases h0:ori (pt p a) (pt p b) (pt p c)=0
   ·rw [zk h0,if_pos h0]
   rw [zg h0,if_neg h0]
   have hF:∀a b c x y z (next:(Int×Int×Int×Int×Int×Int)→Option (Tr×Bool)),(bif decide (a>b) then (bif true then next (b,c,a,x,y,z) else some ((a,b,c),true)) else (bif decide (a>c) then next (b,c,a,x,y,z) else some ((a,b,c),true)))=if a>b∨a>c then next (b,c,a,x,y,z) else some ((a,b,c),true):=by
    intro a b c x y z next
    by_cases h1:a>b
    ·rw [zk h1,if_pos (.inl h1)];rfl
    ·rw [zg h1]
     by_cases h2:a>c
     ·rw [zk h2,if_pos (.inr h2)]
     ·rw [zg h2,if_neg (by omega)]
   by_cases h1:ori (pt p a) (pt p b) (pt p c)=-1
   ·rw [zk h1,if_pos h1]
    exact zA2 (fun a b c x y z next=>hF a b c x y z next) m _ _ _ _ _ _
   ·rw [zg h1,if_neg h1]
    exact zA2 (fun a b c x y z next=>hF a b c x y z next) m _ _ _ _ _ _
  ·rw [if_neg h]
   by_cases ha:inr a p.length
   ·rw [zP (zA ha)]
    by_cases hb:inr b p.length
    ·rw [zP (zA hb)]
     have hc:¬inr c p.length:=fun hc=>h ⟨ha,hb,hc⟩
     have:inb c p.length=false:=by unfold inb;unfold inr at hc;simp;omega
     rw [this];rfl
    ·have:inb b p.length=false:=by unfold inb;unfold inr at hb;simp;omega
     rw [this];rfl
   ·have:inb a p.length=false:=by unfold inb;unfold inr at ha;simp;omega
    rw [this];rfl
 ·dsimp only
  rw [zk (by omega)]
  simp only [zx]
  rw [zl (x:=(i:Int)+1) (by omega) (by omega)]
  have key:∀(v:Int) (N:Option (Tr×Bool)),(bif decide (v<0) then (bif true then some (((0,0,0),false):Tr×Bool) else N) else (bif decide (v≥(p.length:Int)) then some ((0,0,0),false) else N))=bif !decide (inr v p.length) then some ((0,0,0),false) else N:=by
   intro v N
   by_cases h:inr v p.length
   ·rw [za5 h]
    have h':=h
    unfold inr at h'
    rw [zg (by omega),zg (by omega)]
   ·rw [zgy h]
    unfold inr at h
    by_cases h1:v<0
    ·rw [zk h1];rfl
    ·rw [zg h1,zk (by omega)]
  match i,hi with
  |0,_=>exact key a _
  |1,_=>exact key b _
  |2,_=>exact key c _
 ·have e:(List.range 3).any (fun i=>!decide (inr (zAx a b c i) p.length))=!decide (inr a p.length∧inr b p.length∧inr c p.length):=by
   show (!decide (inr a p.length)||(!decide (inr b p.length)||(!decide (inr c p.length)||false)))=_
   by_cases ha:inr a p.length<;>by_cases hb:inr b p.length<;>by_cases hc:inr c p.length<;>simp [ha,hb,hc]
  rw [e]
  by_cases h:inr a p.length∧inr b p.length∧inr c p.length
  ·rw [za5 h,if_pos h]
  ·rw [zgy h]
   unfold K8
   rw [if_neg h]
def zA9 (p:List Pt) (t:Tr):Prop:=t.1<t.2.1∧t.1<t.2.2∧ori (pt p t.1) (pt p t.2.1) (pt p t.2.2)=1
instance (p:List Pt) (t:Tr):Decidable (zA9 p t):=inferInstanceAs (Decidable (_∧_∧_))
end Go.Proofs.YtpkkcjmblocjdaaGreat.Pure
end
section
namespace Go.Proofs.YtpkkcjmblocjdaaGreat.Pure
open Go.RowKit Go.Proofs.YtpkkcjmblocjdaaGreat.AM PL
def zgq (t:Tr):List Int:=[t.1,t.2.1,t.2.2]
theorem zwy (m:Nat) (l:List Tr) (hl:l.length≤900):jv (m+1000) l=some (l.map zgq):=by
 unfold jv
 refine Z6 (fun i=>(l,(l.take i).map zgq,(i:Int))) l.length rfl (fun next=>?_) (fun i hi next hn=>?_) _ (by omega)
 ·dsimp only
  rw [zg (by omega),List.take_length]
 ·dsimp only
  have hin:inb (i:Int) l.length=true:=zA ⟨by omega,by omega⟩
  simp only [hin,gT]
  rw [zk (by omega),zY _ _ i hi,zl (x:=(i:Int)+1) (by omega) (by omega),zP (jG (by simp;omega)),←hn,zpe _ _ _ hi]
  rfl
theorem zxG (k:Nat) (t:Tr):J9 k t=some ((t.1,t.2.1),(t.2.1,t.2.2),(t.2.2,t.1)):=rfl
theorem zAi (k:Nat) (s:Pt):Jf k s=some (mnI s.1 s.2,mxI s.1 s.2):=rfl
theorem byT (m:Nat) (a b:Tr):Q1 (m+1000) a b=some (KZ a b):=zsk (m+995) a b
theorem byS (m:Nat) (a b:Pt):Qu (m+1000) a b=some (JW a b):=zsc (m+995) a b
end Go.Proofs.YtpkkcjmblocjdaaGreat.Pure
end
section
namespace Go.Proofs.YtpkkcjmblocjdaaGreat.Pure
open Go.RowKit Go.Proofs.YtpkkcjmblocjdaaGreat.AM PL
theorem zsJ {α ρ:Type} {f:α→(α→Option ρ)→Option ρ} (I:Nat→Prop) (st:Nat→α) (n:Nat) (b:Nat→Bool) (v e:Option ρ) {s0:α} (es:s0=st 0) (hI:I 0) (h0:I n→∀next,f (st n) next=e) (hs:∀i,i<n→I i→(∀next,f (st i) next=bif b i then v else next (st (i+1)))∧(b i=false→I (i+1))) (q:Nat) (hq:n<q) :
  zw f q s0=bif (List.range n).any b then v else e:=by
 rw [es]
 have main:∀(q i:Nat),I i→i≤n→n-i<q→zw f q (st i)=bif (List.range' i (n-i)).any b then v else e:=by
  intro q
  induction q with
  |zero=>intro i _ _ h;omega
  |succ q ih =>
   intro i hi hin hq
   rw [q6]
   by_cases h:i=n
   ·subst h;rw [h0 hi,Nat.sub_self];rfl
   ·obtain ⟨h1,h2⟩:=hs i (by omega) hi
    rw [h1,show n-i=(n-(i+1))+1 by omega,List.range'_succ,List.any_cons]
    cases hb:b i with
    |true=>rfl
    |false=>exact ih (i+1) (h2 hb) (by omega) (by omega)
 rw [main q 0 hI (by omega) (by omega),List.range_eq_range']
 rfl
abbrev Z2:Type:=List Pt×List Tr×List Pt
def rv (s:Pt):Pt:=(s.2,s.1)
def up (s:Pt):Pt:=(mnI s.1 s.2,mxI s.1 s.2)
def qT (t:Tr):List Pt:=[(t.1,t.2.1),(t.2.1,t.2.2),(t.2.2,t.1)]
def sd (t:Tr) (j:Nat):Pt:=if j=0 then (t.1,t.2.1) else if j=1 then (t.2.1,t.2.2) else (t.2.2,t.1)
def tt (T:List Tr) (i:Int):Tr:=rdD (0,0,0) T i
theorem zzJ {T:List Tr} {i:Nat} (h:i<T.length):tt T (i:Int)=T[i]:=zY _ T i h
theorem zpU (t:Tr) (j:Nat) (h:j<3):(qT t).take (j+1)=(qT t).take j++[sd t j]:=by
 match j,h with
 |0,_=>rfl
 |1,_=>rfl
 |2,_=>rfl
def Eo (T:List Tr) (i:Nat):List Pt:=(T.take i).flatMap qT
theorem zwH {T:List Tr} {i:Nat} (h:i<T.length):Eo T (i+1)=Eo T i++qT T[i]:=zfx qT T i h
def zgJ (P:List Pt) (T:List Tr) (i:Nat):Bool:=decide (K8 P (tt T i).1 (tt T i).2.1 (tt T i).2.2≠(tt T i,true))||(decide (0<i)&&decide (¬ltT (tt T (i-1:Nat)) (tt T i)))
def zs9 (T:List Tr) (i:Nat):Bool:=(List.range 3).any fun j=>decide (sd (tt T i) j∈Eo T i++(qT (tt T i)).take j)
def zbT (E S:List Pt) (i:Nat):Bool:=decide ((pt S i).1≥(pt S i).2)||((decide (0<i)&&decide (¬ltS (pt S (i-1:Nat)) (pt S i)))||(decide (pt S i∉E)&&decide (rv (pt S i)∉E)))
def zfR (E S:List Pt) (s:Pt):Bool:=decide (rv s∉E)&&decide (up s∉S)
def zzF (m:Z2):Int :=
 bif (List.range m.2.1.length).any (fun i=>zgJ m.1 m.2.1 i||zs9 m.2.1 i) then 2
 else bif (List.range m.2.2.length).any (zbT (Eo m.2.1 m.2.1.length) m.2.2) then 2
 else bif (Eo m.2.1 m.2.1.length).any (zfR (Eo m.2.1 m.2.1.length) m.2.2) then 2 else 0
theorem zyP (a b:Pt):JW a b≥0↔¬ltS a b:=by rw [←zy9];omega
theorem zyJ (a b:Tr):KZ a b≥0↔¬ltT a b:=by rw [←zzx];omega
theorem zw6 (E:List Pt) (b:Pt→Bool):(yes E).any (fun e=>b e.1)=E.any b:=by unfold yes;rw [List.any_map];rfl
theorem zA5 (m : Nat) {E S : List Pt} (hE : E.length ≤ 900) {F : (List (Pt × Bool) × List (Pt × Bool) × List (Pt × Bool)) → ((List (Pt × Bool) × List (Pt × Bool) × List (Pt × Bool)) → Option Int) → Option Int}
    (hF : ∀ x52 x53 x54 next51, F (x52, x53, x54) next51 = nxt x54 (some 0) (fun e r55 =>
        bif !(toT Bool (lkM (.pair (.int .i64) (.int .i64)) .bool x52 (e.1.2, e.1.1))) then
         bnd (Jf (m + 1000) (e.1.1, e.1.2)) fun r63 =>
         (bif !(toT Bool (lkM (.pair (.int .i64) (.int .i64)) .bool x53 (r63.1, r63.2))) then some 2 else next51 (x52, x53, r55))
        else
         (bif false then some 2 else next51 (x52, x53, r55)))) :
    zw F (m + 1000) (yes E, yes S, yes E) = some (bif E.any (zfR E S) then 2 else 0) := by
  refine (Ql (fun n s v => ∃ rs : List (Pt × Bool), n = rs.length ∧ s = (yes E, yes S, rs) ∧ v = some (bif rs.any (fun e => zfR E S e.1) then 2 else 0)) ?_ (m + 1000) E.length _ _ ⟨yes E, by simp [yes], rfl, rfl⟩ (by omega)).trans (by rw [zw6])
  rintro n s v ⟨rs, rfl, rfl, rfl⟩ next hn
  rw [hF]
  by_cases he : rs = []
  · subst he; rw [zwY]; rfl
  refine zAc he fun j e hj => ?_
  have hpm := zlx hj
  have hany : rs.any (fun e => zfR E S e.1) = (zfR E S e.1 || (rs.eraseIdx j).any fun e => zfR E S e.1) := by
    rw [← List.any_cons (f := fun e : Pt × Bool => zfR E S e.1)]
    exact (hpm.any_eq).symm
  have hnx : next (yes E, yes S, rs.eraseIdx j) = some (bif (rs.eraseIdx j).any (fun e => zfR E S e.1) then 2 else 0) := by
    refine hn _ _ _ ?_ ⟨_, rfl, rfl, rfl⟩
    have := hpm.length_eq
    simp only [List.length_cons] at this
    omega
  have k1 : toT Bool (lkM (.pair (.int .i64) (.int .i64)) .bool (yes E) (e.1.2, e.1.1)) = decide (rv e.1 ∈ E) := ze7 E (rv e.1)
  have k2 : toT Bool (lkM (.pair (.int .i64) (.int .i64)) .bool (yes S) (mnI e.1.1 e.1.2, mxI e.1.1 e.1.2)) = decide (up e.1 ∈ S) := ze7 S (up e.1)
  rw [k1, zAi, zr, k2, hany]
  by_cases h1 : rv e.1 ∈ E
  · rw [za5 h1, cF, hnx]
    have : zfR E S e.1 = false := by unfold zfR; simp [h1]
    rw [this, Bool.false_or]
  · rw [zgy h1]
    by_cases h2 : up e.1 ∈ S
    · rw [za5 h2, hnx]
      have : zfR E S e.1 = false := by unfold zfR; simp [h2]
      rw [this, Bool.false_or]
    · rw [zgy h2]
      have : zfR E S e.1 = true := by unfold zfR; simp [h1, h2]
      rw [this, Bool.true_or]; rfl
theorem zA7 (m : Nat) {P : List Pt} {T : List Tr} {E S : List Pt} (hS : S.length ≤ 900) {K : List (Pt × Bool) → List (Pt × Bool) → Option Int} {e : Option Int} (hK : K (yes E) (yes S) = e) {F : (Z2 × List (Pt × Bool) × List (Pt × Bool) × List Pt × Int × Int) → ((Z2 × List (Pt × Bool) × List (Pt × Bool) × List Pt × Int × Int) → Option Int) → Option Int}
    (hF : ∀ (x35 : Z2) x36 x37 x38 x39 x40 next34, F (x35, x36, x37, x38, x39, x40) next34 =
     bif decide (x40 < x39) then
      gd (inb x40 x38.length) <|
      zx (α := (Z2 × ((List ((Int × Int) × Bool)) × ((List ((Int × Int) × Bool)) × ((Int × Int) × ((List (Int × Int)) × (Int × (Int × Bool)))))))) (fun (y41, y42, y43, y44, y45, y46, y47, y48) =>
       bif y48 then
        some 2
       else
        gd (!(hsM (.pair (.int .i64) (.int .i64)) .bool y43 (y44.1, y44.2))) <|
        next34 ((y41.1, y41.2.1, y41.2.2), y42, adM (.pair (.int .i64) (.int .i64)) .bool y43 (y44.1, y44.2) true, y45, y46, w64 (y47 + 1))) fun j49 =>
      bif decide ((rdD (0, 0) x38 x40).1 ≥ (rdD (0, 0) x38 x40).2) then
       j49 ((x35.1, x35.2.1, x35.2.2), x36, x37, ((rdD (0, 0) x38 x40).1, (rdD (0, 0) x38 x40).2), x38, x39, x40, true)
      else
       bif decide (x40 > 0) then
        gd (inb (w64 (x40 - 1)) x35.2.2.length) <|
        bnd (Qu (m + 1000) ((rdD (0, 0) x35.2.2 (w64 (x40 - 1))).1, (rdD (0, 0) x35.2.2 (w64 (x40 - 1))).2) ((rdD (0, 0) x38 x40).1, (rdD (0, 0) x38 x40).2)) fun r50 =>
        bif decide (r50 ≥ 0) then
         j49 ((x35.1, x35.2.1, x35.2.2), x36, x37, ((rdD (0, 0) x38 x40).1, (rdD (0, 0) x38 x40).2), x38, x39, x40, true)
        else
         bif !(toT Bool (lkM (.pair (.int .i64) (.int .i64)) .bool x36 ((rdD (0, 0) x38 x40).1, (rdD (0, 0) x38 x40).2))) then
          j49 ((x35.1, x35.2.1, x35.2.2), x36, x37, ((rdD (0, 0) x38 x40).1, (rdD (0, 0) x38 x40).2), x38, x39, x40, !(toT Bool (lkM (.pair (.int .i64) (.int .i64)) .bool x36 ((rdD (0, 0) x38 x40).2, (rdD (0, 0) x38 x40).1))))
         else
          j49 ((x35.1, x35.2.1, x35.2.2), x36, x37, ((rdD (0, 0) x38 x40).1, (rdD (0, 0) x38 x40).2), x38, x39, x40, false)
       else
        bif !(toT Bool (lkM (.pair (.int .i64) (.int .i64)) .bool x36 ((rdD (0, 0) x38 x40).1, (rdD (0, 0) x38 x40).2))) then
         j49 ((x35.1, x35.2.1, x35.2.2), x36, x37, ((rdD (0, 0) x38 x40).1, (rdD (0, 0) x38 x40).2), x38, x39, x40, !(toT Bool (lkM (.pair (.int .i64) (.int .i64)) .bool x36 ((rdD (0, 0) x38 x40).2, (rdD (0, 0) x38 x40).1))))
        else
         j49 ((x35.1, x35.2.1, x35.2.2), x36, x37, ((rdD (0, 0) x38 x40).1, (rdD (0, 0) x38 x40).2), x38, x39, x40, false)
     else K x36 x37) :
    zw F (m + 1000) ((P, T, S), yes E, [], S, (S.length : Int), 0) = bif (List.range S.length).any (zbT E S) then some 2 else e := by
  refine (zsJ (fun i => (S.take i).Pairwise ltS) (fun i => ((P, T, S), yes E, yes (S.take i), S, (S.length : Int), (i : Int))) S.length (zbT E S) (some 2) e rfl (by simp) (fun hI next => ?_) (fun i hi hI => ?_) (m + 1000) (by omega))
  · rw [hF, zg (by omega), List.take_length]
    exact hK
  · have hS' : pt S (i : Int) = S[i] := Qz hi
    refine ⟨fun next => ?_, fun hb => ?_⟩
    · rw [hF, zk (by omega), zP (zA ⟨by omega, by omega⟩)]
      have ep : ∀ i : Int, ((rdD (0, 0) S i).1, (rdD (0, 0) S i).2) = pt S i := fun _ => rfl
      have e0 : rdD (0, 0) S (i : Int) = pt S (i : Int) := rfl
      rw [e0]
      have k1 : toT Bool (lkM (.pair (.int .i64) (.int .i64)) .bool (yes E) ((pt S (i : Int)).1, (pt S (i : Int)).2)) = decide (pt S (i : Int) ∈ E) := ze7 E (pt S (i : Int))
      have k2 : toT Bool (lkM (.pair (.int .i64) (.int .i64)) .bool (yes E) ((pt S (i : Int)).2, (pt S (i : Int)).1)) = decide (rv (pt S (i : Int)) ∈ E) := ze7 E (rv (pt S (i : Int)))
      simp only [zx, k1, k2]
      rw [zl (x := (i : Int) + 1) (by omega) (by omega)]
      have hst : ¬ (zbT E S i = true) → gd (!(hsM (.pair (.int .i64) (.int .i64)) .bool (yes (S.take i)) (pt S (i : Int)))) (next ((P, T, S), yes E, adM (.pair (.int .i64) (.int .i64)) .bool (yes (S.take i)) (pt S (i : Int)) true, S, (S.length : Int), (i : Int) + 1)) = next ((P, T, S), yes E, yes (S.take (i + 1)), S, (S.length : Int), ((i + 1 : Nat) : Int)) := by
        intro hb
        have hno : pt S (i : Int) ∉ S.take i := by
          intro hm
          by_cases h0 : i = 0
          · subst h0; simp at hm
          · have hl : ltS (pt S ((i - 1 : Nat) : Int)) (pt S (i : Int)) := by
              apply Decidable.byContradiction
              intro hc
              apply hb
              unfold zbT
              simp [show 0 < i by omega, hc]
            have hx : S.take i = S.take (i - 1) ++ [S[i - 1]] := by
              have := Z7 S (i - 1) (by omega)
              rwa [show i - 1 + 1 = i by omega] at this
            rw [Qz (show i - 1 < S.length by omega)] at hl
            rw [hx] at hm hI
            rcases List.mem_append.1 hm with h | h
            · exact zjr.irr _ (zjr.tr ((List.pairwise_append.1 hI).2.2 _ h _ (by simp)) hl)
            · rw [List.mem_singleton.1 h] at hl; exact zjr.irr _ hl
        have h1 : hsM (.pair (.int .i64) (.int .i64)) .bool (yes (S.take i)) (pt S (i : Int)) = false := (zqS _ _).trans (decide_eq_false hno)
        have h2 : adM (.pair (.int .i64) (.int .i64)) .bool (yes (S.take i)) (pt S (i : Int)) true = yes (S.take (i + 1)) := (zqb _ _).trans (by rw [Z7 S i hi, hS'])
        rw [h1, h2]; rfl
      by_cases h1 : (pt S (i : Int)).1 ≥ (pt S (i : Int)).2
      · rw [show zbT E S i = true by unfold zbT; simp [h1]]
        rw [zk h1]; rfl
      rw [zg h1]
      have tail : (∀ (h : i = 0 ∨ ltS (pt S ((i - 1 : Nat) : Int)) (pt S (i : Int))), (bif !decide (pt S (i : Int) ∈ E) then (bif !decide (rv (pt S (i : Int)) ∈ E) then some 2 else gd (!(hsM (.pair (.int .i64) (.int .i64)) .bool (yes (S.take i)) (pt S (i : Int)))) (next ((P, T, S), yes E, adM (.pair (.int .i64) (.int .i64)) .bool (yes (S.take i)) (pt S (i : Int)) true, S, (S.length : Int), (i : Int) + 1))) else (bif false then some 2 else gd (!(hsM (.pair (.int .i64) (.int .i64)) .bool (yes (S.take i)) (pt S (i : Int)))) (next ((P, T, S), yes E, adM (.pair (.int .i64) (.int .i64)) .bool (yes (S.take i)) (pt S (i : Int)) true, S, (S.length : Int), (i : Int) + 1)))) = bif zbT E S i then some 2 else next ((P, T, S), yes E, yes (S.take (i + 1)), S, (S.length : Int), ((i + 1 : Nat) : Int))) := by
        intro hl
        have hl' : (decide (0 < i) && decide (¬ ltS (pt S ((i - 1 : Nat) : Int)) (pt S (i : Int)))) = false := by
          rcases hl with h | h
          · subst h; rfl
          · rw [decide_eq_false (not_not_intro h), Bool.and_false]
        by_cases h2 : pt S (i : Int) ∈ E
        · have : zbT E S i = false := by unfold zbT; rw [hl']; simp [h1, h2]
          rw [za5 h2, cF, this, cF]
          exact hst (by rw [this]; decide)
        · rw [zgy h2]
          by_cases h3 : rv (pt S (i : Int)) ∈ E
          · have : zbT E S i = false := by unfold zbT; rw [hl']; simp [h1, h3]
            rw [za5 h3, this, cF]
            exact hst (by rw [this]; decide)
          · have : zbT E S i = true := by unfold zbT; simp [h2, h3]
            rw [zgy h3, this]; rfl
      by_cases h0 : i = 0
      · subst h0
        rw [zg (by omega)]
        exact tail (.inl rfl)
      · rw [zk (show (i : Int) > 0 by omega), zl (x := (i : Int) - 1) (by omega) (by omega), show (i : Int) - 1 = ((i - 1 : Nat) : Int) by omega, zP (zA ⟨by omega, by omega⟩), ep, byS, zr]
        by_cases hl : ltS (pt S ((i - 1 : Nat) : Int)) (pt S (i : Int))
        · rw [zg (fun h => (zyP _ _).1 h hl)]
          exact tail (.inr hl)
        · rw [zk ((zyP _ _).2 hl)]
          have : zbT E S i = true := by unfold zbT; simp [show 0 < i by omega, hl]
          rw [this]; rfl
    · rw [Z7 S i hi, List.pairwise_append]
      refine ⟨hI, by simp, fun a ha b hb' => ?_⟩
      rw [List.mem_singleton.1 hb', ← hS']
      by_cases h0 : i = 0
      · subst h0; simp at ha
      · have hl : ltS (pt S ((i - 1 : Nat) : Int)) (pt S (i : Int)) := by
          apply Decidable.byContradiction
          intro hc
          have : zbT E S i = true := by unfold zbT; simp [show 0 < i by omega, hc]
          rw [this] at hb; cases hb
        have hx : S.take i = S.take (i - 1) ++ [S[i - 1]] := by
          have := Z7 S (i - 1) (by omega)
          rwa [show i - 1 + 1 = i by omega] at this
        rw [Qz (show i - 1 < S.length by omega)] at hl
        rw [hx] at ha hI
        rcases List.mem_append.1 ha with h | h
        · exact zjr.tr ((List.pairwise_append.1 hI).2.2 _ h _ (by simp)) hl
        · rw [List.mem_singleton.1 h]; exact hl
theorem zBa (m : Nat) {M : Z2} {T : List Tr} {n i : Int} (E0 : List Pt) (t : Tr) {N : Z2 → List (Pt × Bool) → List Tr → Int → Int → Option Int} {F : (Z2 × List (Pt × Bool) × List Tr × Int × Int × ((Pt × Pt × Pt) × Int)) → ((Z2 × List (Pt × Bool) × List Tr × Int × Int × ((Pt × Pt × Pt) × Int)) → Option Int) → Option Int}
    (hF : ∀ (x16 : Z2) x17 x18 x19 x20 (x21 : Pt × Pt × Pt) x22 next15, F (x16, x17, x18, x19, x20, x21, x22) next15 =
       bif decide (x22 < 3) then
        zx (α := (Z2 × ((List ((Int × Int) × Bool)) × ((Int × Int) × ((List (Int × (Int × Int))) × (Int × (Int × (((Int × Int) × ((Int × Int) × (Int × Int))) × Int)))))))) (fun (y23, y24, y25, y26, y27, y28, y29, y30) =>
         bif toT Bool (lkM (.pair (.int .i64) (.int .i64)) .bool y24 (y25.1, y25.2)) then
          some 2
         else
          gd (!(hsM (.pair (.int .i64) (.int .i64)) .bool y24 (y25.1, y25.2))) <|
          next15 ((y23.1, y23.2.1, y23.2.2), adM (.pair (.int .i64) (.int .i64)) .bool y24 (y25.1, y25.2) true, y26, y27, y28, ((y29.1.1, y29.1.2), (y29.2.1.1, y29.2.1.2), y29.2.2.1, y29.2.2.2), w64 (y30 + 1))) fun j31 =>
        bif decide (x22 = 0) then
         j31 ((x16.1, x16.2.1, x16.2.2), x17, (x21.1.1, x21.1.2), x18, x19, x20, ((x21.1.1, x21.1.2), (x21.2.1.1, x21.2.1.2), x21.2.2.1, x21.2.2.2), x22)
        else
         bif decide (x22 = 1) then
          j31 ((x16.1, x16.2.1, x16.2.2), x17, (x21.2.1.1, x21.2.1.2), x18, x19, x20, ((x21.1.1, x21.1.2), (x21.2.1.1, x21.2.1.2), x21.2.2.1, x21.2.2.2), x22)
         else
          bif decide (x22 = 2) then
           j31 ((x16.1, x16.2.1, x16.2.2), x17, (x21.2.2.1, x21.2.2.2), x18, x19, x20, ((x21.1.1, x21.1.2), (x21.2.1.1, x21.2.1.2), x21.2.2.1, x21.2.2.2), x22)
          else
           none
       else N (x16.1, x16.2.1, x16.2.2) x17 x18 x19 x20) :
    zw F (m + 1000) (M, yes E0, T, n, i, ((t.1, t.2.1), (t.2.1, t.2.2), t.2.2, t.1), 0) = bif (List.range 3).any (fun j => decide (sd t j ∈ E0 ++ (qT t).take j)) then some 2 else N M (yes (E0 ++ qT t)) T n i := by
  refine zaD (fun j => (M, yes (E0 ++ (qT t).take j), T, n, i, ((t.1, t.2.1), (t.2.1, t.2.2), t.2.2, t.1), (j : Int))) 3 (fun j => decide (sd t j ∈ E0 ++ (qT t).take j)) (some 2) _ ?_ (fun nx => ?_) (fun j hj nx => ?_) _ (by omega)
  · simp [qT]
  · rw [hF, zg (by omega)]
    rfl
  · rw [hF, zk (by omega)]
    simp only [zx]
    rw [zl (x := (j : Int) + 1) (by omega) (by omega)]
    have key : ∀ s, s = sd t j → (bif toT Bool (lkM (.pair (.int .i64) (.int .i64)) .bool (yes (E0 ++ (qT t).take j)) s) then some 2 else gd (!(hsM (.pair (.int .i64) (.int .i64)) .bool (yes (E0 ++ (qT t).take j)) s)) (nx (M, adM (.pair (.int .i64) (.int .i64)) .bool (yes (E0 ++ (qT t).take j)) s true, T, n, i, ((t.1, t.2.1), (t.2.1, t.2.2), t.2.2, t.1), (j : Int) + 1))) = bif decide (sd t j ∈ E0 ++ (qT t).take j) then some 2 else nx (M, yes (E0 ++ (qT t).take (j + 1)), T, n, i, ((t.1, t.2.1), (t.2.1, t.2.2), t.2.2, t.1), ((j + 1 : Nat) : Int)) := by
      rintro s rfl
      have h0 := ze7 (E0 ++ (qT t).take j) (sd t j)
      have h1 := zqS (E0 ++ (qT t).take j) (sd t j)
      have h2 := zqb (E0 ++ (qT t).take j) (sd t j)
      rw [show toT Bool (lkM (.pair (.int .i64) (.int .i64)) .bool (yes (E0 ++ (qT t).take j)) (sd t j)) = _ from h0, show hsM (.pair (.int .i64) (.int .i64)) .bool (yes (E0 ++ (qT t).take j)) (sd t j) = _ from h1, show adM (.pair (.int .i64) (.int .i64)) .bool (yes (E0 ++ (qT t).take j)) (sd t j) true = _ from h2, zpU _ j hj, List.append_assoc]
      by_cases h : sd t j ∈ E0 ++ (qT t).take j
      · rw [decide_eq_true h]; rfl
      · rw [decide_eq_false h]; rfl
    match j, hj with
    | 0, _ => exact key _ rfl
    | 1, _ => exact key _ rfl
    | 2, _ => exact key _ rfl
theorem zBe (m : Nat) {P : List Pt} {T : List Tr} {S : List Pt} (hp : P.length ≤ 200) (hT : T.length ≤ 900) {K : Z2 → List (Pt × Bool) → Option Int} {e : Option Int} (hK : K (P, T, S) (yes (Eo T T.length)) = e) {G : (Z2 × List (Pt × Bool) × List Tr × Int × Int → Option Int) → Z2 → List (Pt × Bool) → List Tr → Int → Int → Pt × Pt × Pt → Option Int}
    (hG : ∀ next (E0 : List Pt) (i : Int) (t : Tr), G next (P, T, S) (yes E0) T (T.length : Int) i ((t.1, t.2.1), (t.2.1, t.2.2), t.2.2, t.1) = bif (List.range 3).any (fun j => decide (sd t j ∈ E0 ++ (qT t).take j)) then some 2 else next ((P, T, S), yes (E0 ++ qT t), T, (T.length : Int), w64 (i + 1)))
    {F : (Z2 × List (Pt × Bool) × List Tr × Int × Int) → ((Z2 × List (Pt × Bool) × List Tr × Int × Int) → Option Int) → Option Int}
    (hF : ∀ (x1 : Z2) x2 x3 x4 x5 next0, F (x1, x2, x3, x4, x5) next0 = bif decide (x5 < x4) then
    gd (inb x5 x3.length) <|
    bnd (ZU (m + 1000) x1.1 (rdD (0, 0, 0) x3 x5).1 (rdD (0, 0, 0) x3 x5).2.1 (rdD (0, 0, 0) x3 x5).2.2) fun r6 =>
    zx (α := (Z2 × ((List ((Int × Int) × Bool)) × ((Int × (Int × Int)) × ((List (Int × (Int × Int))) × (Int × (Int × Bool))))))) (fun (y7, y8, y9, y10, y11, y12, y13) =>
     bif y13 then
      some 2
     else
      bnd (J9 (m + 1000) (y9.1, y9.2.1, y9.2.2)) fun r14 =>
      G next0 y7 y8 y10 y11 y12 r14) fun j32 =>
    bif !r6.2 then
     j32 ((x1.1, x1.2.1, x1.2.2), x2, ((rdD (0, 0, 0) x3 x5).1, (rdD (0, 0, 0) x3 x5).2.1, (rdD (0, 0, 0) x3 x5).2.2), x3, x4, x5, true)
    else
     bif !((decide (r6.1.1 = (rdD (0, 0, 0) x3 x5).1)) && ((decide (r6.1.2.1 = (rdD (0, 0, 0) x3 x5).2.1)) && (decide (r6.1.2.2 = (rdD (0, 0, 0) x3 x5).2.2)))) then
      j32 ((x1.1, x1.2.1, x1.2.2), x2, ((rdD (0, 0, 0) x3 x5).1, (rdD (0, 0, 0) x3 x5).2.1, (rdD (0, 0, 0) x3 x5).2.2), x3, x4, x5, true)
     else
      bif decide (x5 > 0) then
       gd (inb (w64 (x5 - 1)) x1.2.1.length) <|
       bnd (Q1 (m + 1000) ((rdD (0, 0, 0) x1.2.1 (w64 (x5 - 1))).1, (rdD (0, 0, 0) x1.2.1 (w64 (x5 - 1))).2.1, (rdD (0, 0, 0) x1.2.1 (w64 (x5 - 1))).2.2) ((rdD (0, 0, 0) x3 x5).1, (rdD (0, 0, 0) x3 x5).2.1, (rdD (0, 0, 0) x3 x5).2.2)) fun r33 =>
       j32 ((x1.1, x1.2.1, x1.2.2), x2, ((rdD (0, 0, 0) x3 x5).1, (rdD (0, 0, 0) x3 x5).2.1, (rdD (0, 0, 0) x3 x5).2.2), x3, x4, x5, decide (r33 ≥ 0))
      else
       j32 ((x1.1, x1.2.1, x1.2.2), x2, ((rdD (0, 0, 0) x3 x5).1, (rdD (0, 0, 0) x3 x5).2.1, (rdD (0, 0, 0) x3 x5).2.2), x3, x4, x5, false)
   else K x1 x2) :
    zw F (m + 1000) ((P, T, S), [], T, (T.length : Int), 0) = bif (List.range T.length).any (fun i => zgJ P T i || zs9 T i) then some 2 else e := by
  refine zaD (fun i => ((P, T, S), yes (Eo T i), T, (T.length : Int), (i : Int))) T.length (fun i => zgJ P T i || zs9 T i) (some 2) e rfl (fun next => ?_) (fun i hi next => ?_) (m + 1000) (by omega)
  · rw [hF, zg (by omega)]
    exact hK
  · have ht : tt T (i : Int) = T[i] := zzJ hi
    rw [hF, zk (by omega), zP (zA ⟨by omega, by omega⟩)]
    have ep : ∀ i : Int, ((rdD (0, 0, 0) T i).1, (rdD (0, 0, 0) T i).2.1, (rdD (0, 0, 0) T i).2.2) = tt T i := fun _ => rfl
    have ep1 : ∀ i : Int, rdD (0, 0, 0) T i = tt T i := fun _ => rfl
    simp only [zx, ep, ep1, zyZ m P _ _ _ (show P.length ≤ 1000 by omega), zr, zxG]
    have hL : G next (P, T, S) (yes (Eo T i)) T (T.length : Int) (i : Int) (((tt T (i : Int)).1, (tt T (i : Int)).2.1), ((tt T (i : Int)).2.1, (tt T (i : Int)).2.2), (tt T (i : Int)).2.2, (tt T (i : Int)).1) = bif zs9 T i then some 2 else next ((P, T, S), yes (Eo T (i + 1)), T, (T.length : Int), ((i + 1 : Nat) : Int)) := by
      rw [hG, zwH hi, ← ht, zl (x := (i : Int) + 1) (by omega) (by omega)]
      rfl
    rw [hL]
    by_cases h1 : (K8 P (tt T i).1 (tt T i).2.1 (tt T i).2.2).2 = true
    · rw [h1]
      by_cases h2 : (K8 P (tt T i).1 (tt T i).2.1 (tt T i).2.2).1 = tt T i
      · rw [h2]
        have ef : decide (K8 P (tt T i).1 (tt T i).2.1 (tt T i).2.2 ≠ (tt T i, true)) = false := decide_eq_false (not_not_intro (Prod.ext h2 h1))
        simp only [decide_true, Bool.and_self, Bool.not_true, cF]
        by_cases h0 : i = 0
        · subst h0
          rw [zg (by omega)]
          have : zgJ P T 0 = false := by unfold zgJ; rw [ef]; rfl
          rw [this, Bool.false_or]
        · rw [zk (show (i : Int) > 0 by omega), zl (x := (i : Int) - 1) (by omega) (by omega), show (i : Int) - 1 = ((i - 1 : Nat) : Int) by omega, zP (zA ⟨by omega, by omega⟩), byT, zr]
          by_cases hl : ltT (tt T ((i - 1 : Nat) : Int)) (tt T (i : Int))
          · rw [decide_eq_false (fun h => (zyJ _ _).1 h hl)]
            have : zgJ P T i = false := by unfold zgJ; rw [ef]; simp [hl]
            rw [this, Bool.false_or]; rfl
          · rw [decide_eq_true ((zyJ _ _).2 hl)]
            have : zgJ P T i = true := by unfold zgJ; simp [show 0 < i by omega, hl]
            rw [this]; rfl
      · have : zgJ P T i = true := by unfold zgJ; rw [decide_eq_true (show K8 P (tt T i).1 (tt T i).2.1 (tt T i).2.2 ≠ (tt T i, true) from fun h => h2 (congrArg Prod.fst h)), Bool.true_or]
        rw [this]
        have hne : ((decide ((K8 P (tt T i).1 (tt T i).2.1 (tt T i).2.2).1.1 = (tt T i).1)) && ((decide ((K8 P (tt T i).1 (tt T i).2.1 (tt T i).2.2).1.2.1 = (tt T i).2.1)) && (decide ((K8 P (tt T i).1 (tt T i).2.1 (tt T i).2.2).1.2.2 = (tt T i).2.2)))) = false := by
          rw [Bool.eq_false_iff]
          intro h
          simp only [Bool.and_eq_true, decide_eq_true_eq] at h
          exact h2 (Prod.ext h.1 (Prod.ext h.2.1 h.2.2))
        rw [hne]; rfl
    · have h1' : (K8 P (tt T i).1 (tt T i).2.1 (tt T i).2.2).2 = false := by simpa using h1
      have : zgJ P T i = true := by unfold zgJ; rw [decide_eq_true (show K8 P (tt T i).1 (tt T i).2.1 (tt T i).2.2 ≠ (tt T i, true) from fun h => h1 (congrArg Prod.snd h)), Bool.true_or]
      rw [h1', this]; rfl
theorem zvR (m : Nat) (M : Z2) (hp : M.1.length ≤ 200) (hT : M.2.1.length ≤ 200) (hS : M.2.2.length ≤ 200) : Yf (m + 1000) M = some (zzF M) := by
  obtain ⟨P, T, S⟩ := M
  dsimp only at hp hT hS
  unfold Yf zc6
  have ev : zzF (P, T, S) = bif (List.range T.length).any (fun i => zgJ P T i || zs9 T i) then 2 else bif (List.range S.length).any (zbT (Eo T T.length) S) then 2 else bif (Eo T T.length).any (zfR (Eo T T.length) S) then 2 else 0 := rfl
  rw [ev]
  show zw _ (m + 1000) ((P, T, S), [], T, (T.length : Int), 0) = _
  generalize hE : Eo T T.length = E
  have hEl : E.length ≤ 600 := by
    rw [← hE]
    have : ∀ l : List Tr, (l.flatMap qT).length = 3 * l.length := by
      intro l
      induction l with
      | nil => rfl
      | cons t l ih => rw [List.flatMap_cons, List.length_append, ih]; show 3 + _ = _; rw [List.length_cons]; omega
    unfold Eo
    rw [List.take_length, this]
    omega
  refine Eq.trans (zBe m (P := P) (T := T) (S := S) (e := bif (List.range S.length).any (zbT E S) then some 2 else some (bif E.any (zfR E S) then 2 else 0)) (K := fun x1 x2 =>
          zw (α := (((List (Int × Int)) × ((List (Int × (Int × Int))) × (List (Int × Int)))) × ((List ((Int × Int) × Bool)) × ((List ((Int × Int) × Bool)) × ((List (Int × Int)) × (Int × Int)))))) (fun (x35, x36, x37, x38, x39, x40) next34 =>
           bif decide (x40 < x39) then
            gd (inb x40 x38.length) <|
            zx (α := (((List (Int × Int)) × ((List (Int × (Int × Int))) × (List (Int × Int)))) × ((List ((Int × Int) × Bool)) × ((List ((Int × Int) × Bool)) × ((Int × Int) × ((List (Int × Int)) × (Int × (Int × Bool)))))))) (fun (y41, y42, y43, y44, y45, y46, y47, y48) =>
             bif y48 then
              some 2
             else
              gd (!(hsM (.pair (.int .i64) (.int .i64)) .bool y43 (y44.1, y44.2))) <|
              next34 ((y41.1, y41.2.1, y41.2.2), y42, adM (.pair (.int .i64) (.int .i64)) .bool y43 (y44.1, y44.2) true, y45, y46, w64 (y47 + 1))) fun j49 =>
            bif decide ((rdD (0, 0) x38 x40).1 ≥ (rdD (0, 0) x38 x40).2) then
             j49 ((x35.1, x35.2.1, x35.2.2), x36, x37, ((rdD (0, 0) x38 x40).1, (rdD (0, 0) x38 x40).2), x38, x39, x40, true)
            else
             bif decide (x40 > 0) then
              gd (inb (w64 (x40 - 1)) x35.2.2.length) <|
              bnd (Qu (m + 1000) ((rdD (0, 0) x35.2.2 (w64 (x40 - 1))).1, (rdD (0, 0) x35.2.2 (w64 (x40 - 1))).2) ((rdD (0, 0) x38 x40).1, (rdD (0, 0) x38 x40).2)) fun r50 =>
              bif decide (r50 ≥ 0) then
               j49 ((x35.1, x35.2.1, x35.2.2), x36, x37, ((rdD (0, 0) x38 x40).1, (rdD (0, 0) x38 x40).2), x38, x39, x40, true)
              else
               bif !(toT Bool (lkM (.pair (.int .i64) (.int .i64)) .bool x36 ((rdD (0, 0) x38 x40).1, (rdD (0, 0) x38 x40).2))) then
                j49 ((x35.1, x35.2.1, x35.2.2), x36, x37, ((rdD (0, 0) x38 x40).1, (rdD (0, 0) x38 x40).2), x38, x39, x40, !(toT Bool (lkM (.pair (.int .i64) (.int .i64)) .bool x36 ((rdD (0, 0) x38 x40).2, (rdD (0, 0) x38 x40).1))))
               else
                j49 ((x35.1, x35.2.1, x35.2.2), x36, x37, ((rdD (0, 0) x38 x40).1, (rdD (0, 0) x38 x40).2), x38, x39, x40, false)
             else
              bif !(toT Bool (lkM (.pair (.int .i64) (.int .i64)) .bool x36 ((rdD (0, 0) x38 x40).1, (rdD (0, 0) x38 x40).2))) then
               j49 ((x35.1, x35.2.1, x35.2.2), x36, x37, ((rdD (0, 0) x38 x40).1, (rdD (0, 0) x38 x40).2), x38, x39, x40, !(toT Bool (lkM (.pair (.int .i64) (.int .i64)) .bool x36 ((rdD (0, 0) x38 x40).2, (rdD (0, 0) x38 x40).1))))
              else
               j49 ((x35.1, x35.2.1, x35.2.2), x36, x37, ((rdD (0, 0) x38 x40).1, (rdD (0, 0) x38 x40).2), x38, x39, x40, false)
           else
            zw (α := ((List ((Int × Int) × Bool)) × ((List ((Int × Int) × Bool)) × (List ((Int × Int) × Bool))))) (fun (x52, x53, x54) next51 =>
             nxt x54 (
              some 0) (fun (e56, e57) r55 =>
              zx (α := ((List ((Int × Int) × Bool)) × ((List ((Int × Int) × Bool)) × ((List ((Int × Int) × Bool)) × Bool)))) (fun (y58, y59, y60, y61) =>
               bif y61 then
                some 2
               else
                next51 (y58, y59, y60)) fun j62 =>
              bif !(toT Bool (lkM (.pair (.int .i64) (.int .i64)) .bool x52 (e56.2, e56.1))) then
               bnd (Jf (m + 1000) (e56.1, e56.2)) fun r63 =>
               j62 (x52, x53, r55, !(toT Bool (lkM (.pair (.int .i64) (.int .i64)) .bool x53 (r63.1, r63.2))))
              else
               j62 (x52, x53, r55, false))) (m + 1000) (x36, x37, x36)) (m + 1000) ((x1.1, x1.2.1, x1.2.2), x2, [], x1.2.2, (x1.2.2.length : Int), 0)) (G := fun next0 y7 y8 y10 y11 y12 r14 =>
            zw (α := (((List (Int × Int)) × ((List (Int × (Int × Int))) × (List (Int × Int)))) × ((List ((Int × Int) × Bool)) × ((List (Int × (Int × Int))) × (Int × (Int × (((Int × Int) × ((Int × Int) × (Int × Int))) × Int))))))) (fun (x16, x17, x18, x19, x20, x21, x22) next15 =>
             bif decide (x22 < 3) then
              zx (α := (((List (Int × Int)) × ((List (Int × (Int × Int))) × (List (Int × Int)))) × ((List ((Int × Int) × Bool)) × ((Int × Int) × ((List (Int × (Int × Int))) × (Int × (Int × (((Int × Int) × ((Int × Int) × (Int × Int))) × Int)))))))) (fun (y23, y24, y25, y26, y27, y28, y29, y30) =>
               bif toT Bool (lkM (.pair (.int .i64) (.int .i64)) .bool y24 (y25.1, y25.2)) then
                some 2
               else
                gd (!(hsM (.pair (.int .i64) (.int .i64)) .bool y24 (y25.1, y25.2))) <|
                next15 ((y23.1, y23.2.1, y23.2.2), adM (.pair (.int .i64) (.int .i64)) .bool y24 (y25.1, y25.2) true, y26, y27, y28, ((y29.1.1, y29.1.2), (y29.2.1.1, y29.2.1.2), y29.2.2.1, y29.2.2.2), w64 (y30 + 1))) fun j31 =>
              bif decide (x22 = 0) then
               j31 ((x16.1, x16.2.1, x16.2.2), x17, (x21.1.1, x21.1.2), x18, x19, x20, ((x21.1.1, x21.1.2), (x21.2.1.1, x21.2.1.2), x21.2.2.1, x21.2.2.2), x22)
              else
               bif decide (x22 = 1) then
                j31 ((x16.1, x16.2.1, x16.2.2), x17, (x21.2.1.1, x21.2.1.2), x18, x19, x20, ((x21.1.1, x21.1.2), (x21.2.1.1, x21.2.1.2), x21.2.2.1, x21.2.2.2), x22)
               else
                bif decide (x22 = 2) then
                 j31 ((x16.1, x16.2.1, x16.2.2), x17, (x21.2.2.1, x21.2.2.2), x18, x19, x20, ((x21.1.1, x21.1.2), (x21.2.1.1, x21.2.1.2), x21.2.2.1, x21.2.2.2), x22)
                else
                 none
             else
              next0 ((x16.1, x16.2.1, x16.2.2), x17, x18, x19, w64 (x20 + 1))) (m + 1000) ((y7.1, y7.2.1, y7.2.2), y8, y10, y11, y12, ((r14.1.1, r14.1.2), (r14.2.1.1, r14.2.1.2), r14.2.2.1, r14.2.2.2), 0)) hp (by omega) ?hK ?hG (fun _ _ _ _ _ _ => rfl)) ?_
  case hK =>
    rw [hE]
    refine zA7 m (P := P) (T := T) (E := E) (S := S) (by omega) ?_ (fun _ _ _ _ _ _ _ => rfl)
    exact zA5 m (by omega) (fun _ _ _ _ => rfl)
  case hG =>
    intro next E0 i t
    exact zBa m E0 t (N := fun a b c d e => next (a, b, c, d, w64 (e + 1))) (fun _ _ _ _ _ _ _ _ => rfl)
  cases (List.range T.length).any (fun i => zgJ P T i || zs9 T i) <;> cases (List.range S.length).any (zbT E S) <;> rfl
end Go.Proofs.YtpkkcjmblocjdaaGreat.Pure
end
section
namespace Go.Proofs.YtpkkcjmblocjdaaGreat.Pure
open Go.RowKit Go.Proofs.YtpkkcjmblocjdaaGreat.AM PL
theorem zy7 (b:Nat→Bool):(List.range 3).any b=(b 0||(b 1||b 2)):=by
 show (b 0||(b 1||(b 2||false)))=_
 rw [Bool.or_false]
theorem zm3 {α:Type} (d:α) (l:List α) (b:α→Bool):(List.range l.length).any (fun i=>b (rdD d l (i:Int)))=l.any b:=by
 rw [Bool.eq_iff_iff,List.any_eq_true,List.any_eq_true]
 constructor
 ·rintro ⟨i,hi,h⟩
  rw [List.mem_range] at hi
  rw [zY d l i hi] at h
  exact ⟨_,List.getElem_mem hi,h⟩
 ·rintro ⟨x,hx,h⟩
  obtain ⟨i,hi,rfl⟩:=List.getElem_of_mem hx
  refine ⟨i,List.mem_range.2 hi,?_⟩
  rw [zY d l i hi]
  exact h
end Go.Proofs.YtpkkcjmblocjdaaGreat.Pure
end
section
namespace Go.Proofs.YtpkkcjmblocjdaaGreat.Pure
open Go.RowKit Go.Proofs.YtpkkcjmblocjdaaGreat.AM PL
end Go.Proofs.YtpkkcjmblocjdaaGreat.Pure
end
section
namespace Go.Proofs.YtpkkcjmblocjdaaGreat.Pure
open Go.RowKit Go.Proofs.YtpkkcjmblocjdaaGreat.AM PL
end Go.Proofs.YtpkkcjmblocjdaaGreat.Pure
end
section
namespace Go.Proofs.YtpkkcjmblocjdaaGreat.Pure
open Go.RowKit Go.Proofs.YtpkkcjmblocjdaaGreat.AM PL
theorem zwu (m:Nat) (a b:List Pt) (ha:a.length≤1000) (hb:b.length≤1000):Y5 (m+1000) [a,b]=some (a++b):=by
 unfold Y5
 have e0:rdD [] [a,b] ((0:Nat):Int)=a:=rfl
 have e1:rdD [] [a,b] ((1:Nat):Int)=b:=rfl
 refine Z6 (fun i=>([a,b],(if i=0 then 0 else if i=1 then (a.length:Int) else (a.length:Int)+(b.length:Int)),[a,b],2,(i:Int))) 2 rfl (fun next=>?_) (fun i hi next hn=>?_) _ (by omega)
 ·dsimp only
  rw [zg (by omega)]
  simp only [show ((2:Nat)=0)=False from by simp,show ((2:Nat)=1)=False from by simp,if_false]
  rw [zP (decide_eq_true (by omega)),zP (show zfY ((a.length:Int)+(b.length:Int))=true by unfold zfY;exact decide_eq_true (by omega))]
  refine Z6 (fun i=>((if i=0 then [] else if i=1 then a else a++b),[a,b],2,(i:Int))) 2 rfl (fun next=>?_) (fun i hi next hn=>?_) _ (by omega)
  ·dsimp only
   rw [zg (by omega)];rfl
  ·dsimp only
   rw [zk (by omega),zP (zA ⟨by omega,by simp;omega⟩),zl (x:=(i:Int)+1) (by omega) (by omega),←hn]
   match i,hi with
   |0,_=>rw [zP (jG (by rw [e0];simp;omega)),e0];rfl
   |1,_=>rw [zP (jG (by rw [e1];simp;omega)),e1];rfl
 ·dsimp only
  simp only [zx]
  rw [zk (by omega),zP (zA ⟨by omega,by simp;omega⟩),zl (x:=(i:Int)+1) (by omega) (by omega),←hn]
  match i,hi with
  |0,_ =>
   rw [e0]
   simp only [if_true]
   rw [zl (by omega) (by omega),zg (by omega),Int.zero_add]
   rfl
  |1,_ =>
   rw [e1]
   simp only [show ((1:Nat)=0)=False from by simp,if_false,if_true]
   rw [zl (by omega) (by omega),zg (by omega)]
   rfl
def QW (p:zy):List Pt:=Y0 JW ((sgs p).map up)
theorem zrM (m:Nat) (p:zy) (h1:p.2.1.length≤400) (h2:p.2.2.length≤400):ZM (m+1000) p=some (QW p):=by
 unfold ZM zbp
 rw [zwu m _ _ (by omega) (by omega),zr]
 have hl:(p.2.1++p.2.2).length≤800:=by rw [List.length_append];omega
 refine Z6 (fun i=>(((p.2.1++p.2.2).take i).map up,p.2.1++p.2.2,((p.2.1++p.2.2).length:Int),(i:Int))) (p.2.1++p.2.2).length rfl (fun next=>?_) (fun i hi next hn=>?_) _ (by omega)
 ·dsimp only
  rw [zg (by omega),List.take_length,zP (jG (by rw [List.length_map];omega))]
  rfl
 ·dsimp only
  rw [zk (by omega),zP (zA ⟨by omega,by omega⟩),zY _ _ i hi,zAi,zr,zP (jG (by simp only [List.length_map,List.length_take];omega)),zl (x:=(i:Int)+1) (by omega) (by omega),←hn,zpe _ _ _ hi]
  rfl
def zuz (P:List Pt) (a b:Int):Bool:=P.any fun q=>decide (Ins (pt P a) (pt P b) q)
def ztO (P l:List Pt) (a b:Int):Bool:=l.any fun s=>decide ((QF (pt P a) (pt P b) (pt P s.1) (pt P s.2)).1>1)
def zeK (p:zy) (l:List Pt) (a b:Int):Bool:=!zuz p.1 a b&&(!ztO p.1 l a b&&decide ((K6 p.1 p.2.1 [a,b]).1=1))
theorem zAk (b c:Bool):(bif b then some false else some c)=some (!b&&c):=by cases b<;>rfl
theorem zzn (m:Nat) {p:zy} {l:List Pt} {a b:Int} (hp:p.1.length≤300) (hL:p.2.1.length≤350) (hl:l.length≤900) (ha:inr a p.1.length) (hb:inr b p.1.length) (hs:∀s∈l,oks p.1.length s):KX (m+1000) p l a b=some (zeK p l a b):=by
 unfold KX zfc zeK
 have ep:∀i:Int,((rdD (0,0) p.1 i).1,(rdD (0,0) p.1 i).2)=pt p.1 i:=fun _=>rfl
 refine (zaD (fun i=>(l,a,b,p,p.1,(p.1.length:Int),(i:Int))) p.1.length (fun i=>decide (Ins (pt p.1 a) (pt p.1 b) (rdD (0,0) p.1 (i:Int)))) (some false) (some (!ztO p.1 l a b&&decide ((K6 p.1 p.2.1 [a,b]).1=1))) rfl (fun next=>?_) (fun i hi next=>?_) _ (by omega)).trans ?_
 ·dsimp only
  rw [zg (by omega)]
  refine (zaD (fun i=>(a,b,p,l,(l.length:Int),(i:Int))) l.length (fun i=>decide ((QF (pt p.1 a) (pt p.1 b) (pt p.1 (rdD (0,0) l (i:Int)).1) (pt p.1 (rdD (0,0) l (i:Int)).2)).1>1)) (some false) (some (decide ((K6 p.1 p.2.1 [a,b]).1=1))) rfl (fun next=>?_) (fun i hi next=>?_) _ (by omega)).trans ?_
  ·dsimp only
   rw [zg (by omega),zyE m _ _ _ _ hL,zr]
  ·dsimp only
   have h0:=hs _ (List.getElem_mem hi)
   rw [zk (by omega),zP (zA ⟨by omega,by omega⟩),zP (zA ha),zP (zA hb),zY _ l i hi,zP (zA h0.1),zP (zA h0.2),ep,ep,ep,ep,zAO,zr,zl (x:=(i:Int)+1) (by omega) (by omega)]
   rfl
  ·rw [zm3 (0,0) l fun s=>decide ((QF (pt p.1 a) (pt p.1 b) (pt p.1 s.1) (pt p.1 s.2)).1>1)]
   exact zAk _ _
 ·dsimp only
  rw [zk (by omega),zP (zA ⟨by omega,by omega⟩),zP (zA ha),zP (zA hb),ep,ep,ep,zAy,zr,zl (x:=(i:Int)+1) (by omega) (by omega)]
  rfl
 ·rw [zm3 (0,0) p.1 fun q=>decide (Ins (pt p.1 a) (pt p.1 b) q)]
  exact zAk _ _
def zfm (p:zy) (a:Nat) (l:List Pt) (b:Nat):List Pt:=if zeK p l (a:Int) (b:Int)=true then l++[((a:Int),(b:Int))] else l
def zfQ (p:zy) (a j:Nat) (l:List Pt):List Pt:=(List.range' (a+1) j).foldl (zfm p a) l
def zdS (p:zy) (j:Nat) (l:List Pt):List Pt:=(List.range j).foldl (fun l a=>zfQ p a (p.1.length-(a+1)) l) l
theorem zaz (p:zy) (a j:Nat) (l:List Pt):zfQ p a (j+1) l=zfm p a (zfQ p a j l) (a+1+j):=by
 unfold zfQ
 rw [List.range'_concat,List.foldl_append,Nat.one_mul]
 rfl
theorem zb8 (p:zy) (j:Nat) (l:List Pt):zdS p (j+1) l=zfQ p j (p.1.length-(j+1)) (zdS p j l):=by
 unfold zdS
 rw [List.range_succ,List.foldl_append]
 rfl
structure zlD (p:zy) (l:List Pt) (c:Nat):Prop where
 ok:∀s∈l,oks p.1.length s
 len:l.length≤120+c
theorem zlD.step {p:zy} {l:List Pt} {c a b:Nat} (h:zlD p l c) (ha:a<p.1.length) (hb:b<p.1.length):zlD p (zfm p a l b) (c+1):=by
 unfold zfm
 split
 ·refine ⟨fun s hs=>?_,by rw [List.length_append];have:=h.len;simp;omega⟩
  rcases List.mem_append.1 hs with hs|hs
  ·exact h.ok s hs
  ·rw [List.mem_singleton.1 hs]
   exact ⟨⟨by omega,by dsimp only;omega⟩,⟨by omega,by dsimp only;omega⟩⟩
 ·exact ⟨h.ok,by have:=h.len;omega⟩
theorem zlD.inn {p:zy} {l:List Pt} {c a:Nat} (h:zlD p l c):∀j,a+1+j≤p.1.length→zlD p (zfQ p a j l) (c+j)
 |0,_=>h
 |j+1,hj=>by
  rw [zaz]
  exact (h.inn j (by omega)).step (by omega) (by omega)
theorem zlD.out {p:zy} {l:List Pt} (h:zlD p l 0):∀j,j≤p.1.length→zlD p (zdS p j l) (24*j)∨24<p.1.length
 |0,_=>.inl h
 |j+1,hj=>by
  by_cases hn:24<p.1.length
  ·exact .inr hn
  ·rcases h.out j (by omega) with h1|h1
   ·refine .inl ?_
    rw [zb8]
    have h2:=h1.inn (a:=j) (p.1.length-(j+1)) (by omega)
    exact ⟨h2.ok,by have:=h2.len;omega⟩
   ·exact .inr h1
theorem zyU {n:Nat} {s:Pt} (h:oks n s):oks n (up s):=by
 obtain ⟨⟨h1,h2⟩,⟨h3,h4⟩⟩:=h
 refine ⟨⟨?_,?_⟩,⟨?_,?_⟩⟩<;>(unfold up mnI mxI;dsimp only;split<;>omega)
theorem zte (p:zy):(QW p).length=(sgs p).length:=by unfold QW;rw [(Ku _ _).length_eq,List.length_map]
theorem zco (p:zy) (s:Pt):s∈QW p↔∃q∈sgs p,up q=s:=by unfold QW;rw [(Ku _ _).mem_iff,List.mem_map]
theorem znc {p:zy} (h:Sm p) (h1:p.2.1.length≤60) (h2:p.2.2.length≤60):zlD p (QW p) 0:=by
 refine ⟨fun s hs=>?_,?_⟩
 ·obtain ⟨q,hq,rfl⟩:=(zco p s).1 hs
  exact zyU (h.s q hq)
 ·rw [zte]
  show (p.2.1++p.2.2).length≤_
  rw [List.length_append];omega
def j3 (p:zy):List Pt:=Y0 JW (zdS p p.1.length (QW p))
theorem zvO (m:Nat) {p:zy} (h:Sm p):J6 (m+1000) p=some (zcx p):=by
 unfold J6 zdy
 rw [show Jd (m+1000) (p.1,p.2.1,p.2.2)=some (zlS p,0) from zv8 m h,zr]
 rfl
structure Few (p:zy):Prop where
 sm:Sm p
 n:p.1.length≤24
 l:p.2.1.length≤60
 i:p.2.2.length≤60
theorem zrl (m:Nat) {p:zy} (h:Few p):ZC (m+1000) p=some (if zcx p=true then (j3 p,0) else ([],2)):=by
 unfold ZC zds
 rw [show J6 (m+1000) (p.1,p.2.1,p.2.2)=_ from zvO m h.sm,zr]
 cases hg:zcx p with
 |false=>rfl
 |true =>
  simp only [Bool.not_true,cF,if_true]
  have hn:=h.n;have hL:=h.l;have hI:=h.i
  rw [show ZM (m+1000) (p.1,p.2.1,p.2.2)=_ from zrM m p (by omega) (by omega),zr]
  have I0:=znc h.sm hL hI
  have IO:∀j,j≤p.1.length→zlD p (zdS p j (QW p)) (24*j):=fun j hj=>(I0.out j hj).resolve_right (by omega)
  refine Z6 (fun i=>(p,zdS p i (QW p),(p.1.length:Int),(i:Int))) p.1.length rfl (fun next=>?_) (fun i hi next hn'=>?_) _ (by omega)
  ·dsimp only
   have:=(IO p.1.length (Nat.le_refl _)).len
   rw [zg (by omega),zP (jG (by omega))]
   rfl
  ·dsimp only
   have Ii:=IO i (by omega)
   rw [zk (by omega),zl (x:=(i:Int)+1) (by omega) (by omega)]
   refine Z6 (fun j=>(p,zfQ p i j (zdS p i (QW p)),(i:Int),((i+1+j:Nat):Int),(p.1.length:Int),(i:Int))) (p.1.length-(i+1)) ?_ (fun nx=>?_) (fun j hj nx hnx=>?_) _ (by omega)
   ·rfl
   ·dsimp only
    rw [zg (by omega),←hn',zb8,zl (x:=(i:Int)+1) (by omega) (by omega)]
    rfl
   ·dsimp only
    have Ij:=Ii.inn (a:=i) j (by omega)
    have hlen:=Ij.len
    simp only [zx]
    rw [zk (by omega),show KX (m+1000) (p.1,p.2.1,p.2.2) _ _ _=_ from zzn m (p:=p) (l:=zfQ p i j (zdS p i (QW p))) (a:=(i:Int)) (b:=((i+1+j:Nat):Int)) (by omega) (by omega) (by omega) ⟨by omega,by omega⟩ ⟨by omega,by omega⟩ Ij.ok,zr,zl (x:=((i+1+j:Nat):Int)+1) (by omega) (by omega),←hnx,zaz]
    unfold zfm
    cases hgo:zeK p (zfQ p i j (zdS p i (QW p))) (i:Int) ((i+1+j:Nat):Int) with
    |true=>rw [cT,zP (jG (by omega)),if_pos rfl];rfl
    |false=>rw [cF,if_neg (by decide)];rfl
end Go.Proofs.YtpkkcjmblocjdaaGreat.Pure
end
section
namespace Go.Proofs.YtpkkcjmblocjdaaGreat.Pure
open Go.RowKit Go.Proofs.YtpkkcjmblocjdaaGreat.AM PL
theorem KC.dist {p:zy} (h:KC p) {i j:Nat} (hi:i<p.1.length) (hj:j<p.1.length) (e:pt p.1 (i:Int)=pt p.1 (j:Int)):i=j:=by
 have hall:=(YY (alk p.1) (n:=p.1.length) _ 0 rfl (Nat.zero_le _)).1 h.n1
 rcases Nat.lt_trichotomy i j with hlt|he|hgt
 ·exact absurd (decide_eq_true e) (by have:=hall i j (by omega) hlt hj;unfold alk at this;rw [this];decide)
 ·exact he
 ·exact absurd (decide_eq_true e.symm) (by have:=hall j i (by omega) hgt hi;unfold alk at this;rw [this];decide)
theorem KC.distI {p:zy} (h:KC p) {i j:Int} (hi:inr i p.1.length) (hj:inr j p.1.length) (e:pt p.1 i=pt p.1 j):i=j:=by
 obtain ⟨h1,h2⟩:=hi
 obtain ⟨h3,h4⟩:=hj
 have:=h.dist (i:=i.toNat) (j:=j.toNat) (by omega) (by omega) (by rwa [Int.toNat_of_nonneg h1,Int.toNat_of_nonneg h3])
 omega
theorem zkB {P:List Pt} {a b:Int}:zuz P a b=false↔∀q∈P,¬Ins (pt P a) (pt P b) q:=by
 unfold zuz
 rw [List.any_eq_false]
 simp
theorem zaQ {P l:List Pt} {a b:Int}:ztO P l a b=false↔∀s∈l,(QF (pt P a) (pt P b) (pt P s.1) (pt P s.2)).1≤1:=by
 unfold ztO
 rw [List.any_eq_false]
 constructor
 ·intro h s hs
  have:=h s hs
  rw [decide_eq_true_eq] at this
  omega
 ·intro h s hs
  have:=h s hs
  rw [decide_eq_true_eq]
  omega
theorem zdo {p:zy} {l:List Pt} {a b:Int}:zeK p l a b=true↔zuz p.1 a b=false∧ztO p.1 l a b=false∧(K6 p.1 p.2.1 [a,b]).1=1:=by
 unfold zeK
 simp
theorem zqh {p:zy} {l l':List Pt} {a b:Int} (h:∀s∈l,s∈l') (hg:zeK p l' a b=true):zeK p l a b=true:=by
 rw [zdo] at *
 exact ⟨hg.1,zaQ.2 fun s hs=>zaQ.1 hg.2.1 s (h s hs),hg.2.2⟩
theorem ztP {p:zy} (hF:KC p) {l:List Pt} {a b:Int} (ha:inr a p.1.length) (hb:inr b p.1.length) (hab:a≠b) (h:zeK p l a b=true):(a,b)∉l:=by
 intro hm
 have h1:=zaQ.1 (zdo.1 h).2.1 _ hm
 dsimp only at h1
 rw [zie (fun e=>hab (hF.distI ha hb e)) (hF.sm.fit ha) (hF.sm.fit hb)] at h1
 omega
structure ziz (p:zy) (l:List Pt):Prop where
 ok:∀s∈l,oks p.1.length s∧s.1<s.2
 nd:l.Nodup
 apart:l.Pairwise fun s q=>(QF (pt p.1 q.1) (pt p.1 q.2) (pt p.1 s.1) (pt p.1 s.2)).1≤1
 old:∀s∈QW p,s∈l
 new:∀s∈l,s∈QW p∨(zuz p.1 s.1 s.2=false∧(K6 p.1 p.2.1 [s.1,s.2]).1=1)
theorem ziR {p:zy} {a b:Nat} {l:List Pt}:∀s∈l,s∈zfm p a l b:=by
 intro s hs
 unfold zfm
 split
 ·exact List.mem_append_left _ hs
 ·exact hs
theorem ziz.step {p:zy} (hF:KC p) {l:List Pt} {a b:Nat} (h:ziz p l) (hab:a<b) (hb:b<p.1.length):ziz p (zfm p a l b):=by
 have ha':inr (a:Int) p.1.length:=⟨by omega,by omega⟩
 have hb':inr (b:Int) p.1.length:=⟨by omega,by omega⟩
 unfold zfm
 split
 ·rename_i hg
  have hno:=ztP hF ha' hb' (by omega) hg
  have hg':=zdo.1 hg
  refine ⟨fun s hs=>?_,?_,?_,fun s hs=>List.mem_append_left _ (h.old s hs),fun s hs=>?_⟩
  ·rcases List.mem_append.1 hs with hs|hs
   ·exact h.ok s hs
   ·rw [List.mem_singleton.1 hs]
    exact ⟨⟨ha',hb'⟩,by dsimp only;omega⟩
  ·rw [List.nodup_append]
   exact ⟨h.nd,by simp,fun x hx y hy e=>hno (by rw [List.mem_singleton.1 hy] at e;rw [←e];exact hx)⟩
  ·rw [List.pairwise_append]
   refine ⟨h.apart,by simp,fun s hs q hq=>?_⟩
   rw [List.mem_singleton.1 hq]
   exact zaQ.1 hg'.2.1 s hs
  ·rcases List.mem_append.1 hs with hs|hs
   ·exact h.new s hs
   ·rw [List.mem_singleton.1 hs]
    exact .inr ⟨hg'.1,hg'.2.2⟩
 ·exact h
theorem ziz.inn {p:zy} (hF:KC p) {l:List Pt} {a:Nat} (h:ziz p l):∀j,a+1+j≤p.1.length→ziz p (zfQ p a j l)
 |0,_=>h
 |j+1,hj=>by
  rw [zaz]
  exact (ziz.inn hF h j (by omega)).step hF (by omega) (by omega)
theorem ziz.out {p:zy} (hF:KC p) {l:List Pt} (h:ziz p l):∀j,j≤p.1.length→ziz p (zdS p j l)
 |0,_=>h
 |j+1,hj=>by
  rw [zb8]
  exact (ziz.out hF h j (by omega)).inn hF _ (by omega)
theorem zwa {s:Pt} (h:s.1≠s.2):(up s).1<(up s).2:=by
 unfold up mnI mxI
 dsimp only
 (repeat' split)<;>omega
theorem zcm (s:Pt):up s=s∨up s=rv s:=by
 unfold up rv mnI mxI
 by_cases h:s.1≤s.2
 ·refine .inl (Prod.ext ?_ ?_)<;>(dsimp only;split<;>omega)
 ·refine .inr (Prod.ext ?_ ?_)<;>(dsimp only;split<;>omega)
theorem zr1 (P:List Pt) (s:Pt) (c d:Pt):QF (pt P (up s).1) (pt P (up s).2) c d=QF (pt P s.1) (pt P s.2) c d:=by
 rcases zcm s with e|e
 ·rw [e]
 ·rw [e]
  unfold rv
  exact zcN _ _ _ _
theorem zmp {p:zy} (hF:KC p):(sgs p).Pairwise fun s q=>(QF (pt p.1 q.1) (pt p.1 q.2) (pt p.1 s.1) (pt p.1 s.2)).1≤1:=by
 have hall:=(YY (qQ (ens p)) (n:=(ens p).length) _ 0 rfl (Nat.zero_le _)).1 hF.n3
 rw [List.pairwise_iff_getElem]
 intro i j hi hj hij
 have:=hall i j (by omega) hij (by rw [zde];exact hj)
 unfold qQ at this
 rw [Xf p hi,Xf p hj,Qz hi,Qz hj] at this
 have:=of_decide_eq_false this
 unfold en at this
 dsimp only at this
 rw [Je]
 omega
theorem zxr {p:zy} (hF:KC p):ziz p (QW p):=by
 have hnd:((sgs p).map up).Nodup:=by
  rw [List.nodup_iff_pairwise_ne,List.pairwise_map]
  exact hF.two
 refine ⟨fun s hs=>?_,(Ku _ _).symm.nodup hnd,?_,fun s hs=>hs,fun s hs=>.inl hs⟩
 ·obtain ⟨q,hq,rfl⟩:=(zco p s).1 hs
  exact ⟨zyU (hF.sm.s q hq),zwa (hF.ok q hq).2⟩
 ·have h1:((sgs p).map up).Pairwise fun s q=>(QF (pt p.1 q.1) (pt p.1 q.2) (pt p.1 s.1) (pt p.1 s.2)).1≤1:=by
   rw [List.pairwise_map]
   refine (zmp hF).imp fun {s q} h=>?_
   rw [zr1,Je,zr1,Je]
   exact h
  exact ((Ku JW ((sgs p).map up)).pairwise_iff (fun {s q} h=>by rw [Je];exact h)).2 h1
theorem zpn {p:zy} {a:Nat} {l:List Pt}:∀j,∀s∈l,s∈zfQ p a j l
 |0,s,hs=>hs
 |j+1,s,hs=>by rw [zaz];exact ziR s (zpn j s hs)
theorem zmO {p:zy} {a:Nat} {l:List Pt} (j:Nat):∀d,∀s∈zfQ p a j l,s∈zfQ p a (j+d) l
 |0,s,hs=>hs
 |d+1,s,hs=>by rw [show j+(d+1)=(j+d)+1 by omega,zaz];exact ziR s (zmO j d s hs)
theorem zmS {p:zy} {l:List Pt} (j:Nat):∀d,∀s∈zdS p j l,s∈zdS p (j+d) l
 |0,s,hs=>hs
 |d+1,s,hs=>by rw [show j+(d+1)=(j+d)+1 by omega,zb8];exact zpn _ s (zmS j d s hs)
def edg (p:zy):List Pt:=zdS p p.1.length (QW p)
theorem X9 {p:zy} (hF:KC p):ziz p (edg p):=(zxr hF).out hF _ (Nat.le_refl _)
theorem zx5 {p:zy} {a b:Nat} (hab:a<b) (hb:b<p.1.length):((a:Int),(b:Int))∈edg p∨zeK p (edg p) (a:Int) (b:Int)=false:=by
 have sub:∀s∈zfQ p a (p.1.length-(a+1)) (zdS p a (QW p)),s∈edg p:=by
  intro s hs
  rw [←zb8] at hs
  have:=zmS (p:=p) (l:=QW p) (a+1) (p.1.length-(a+1)) s hs
  rwa [show a+1+(p.1.length-(a+1))=p.1.length by omega] at this
 have sub1:∀s∈zfm p a (zfQ p a (b-(a+1)) (zdS p a (QW p))) b,s∈edg p:=by
  intro s hs
  have e:=zaz p a (b-(a+1)) (zdS p a (QW p))
  rw [show a+1+(b-(a+1))=b by omega] at e
  rw [←e] at hs
  have:=zmO (p:=p) (b-(a+1)+1) (p.1.length-(a+1)-(b-(a+1)+1)) s hs
  rw [show b-(a+1)+1+(p.1.length-(a+1)-(b-(a+1)+1))=p.1.length-(a+1) by omega] at this
  exact sub s this
 cases hg:zeK p (zfQ p a (b-(a+1)) (zdS p a (QW p))) (a:Int) (b:Int) with
 |true =>
  refine .inl (sub1 _ ?_)
  unfold zfm
  rw [if_pos hg]
  exact List.mem_append_right _ (by simp)
 |false =>
  refine .inr ?_
  rw [Bool.eq_false_iff]
  intro h
  have:=zqh (fun s hs=>sub1 s (ziR s hs)) h
  rw [hg] at this
  cases this
theorem jK (p:zy) (s:Pt):s∈j3 p↔s∈edg p:=(Ku JW (edg p)).mem_iff
theorem zaZ {p:zy} (hF:KC p):(j3 p).Pairwise ltS:=zjr.srt zy9 (X9 hF).nd
end Go.Proofs.YtpkkcjmblocjdaaGreat.Pure
end
section
namespace Go.Proofs.YtpkkcjmblocjdaaGreat.Pure
open Go.RowKit Go.Proofs.YtpkkcjmblocjdaaGreat.AM PL
def inT (P:List Pt) (t:Tr) (q:Pt):Bool:=decide (ori (pt P t.1) (pt P t.2.1) q≥0)&&(decide (ori (pt P t.2.1) (pt P t.2.2) q≥0)&&decide (ori (pt P t.2.2) (pt P t.1) q≥0))
def ztD (t:Tr) (i:Int):Bool:=!(decide (i=t.1))&&(!(decide (i=t.2.1))&&!(decide (i=t.2.2)))
def zpm (P:List Pt) (t:Tr):Bool:=!((List.range P.length).any fun i=>ztD t (i:Int)&&inT P t (pt P (i:Int)))
theorem zA0 (m:Nat) {P:List Pt} {t:Tr} (h:inr t.1 P.length∧inr t.2.1 P.length∧inr t.2.2 P.length) (q:Pt):zaE (m+1000) P t q=some (inT P t q):=by
 unfold zaE ziq inT
 have ep:∀i:Int,((rdD (0,0) P i).1,(rdD (0,0) P i).2)=pt P i:=fun _=>rfl
 have eq:((q.1,q.2):Pt)=q:=rfl
 simp only [zx,Jw h.1,Jw h.2.1,Jw h.2.2,gT,ep,eq,zAG,zr]
 cases decide (ori (pt P t.1) (pt P t.2.1) q≥0)<;>cases decide (ori (pt P t.2.1) (pt P t.2.2) q≥0)<;>rfl
theorem zxm (m:Nat) {P:List Pt} {t:Tr} (hp:P.length≤900) (h:inr t.1 P.length∧inr t.2.1 P.length∧inr t.2.2 P.length):ZG (m+1000) P t=some (zpm P t):=by
 unfold ZG zcU zpm
 refine (zaD (fun i=>(P,t,P,(P.length:Int),(i:Int))) P.length (fun i=>ztD t (i:Int)&&inT P t (pt P (i:Int))) (some false) (some true) rfl (fun next=>?_) (fun i hi next=>?_) _ (by omega)).trans ?_
 ·dsimp only
  rw [zg (by omega)]
 ·dsimp only
  have ep:∀i:Int,((rdD (0,0) P i).1,(rdD (0,0) P i).2)=pt P i:=fun _=>rfl
  simp only [zx,ep]
  rw [zk (by omega),zP (zA ⟨by omega,by omega⟩),show zaE (m+1000) P (t.1,t.2.1,t.2.2) (pt P (i:Int))=_ from zA0 m h _,zr,zl (x:=(i:Int)+1) (by omega) (by omega)]
  unfold ztD
  cases decide ((i:Int)=t.1)<;>cases decide ((i:Int)=t.2.1)<;>cases decide ((i:Int)=t.2.2)<;>rfl
 ·cases (List.range P.length).any fun i=>ztD t (i:Int)&&inT P t (pt P (i:Int))<;>rfl
def zjh (p:zy) (E:List Pt) (s:Pt) (c:Int):Option Tr :=
 if (s.1,c)∈E∧(s.2,c)∈E∧(K8 p.1 s.1 s.2 c).2=true∧(K6 p.1 p.2.1 [s.1,s.2,c]).1=1∧zpm p.1 (K8 p.1 s.1 s.2 c).1=true then some (K8 p.1 s.1 s.2 c).1 else none
def zom (p:zy) (E:List Pt) (s:Pt) (j:Nat):List Tr:=(List.range j).filterMap fun (j:Nat)=>zjh p E s (s.2+1+(j:Int))
def cnt (p:zy) (s:Pt):Nat:=p.1.length-(s.2.toNat+1)
def zl8 (p:zy) (E:List Pt) (s:Pt):List Tr:=zom p E s (cnt p s)
def zn1 (p:zy) (E:List Pt):List Tr:=E.flatMap (zl8 p E)
def ji (p:zy):List Tr:=Y0 KZ (zn1 p (j3 p))
theorem zsA (p:zy) (E:List Pt) (s:Pt) (j:Nat):zom p E s (j+1)=zom p E s j++(zjh p E s (s.2+1+(j:Int))).toList:=by
 unfold zom
 rw [List.range_succ,List.filterMap_append]
 cases h:zjh p E s (s.2+1+(j:Int))<;>simp [h]
theorem zpz (p:zy) (E:List Pt) (s:Pt) (j:Nat):(zom p E s j).length≤j:=by
 unfold zom
 exact Nat.le_trans (List.length_filterMap_le _ _) (by rw [List.length_range];exact Nat.le_refl _)
theorem XK {α β:Type} (f:α→List β) (n:Nat):∀l:List α,(∀x∈l,(f x).length≤n)→(l.flatMap f).length≤l.length*n
 |[],_=>by simp
 |x::l,h=>by
  rw [List.flatMap_cons,List.length_append,List.length_cons,Nat.add_mul,Nat.one_mul]
  have h1:=h x List.mem_cons_self
  have h2:=XK f n l fun y hy=>h y (List.mem_cons_of_mem _ hy)
  omega
theorem zzI (m:Nat) (p l:List Pt) (a b c:Int) (hl:l.length≤350):Zj (m+1000) p l a b c=some (K6 p l [a,b,c]):=by
 unfold Zj za8
 rw [show jU (m+1000) p l [a,b,c]=_ from zpl (m+600) p l [a,b,c] (by simp) (by simp) hl]
 rfl
theorem zuD {p:zy} (h:Few p):∀s∈j3 p,oks p.1.length s:=by
 intro s hs
 rw [jK] at hs
 exact (((znc h.sm h.l h.i).out p.1.length (Nat.le_refl _)).resolve_right (by have:=h.n;omega)).ok s hs
theorem zqT {p:zy} (h:Few p):(j3 p).length≤696:=by
 have h1:=(((znc h.sm h.l h.i).out p.1.length (Nat.le_refl _)).resolve_right (by have:=h.n;omega)).len
 have h2:=h.n
 unfold j3
 rw [(Ku _ _).length_eq]
 omega
theorem zBd (m:Nat) {ρ:Type} {p:zy} (h:Few p) {D:Z2} (E:List Pt) (hE:E.length≤700) (A:List Tr) (hA:A.length≤20000) {R S:List Pt} {s:Pt} (hs:oks p.1.length s) {x26:List Pt} {x27 x28:Int} {K:Z2→List Pt→Int→Int→Option ρ} {F:(zy×Z2×List (Pt×Bool)×Z2×Pt×Int×List Pt×Int×Int)→((zy×Z2×List (Pt×Bool)×Z2×Pt×Int×List Pt×Int×Int)→Option ρ)→Option ρ}
  (hF:∀(c:Int) (B:List Tr) next,0≤c→c<p.1.length→B.length≤30000→F (p,D,yes E,(R,B,S),s,c,x26,x27,x28) next=next (p,D,yes E,(R,B++(zjh p E s c).toList,S),s,c+1,x26,x27,x28))
  (hK:∀(B:List Tr) next,F (p,D,yes E,(R,B,S),s,(p.1.length:Int),x26,x27,x28) next=K (R,B,S) x26 x27 x28) :
  zw F (m+1000) (p,D,yes E,(R,A,S),s,s.2+1,x26,x27,x28)=K (R,A++zl8 p E s,S) x26 x27 x28:=by
 obtain ⟨_,h1,h2⟩:=hs
 have hn:=h.n
 refine Z6 (fun j=>(p,D,yes E,(R,A++zom p E s j,S),s,s.2+1+(j:Int),x26,x27,x28)) (cnt p s) ?_ (fun nx=>?_) (fun j hj nx hnx=>?_) _ (by unfold cnt;omega)
 ·show _=(p,D,yes E,(R,A++[],S),s,s.2+1+((0:Nat):Int),x26,x27,x28)
  rw [List.append_nil,show s.2+1+((0:Nat):Int)=s.2+1 by omega]
 ·rw [show s.2+1+(cnt p s:Int)=(p.1.length:Int) by unfold cnt;omega]
  exact hK _ _
 ·have:=zpz p E s j
  unfold cnt at hj
  rw [hF _ _ _ (by omega) (by omega) (by rw [List.length_append];omega),←hnx,zsA,List.append_assoc,show s.2+1+((j+1:Nat):Int)=s.2+1+(j:Int)+1 by omega]
end Go.Proofs.YtpkkcjmblocjdaaGreat.Pure
end
section
namespace Go.Proofs.YtpkkcjmblocjdaaGreat.Pure
open Go.RowKit Go.Proofs.YtpkkcjmblocjdaaGreat.AM PL
abbrev St9:Type:=zy×Z2×List (Pt×Bool)×Z2×Pt×Int×List Pt×Int×Int
theorem zzR (m : Nat) {ρ : Type} {p : zy} (h : Few p) {D : Z2} (E : List Pt) {R S : List Pt} {s : Pt} (hs : oks p.1.length s) {x26 : List Pt} {x27 x28 : Int} {K : zy → Z2 → List (Pt × Bool) → Z2 → List Pt → Int → Int → Option ρ} {F : St9 → (St9 → Option ρ) → Option ρ}
    (hF : ∀ (x20 : zy) (x21 : Z2) x22 (x23 : Z2) (x24 : Pt) (x25 : Int) x26 x27 x28 next19, F (x20, x21, x22, x23, x24, x25, x26, x27, x28) next19 =
        bif decide (x25 < (x20.1.length : Int)) then
         zx (α := (((List (Int × Int)) × ((List (Int × Int)) × (List (Int × Int)))) × (((List (Int × Int)) × ((List (Int × (Int × Int))) × (List (Int × Int)))) × ((List ((Int × Int) × Bool)) × (((List (Int × Int)) × ((List (Int × (Int × Int))) × (List (Int × Int)))) × ((Int × Int) × (Int × ((List (Int × Int)) × (Int × Int))))))))) (fun (y29, y30, y31, y32, y33, y34, y35, y36, y37) =>
          next19 ((y29.1, y29.2.1, y29.2.2), (y30.1, y30.2.1, y30.2.2), y31, (y32.1, y32.2.1, y32.2.2), (y33.1, y33.2), w64 (y34 + 1), y35, y36, y37)) fun j38 =>
         zx (α := (((List (Int × Int)) × ((List (Int × Int)) × (List (Int × Int)))) × (((List (Int × Int)) × ((List (Int × (Int × Int))) × (List (Int × Int)))) × ((List ((Int × Int) × Bool)) × (((List (Int × Int)) × ((List (Int × (Int × Int))) × (List (Int × Int)))) × ((Int × Int) × (Int × ((List (Int × Int)) × (Int × (Int × Bool)))))))))) (fun (y39, y40, y41, y42, y43, y44, y45, y46, y47, y48) =>
          bif y48 then
           j38 ((y39.1, y39.2.1, y39.2.2), (y40.1, y40.2.1, y40.2.2), y41, (y42.1, y42.2.1, y42.2.2), (y43.1, y43.2), y44, y45, y46, y47)
          else
           bnd (ZU (m + 1000) y39.1 y43.1 y43.2 y44) fun r49 =>
           bnd (Zj (m + 1000) y39.1 y39.2.1 y43.1 y43.2 y44) fun r50 =>
           zx (α := (((List (Int × Int)) × ((List (Int × Int)) × (List (Int × Int)))) × (((List (Int × Int)) × ((List (Int × (Int × Int))) × (List (Int × Int)))) × ((List ((Int × Int) × Bool)) × (((List (Int × Int)) × ((List (Int × (Int × Int))) × (List (Int × Int)))) × ((Int × Int) × (Int × ((Int × (Int × Int)) × ((List (Int × Int)) × (Int × (Int × Bool))))))))))) (fun (y51, y52, y53, y54, y55, y56, y57, y58, y59, y60, y61) =>
            zx (α := (((List (Int × Int)) × ((List (Int × Int)) × (List (Int × Int)))) × (((List (Int × Int)) × ((List (Int × (Int × Int))) × (List (Int × Int)))) × ((List ((Int × Int) × Bool)) × (((List (Int × Int)) × ((List (Int × (Int × Int))) × (List (Int × Int)))) × ((Int × Int) × (Int × ((List (Int × Int)) × (Int × Int))))))))) (fun (y62, y63, y64, y65, y66, y67, y68, y69, y70) =>
             j38 ((y62.1, y62.2.1, y62.2.2), (y63.1, y63.2.1, y63.2.2), y64, (y65.1, y65.2.1, y65.2.2), (y66.1, y66.2), y67, y68, y69, y70)) fun j71 =>
            bif y61 then
             gd (few (y54.2.1.length + 1)) <|
             j71 ((y51.1, y51.2.1, y51.2.2), (y52.1, y52.2.1, y52.2.2), y53, (y54.1, y54.2.1 ++ [(y57.1, y57.2.1, y57.2.2)], y54.2.2), (y55.1, y55.2), y56, y58, y59, y60)
            else
             j71 ((y51.1, y51.2.1, y51.2.2), (y52.1, y52.2.1, y52.2.2), y53, (y54.1, y54.2.1, y54.2.2), (y55.1, y55.2), y56, y58, y59, y60)) fun j72 =>
           bif r49.2 then
            bif decide (r50.1 = 1) then
             bnd (ZG (m + 1000) y39.1 (r49.1.1, r49.1.2.1, r49.1.2.2)) fun r73 =>
             j72 ((y39.1, y39.2.1, y39.2.2), (y40.1, y40.2.1, y40.2.2), y41, (y42.1, y42.2.1, y42.2.2), (y43.1, y43.2), y44, (r49.1.1, r49.1.2.1, r49.1.2.2), y45, y46, y47, r73)
            else
             j72 ((y39.1, y39.2.1, y39.2.2), (y40.1, y40.2.1, y40.2.2), y41, (y42.1, y42.2.1, y42.2.2), (y43.1, y43.2), y44, (r49.1.1, r49.1.2.1, r49.1.2.2), y45, y46, y47, false)
           else
            j72 ((y39.1, y39.2.1, y39.2.2), (y40.1, y40.2.1, y40.2.2), y41, (y42.1, y42.2.1, y42.2.2), (y43.1, y43.2), y44, (r49.1.1, r49.1.2.1, r49.1.2.2), y45, y46, y47, false)) fun j74 =>
         bif !(toT Bool (lkM (.pair (.int .i64) (.int .i64)) .bool x22 (x24.1, x25))) then
          j74 ((x20.1, x20.2.1, x20.2.2), (x21.1, x21.2.1, x21.2.2), x22, (x23.1, x23.2.1, x23.2.2), (x24.1, x24.2), x25, x26, x27, x28, true)
         else
          j74 ((x20.1, x20.2.1, x20.2.2), (x21.1, x21.2.1, x21.2.2), x22, (x23.1, x23.2.1, x23.2.2), (x24.1, x24.2), x25, x26, x27, x28, !(toT Bool (lkM (.pair (.int .i64) (.int .i64)) .bool x22 (x24.2, x25))))
        else
         K x20 x21 x22 x23 x26 x27 x28) (c : Int) (B : List Tr) (next : St9 → Option ρ) (hc0 : 0 ≤ c) (hc : c < p.1.length) (hB : B.length ≤ 30000) :
    F (p, D, yes E, (R, B, S), s, c, x26, x27, x28) next = next (p, D, yes E, (R, B ++ (zjh p E s c).toList, S), s, c + 1, x26, x27, x28) := by
  have hn := h.n
  have k1 : toT Bool (lkM (.pair (.int .i64) (.int .i64)) .bool (yes E) (s.1, c)) = decide ((s.1, c) ∈ E) := ze7 E (s.1, c)
  have k2 : toT Bool (lkM (.pair (.int .i64) (.int .i64)) .bool (yes E) (s.2, c)) = decide ((s.2, c) ∈ E) := ze7 E (s.2, c)
  have et := zyZ m p.1 s.1 s.2 c (by omega)
  have eh := zzI m p.1 p.2.1 s.1 s.2 c (by have := h.l; omega)
  have ea : B ++ [] = B := List.append_nil B
  rw [hF, zk (by omega)]
  simp only [zx, k1, k2]
  rw [zl (x := c + 1) (by omega) (by omega)]
  unfold zjh
  by_cases h1 : (s.1, c) ∈ E
  · rw [za5 h1]
    by_cases h2 : (s.2, c) ∈ E
    · rw [decide_eq_true h2]
      simp only [Bool.not_true, cF]
      rw [et, zr, eh, zr]
      by_cases h3 : (K8 p.1 s.1 s.2 c).2 = true
      · rw [Kh h3]
        by_cases h4 : (K6 p.1 p.2.1 [s.1, s.2, c]).1 = 1
        · rw [zk h4]
          have hr : inr (K8 p.1 s.1 s.2 c).1.1 p.1.length ∧ inr (K8 p.1 s.1 s.2 c).1.2.1 p.1.length ∧ inr (K8 p.1 s.1 s.2 c).1.2.2 p.1.length := by
            have hr0 : inr c p.1.length := ⟨hc0, hc⟩
            unfold K8 at h3 ⊢
            rw [if_pos ⟨hs.1, hs.2, hr0⟩] at h3 ⊢
            split at h3
            · cases h3
            · rename_i h0
              rw [if_neg h0]
              have r3 : ∀ x y z : Int, inr x p.1.length → inr y p.1.length → inr z p.1.length → inr (zc7 x y z).1 p.1.length ∧ inr (zc7 x y z).2.1 p.1.length ∧ inr (zc7 x y z).2.2 p.1.length := by
                intro x y z hx hy hz
                unfold zc7
                (repeat' split)
                · exact ⟨hx, hy, hz⟩
                · exact ⟨hy, hz, hx⟩
                · exact ⟨hz, hx, hy⟩
              split
              · exact r3 _ _ _ hs.1 hr0 hs.2
              · exact r3 _ _ _ hs.1 hs.2 hr0
          rw [show ZG (m + 1000) p.1 ((K8 p.1 s.1 s.2 c).1.1, (K8 p.1 s.1 s.2 c).1.2.1, (K8 p.1 s.1 s.2 c).1.2.2) = _ from zxm m (by omega) hr, zr]
          by_cases h5 : zpm p.1 (K8 p.1 s.1 s.2 c).1 = true
          · rw [if_pos ⟨h1, h2, h3, h4, h5⟩, Kh h5, zP (jG (by omega))]
            rfl
          · rw [if_neg (fun x => h5 x.2.2.2.2), Qx (by simpa using h5)]
            show _ = next (p, D, yes E, (R, B ++ [], S), s, c + 1, x26, x27, x28)
            rw [ea]
        · rw [zg h4, if_neg (fun x => h4 x.2.2.2.1)]
          show _ = next (p, D, yes E, (R, B ++ [], S), s, c + 1, x26, x27, x28)
          rw [ea]
      · rw [Qx (by simpa using h3), if_neg (fun x => h3 x.2.2.1)]
        show _ = next (p, D, yes E, (R, B ++ [], S), s, c + 1, x26, x27, x28)
        rw [ea]
    · rw [decide_eq_false h2, if_neg (fun x => h2 x.2.1)]
      simp only [Bool.not_false, cT]
      show _ = next (p, D, yes E, (R, B ++ [], S), s, c + 1, x26, x27, x28)
      rw [ea]
  · rw [zgy h1, if_neg (fun x => h1 x.1), cT]
    show _ = next (p, D, yes E, (R, B ++ [], S), s, c + 1, x26, x27, x28)
    rw [ea]
theorem zAg (m : Nat) {ρ : Type} {p : zy} (h : Few p) {D : Z2} (E : List Pt) (hE : E.length ≤ 700) (A : List Tr) (hA : A.length ≤ 20000) {R S : List Pt} {s : Pt} (hs : oks p.1.length s) {x26 : List Pt} {x27 x28 : Int} {K : zy → Z2 → List (Pt × Bool) → Z2 → List Pt → Int → Int → Option ρ} {F : St9 → (St9 → Option ρ) → Option ρ}
    (hF : ∀ (x20 : zy) (x21 : Z2) x22 (x23 : Z2) (x24 : Pt) (x25 : Int) x26 x27 x28 next19, F (x20, x21, x22, x23, x24, x25, x26, x27, x28) next19 =
        bif decide (x25 < (x20.1.length : Int)) then
         zx (α := (((List (Int × Int)) × ((List (Int × Int)) × (List (Int × Int)))) × (((List (Int × Int)) × ((List (Int × (Int × Int))) × (List (Int × Int)))) × ((List ((Int × Int) × Bool)) × (((List (Int × Int)) × ((List (Int × (Int × Int))) × (List (Int × Int)))) × ((Int × Int) × (Int × ((List (Int × Int)) × (Int × Int))))))))) (fun (y29, y30, y31, y32, y33, y34, y35, y36, y37) =>
          next19 ((y29.1, y29.2.1, y29.2.2), (y30.1, y30.2.1, y30.2.2), y31, (y32.1, y32.2.1, y32.2.2), (y33.1, y33.2), w64 (y34 + 1), y35, y36, y37)) fun j38 =>
         zx (α := (((List (Int × Int)) × ((List (Int × Int)) × (List (Int × Int)))) × (((List (Int × Int)) × ((List (Int × (Int × Int))) × (List (Int × Int)))) × ((List ((Int × Int) × Bool)) × (((List (Int × Int)) × ((List (Int × (Int × Int))) × (List (Int × Int)))) × ((Int × Int) × (Int × ((List (Int × Int)) × (Int × (Int × Bool)))))))))) (fun (y39, y40, y41, y42, y43, y44, y45, y46, y47, y48) =>
          bif y48 then
           j38 ((y39.1, y39.2.1, y39.2.2), (y40.1, y40.2.1, y40.2.2), y41, (y42.1, y42.2.1, y42.2.2), (y43.1, y43.2), y44, y45, y46, y47)
          else
           bnd (ZU (m + 1000) y39.1 y43.1 y43.2 y44) fun r49 =>
           bnd (Zj (m + 1000) y39.1 y39.2.1 y43.1 y43.2 y44) fun r50 =>
           zx (α := (((List (Int × Int)) × ((List (Int × Int)) × (List (Int × Int)))) × (((List (Int × Int)) × ((List (Int × (Int × Int))) × (List (Int × Int)))) × ((List ((Int × Int) × Bool)) × (((List (Int × Int)) × ((List (Int × (Int × Int))) × (List (Int × Int)))) × ((Int × Int) × (Int × ((Int × (Int × Int)) × ((List (Int × Int)) × (Int × (Int × Bool))))))))))) (fun (y51, y52, y53, y54, y55, y56, y57, y58, y59, y60, y61) =>
            zx (α := (((List (Int × Int)) × ((List (Int × Int)) × (List (Int × Int)))) × (((List (Int × Int)) × ((List (Int × (Int × Int))) × (List (Int × Int)))) × ((List ((Int × Int) × Bool)) × (((List (Int × Int)) × ((List (Int × (Int × Int))) × (List (Int × Int)))) × ((Int × Int) × (Int × ((List (Int × Int)) × (Int × Int))))))))) (fun (y62, y63, y64, y65, y66, y67, y68, y69, y70) =>
             j38 ((y62.1, y62.2.1, y62.2.2), (y63.1, y63.2.1, y63.2.2), y64, (y65.1, y65.2.1, y65.2.2), (y66.1, y66.2), y67, y68, y69, y70)) fun j71 =>
            bif y61 then
             gd (few (y54.2.1.length + 1)) <|
             j71 ((y51.1, y51.2.1, y51.2.2), (y52.1, y52.2.1, y52.2.2), y53, (y54.1, y54.2.1 ++ [(y57.1, y57.2.1, y57.2.2)], y54.2.2), (y55.1, y55.2), y56, y58, y59, y60)
            else
             j71 ((y51.1, y51.2.1, y51.2.2), (y52.1, y52.2.1, y52.2.2), y53, (y54.1, y54.2.1, y54.2.2), (y55.1, y55.2), y56, y58, y59, y60)) fun j72 =>
           bif r49.2 then
            bif decide (r50.1 = 1) then
             bnd (ZG (m + 1000) y39.1 (r49.1.1, r49.1.2.1, r49.1.2.2)) fun r73 =>
             j72 ((y39.1, y39.2.1, y39.2.2), (y40.1, y40.2.1, y40.2.2), y41, (y42.1, y42.2.1, y42.2.2), (y43.1, y43.2), y44, (r49.1.1, r49.1.2.1, r49.1.2.2), y45, y46, y47, r73)
            else
             j72 ((y39.1, y39.2.1, y39.2.2), (y40.1, y40.2.1, y40.2.2), y41, (y42.1, y42.2.1, y42.2.2), (y43.1, y43.2), y44, (r49.1.1, r49.1.2.1, r49.1.2.2), y45, y46, y47, false)
           else
            j72 ((y39.1, y39.2.1, y39.2.2), (y40.1, y40.2.1, y40.2.2), y41, (y42.1, y42.2.1, y42.2.2), (y43.1, y43.2), y44, (r49.1.1, r49.1.2.1, r49.1.2.2), y45, y46, y47, false)) fun j74 =>
         bif !(toT Bool (lkM (.pair (.int .i64) (.int .i64)) .bool x22 (x24.1, x25))) then
          j74 ((x20.1, x20.2.1, x20.2.2), (x21.1, x21.2.1, x21.2.2), x22, (x23.1, x23.2.1, x23.2.2), (x24.1, x24.2), x25, x26, x27, x28, true)
         else
          j74 ((x20.1, x20.2.1, x20.2.2), (x21.1, x21.2.1, x21.2.2), x22, (x23.1, x23.2.1, x23.2.2), (x24.1, x24.2), x25, x26, x27, x28, !(toT Bool (lkM (.pair (.int .i64) (.int .i64)) .bool x22 (x24.2, x25))))
        else
         K x20 x21 x22 x23 x26 x27 x28) :
    zw F (m + 1000) (p, D, yes E, (R, A, S), s, s.2 + 1, x26, x27, x28) = K p D (yes E) (R, A ++ zl8 p E s, S) x26 x27 x28 :=
  zBd m h E hE A hA hs (K := fun a b c d => K p D (yes E) a b c d) (zzR m h E hs hF) (fun B nx => by
    rw [hF]
    exact zg (by show ¬ (p.1.length : Int) < (p.1.length : Int); omega))
abbrev St7:Type:=zy×Z2×List (Pt×Bool)×Z2×List Pt×Int×Int
theorem zAJ (m : Nat) {ρ : Type} {fin : List Pt → List Tr → List Pt → Option ρ} {p : zy} (h : Few p) {D : Z2} {R S : List Pt} (E : List Pt) (hE : E.length ≤ 700) (ho : ∀ s ∈ E, oks p.1.length s) {G : (St7 → Option ρ) → zy → Z2 → List (Pt × Bool) → Z2 → Pt → Int → List Pt → Int → Int → Option ρ} {F : St7 → (St7 → Option ρ) → Option ρ}
    (hG : ∀ (A : List Tr) (s : Pt) (i : Int) next, A.length ≤ 20000 → oks p.1.length s → G next p D (yes E) (R, A, S) s (s.2 + 1) E (E.length : Int) i = next (p, D, yes E, (R, A ++ zl8 p E s, S), E, (E.length : Int), w64 (i + 1)))
    (hF : ∀ (x12 : zy) (x13 : Z2) x14 (x15 : Z2) (x16 : List Pt) (x17 x18 : Int) next11, F (x12, x13, x14, x15, x16, x17, x18) next11 =
      bif decide (x18 < x17) then
       gd (inb x18 x16.length) <|
       G next11 x12 x13 x14 x15 (rdD (0, 0) x16 x18) (w64 ((rdD (0, 0) x16 x18).2 + 1)) x16 x17 x18
      else
       gd (few x15.2.1.length) <|
       fin x15.1 (Y0 KZ x15.2.1) x15.2.2) :
    zw F (m + 1000) (p, D, yes E, (R, [], S), E, (E.length : Int), 0) = fin R (Y0 KZ (zn1 p E)) S := by
  have hlen : ∀ i, i ≤ E.length → ((E.take i).flatMap (zl8 p E)).length ≤ 20000 := by
    intro i hi
    have h1 := XK (zl8 p E) 24 (E.take i) (fun s _ => Nat.le_trans (zpz p E s (cnt p s)) (by have := h.n; unfold cnt; omega))
    rw [List.length_take] at h1
    omega
  have ht : (zn1 p E).length ≤ 20000 := by
    have := hlen E.length (Nat.le_refl _)
    rwa [List.take_length] at this
  refine Z6 (fun i => (p, D, yes E, (R, (E.take i).flatMap (zl8 p E), S), E, (E.length : Int), (i : Int))) E.length rfl (fun nx => ?_) (fun i hi nx hnx => ?_) _ (by omega)
  · rw [hF, zg (by omega), List.take_length, zP (jG (by show (zn1 p E).length < _; omega))]
    rfl
  · have hs := ho _ (List.getElem_mem hi)
    obtain ⟨_, a1, a2⟩ := hs
    have hn := h.n
    rw [hF, zk (by omega), zP (zA ⟨by omega, by omega⟩), zY _ _ i hi, zl (x := E[i].2 + 1) (by omega) (by omega), hG _ _ _ _ (hlen i (by omega)) (ho _ (List.getElem_mem hi)), zl (x := (i : Int) + 1) (by omega) (by omega), ← hnx, zfx _ _ _ hi]
    rfl
theorem zzP (m : Nat) {p : zy} (h : Few p) (hF : zcx p = true → KC p ∧ p.1.length ≠ 0) : ZN (m + 1000) p = some (if zcx p = true then ((p.1, ji p, QW p), 0) else (([], [], []), 2)) := by
  unfold ZN zfk
  rw [show ZC (m + 1000) (p.1, p.2.1, p.2.2) = _ from zrl m h, zr]
  cases hg : zcx p with
  | false => rfl
  | true =>
    obtain ⟨hf, hne⟩ := hF hg
    rw [if_pos rfl, if_pos rfl, za5 rfl]
    have hlen := zqT h
    have hnd : (j3 p).Nodup := zjr.nodup (zaZ hf)
    have hok := zuD h
    have ht : ji p = Y0 KZ (zn1 p (j3 p)) := rfl
    rw [ht]
    clear ht
    dsimp only
    generalize j3 p = E at *
    have hn := h.n; have hL := h.l; have hI := h.i
    refine Z6 (fun i => (p, ([], [], []), E, yes (E.take i), E, (E.length : Int), (i : Int))) E.length rfl (fun nx => ?_) (fun i hi nx hnx => ?_) _ (by omega)
    · dsimp only
      rw [zg (by omega), zP (decide_eq_true (by omega)), zP (jG (by omega)), show ZM (m + 1000) (p.1, p.2.1, p.2.2) = _ from zrM m p (by omega) (by omega), zr, List.take_length]
      refine Eq.trans (zAJ m h (ρ := Z2 × Int) (D := ([], [], [])) (R := p.1) (S := QW p) (fin := fun R T S => some ((R, T, S), 0)) E (by omega) hok (G := fun next11 x12 x13 x14 x15 s c x16 x17 x18 =>
               zw (α := (((List (Int × Int)) × ((List (Int × Int)) × (List (Int × Int)))) × (((List (Int × Int)) × ((List (Int × (Int × Int))) × (List (Int × Int)))) × ((List ((Int × Int) × Bool)) × (((List (Int × Int)) × ((List (Int × (Int × Int))) × (List (Int × Int)))) × ((Int × Int) × (Int × ((List (Int × Int)) × (Int × Int))))))))) (fun (x20, x21, x22, x23, x24, x25, x26, x27, x28) next19 =>
                bif decide (x25 < (x20.1.length : Int)) then
                 zx (α := (((List (Int × Int)) × ((List (Int × Int)) × (List (Int × Int)))) × (((List (Int × Int)) × ((List (Int × (Int × Int))) × (List (Int × Int)))) × ((List ((Int × Int) × Bool)) × (((List (Int × Int)) × ((List (Int × (Int × Int))) × (List (Int × Int)))) × ((Int × Int) × (Int × ((List (Int × Int)) × (Int × Int))))))))) (fun (y29, y30, y31, y32, y33, y34, y35, y36, y37) =>
                  next19 ((y29.1, y29.2.1, y29.2.2), (y30.1, y30.2.1, y30.2.2), y31, (y32.1, y32.2.1, y32.2.2), (y33.1, y33.2), w64 (y34 + 1), y35, y36, y37)) fun j38 =>
                 zx (α := (((List (Int × Int)) × ((List (Int × Int)) × (List (Int × Int)))) × (((List (Int × Int)) × ((List (Int × (Int × Int))) × (List (Int × Int)))) × ((List ((Int × Int) × Bool)) × (((List (Int × Int)) × ((List (Int × (Int × Int))) × (List (Int × Int)))) × ((Int × Int) × (Int × ((List (Int × Int)) × (Int × (Int × Bool)))))))))) (fun (y39, y40, y41, y42, y43, y44, y45, y46, y47, y48) =>
                  bif y48 then
                   j38 ((y39.1, y39.2.1, y39.2.2), (y40.1, y40.2.1, y40.2.2), y41, (y42.1, y42.2.1, y42.2.2), (y43.1, y43.2), y44, y45, y46, y47)
                  else
                   bnd (ZU (m + 1000) y39.1 y43.1 y43.2 y44) fun r49 =>
                   bnd (Zj (m + 1000) y39.1 y39.2.1 y43.1 y43.2 y44) fun r50 =>
                   zx (α := (((List (Int × Int)) × ((List (Int × Int)) × (List (Int × Int)))) × (((List (Int × Int)) × ((List (Int × (Int × Int))) × (List (Int × Int)))) × ((List ((Int × Int) × Bool)) × (((List (Int × Int)) × ((List (Int × (Int × Int))) × (List (Int × Int)))) × ((Int × Int) × (Int × ((Int × (Int × Int)) × ((List (Int × Int)) × (Int × (Int × Bool))))))))))) (fun (y51, y52, y53, y54, y55, y56, y57, y58, y59, y60, y61) =>
                    zx (α := (((List (Int × Int)) × ((List (Int × Int)) × (List (Int × Int)))) × (((List (Int × Int)) × ((List (Int × (Int × Int))) × (List (Int × Int)))) × ((List ((Int × Int) × Bool)) × (((List (Int × Int)) × ((List (Int × (Int × Int))) × (List (Int × Int)))) × ((Int × Int) × (Int × ((List (Int × Int)) × (Int × Int))))))))) (fun (y62, y63, y64, y65, y66, y67, y68, y69, y70) =>
                     j38 ((y62.1, y62.2.1, y62.2.2), (y63.1, y63.2.1, y63.2.2), y64, (y65.1, y65.2.1, y65.2.2), (y66.1, y66.2), y67, y68, y69, y70)) fun j71 =>
                    bif y61 then
                     gd (few (y54.2.1.length + 1)) <|
                     j71 ((y51.1, y51.2.1, y51.2.2), (y52.1, y52.2.1, y52.2.2), y53, (y54.1, y54.2.1 ++ [(y57.1, y57.2.1, y57.2.2)], y54.2.2), (y55.1, y55.2), y56, y58, y59, y60)
                    else
                     j71 ((y51.1, y51.2.1, y51.2.2), (y52.1, y52.2.1, y52.2.2), y53, (y54.1, y54.2.1, y54.2.2), (y55.1, y55.2), y56, y58, y59, y60)) fun j72 =>
                   bif r49.2 then
                    bif decide (r50.1 = 1) then
                     bnd (ZG (m + 1000) y39.1 (r49.1.1, r49.1.2.1, r49.1.2.2)) fun r73 =>
                     j72 ((y39.1, y39.2.1, y39.2.2), (y40.1, y40.2.1, y40.2.2), y41, (y42.1, y42.2.1, y42.2.2), (y43.1, y43.2), y44, (r49.1.1, r49.1.2.1, r49.1.2.2), y45, y46, y47, r73)
                    else
                     j72 ((y39.1, y39.2.1, y39.2.2), (y40.1, y40.2.1, y40.2.2), y41, (y42.1, y42.2.1, y42.2.2), (y43.1, y43.2), y44, (r49.1.1, r49.1.2.1, r49.1.2.2), y45, y46, y47, false)
                   else
                    j72 ((y39.1, y39.2.1, y39.2.2), (y40.1, y40.2.1, y40.2.2), y41, (y42.1, y42.2.1, y42.2.2), (y43.1, y43.2), y44, (r49.1.1, r49.1.2.1, r49.1.2.2), y45, y46, y47, false)) fun j74 =>
                 bif !(toT Bool (lkM (.pair (.int .i64) (.int .i64)) .bool x22 (x24.1, x25))) then
                  j74 ((x20.1, x20.2.1, x20.2.2), (x21.1, x21.2.1, x21.2.2), x22, (x23.1, x23.2.1, x23.2.2), (x24.1, x24.2), x25, x26, x27, x28, true)
                 else
                  j74 ((x20.1, x20.2.1, x20.2.2), (x21.1, x21.2.1, x21.2.2), x22, (x23.1, x23.2.1, x23.2.2), (x24.1, x24.2), x25, x26, x27, x28, !(toT Bool (lkM (.pair (.int .i64) (.int .i64)) .bool x22 (x24.2, x25))))
                else
                 next11 ((x20.1, x20.2.1, x20.2.2), (x21.1, x21.2.1, x21.2.2), x22, (x23.1, x23.2.1, x23.2.2), x26, x27, w64 (x28 + 1))) (m + 1000) (x12, x13, x14, x15, s, c, x16, x17, x18)) ?hG (fun _ _ _ _ _ _ _ _ => rfl)) rfl
      intro A s i next hA hs
      exact zAg m h E (by omega) A hA hs (K := fun x20 x21 x22 x23 x26 x27 x28 => next (x20, x21, x22, x23, x26, x27, w64 (x28 + 1))) (fun _ _ _ _ _ _ _ _ _ _ => rfl)
    · dsimp only
      have hno : E[i] ∉ E.take i := by
        intro hm
        obtain ⟨k, hk, e⟩ := List.getElem_of_mem hm
        rw [List.length_take] at hk
        rw [List.getElem_take] at e
        exact List.pairwise_iff_getElem.1 (List.nodup_iff_pairwise_ne.1 hnd) k i (by omega) hi (by omega) e
      have h1 : hsM (.pair (.int .i64) (.int .i64)) .bool (yes (E.take i)) (E[i].1, E[i].2) = false := (zqS (E.take i) E[i]).trans (decide_eq_false hno)
      have h2 : adM (.pair (.int .i64) (.int .i64)) .bool (yes (E.take i)) (E[i].1, E[i].2) true = yes (E.take (i + 1)) := (zqb (E.take i) E[i]).trans (by rw [Z7 E i hi])
      rw [zk (by omega), zP (zA ⟨by omega, by omega⟩), zY _ _ i hi, h1, h2, zl (x := (i : Int) + 1) (by omega) (by omega), ← hnx]
      rfl
end Go.Proofs.YtpkkcjmblocjdaaGreat.Pure
end
section
namespace Go.Proofs.YtpkkcjmblocjdaaGreat.Pure
open Go.RowKit Go.Proofs.YtpkkcjmblocjdaaGreat.AM PL
theorem zmr {p:zy} (h:Sm p) (hg:zcx p=true):KC p∧p.1.length≠0:=by
 have R:=zi3 h hg
 refine ⟨R.fine,fun e=>R.n6 ?_⟩
 cases hL:p.2.1 with
 |nil=>rfl
 |cons s l =>
  have:=(R.fine.okL s (by rw [hL];exact List.mem_cons_self)).1.1
  unfold inr at this
  omega
theorem znP (m:Nat) {p:zy} (h:Few p):ZN (m+1000) p=some (if zcx p=true then ((p.1,ji p,QW p),0) else (([],[],[]),2)):=zzP m h (zmr h.sm)
theorem zxh (m:Nat) (l:List Tr) (hl:l.length≤900):qM (m+1000) l l=some true:=by
 unfold qM
 rw [za5 rfl]
 refine Z6 (fun i=>(l,l,(i:Int))) l.length rfl (fun next=>?_) (fun i hi next hn=>?_) _ (by omega)
 ·dsimp only
  rw [zg (by omega)]
 ·dsimp only
  have hin:inb (i:Int) l.length=true:=zA ⟨by omega,by omega⟩
  simp only [hin,gT]
  rw [zk (by omega),zl (x:=(i:Int)+1) (by omega) (by omega)]
  simp only [decide_true,Bool.and_self,Bool.not_true,cF]
  exact hn
def sq0:zy:=([(0,0),(4,0),(4,4),(0,4)],[(0,1),(1,2),(2,3),(3,0)],[])
theorem zuJ:Sm sq0:=⟨by decide +kernel,by decide,by decide,by decide⟩
theorem zru:Few sq0:=⟨zuJ,by decide,by decide,by decide⟩
theorem zlp:zcx sq0=true:=by decide +kernel
theorem zu5:KC sq0:=(zmr zuJ zlp).1
def sqE:List Pt:=[(0,1),(0,2),(0,3),(1,2),(2,3)]
def sqS:List Pt:=[(0,1),(0,3),(1,2),(2,3)]
def sqT:List Tr:=[(0,1,2),(0,2,3)]
theorem zpB:QW sq0=sqS:=by
 refine zjr.ext (zjr.srt zy9 (by decide)) (by decide) fun s=>?_
 refine ((Ku JW ((sgs sq0).map up)).mem_iff).trans ?_
 show s∈[(0,1),(1,2),(2,3),(0,3)]↔s∈[(0,1),(0,3),(1,2),(2,3)]
 simp only [List.mem_cons,List.not_mem_nil,or_false]
 constructor<;>(rintro (h|h|h|h)<;>simp [h])
theorem zwM:edg sq0=sqS++[(0,2)]:=by
 unfold edg
 rw [zpB]
 decide +kernel
theorem zmC:j3 sq0=sqE:=by
 refine zjr.ext (zaZ zu5) (by decide) fun s=>?_
 rw [jK,zwM]
 show s∈[(0,1),(0,3),(1,2),(2,3),(0,2)]↔s∈[(0,1),(0,2),(0,3),(1,2),(2,3)]
 simp only [List.mem_cons,List.not_mem_nil,or_false]
 constructor<;>(rintro (h|h|h|h|h)<;>simp [h])
theorem zt1:ji sq0=sqT:=by
 have e:zn1 sq0 sqE=sqT:=by decide +kernel
 unfold ji
 rw [zmC,e]
 exact zt0.ext (zt0.srt zzx (by decide)) (by decide) fun s=>(Ku KZ sqT).mem_iff
theorem zzv:Few ([],[],[]):=⟨⟨by decide +kernel,by decide,by decide,by decide⟩,by decide,by decide,by decide⟩
theorem zxy:zcx ([],[],[])=false:=by decide +kernel
theorem zyn (m:Nat):jB (m+1000)=some true:=by
 unfold jB JS
 have h1:=zrl m zru
 rw [if_pos zlp,zmC] at h1
 have h2:=znP m zru
 rw [if_pos zlp,zt1,zpB] at h2
 have h3:=znP m zzv
 rw [zxy,if_neg (by decide)] at h3
 have h4:zzF (sq0.1,sqT,sqS)=0:=by decide +kernel
 have h5:=zvR m (sq0.1,sqT,sqS) (by decide) (by decide) (by decide)
 rw [h4] at h5
 rw [show ZC (m+1000) ([(0,0),(4,0),(4,4),(0,4)],[(0,1),(1,2),(2,3),(3,0)],[])=_ from h1,zr,show ZN (m+1000) ([(0,0),(4,0),(4,4),(0,4)],[(0,1),(1,2),(2,3),(3,0)],[])=_ from h2,zr,h3,zr]
 simp only [zx]
 rw [show qN (m+1000) sqE [(0,1),(0,2),(0,3),(1,2),(2,3)]=_ from zwI m sqE (by decide),zr,cT,zk trivial,show qM (m+1000) sqT [(0,1,2),(0,2,3)]=_ from zxh m sqT (by decide),zr,cT,zk trivial,h5,zr,zk rfl]
 rfl
end Go.Proofs.YtpkkcjmblocjdaaGreat.Pure
end
section
namespace Go.Proofs.YtpkkcjmblocjdaaGreat.Pure
open Go.RowKit Go.Proofs.YtpkkcjmblocjdaaGreat.AM PL
def zhG (p:zy):Prop:=(p.1.length>24∧p.1.length≤200)∨(p.2.1.length>60∧p.2.1.length≤400)∨(p.2.2.length>60∧p.2.2.length≤400)∨p.1.length>300∨p.2.1.length>500∨p.2.2.length>500
theorem zxz (k:Nat) (p:zy):∃b,jg k p=some b∧(b=false→¬zhG p):=by
 unfold jg
 simp only [zx]
 have key:∀x:Option Bool,(∃b,x=some b∧(b=false→¬zhG p))→∃b,x=some b∧(b=false→¬zhG p):=fun _ h=>h
 have last:¬(p.1.length>24∧p.1.length≤200)→¬(p.2.1.length>60∧p.2.1.length≤400)→¬(p.2.2.length>60∧p.2.2.length≤400) →
   ∃b,(bif decide ((p.1.length:Int)>300) then some true else bif decide ((p.2.1.length:Int)>500) then some true else some (decide ((p.2.2.length:Int)>500)))=some b∧(b=false→¬zhG p):=by
  intro h1 h2 h3
  by_cases c1:(p.1.length:Int)>300
  ·rw [zk c1];exact ⟨true,rfl,fun h=>by cases h⟩
  rw [zg c1]
  by_cases c2:(p.2.1.length:Int)>500
  ·rw [zk c2];exact ⟨true,rfl,fun h=>by cases h⟩
  rw [zg c2]
  refine ⟨_,rfl,fun h=>?_⟩
  have:=of_decide_eq_false h
  unfold zhG
  omega
 have third:¬(p.1.length>24∧p.1.length≤200)→¬(p.2.1.length>60∧p.2.1.length≤400) →
   ∃b,(bif decide ((p.2.2.length:Int)>60) then bif decide ((p.2.2.length:Int)≤400) then some true else (bif decide ((p.1.length:Int)>300) then some true else bif decide ((p.2.1.length:Int)>500) then some true else some (decide ((p.2.2.length:Int)>500))) else (bif decide ((p.1.length:Int)>300) then some true else bif decide ((p.2.1.length:Int)>500) then some true else some (decide ((p.2.2.length:Int)>500))))=some b∧(b=false→¬zhG p):=by
  intro h1 h2
  by_cases c1:(p.2.2.length:Int)>60
  ·rw [zk c1]
   by_cases c2:(p.2.2.length:Int)≤400
   ·rw [zk c2];exact ⟨true,rfl,fun h=>by cases h⟩
   ·rw [zg c2];exact last h1 h2 (by omega)
  ·rw [zg c1];exact last h1 h2 (by omega)
 have second:¬(p.1.length>24∧p.1.length≤200) →
   ∃b,(bif decide ((p.2.1.length:Int)>60) then bif decide ((p.2.1.length:Int)≤400) then some true else (bif decide ((p.2.2.length:Int)>60) then bif decide ((p.2.2.length:Int)≤400) then some true else (bif decide ((p.1.length:Int)>300) then some true else bif decide ((p.2.1.length:Int)>500) then some true else some (decide ((p.2.2.length:Int)>500))) else (bif decide ((p.1.length:Int)>300) then some true else bif decide ((p.2.1.length:Int)>500) then some true else some (decide ((p.2.2.length:Int)>500)))) else (bif decide ((p.2.2.length:Int)>60) then bif decide ((p.2.2.length:Int)≤400) then some true else (bif decide ((p.1.length:Int)>300) then some true else bif decide ((p.2.1.length:Int)>500) then some true else some (decide ((p.2.2.length:Int)>500))) else (bif decide ((p.1.length:Int)>300) then some true else bif decide ((p.2.1.length:Int)>500) then some true else some (decide ((p.2.2.length:Int)>500)))))=some b∧(b=false→¬zhG p):=by
  intro h1
  by_cases c1:(p.2.1.length:Int)>60
  ·rw [zk c1]
   by_cases c2:(p.2.1.length:Int)≤400
   ·rw [zk c2];exact ⟨true,rfl,fun h=>by cases h⟩
   ·rw [zg c2];exact third h1 (by omega)
  ·rw [zg c1];exact third h1 (by omega)
 by_cases c1:(p.1.length:Int)>24
 ·rw [zk c1]
  by_cases c2:(p.1.length:Int)≤200
  ·rw [zk c2];exact ⟨true,rfl,fun h=>by cases h⟩
  ·rw [zg c2];exact second (by omega)
 ·rw [zg c1];exact second (by omega)
theorem zzN {p:zy} (h:¬zhG p):chk p=false∨Few p:=by
 unfold zhG at h
 cases hc:chk p with
 |false=>exact .inl rfl
 |true =>
  refine .inr ?_
  have hf:zsR p:=by
   unfold chk at hc
   rw [Bool.and_eq_true] at hc
   exact of_decide_eq_true hc.1
  unfold zsR at hf
  exact ⟨⟨hc,by omega,by omega,by omega⟩,by omega,by omega,by omega⟩
end Go.Proofs.YtpkkcjmblocjdaaGreat.Pure
end
section
namespace Go.Proofs.YtpkkcjmblocjdaaGreat.Pure
open Go.RowKit Go.Proofs.YtpkkcjmblocjdaaGreat.AM PL
end Go.Proofs.YtpkkcjmblocjdaaGreat.Pure
end
section
namespace Go.Proofs.YtpkkcjmblocjdaaGreat.Pure
open Go.RowKit Go.Proofs.YtpkkcjmblocjdaaGreat.AM PL
end Go.Proofs.YtpkkcjmblocjdaaGreat.Pure
end
section
namespace Go.Proofs.YtpkkcjmblocjdaaGreat.Pure
open Go.RowKit Go.Proofs.YtpkkcjmblocjdaaGreat.AM PL
end Go.Proofs.YtpkkcjmblocjdaaGreat.Pure
end
