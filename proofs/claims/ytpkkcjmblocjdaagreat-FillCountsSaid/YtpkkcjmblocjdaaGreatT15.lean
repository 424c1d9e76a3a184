/- Words, loops, orders: for layer 12. -/
import Derived.Test.YtpkkcjmblocjdaaGreatV9
import Derived.Test.YtpkkcjmblocjdaaGreatSrt
set_option linter.unusedVariables false
set_option linter.unusedSimpArgs false
set_option linter.unusedSectionVars false
section
namespace Go.Proofs.YtpkkcjmblocjdaaGreat.Pure
open Go.RowKit Go.Proofs.YtpkkcjmblocjdaaGreat.AM PL
theorem zcQ {α:Type} {p:Prop} [Decidable p] {x y:α} (h:p):(bif !(decide p) then x else y)=y:=by rw [decide_eq_true h];rfl
theorem zgh {α:Type} {p:Prop} [Decidable p] {x y:α} (h:¬p):(bif !(decide p) then x else y)=x:=by rw [decide_eq_false h];rfl
theorem zuZ {α ρ:Type} {f:α→(α→Option ρ)→Option ρ} (st:Nat→α) (n:Nat) (b:Nat→Bool) (v e:Option ρ) (h0:∀next,f (st n) next=e) (hs:∀i,i<n→∀next,f (st i) next=bif b i then v else next (st (i+1))) (q:Nat) (hq:n<q) :
  zA f q (st 0)=bif (List.range n).any b then v else e:=by
 refine (zG st n (fun i=>bif (List.range' i (n-i)).any b then v else e) ?_ ?_ q 0 (Nat.zero_le _) (by omega)).trans ?_
 ·intro next
  rw [h0,Nat.sub_self]
  rfl
 ·intro i hi next hn
  rw [hs i hi,hn,show n-i=(n-(i+1))+1 by omega,List.range'_succ,List.any_cons]
  cases b i<;>rfl
 ·rw [List.range_eq_range']
  rfl
theorem zaf {α ρ:Type} {f:α→(α→Option ρ)→Option ρ} (st:Nat→α) (n:Nat) (b:Nat→Bool) (v e:Option ρ) {s0:α} (es:s0=st 0) (h0:∀next,f (st n) next=e) (hs:∀i,i<n→∀next,f (st i) next=bif b i then v else next (st (i+1))) (q:Nat) (hq:n<q) :
  zA f q s0=bif (List.range n).any b then v else e:=by rw [es];exact zuZ st n b v e h0 hs q hq
theorem JN {α ρ:Type} {f:α→(α→Option ρ)→Option ρ} (st:Nat→α) (n:Nat) {v:Option ρ} {s0:α} (e:s0=st 0) (h0:∀next,f (st n) next=v) (hs:∀i,i<n→∀next,next (st (i+1))=v→f (st i) next=v) (q:Nat) (hq:n<q):zA f q s0=v:=by
 rw [e]
 exact zG st n (fun _=>v) h0 hs q 0 (Nat.zero_le _) (by omega)
theorem zvy {α ρ:Type} (k0:Option ρ) (k1:α→List α→Option ρ):nxt [] k0 k1=k0:=rfl
theorem zyy {α ρ:Type} {es:List α} {k0:Option ρ} {k1:α→List α→Option ρ} {y:ρ} (hne:es≠[]) (h:∀(j:Nat) (e:α),es[j]?=some e→k1 e (es.eraseIdx j)=some y):nxt es k0 k1=some y:=by
 cases es with
 |nil=>exact absurd rfl hne
 |cons e r =>
  unfold nxt
  simp only
  split
  ·rename_i hc
   have h1:=hc.choose_spec 0 e rfl
   rw [h 0 e rfl] at h1
   rw [h1]
  ·rename_i hc
   exact absurd ⟨y,h⟩ hc
theorem zjI {α:Type}:∀{es:List α} {j:Nat} {e:α},es[j]?=some e→(e::es.eraseIdx j).Perm es
 |[],j,e,h=>by simp at h
 |x::es,0,e,h=>by
  simp only [List.getElem?_cons_zero,Option.some.injEq] at h
  subst h
  exact List.Perm.refl _
 |x::es,j+1,e,h=>by
  have ih:=zjI (es:=es) (j:=j) (e:=e) (by simpa using h)
  rw [List.eraseIdx_cons_succ]
  exact (List.Perm.swap x e _).trans (ih.cons x)
theorem YB {α:Type} (l:List α) (i:Nat) (h:i<l.length):l.take (i+1)=l.take i++[l[i]]:=by rw [List.take_add_one,List.getElem?_eq_getElem h];rfl
theorem zlN {α β:Type} (g:α→List β) (l:List α) (i:Nat) (h:i<l.length):(l.take (i+1)).flatMap g=(l.take i).flatMap g++g l[i]:=by rw [YB l i h,List.flatMap_append];simp
theorem ztz {α β:Type} (g:α→β) (l:List α) (i:Nat) (h:i<l.length):(l.take (i+1)).map g=(l.take i).map g++[g l[i]]:=by rw [YB l i h,List.map_append];rfl
theorem zzb (k:Pt):(fun p:Pt×Bool=>Kd.eqT kk k p.1)=fun p=>decide (k=p.1):=funext fun p=>zo9 k p.1
theorem zx8 (es:List (Pt×Bool)) (k:Pt):hsM kk .bool es k=es.any fun p=>decide (k=p.1):=by
 rw [←zzb]
 rfl
def yes (l:List Pt):List (Pt×Bool):=l.map fun s=>(s,true)
theorem zpw (l:List Pt) (k:Pt):hsM kk .bool (yes l) k=decide (k∈l):=by
 rw [zx8]
 unfold yes
 rw [Bool.eq_iff_iff,List.any_eq_true,decide_eq_true_eq]
 constructor
 ·rintro ⟨p,hp,h⟩
  rw [decide_eq_true_eq] at h
  obtain ⟨s,hs,rfl⟩:=List.mem_map.1 hp
  rw [h];exact hs
 ·intro h
  exact ⟨(k,true),List.mem_map.2 ⟨k,h,rfl⟩,decide_eq_true rfl⟩
theorem ztc {κ ν:Kd} (p:κ.T×ν.T) (es:List (κ.T×ν.T)) (k:κ.T):lkM κ ν (p::es) k=bif Kd.eqT κ k p.1 then p.2 else lkM κ ν es k:=by
 cases hb:Kd.eqT κ k p.1<;>simp only [lkM,List.find?_cons,hb,cond]
theorem zdN:∀(l:List Pt) (k:Pt),toT Bool (lkM kk .bool (yes l) k)=decide (k∈l)
 |[],k=>rfl
 |s::l,k=>by
  have e:lkM kk .bool (yes (s::l)) k=bif decide (k=s) then true else lkM kk .bool (yes l) k:=by
   rw [←zo9]
   exact ztc (κ:=kk) (ν:=.bool) (s,true) (yes l) k
  have ih:=zdN l k
  by_cases h:k=s
  ·rw [decide_eq_true (List.mem_cons.2 (.inl h))]
   refine (congrArg (toT Bool) e).trans ?_
   rw [decide_eq_true h];rfl
  ·refine (congrArg (toT Bool) e).trans ?_
   rw [decide_eq_false h]
   refine ih.trans ?_
   rw [Bool.eq_iff_iff,decide_eq_true_eq,decide_eq_true_eq,List.mem_cons]
   simp [h]
theorem zpX (l:List Pt) (k:Pt):adM kk .bool (yes l) k true=yes (l++[k]):=by
 unfold yes;rw [List.map_append];rfl
structure zk9 {α:Type} (lt:α→α→Prop):Prop where
 irr:∀a,¬lt a a
 tr:∀{a b c},lt a b→lt b c→lt a c
 tri:∀{a b},¬lt a b→¬lt b a→a=b
section
variable {α:Type} {lt:α→α→Prop}
theorem zk9.ext (o:zk9 lt):∀{l r:List α},l.Pairwise lt→r.Pairwise lt→(∀x,x∈l↔x∈r)→l=r
 |[],[],_,_,_=>rfl
 |[],y::r,_,_,h=>absurd ((h y).2 List.mem_cons_self) (List.not_mem_nil)
 |x::l,[],_,_,h=>absurd ((h x).1 List.mem_cons_self) (List.not_mem_nil)
 |x::l,y::r,hl,hr,h=>by
  have hl':=List.pairwise_cons.1 hl
  have hr':=List.pairwise_cons.1 hr
  have e:x=y:=by
   have h1:=(h x).1 List.mem_cons_self
   have h2:=(h y).2 List.mem_cons_self
   rcases List.mem_cons.1 h1 with e|h1
   ·exact e
   ·rcases List.mem_cons.1 h2 with e|h2
    ·exact e.symm
    ·exact absurd (o.tr (hl'.1 y h2) (hr'.1 x h1)) (o.irr x)
  subst e
  congr 1
  refine o.ext hl'.2 hr'.2 fun z=>⟨fun hz=>?_,fun hz=>?_⟩
  ·have:=(h z).1 (List.mem_cons_of_mem _ hz)
   rcases List.mem_cons.1 this with e|h2
   ·subst e;exact absurd (hl'.1 z hz) (o.irr z)
   ·exact h2
  ·have:=(h z).2 (List.mem_cons_of_mem _ hz)
   rcases List.mem_cons.1 this with e|h2
   ·subst e;exact absurd (hr'.1 z hz) (o.irr z)
   ·exact h2
theorem Kp (cf:α→α→Int) (l:List α):(YA cf l).Perm l:=List.mergeSort_perm _ _
theorem zk9.pair (o:zk9 lt) {cf:α→α→Int} (hc:∀a b,cf a b<0↔lt a b) (l:List α):(YA cf l).Pairwise fun x y=>¬lt y x:=by
 unfold YA
 have:=List.pairwise_mergeSort (le:=fun x y:α=>!(decide (cf y x<0))) (fun a b c h1 h2=>by
  simp only [Bool.not_eq_true',decide_eq_false_iff_not,hc] at *
  intro h
  apply h1
  by_cases h3:lt b c
  ·by_cases h4:lt a b
   ·exact absurd (o.tr h4 (o.tr h3 h)) (o.irr a)
   ·by_cases h5:lt b a
    ·exact h5
    ·rw [o.tri h4 h5] at h;exact absurd (o.tr h h3) (o.irr c)
  ·rw [o.tri h3 h2];exact h) (fun a b=>by
  simp only [Bool.or_eq_true,Bool.not_eq_true',decide_eq_false_iff_not,hc]
  by_cases h:lt b a
  ·exact .inr fun h'=>o.irr a (o.tr h' h)
  ·exact .inl h) l
 exact this.imp fun h=>by simpa [hc] using h
theorem zk9.srt (o:zk9 lt) {cf:α→α→Int} (hc:∀a b,cf a b<0↔lt a b) {l:List α} (h:l.Nodup):(YA cf l).Pairwise lt:=by
 have hn:(YA cf l).Nodup:=(Kp cf l).symm.nodup h
 refine List.Pairwise.imp₂ ?_ (o.pair hc l) hn
 intro a b h1 h2
 by_cases h3:lt a b
 ·exact h3
 ·exact absurd (o.tri h3 h1) h2
theorem zk9.nodup (o:zk9 lt) {l:List α} (h:l.Pairwise lt):l.Nodup:=h.imp fun {a b} hab e=>by subst e;exact o.irr _ hab
end
def ltS (a b:Pt):Prop:=a.1<b.1∨(a.1=b.1∧a.2<b.2)
instance : DecidableRel ltS:=fun a b=>inferInstanceAs (Decidable (_∨_))
abbrev Tr:Type:=Int×Int×Int
def ltT (a b:Tr):Prop:=a.1<b.1∨(a.1=b.1∧(a.2.1<b.2.1∨(a.2.1=b.2.1∧a.2.2<b.2.2)))
instance : DecidableRel ltT:=fun a b=>inferInstanceAs (Decidable (_∨_))
theorem zji:zk9 ltS where
 irr a:=by unfold ltS;omega
 tr {a b c}:=by unfold ltS;omega
 tri {a b} h1 h2:=by unfold ltS at h1 h2;exact Prod.ext (by omega) (by omega)
theorem zuK:zk9 ltT where
 irr a:=by unfold ltT;omega
 tr {a b c}:=by unfold ltT;omega
 tri {a b} h1 h2:=by unfold ltT at h1 h2;exact Prod.ext (by omega) (Prod.ext (by omega) (by omega))
theorem zyU (a b:Pt):Jr a b<0↔ltS a b:=by unfold Jr ltS;(repeat' split)<;>omega
theorem zyi (a b:Tr):KK a b<0↔ltT a b:=by unfold KK ltT;(repeat' split)<;>omega
end Go.Proofs.YtpkkcjmblocjdaaGreat.Pure
end
section
namespace Go.Proofs.YtpkkcjmblocjdaaGreat.Pure
open Go.RowKit Go.Proofs.YtpkkcjmblocjdaaGreat.AM PL
def zdD (a b c:Int):Tr:=if a≤b∧a≤c then (a,b,c) else if b≤c∧b≤a then (b,c,a) else (c,a,b)
def KN (p:List Pt) (a b c:Int):Tr×Bool :=
 if inr a p.length∧inr b p.length∧inr c p.length then
  (if ori (pt p a) (pt p b) (pt p c)=0 then ((0,0,0),false) else if ori (pt p a) (pt p b) (pt p c)=-1 then (zdD a c b,true) else (zdD a b c,true))
 else ((0,0,0),false)
theorem zzc (m:Nat) (a b q:Pt):qH (m+1000) a b q=some (ori a b q):=zaq (m+994) a b q
def zy8 (a b c:Int) (i:Nat):Int:=if i=0 then a else if i=1 then b else c
theorem zzG {F:(Int×Int×Int×Int×Int×Int)→((Int×Int×Int×Int×Int×Int)→Option (Tr×Bool))→Option (Tr×Bool)}
  (hF:∀a b c x y z next,F (a,b,c,x,y,z) next=if a>b∨a>c then next (b,c,a,x,y,z) else some ((a,b,c),true)) (m:Nat) (a b c x y z:Int) :
  zA F (m+1000) (a,b,c,x,y,z)=some (zdD a b c,true):=by
 rw [show m+1000=(m+997)+1+1+1 from rfl,qX,hF]
 unfold zdD
 by_cases h1:a≤b∧a≤c
 ·rw [if_neg (by omega),if_pos h1]
 rw [if_pos (by omega),if_neg h1,qX,hF]
 by_cases h2:b≤c∧b≤a
 ·rw [if_neg (by omega),if_pos h2]
 rw [if_pos (by omega),if_neg h2,qX,hF,if_neg (by omega)]
theorem zxx (m:Nat) (p:List Pt) (a b c:Int) (hp:p.length≤1000):ZE (m+1000) p a b c=some (KN p a b c):=by
 unfold ZE zfL
 refine (zaf (fun i=>(p,a,b,c,(0,0,0),(a,b,c),(i:Int))) 3 (fun i=>!decide (inr (zy8 a b c i) p.length)) (some ((0,0,0),false)) (if inr a p.length∧inr b p.length∧inr c p.length then some (KN p a b c) else none) rfl (fun next=>?_) (fun i hi next=>?_) (m+1000) (by omega)).trans ?_
 ·dsimp only
  rw [zh (by omega)]
  by_cases h:inr a p.length∧inr b p.length∧inr c p.length
  ·rw [if_pos h,zY (zM h.1),zY (zM h.2.1),zY (zM h.2.2)]
   simp only [zz]
   have e:∀i:Int,((rdD (0,0) p i).1,(rdD (0,0) p i).2)=pt p i:=fun _=>rfl
   rw [e,e,e,zzc,zr]
   unfold KN
   rw [if_pos h]
   by_cases h0:ori (pt p a) (pt p b) (pt p c)=0
   ·rw [zk h0,if_pos h0]
   rw [zh h0,if_neg h0]
   have hF:∀a b c x y z (next:(Int×Int×Int×Int×Int×Int)→Option (Tr×Bool)),(bif decide (a>b) then (bif true then next (b,c,a,x,y,z) else some ((a,b,c),true)) else (bif decide (a>c) then next (b,c,a,x,y,z) else some ((a,b,c),true)))=if a>b∨a>c then next (b,c,a,x,y,z) else some ((a,b,c),true):=by
    intro a b c x y z next
    by_cases h1:a>b
    ·rw [zk h1,if_pos (.inl h1)];rfl
    ·rw [zh h1]
     by_cases h2:a>c
     ·rw [zk h2,if_pos (.inr h2)]
     ·rw [zh h2,if_neg (by omega)]
   by_cases h1:ori (pt p a) (pt p b) (pt p c)=-1
   ·rw [zk h1,if_pos h1]
    exact zzG (fun a b c x y z next=>hF a b c x y z next) m _ _ _ _ _ _
   ·rw [zh h1,if_neg h1]
    exact zzG (fun a b c x y z next=>hF a b c x y z next) m _ _ _ _ _ _
  ·rw [if_neg h]
   by_cases ha:inr a p.length
   ·rw [zY (zM ha)]
    by_cases hb:inr b p.length
    ·rw [zY (zM hb)]
     have hc:¬inr c p.length:=fun hc=>h ⟨ha,hb,hc⟩
     have:inb c p.length=false:=by unfold inb;unfold inr at hc;simp;omega
     rw [this];rfl
    ·have:inb b p.length=false:=by unfold inb;unfold inr at hb;simp;omega
     rw [this];rfl
   ·have:inb a p.length=false:=by unfold inb;unfold inr at ha;simp;omega
    rw [this];rfl
 ·dsimp only
  rw [zk (by omega)]
  simp only [zz]
  rw [zl (x:=(i:Int)+1) (by omega) (by omega)]
  have key:∀(v:Int) (N:Option (Tr×Bool)),(bif decide (v<0) then (bif true then some (((0,0,0),false):Tr×Bool) else N) else (bif decide (v≥(p.length:Int)) then some ((0,0,0),false) else N))=bif !decide (inr v p.length) then some ((0,0,0),false) else N:=by
   intro v N
   by_cases h:inr v p.length
   ·rw [zcQ h]
    have h':=h
    unfold inr at h'
    rw [zh (by omega),zh (by omega)]
   ·rw [zgh h]
    unfold inr at h
    by_cases h1:v<0
    ·rw [zk h1];rfl
    ·rw [zh h1,zk (by omega)]
  match i,hi with
  |0,_=>exact key a _
  |1,_=>exact key b _
  |2,_=>exact key c _
 ·have e:(List.range 3).any (fun i=>!decide (inr (zy8 a b c i) p.length))=!decide (inr a p.length∧inr b p.length∧inr c p.length):=by
   show (!decide (inr a p.length)||(!decide (inr b p.length)||(!decide (inr c p.length)||false)))=_
   by_cases ha:inr a p.length<;>by_cases hb:inr b p.length<;>by_cases hc:inr c p.length<;>simp [ha,hb,hc]
  rw [e]
  by_cases h:inr a p.length∧inr b p.length∧inr c p.length
  ·rw [zcQ h,if_pos h]
  ·rw [zgh h]
   unfold KN
   rw [if_neg h]
def zzU (p:List Pt) (t:Tr):Prop:=t.1<t.2.1∧t.1<t.2.2∧ori (pt p t.1) (pt p t.2.1) (pt p t.2.2)=1
instance (p:List Pt) (t:Tr):Decidable (zzU p t):=inferInstanceAs (Decidable (_∧_∧_))
end Go.Proofs.YtpkkcjmblocjdaaGreat.Pure
end
section
namespace Go.Proofs.YtpkkcjmblocjdaaGreat.Pure
open Go.RowKit Go.Proofs.YtpkkcjmblocjdaaGreat.AM PL
theorem zwJ (k:Nat) (t:Tr):JR k t=some ((t.1,t.2.1),(t.2.1,t.2.2),(t.2.2,t.1)):=rfl
theorem zzF (k:Nat) (s:Pt):Q3 k s=some (mnI s.1 s.2,mxI s.1 s.2):=rfl
theorem byT (m:Nat) (a b:Tr):QQ (m+1000) a b=some (KK a b):=zrB (m+995) a b
theorem byS (m:Nat) (a b:Pt):Z3 (m+1000) a b=some (Jr a b):=zrh (m+995) a b
end Go.Proofs.YtpkkcjmblocjdaaGreat.Pure
end
section
namespace Go.Proofs.YtpkkcjmblocjdaaGreat.Pure
open Go.RowKit Go.Proofs.YtpkkcjmblocjdaaGreat.AM PL
theorem zsp {α ρ:Type} {f:α→(α→Option ρ)→Option ρ} (I:Nat→Prop) (st:Nat→α) (n:Nat) (b:Nat→Bool) (v e:Option ρ) {s0:α} (es:s0=st 0) (hI:I 0) (h0:I n→∀next,f (st n) next=e) (hs:∀i,i<n→I i→(∀next,f (st i) next=bif b i then v else next (st (i+1)))∧(b i=false→I (i+1))) (q:Nat) (hq:n<q) :
  zA f q s0=bif (List.range n).any b then v else e:=by
 rw [es]
 have main:∀(q i:Nat),I i→i≤n→n-i<q→zA f q (st i)=bif (List.range' i (n-i)).any b then v else e:=by
  intro q
  induction q with
  |zero=>intro i _ _ h;omega
  |succ q ih =>
   intro i hi hin hq
   rw [qX]
   by_cases h:i=n
   ·subst h;rw [h0 hi,Nat.sub_self];rfl
   ·obtain ⟨h1,h2⟩:=hs i (by omega) hi
    rw [h1,show n-i=(n-(i+1))+1 by omega,List.range'_succ,List.any_cons]
    cases hb:b i with
    |true=>rfl
    |false=>exact ih (i+1) (h2 hb) (by omega) (by omega)
 rw [main q 0 hI (by omega) (by omega),List.range_eq_range']
 rfl
abbrev ZT:Type:=List Pt×List Tr×List Pt
def rv (s:Pt):Pt:=(s.2,s.1)
def up (s:Pt):Pt:=(mnI s.1 s.2,mxI s.1 s.2)
def ji (t:Tr):List Pt:=[(t.1,t.2.1),(t.2.1,t.2.2),(t.2.2,t.1)]
def sd (t:Tr) (j:Nat):Pt:=if j=0 then (t.1,t.2.1) else if j=1 then (t.2.1,t.2.2) else (t.2.2,t.1)
def tt (T:List Tr) (i:Int):Tr:=rdD (0,0,0) T i
theorem zxV {T:List Tr} {i:Nat} (h:i<T.length):tt T (i:Int)=T[i]:=qg _ T i h
theorem zp0 (t:Tr) (j:Nat) (h:j<3):(ji t).take (j+1)=(ji t).take j++[sd t j]:=by
 match j,h with
 |0,_=>rfl
 |1,_=>rfl
 |2,_=>rfl
def Eo (T:List Tr) (i:Nat):List Pt:=(T.take i).flatMap ji
theorem zwZ {T:List Tr} {i:Nat} (h:i<T.length):Eo T (i+1)=Eo T i++ji T[i]:=zlN ji T i h
def zfS (P:List Pt) (T:List Tr) (i:Nat):Bool:=decide (KN P (tt T i).1 (tt T i).2.1 (tt T i).2.2≠(tt T i,true))||(decide (0<i)&&decide (¬ltT (tt T (i-1:Nat)) (tt T i)))
def zrG (T:List Tr) (i:Nat):Bool:=(List.range 3).any fun j=>decide (sd (tt T i) j∈Eo T i++(ji (tt T i)).take j)
def za5 (E S:List Pt) (i:Nat):Bool:=decide ((pt S i).1≥(pt S i).2)||((decide (0<i)&&decide (¬ltS (pt S (i-1:Nat)) (pt S i)))||(decide (pt S i∉E)&&decide (rv (pt S i)∉E)))
def ze9 (E S:List Pt) (s:Pt):Bool:=decide (rv s∉E)&&decide (up s∉S)
def zyC (m:ZT):Int :=
 bif (List.range m.2.1.length).any (fun i=>zfS m.1 m.2.1 i||zrG m.2.1 i) then 2
 else bif (List.range m.2.2.length).any (za5 (Eo m.2.1 m.2.1.length) m.2.2) then 2
 else bif (Eo m.2.1 m.2.1.length).any (ze9 (Eo m.2.1 m.2.1.length) m.2.2) then 2 else 0
theorem zxG (a b:Pt):Jr a b≥0↔¬ltS a b:=by rw [←zyU];omega
theorem zxH (a b:Tr):KK a b≥0↔¬ltT a b:=by rw [←zyi];omega
theorem zwS (E:List Pt) (b:Pt→Bool):(yes E).any (fun e=>b e.1)=E.any b:=by unfold yes;rw [List.any_map];rfl
theorem zzP (m : Nat) {E S : List Pt} (hE : E.length ≤ 900) {F : (List (Pt × Bool) × List (Pt × Bool) × List (Pt × Bool)) → ((List (Pt × Bool) × List (Pt × Bool) × List (Pt × Bool)) → Option Int) → Option Int}
    (hF : ∀ x52 x53 x54 next51, F (x52, x53, x54) next51 = nxt x54 (some 0) (fun e r55 =>
        bif !(toT Bool (lkM (.pair (.int .i64) (.int .i64)) .bool x52 (e.1.2, e.1.1))) then
         bnd (Q3 (m + 1000) (e.1.1, e.1.2)) fun r63 =>
         (bif !(toT Bool (lkM (.pair (.int .i64) (.int .i64)) .bool x53 (r63.1, r63.2))) then some 2 else next51 (x52, x53, r55))
        else
         (bif false then some 2 else next51 (x52, x53, r55)))) :
    zA F (m + 1000) (yes E, yes S, yes E) = some (bif E.any (ze9 E S) then 2 else 0) := by
  refine (QA (fun n s v => ∃ rs : List (Pt × Bool), n = rs.length ∧ s = (yes E, yes S, rs) ∧ v = some (bif rs.any (fun e => ze9 E S e.1) then 2 else 0)) ?_ (m + 1000) E.length _ _ ⟨yes E, by simp [yes], rfl, rfl⟩ (by omega)).trans (by rw [zwS])
  rintro n s v ⟨rs, rfl, rfl, rfl⟩ next hn
  rw [hF]
  by_cases he : rs = []
  · subst he; rw [zvy]; rfl
  refine zyy he fun j e hj => ?_
  have hpm := zjI hj
  have hany : rs.any (fun e => ze9 E S e.1) = (ze9 E S e.1 || (rs.eraseIdx j).any fun e => ze9 E S e.1) := by
    rw [← List.any_cons (f := fun e : Pt × Bool => ze9 E S e.1)]
    exact (hpm.any_eq).symm
  have hnx : next (yes E, yes S, rs.eraseIdx j) = some (bif (rs.eraseIdx j).any (fun e => ze9 E S e.1) then 2 else 0) := by
    refine hn _ _ _ ?_ ⟨_, rfl, rfl, rfl⟩
    have := hpm.length_eq
    simp only [List.length_cons] at this
    omega
  have k1 : toT Bool (lkM (.pair (.int .i64) (.int .i64)) .bool (yes E) (e.1.2, e.1.1)) = decide (rv e.1 ∈ E) := zdN E (rv e.1)
  have k2 : toT Bool (lkM (.pair (.int .i64) (.int .i64)) .bool (yes S) (mnI e.1.1 e.1.2, mxI e.1.1 e.1.2)) = decide (up e.1 ∈ S) := zdN S (up e.1)
  rw [k1, zzF, zr, k2, hany]
  by_cases h1 : rv e.1 ∈ E
  · rw [zcQ h1, cF, hnx]
    have : ze9 E S e.1 = false := by unfold ze9; simp [h1]
    rw [this, Bool.false_or]
  · rw [zgh h1]
    by_cases h2 : up e.1 ∈ S
    · rw [zcQ h2, hnx]
      have : ze9 E S e.1 = false := by unfold ze9; simp [h2]
      rw [this, Bool.false_or]
    · rw [zgh h2]
      have : ze9 E S e.1 = true := by unfold ze9; simp [h1, h2]
      rw [this, Bool.true_or]; rfl
theorem zzY (m : Nat) {P : List Pt} {T : List Tr} {E S : List Pt} (hS : S.length ≤ 900) {K : List (Pt × Bool) → List (Pt × Bool) → Option Int} {e : Option Int} (hK : K (yes E) (yes S) = e) {F : (ZT × List (Pt × Bool) × List (Pt × Bool) × List Pt × Int × Int) → ((ZT × List (Pt × Bool) × List (Pt × Bool) × List Pt × Int × Int) → Option Int) → Option Int}
    (hF : ∀ (x35 : ZT) x36 x37 x38 x39 x40 next34, F (x35, x36, x37, x38, x39, x40) next34 =
     bif decide (x40 < x39) then
      gd (inb x40 x38.length) <|
      zz (α := (ZT × ((List ((Int × Int) × Bool)) × ((List ((Int × Int) × Bool)) × ((Int × Int) × ((List (Int × Int)) × (Int × (Int × Bool)))))))) (fun (y41, y42, y43, y44, y45, y46, y47, y48) =>
       bif y48 then
        some 2
       else
        gd (!(hsM (.pair (.int .i64) (.int .i64)) .bool y43 (y44.1, y44.2))) <|
        next34 ((y41.1, y41.2.1, y41.2.2), y42, adM (.pair (.int .i64) (.int .i64)) .bool y43 (y44.1, y44.2) true, y45, y46, w64 (y47 + 1))) fun j49 =>
      bif decide ((rdD (0, 0) x38 x40).1 ≥ (rdD (0, 0) x38 x40).2) then
       j49 ((x35.1, x35.2.1, x35.2.2), x36, x37, ((rdD (0, 0) x38 x40).1, (rdD (0, 0) x38 x40).2), x38, x39, x40, true)
      else
       bif decide (x40 > 0) then
        gd (inb (w64 (x40 - 1)) x35.2.2.length) <|
        bnd (Z3 (m + 1000) ((rdD (0, 0) x35.2.2 (w64 (x40 - 1))).1, (rdD (0, 0) x35.2.2 (w64 (x40 - 1))).2) ((rdD (0, 0) x38 x40).1, (rdD (0, 0) x38 x40).2)) fun r50 =>
        bif decide (r50 ≥ 0) then
         j49 ((x35.1, x35.2.1, x35.2.2), x36, x37, ((rdD (0, 0) x38 x40).1, (rdD (0, 0) x38 x40).2), x38, x39, x40, true)
        else
         bif !(toT Bool (lkM (.pair (.int .i64) (.int .i64)) .bool x36 ((rdD (0, 0) x38 x40).1, (rdD (0, 0) x38 x40).2))) then
          j49 ((x35.1, x35.2.1, x35.2.2), x36, x37, ((rdD (0, 0) x38 x40).1, (rdD (0, 0) x38 x40).2), x38, x39, x40, !(toT Bool (lkM (.pair (.int .i64) (.int .i64)) .bool x36 ((rdD (0, 0) x38 x40).2, (rdD (0, 0) x38 x40).1))))
         else
          j49 ((x35.1, x35.2.1, x35.2.2), x36, x37, ((rdD (0, 0) x38 x40).1, (rdD (0, 0) x38 x40).2), x38, x39, x40, false)
       else
        bif !(toT Bool (lkM (.pair (.int .i64) (.int .i64)) .bool x36 ((rdD (0, 0) x38 x40).1, (rdD (0, 0) x38 x40).2))) then
         j49 ((x35.1, x35.2.1, x35.2.2), x36, x37, ((rdD (0, 0) x38 x40).1, (rdD (0, 0) x38 x40).2), x38, x39, x40, !(toT Bool (lkM (.pair (.int .i64) (.int .i64)) .bool x36 ((rdD (0, 0) x38 x40).2, (rdD (0, 0) x38 x40).1))))
        else
         j49 ((x35.1, x35.2.1, x35.2.2), x36, x37, ((rdD (0, 0) x38 x40).1, (rdD (0, 0) x38 x40).2), x38, x39, x40, false)
     else K x36 x37) :
    zA F (m + 1000) ((P, T, S), yes E, [], S, (S.length : Int), 0) = bif (List.range S.length).any (za5 E S) then some 2 else e := by
  refine (zsp (fun i => (S.take i).Pairwise ltS) (fun i => ((P, T, S), yes E, yes (S.take i), S, (S.length : Int), (i : Int))) S.length (za5 E S) (some 2) e rfl (by simp) (fun hI next => ?_) (fun i hi hI => ?_) (m + 1000) (by omega))
  · rw [hF, zh (by omega), List.take_length]
    exact hK
  · have hS' : pt S (i : Int) = S[i] := Qk hi
    refine ⟨fun next => ?_, fun hb => ?_⟩
    · rw [hF, zk (by omega), zY (zM ⟨by omega, by omega⟩)]
      have ep : ∀ i : Int, ((rdD (0, 0) S i).1, (rdD (0, 0) S i).2) = pt S i := fun _ => rfl
      have e0 : rdD (0, 0) S (i : Int) = pt S (i : Int) := rfl
      rw [e0]
      have k1 : toT Bool (lkM (.pair (.int .i64) (.int .i64)) .bool (yes E) ((pt S (i : Int)).1, (pt S (i : Int)).2)) = decide (pt S (i : Int) ∈ E) := zdN E (pt S (i : Int))
      have k2 : toT Bool (lkM (.pair (.int .i64) (.int .i64)) .bool (yes E) ((pt S (i : Int)).2, (pt S (i : Int)).1)) = decide (rv (pt S (i : Int)) ∈ E) := zdN E (rv (pt S (i : Int)))
      simp only [zz, k1, k2]
      rw [zl (x := (i : Int) + 1) (by omega) (by omega)]
      have hst : ¬ (za5 E S i = true) → gd (!(hsM (.pair (.int .i64) (.int .i64)) .bool (yes (S.take i)) (pt S (i : Int)))) (next ((P, T, S), yes E, adM (.pair (.int .i64) (.int .i64)) .bool (yes (S.take i)) (pt S (i : Int)) true, S, (S.length : Int), (i : Int) + 1)) = next ((P, T, S), yes E, yes (S.take (i + 1)), S, (S.length : Int), ((i + 1 : Nat) : Int)) := by
        intro hb
        have hno : pt S (i : Int) ∉ S.take i := by
          intro hm
          by_cases h0 : i = 0
          · subst h0; simp at hm
          · have hl : ltS (pt S ((i - 1 : Nat) : Int)) (pt S (i : Int)) := by
              apply Decidable.byContradiction
              intro hc
              apply hb
              unfold za5
              simp [show 0 < i by omega, hc]
            have hx : S.take i = S.take (i - 1) ++ [S[i - 1]] := by
              have := YB S (i - 1) (by omega)
              rwa [show i - 1 + 1 = i by omega] at this
            rw [Qk (show i - 1 < S.length by omega)] at hl
            rw [hx] at hm hI
            rcases List.mem_append.1 hm with h | h
            · exact zji.irr _ (zji.tr ((List.pairwise_append.1 hI).2.2 _ h _ (by simp)) hl)
            · rw [List.mem_singleton.1 h] at hl; exact zji.irr _ hl
        have h1 : hsM (.pair (.int .i64) (.int .i64)) .bool (yes (S.take i)) (pt S (i : Int)) = false := (zpw _ _).trans (decide_eq_false hno)
        have h2 : adM (.pair (.int .i64) (.int .i64)) .bool (yes (S.take i)) (pt S (i : Int)) true = yes (S.take (i + 1)) := (zpX _ _).trans (by rw [YB S i hi, hS'])
        rw [h1, h2]; rfl
      by_cases h1 : (pt S (i : Int)).1 ≥ (pt S (i : Int)).2
      · rw [show za5 E S i = true by unfold za5; simp [h1]]
        rw [zk h1]; rfl
      rw [zh h1]
      have tail : (∀ (h : i = 0 ∨ ltS (pt S ((i - 1 : Nat) : Int)) (pt S (i : Int))), (bif !decide (pt S (i : Int) ∈ E) then (bif !decide (rv (pt S (i : Int)) ∈ E) then some 2 else gd (!(hsM (.pair (.int .i64) (.int .i64)) .bool (yes (S.take i)) (pt S (i : Int)))) (next ((P, T, S), yes E, adM (.pair (.int .i64) (.int .i64)) .bool (yes (S.take i)) (pt S (i : Int)) true, S, (S.length : Int), (i : Int) + 1))) else (bif false then some 2 else gd (!(hsM (.pair (.int .i64) (.int .i64)) .bool (yes (S.take i)) (pt S (i : Int)))) (next ((P, T, S), yes E, adM (.pair (.int .i64) (.int .i64)) .bool (yes (S.take i)) (pt S (i : Int)) true, S, (S.length : Int), (i : Int) + 1)))) = bif za5 E S i then some 2 else next ((P, T, S), yes E, yes (S.take (i + 1)), S, (S.length : Int), ((i + 1 : Nat) : Int))) := by
        intro hl
        have hl' : (decide (0 < i) && decide (¬ ltS (pt S ((i - 1 : Nat) : Int)) (pt S (i : Int)))) = false := by
          rcases hl with h | h
          · subst h; rfl
          · rw [decide_eq_false (not_not_intro h), Bool.and_false]
        by_cases h2 : pt S (i : Int) ∈ E
        · have : za5 E S i = false := by unfold za5; rw [hl']; simp [h1, h2]
          rw [zcQ h2, cF, this, cF]
          exact hst (by rw [this]; decide)
        · rw [zgh h2]
          by_cases h3 : rv (pt S (i : Int)) ∈ E
          · have : za5 E S i = false := by unfold za5; rw [hl']; simp [h1, h3]
            rw [zcQ h3, this, cF]
            exact hst (by rw [this]; decide)
          · have : za5 E S i = true := by unfold za5; simp [h2, h3]
            rw [zgh h3, this]; rfl
      by_cases h0 : i = 0
      · subst h0
        rw [zh (by omega)]
        exact tail (.inl rfl)
      · rw [zk (show (i : Int) > 0 by omega), zl (x := (i : Int) - 1) (by omega) (by omega), show (i : Int) - 1 = ((i - 1 : Nat) : Int) by omega, zY (zM ⟨by omega, by omega⟩), ep, byS, zr]
        by_cases hl : ltS (pt S ((i - 1 : Nat) : Int)) (pt S (i : Int))
        · rw [zh (fun h => (zxG _ _).1 h hl)]
          exact tail (.inr hl)
        · rw [zk ((zxG _ _).2 hl)]
          have : za5 E S i = true := by unfold za5; simp [show 0 < i by omega, hl]
          rw [this]; rfl
    · rw [YB S i hi, List.pairwise_append]
      refine ⟨hI, by simp, fun a ha b hb' => ?_⟩
      rw [List.mem_singleton.1 hb', ← hS']
      by_cases h0 : i = 0
      · subst h0; simp at ha
      · have hl : ltS (pt S ((i - 1 : Nat) : Int)) (pt S (i : Int)) := by
          apply Decidable.byContradiction
          intro hc
          have : za5 E S i = true := by unfold za5; simp [show 0 < i by omega, hc]
          rw [this] at hb; cases hb
        have hx : S.take i = S.take (i - 1) ++ [S[i - 1]] := by
          have := YB S (i - 1) (by omega)
          rwa [show i - 1 + 1 = i by omega] at this
        rw [Qk (show i - 1 < S.length by omega)] at hl
        rw [hx] at ha hI
        rcases List.mem_append.1 ha with h | h
        · exact zji.tr ((List.pairwise_append.1 hI).2.2 _ h _ (by simp)) hl
        · rw [List.mem_singleton.1 h]; exact hl
theorem zzL (m : Nat) {M : ZT} {T : List Tr} {n i : Int} (E0 : List Pt) (t : Tr) {N : ZT → List (Pt × Bool) → List Tr → Int → Int → Option Int} {F : (ZT × List (Pt × Bool) × List Tr × Int × Int × ((Pt × Pt × Pt) × Int)) → ((ZT × List (Pt × Bool) × List Tr × Int × Int × ((Pt × Pt × Pt) × Int)) → Option Int) → Option Int}
    (hF : ∀ (x16 : ZT) x17 x18 x19 x20 (x21 : Pt × Pt × Pt) x22 next15, F (x16, x17, x18, x19, x20, x21, x22) next15 =
       bif decide (x22 < 3) then
        zz (α := (ZT × ((List ((Int × Int) × Bool)) × ((Int × Int) × ((List (Int × (Int × Int))) × (Int × (Int × (((Int × Int) × ((Int × Int) × (Int × Int))) × Int)))))))) (fun (y23, y24, y25, y26, y27, y28, y29, y30) =>
         bif toT Bool (lkM (.pair (.int .i64) (.int .i64)) .bool y24 (y25.1, y25.2)) then
          some 2
         else
          gd (!(hsM (.pair (.int .i64) (.int .i64)) .bool y24 (y25.1, y25.2))) <|
          next15 ((y23.1, y23.2.1, y23.2.2), adM (.pair (.int .i64) (.int .i64)) .bool y24 (y25.1, y25.2) true, y26, y27, y28, ((y29.1.1, y29.1.2), (y29.2.1.1, y29.2.1.2), y29.2.2.1, y29.2.2.2), w64 (y30 + 1))) fun j31 =>
        bif decide (x22 = 0) then
         j31 ((x16.1, x16.2.1, x16.2.2), x17, (x21.1.1, x21.1.2), x18, x19, x20, ((x21.1.1, x21.1.2), (x21.2.1.1, x21.2.1.2), x21.2.2.1, x21.2.2.2), x22)
        else
         bif decide (x22 = 1) then
          j31 ((x16.1, x16.2.1, x16.2.2), x17, (x21.2.1.1, x21.2.1.2), x18, x19, x20, ((x21.1.1, x21.1.2), (x21.2.1.1, x21.2.1.2), x21.2.2.1, x21.2.2.2), x22)
         else
          bif decide (x22 = 2) then
           j31 ((x16.1, x16.2.1, x16.2.2), x17, (x21.2.2.1, x21.2.2.2), x18, x19, x20, ((x21.1.1, x21.1.2), (x21.2.1.1, x21.2.1.2), x21.2.2.1, x21.2.2.2), x22)
          else
           none
       else N (x16.1, x16.2.1, x16.2.2) x17 x18 x19 x20) :
    zA F (m + 1000) (M, yes E0, T, n, i, ((t.1, t.2.1), (t.2.1, t.2.2), t.2.2, t.1), 0) = bif (List.range 3).any (fun j => decide (sd t j ∈ E0 ++ (ji t).take j)) then some 2 else N M (yes (E0 ++ ji t)) T n i := by
  refine zaf (fun j => (M, yes (E0 ++ (ji t).take j), T, n, i, ((t.1, t.2.1), (t.2.1, t.2.2), t.2.2, t.1), (j : Int))) 3 (fun j => decide (sd t j ∈ E0 ++ (ji t).take j)) (some 2) _ ?_ (fun nx => ?_) (fun j hj nx => ?_) _ (by omega)
  · simp [ji]
  · rw [hF, zh (by omega)]
    rfl
  · rw [hF, zk (by omega)]
    simp only [zz]
    rw [zl (x := (j : Int) + 1) (by omega) (by omega)]
    have key : ∀ s, s = sd t j → (bif toT Bool (lkM (.pair (.int .i64) (.int .i64)) .bool (yes (E0 ++ (ji t).take j)) s) then some 2 else gd (!(hsM (.pair (.int .i64) (.int .i64)) .bool (yes (E0 ++ (ji t).take j)) s)) (nx (M, adM (.pair (.int .i64) (.int .i64)) .bool (yes (E0 ++ (ji t).take j)) s true, T, n, i, ((t.1, t.2.1), (t.2.1, t.2.2), t.2.2, t.1), (j : Int) + 1))) = bif decide (sd t j ∈ E0 ++ (ji t).take j) then some 2 else nx (M, yes (E0 ++ (ji t).take (j + 1)), T, n, i, ((t.1, t.2.1), (t.2.1, t.2.2), t.2.2, t.1), ((j + 1 : Nat) : Int)) := by
      rintro s rfl
      have h0 := zdN (E0 ++ (ji t).take j) (sd t j)
      have h1 := zpw (E0 ++ (ji t).take j) (sd t j)
      have h2 := zpX (E0 ++ (ji t).take j) (sd t j)
      rw [show toT Bool (lkM (.pair (.int .i64) (.int .i64)) .bool (yes (E0 ++ (ji t).take j)) (sd t j)) = _ from h0, show hsM (.pair (.int .i64) (.int .i64)) .bool (yes (E0 ++ (ji t).take j)) (sd t j) = _ from h1, show adM (.pair (.int .i64) (.int .i64)) .bool (yes (E0 ++ (ji t).take j)) (sd t j) true = _ from h2, zp0 _ j hj, List.append_assoc]
      by_cases h : sd t j ∈ E0 ++ (ji t).take j
      · rw [decide_eq_true h]; rfl
      · rw [decide_eq_false h]; rfl
    match j, hj with
    | 0, _ => exact key _ rfl
    | 1, _ => exact key _ rfl
    | 2, _ => exact key _ rfl
theorem zzX (m : Nat) {P : List Pt} {T : List Tr} {S : List Pt} (hp : P.length ≤ 200) (hT : T.length ≤ 900) {K : ZT → List (Pt × Bool) → Option Int} {e : Option Int} (hK : K (P, T, S) (yes (Eo T T.length)) = e) {G : (ZT × List (Pt × Bool) × List Tr × Int × Int → Option Int) → ZT → List (Pt × Bool) → List Tr → Int → Int → Pt × Pt × Pt → Option Int}
    (hG : ∀ next (E0 : List Pt) (i : Int) (t : Tr), G next (P, T, S) (yes E0) T (T.length : Int) i ((t.1, t.2.1), (t.2.1, t.2.2), t.2.2, t.1) = bif (List.range 3).any (fun j => decide (sd t j ∈ E0 ++ (ji t).take j)) then some 2 else next ((P, T, S), yes (E0 ++ ji t), T, (T.length : Int), w64 (i + 1)))
    {F : (ZT × List (Pt × Bool) × List Tr × Int × Int) → ((ZT × List (Pt × Bool) × List Tr × Int × Int) → Option Int) → Option Int}
    (hF : ∀ (x1 : ZT) x2 x3 x4 x5 next0, F (x1, x2, x3, x4, x5) next0 = bif decide (x5 < x4) then
    gd (inb x5 x3.length) <|
    bnd (ZE (m + 1000) x1.1 (rdD (0, 0, 0) x3 x5).1 (rdD (0, 0, 0) x3 x5).2.1 (rdD (0, 0, 0) x3 x5).2.2) fun r6 =>
    zz (α := (ZT × ((List ((Int × Int) × Bool)) × ((Int × (Int × Int)) × ((List (Int × (Int × Int))) × (Int × (Int × Bool))))))) (fun (y7, y8, y9, y10, y11, y12, y13) =>
     bif y13 then
      some 2
     else
      bnd (JR (m + 1000) (y9.1, y9.2.1, y9.2.2)) fun r14 =>
      G next0 y7 y8 y10 y11 y12 r14) fun j32 =>
    bif !r6.2 then
     j32 ((x1.1, x1.2.1, x1.2.2), x2, ((rdD (0, 0, 0) x3 x5).1, (rdD (0, 0, 0) x3 x5).2.1, (rdD (0, 0, 0) x3 x5).2.2), x3, x4, x5, true)
    else
     bif !((decide (r6.1.1 = (rdD (0, 0, 0) x3 x5).1)) && ((decide (r6.1.2.1 = (rdD (0, 0, 0) x3 x5).2.1)) && (decide (r6.1.2.2 = (rdD (0, 0, 0) x3 x5).2.2)))) then
      j32 ((x1.1, x1.2.1, x1.2.2), x2, ((rdD (0, 0, 0) x3 x5).1, (rdD (0, 0, 0) x3 x5).2.1, (rdD (0, 0, 0) x3 x5).2.2), x3, x4, x5, true)
     else
      bif decide (x5 > 0) then
       gd (inb (w64 (x5 - 1)) x1.2.1.length) <|
       bnd (QQ (m + 1000) ((rdD (0, 0, 0) x1.2.1 (w64 (x5 - 1))).1, (rdD (0, 0, 0) x1.2.1 (w64 (x5 - 1))).2.1, (rdD (0, 0, 0) x1.2.1 (w64 (x5 - 1))).2.2) ((rdD (0, 0, 0) x3 x5).1, (rdD (0, 0, 0) x3 x5).2.1, (rdD (0, 0, 0) x3 x5).2.2)) fun r33 =>
       j32 ((x1.1, x1.2.1, x1.2.2), x2, ((rdD (0, 0, 0) x3 x5).1, (rdD (0, 0, 0) x3 x5).2.1, (rdD (0, 0, 0) x3 x5).2.2), x3, x4, x5, decide (r33 ≥ 0))
      else
       j32 ((x1.1, x1.2.1, x1.2.2), x2, ((rdD (0, 0, 0) x3 x5).1, (rdD (0, 0, 0) x3 x5).2.1, (rdD (0, 0, 0) x3 x5).2.2), x3, x4, x5, false)
   else K x1 x2) :
    zA F (m + 1000) ((P, T, S), [], T, (T.length : Int), 0) = bif (List.range T.length).any (fun i => zfS P T i || zrG T i) then some 2 else e := by
  refine zaf (fun i => ((P, T, S), yes (Eo T i), T, (T.length : Int), (i : Int))) T.length (fun i => zfS P T i || zrG T i) (some 2) e rfl (fun next => ?_) (fun i hi next => ?_) (m + 1000) (by omega)
  · rw [hF, zh (by omega)]
    exact hK
  · have ht : tt T (i : Int) = T[i] := zxV hi
    rw [hF, zk (by omega), zY (zM ⟨by omega, by omega⟩)]
    have ep : ∀ i : Int, ((rdD (0, 0, 0) T i).1, (rdD (0, 0, 0) T i).2.1, (rdD (0, 0, 0) T i).2.2) = tt T i := fun _ => rfl
    have ep1 : ∀ i : Int, rdD (0, 0, 0) T i = tt T i := fun _ => rfl
    simp only [zz, ep, ep1, zxx m P _ _ _ (show P.length ≤ 1000 by omega), zr, zwJ]
    have hL : G next (P, T, S) (yes (Eo T i)) T (T.length : Int) (i : Int) (((tt T (i : Int)).1, (tt T (i : Int)).2.1), ((tt T (i : Int)).2.1, (tt T (i : Int)).2.2), (tt T (i : Int)).2.2, (tt T (i : Int)).1) = bif zrG T i then some 2 else next ((P, T, S), yes (Eo T (i + 1)), T, (T.length : Int), ((i + 1 : Nat) : Int)) := by
      rw [hG, zwZ hi, ← ht, zl (x := (i : Int) + 1) (by omega) (by omega)]
      rfl
    rw [hL]
    by_cases h1 : (KN P (tt T i).1 (tt T i).2.1 (tt T i).2.2).2 = true
    · rw [h1]
      by_cases h2 : (KN P (tt T i).1 (tt T i).2.1 (tt T i).2.2).1 = tt T i
      · rw [h2]
        have ef : decide (KN P (tt T i).1 (tt T i).2.1 (tt T i).2.2 ≠ (tt T i, true)) = false := decide_eq_false (not_not_intro (Prod.ext h2 h1))
        simp only [decide_true, Bool.and_self, Bool.not_true, cF]
        by_cases h0 : i = 0
        · subst h0
          rw [zh (by omega)]
          have : zfS P T 0 = false := by unfold zfS; rw [ef]; rfl
          rw [this, Bool.false_or]
        · rw [zk (show (i : Int) > 0 by omega), zl (x := (i : Int) - 1) (by omega) (by omega), show (i : Int) - 1 = ((i - 1 : Nat) : Int) by omega, zY (zM ⟨by omega, by omega⟩), byT, zr]
          by_cases hl : ltT (tt T ((i - 1 : Nat) : Int)) (tt T (i : Int))
          · rw [decide_eq_false (fun h => (zxH _ _).1 h hl)]
            have : zfS P T i = false := by unfold zfS; rw [ef]; simp [hl]
            rw [this, Bool.false_or]; rfl
          · rw [decide_eq_true ((zxH _ _).2 hl)]
            have : zfS P T i = true := by unfold zfS; simp [show 0 < i by omega, hl]
            rw [this]; rfl
      · have : zfS P T i = true := by unfold zfS; rw [decide_eq_true (show KN P (tt T i).1 (tt T i).2.1 (tt T i).2.2 ≠ (tt T i, true) from fun h => h2 (congrArg Prod.fst h)), Bool.true_or]
        rw [this]
        have hne : ((decide ((KN P (tt T i).1 (tt T i).2.1 (tt T i).2.2).1.1 = (tt T i).1)) && ((decide ((KN P (tt T i).1 (tt T i).2.1 (tt T i).2.2).1.2.1 = (tt T i).2.1)) && (decide ((KN P (tt T i).1 (tt T i).2.1 (tt T i).2.2).1.2.2 = (tt T i).2.2)))) = false := by
          rw [Bool.eq_false_iff]
          intro h
          simp only [Bool.and_eq_true, decide_eq_true_eq] at h
          exact h2 (Prod.ext h.1 (Prod.ext h.2.1 h.2.2))
        rw [hne]; rfl
    · have h1' : (KN P (tt T i).1 (tt T i).2.1 (tt T i).2.2).2 = false := by simpa using h1
      have : zfS P T i = true := by unfold zfS; rw [decide_eq_true (show KN P (tt T i).1 (tt T i).2.1 (tt T i).2.2 ≠ (tt T i, true) from fun h => h1 (congrArg Prod.snd h)), Bool.true_or]
      rw [h1', this]; rfl
theorem zts (m : Nat) (M : ZT) (hp : M.1.length ≤ 200) (hT : M.2.1.length ≤ 200) (hS : M.2.2.length ≤ 200) : KR (m + 1000) M = some (zyC M) := by
  obtain ⟨P, T, S⟩ := M
  dsimp only at hp hT hS
  unfold KR zcF
  have ev : zyC (P, T, S) = bif (List.range T.length).any (fun i => zfS P T i || zrG T i) then 2 else bif (List.range S.length).any (za5 (Eo T T.length) S) then 2 else bif (Eo T T.length).any (ze9 (Eo T T.length) S) then 2 else 0 := rfl
  rw [ev]
  show zA _ (m + 1000) ((P, T, S), [], T, (T.length : Int), 0) = _
  generalize hE : Eo T T.length = E
  have hEl : E.length ≤ 600 := by
    rw [← hE]
    have : ∀ l : List Tr, (l.flatMap ji).length = 3 * l.length := by
      intro l
      induction l with
      | nil => rfl
      | cons t l ih => rw [List.flatMap_cons, List.length_append, ih]; show 3 + _ = _; rw [List.length_cons]; omega
    unfold Eo
    rw [List.take_length, this]
    omega
  refine Eq.trans (zzX m (P := P) (T := T) (S := S) (e := bif (List.range S.length).any (za5 E S) then some 2 else some (bif E.any (ze9 E S) then 2 else 0)) (K := fun x1 x2 =>
          zA (α := (((List (Int × Int)) × ((List (Int × (Int × Int))) × (List (Int × Int)))) × ((List ((Int × Int) × Bool)) × ((List ((Int × Int) × Bool)) × ((List (Int × Int)) × (Int × Int)))))) (fun (x35, x36, x37, x38, x39, x40) next34 =>
           bif decide (x40 < x39) then
            gd (inb x40 x38.length) <|
            zz (α := (((List (Int × Int)) × ((List (Int × (Int × Int))) × (List (Int × Int)))) × ((List ((Int × Int) × Bool)) × ((List ((Int × Int) × Bool)) × ((Int × Int) × ((List (Int × Int)) × (Int × (Int × Bool)))))))) (fun (y41, y42, y43, y44, y45, y46, y47, y48) =>
             bif y48 then
              some 2
             else
              gd (!(hsM (.pair (.int .i64) (.int .i64)) .bool y43 (y44.1, y44.2))) <|
              next34 ((y41.1, y41.2.1, y41.2.2), y42, adM (.pair (.int .i64) (.int .i64)) .bool y43 (y44.1, y44.2) true, y45, y46, w64 (y47 + 1))) fun j49 =>
            bif decide ((rdD (0, 0) x38 x40).1 ≥ (rdD (0, 0) x38 x40).2) then
             j49 ((x35.1, x35.2.1, x35.2.2), x36, x37, ((rdD (0, 0) x38 x40).1, (rdD (0, 0) x38 x40).2), x38, x39, x40, true)
            else
             bif decide (x40 > 0) then
              gd (inb (w64 (x40 - 1)) x35.2.2.length) <|
              bnd (Z3 (m + 1000) ((rdD (0, 0) x35.2.2 (w64 (x40 - 1))).1, (rdD (0, 0) x35.2.2 (w64 (x40 - 1))).2) ((rdD (0, 0) x38 x40).1, (rdD (0, 0) x38 x40).2)) fun r50 =>
              bif decide (r50 ≥ 0) then
               j49 ((x35.1, x35.2.1, x35.2.2), x36, x37, ((rdD (0, 0) x38 x40).1, (rdD (0, 0) x38 x40).2), x38, x39, x40, true)
              else
               bif !(toT Bool (lkM (.pair (.int .i64) (.int .i64)) .bool x36 ((rdD (0, 0) x38 x40).1, (rdD (0, 0) x38 x40).2))) then
                j49 ((x35.1, x35.2.1, x35.2.2), x36, x37, ((rdD (0, 0) x38 x40).1, (rdD (0, 0) x38 x40).2), x38, x39, x40, !(toT Bool (lkM (.pair (.int .i64) (.int .i64)) .bool x36 ((rdD (0, 0) x38 x40).2, (rdD (0, 0) x38 x40).1))))
               else
                j49 ((x35.1, x35.2.1, x35.2.2), x36, x37, ((rdD (0, 0) x38 x40).1, (rdD (0, 0) x38 x40).2), x38, x39, x40, false)
             else
              bif !(toT Bool (lkM (.pair (.int .i64) (.int .i64)) .bool x36 ((rdD (0, 0) x38 x40).1, (rdD (0, 0) x38 x40).2))) then
               j49 ((x35.1, x35.2.1, x35.2.2), x36, x37, ((rdD (0, 0) x38 x40).1, (rdD (0, 0) x38 x40).2), x38, x39, x40, !(toT Bool (lkM (.pair (.int .i64) (.int .i64)) .bool x36 ((rdD (0, 0) x38 x40).2, (rdD (0, 0) x38 x40).1))))
              else
               j49 ((x35.1, x35.2.1, x35.2.2), x36, x37, ((rdD (0, 0) x38 x40).1, (rdD (0, 0) x38 x40).2), x38, x39, x40, false)
           else
            zA (α := ((List ((Int × Int) × Bool)) × ((List ((Int × Int) × Bool)) × (List ((Int × Int) × Bool))))) (fun (x52, x53, x54) next51 =>
             nxt x54 (
              some 0) (fun (e56, e57) r55 =>
              zz (α := ((List ((Int × Int) × Bool)) × ((List ((Int × Int) × Bool)) × ((List ((Int × Int) × Bool)) × Bool)))) (fun (y58, y59, y60, y61) =>
               bif y61 then
                some 2
               else
                next51 (y58, y59, y60)) fun j62 =>
              bif !(toT Bool (lkM (.pair (.int .i64) (.int .i64)) .bool x52 (e56.2, e56.1))) then
               bnd (Q3 (m + 1000) (e56.1, e56.2)) fun r63 =>
               j62 (x52, x53, r55, !(toT Bool (lkM (.pair (.int .i64) (.int .i64)) .bool x53 (r63.1, r63.2))))
              else
               j62 (x52, x53, r55, false))) (m + 1000) (x36, x37, x36)) (m + 1000) ((x1.1, x1.2.1, x1.2.2), x2, [], x1.2.2, (x1.2.2.length : Int), 0)) (G := fun next0 y7 y8 y10 y11 y12 r14 =>
            zA (α := (((List (Int × Int)) × ((List (Int × (Int × Int))) × (List (Int × Int)))) × ((List ((Int × Int) × Bool)) × ((List (Int × (Int × Int))) × (Int × (Int × (((Int × Int) × ((Int × Int) × (Int × Int))) × Int))))))) (fun (x16, x17, x18, x19, x20, x21, x22) next15 =>
             bif decide (x22 < 3) then
              zz (α := (((List (Int × Int)) × ((List (Int × (Int × Int))) × (List (Int × Int)))) × ((List ((Int × Int) × Bool)) × ((Int × Int) × ((List (Int × (Int × Int))) × (Int × (Int × (((Int × Int) × ((Int × Int) × (Int × Int))) × Int)))))))) (fun (y23, y24, y25, y26, y27, y28, y29, y30) =>
               bif toT Bool (lkM (.pair (.int .i64) (.int .i64)) .bool y24 (y25.1, y25.2)) then
                some 2
               else
                gd (!(hsM (.pair (.int .i64) (.int .i64)) .bool y24 (y25.1, y25.2))) <|
                next15 ((y23.1, y23.2.1, y23.2.2), adM (.pair (.int .i64) (.int .i64)) .bool y24 (y25.1, y25.2) true, y26, y27, y28, ((y29.1.1, y29.1.2), (y29.2.1.1, y29.2.1.2), y29.2.2.1, y29.2.2.2), w64 (y30 + 1))) fun j31 =>
              bif decide (x22 = 0) then
               j31 ((x16.1, x16.2.1, x16.2.2), x17, (x21.1.1, x21.1.2), x18, x19, x20, ((x21.1.1, x21.1.2), (x21.2.1.1, x21.2.1.2), x21.2.2.1, x21.2.2.2), x22)
              else
               bif decide (x22 = 1) then
                j31 ((x16.1, x16.2.1, x16.2.2), x17, (x21.2.1.1, x21.2.1.2), x18, x19, x20, ((x21.1.1, x21.1.2), (x21.2.1.1, x21.2.1.2), x21.2.2.1, x21.2.2.2), x22)
               else
                bif decide (x22 = 2) then
                 j31 ((x16.1, x16.2.1, x16.2.2), x17, (x21.2.2.1, x21.2.2.2), x18, x19, x20, ((x21.1.1, x21.1.2), (x21.2.1.1, x21.2.1.2), x21.2.2.1, x21.2.2.2), x22)
                else
                 none
             else
              next0 ((x16.1, x16.2.1, x16.2.2), x17, x18, x19, w64 (x20 + 1))) (m + 1000) ((y7.1, y7.2.1, y7.2.2), y8, y10, y11, y12, ((r14.1.1, r14.1.2), (r14.2.1.1, r14.2.1.2), r14.2.2.1, r14.2.2.2), 0)) hp (by omega) ?hK ?hG (fun _ _ _ _ _ _ => rfl)) ?_
  case hK =>
    rw [hE]
    refine zzY m (P := P) (T := T) (E := E) (S := S) (by omega) ?_ (fun _ _ _ _ _ _ _ => rfl)
    exact zzP m (by omega) (fun _ _ _ _ => rfl)
  case hG =>
    intro next E0 i t
    exact zzL m E0 t (N := fun a b c d e => next (a, b, c, d, w64 (e + 1))) (fun _ _ _ _ _ _ _ _ => rfl)
  cases (List.range T.length).any (fun i => zfS P T i || zrG T i) <;> cases (List.range S.length).any (za5 E S) <;> rfl
end Go.Proofs.YtpkkcjmblocjdaaGreat.Pure
end
section
namespace Go.Proofs.YtpkkcjmblocjdaaGreat.Pure
open Go.RowKit Go.Proofs.YtpkkcjmblocjdaaGreat.AM PL
theorem zl2 {α:Type} (d:α) (l:List α) (b:α→Bool):(List.range l.length).any (fun i=>b (rdD d l (i:Int)))=l.any b:=by
 rw [Bool.eq_iff_iff,List.any_eq_true,List.any_eq_true]
 constructor
 ·rintro ⟨i,hi,h⟩
  rw [List.mem_range] at hi
  rw [qg d l i hi] at h
  exact ⟨_,List.getElem_mem hi,h⟩
 ·rintro ⟨x,hx,h⟩
  obtain ⟨i,hi,rfl⟩:=List.getElem_of_mem hx
  refine ⟨i,List.mem_range.2 hi,?_⟩
  rw [qg d l i hi]
  exact h
end Go.Proofs.YtpkkcjmblocjdaaGreat.Pure
end
section
namespace Go.Proofs.YtpkkcjmblocjdaaGreat.Pure
open Go.RowKit Go.Proofs.YtpkkcjmblocjdaaGreat.AM PL
end Go.Proofs.YtpkkcjmblocjdaaGreat.Pure
end
section
namespace Go.Proofs.YtpkkcjmblocjdaaGreat.Pure
open Go.RowKit Go.Proofs.YtpkkcjmblocjdaaGreat.AM PL
end Go.Proofs.YtpkkcjmblocjdaaGreat.Pure
end
section
namespace Go.Proofs.YtpkkcjmblocjdaaGreat.Pure
open Go.RowKit Go.Proofs.YtpkkcjmblocjdaaGreat.AM PL
theorem zt2 (m:Nat) (a b:List Pt) (ha:a.length≤1000) (hb:b.length≤1000):YD (m+1000) [a,b]=some (a++b):=by
 unfold YD
 have e0:rdD [] [a,b] ((0:Nat):Int)=a:=rfl
 have e1:rdD [] [a,b] ((1:Nat):Int)=b:=rfl
 refine JN (fun i=>([a,b],(if i=0 then 0 else if i=1 then (a.length:Int) else (a.length:Int)+(b.length:Int)),[a,b],2,(i:Int))) 2 rfl (fun next=>?_) (fun i hi next hn=>?_) _ (by omega)
 ·dsimp only
  rw [zh (by omega)]
  simp only [show ((2:Nat)=0)=False from by simp,show ((2:Nat)=1)=False from by simp,if_false]
  rw [zY (decide_eq_true (by omega)),zY (show zff ((a.length:Int)+(b.length:Int))=true by unfold zff;exact decide_eq_true (by omega))]
  refine JN (fun i=>((if i=0 then [] else if i=1 then a else a++b),[a,b],2,(i:Int))) 2 rfl (fun next=>?_) (fun i hi next hn=>?_) _ (by omega)
  ·dsimp only
   rw [zh (by omega)];rfl
  ·dsimp only
   rw [zk (by omega),zY (zM ⟨by omega,by simp;omega⟩),zl (x:=(i:Int)+1) (by omega) (by omega),←hn]
   match i,hi with
   |0,_=>rw [zY (ZA (by rw [e0];simp;omega)),e0];rfl
   |1,_=>rw [zY (ZA (by rw [e1];simp;omega)),e1];rfl
 ·dsimp only
  simp only [zz]
  rw [zk (by omega),zY (zM ⟨by omega,by simp;omega⟩),zl (x:=(i:Int)+1) (by omega) (by omega),←hn]
  match i,hi with
  |0,_ =>
   rw [e0]
   simp only [if_true]
   rw [zl (by omega) (by omega),zh (by omega),Int.zero_add]
   rfl
  |1,_ =>
   rw [e1]
   simp only [show ((1:Nat)=0)=False from by simp,if_false,if_true]
   rw [zl (by omega) (by omega),zh (by omega)]
   rfl
def QG (p:zx):List Pt:=YA Jr ((sgs p).map up)
theorem zry (m:Nat) (p:zx) (h1:p.2.1.length≤400) (h2:p.2.2.length≤400):Zy (m+1000) p=some (QG p):=by
 unfold Zy za1
 rw [zt2 m _ _ (by omega) (by omega),zr]
 have hl:(p.2.1++p.2.2).length≤800:=by rw [List.length_append];omega
 refine JN (fun i=>(((p.2.1++p.2.2).take i).map up,p.2.1++p.2.2,((p.2.1++p.2.2).length:Int),(i:Int))) (p.2.1++p.2.2).length rfl (fun next=>?_) (fun i hi next hn=>?_) _ (by omega)
 ·dsimp only
  rw [zh (by omega),List.take_length,zY (ZA (by rw [List.length_map];omega))]
  rfl
 ·dsimp only
  rw [zk (by omega),zY (zM ⟨by omega,by omega⟩),qg _ _ i hi,zzF,zr,zY (ZA (by simp only [List.length_map,List.length_take];omega)),zl (x:=(i:Int)+1) (by omega) (by omega),←hn,ztz _ _ _ hi]
  rfl
def zun (P:List Pt) (a b:Int):Bool:=P.any fun q=>decide (Ins (pt P a) (pt P b) q)
def ztI (P l:List Pt) (a b:Int):Bool:=l.any fun s=>decide ((Qq (pt P a) (pt P b) (pt P s.1) (pt P s.2)).1>1)
def zev (p:zx) (l:List Pt) (a b:Int):Bool:=!zun p.1 a b&&(!ztI p.1 l a b&&decide ((KL p.1 p.2.1 [a,b]).1=1))
theorem zzK (b c:Bool):(bif b then some false else some c)=some (!b&&c):=by cases b<;>rfl
theorem zxT (m:Nat) {p:zx} {l:List Pt} {a b:Int} (hp:p.1.length≤300) (hL:p.2.1.length≤350) (hl:l.length≤900) (ha:inr a p.1.length) (hb:inr b p.1.length) (hs:∀s∈l,oks p.1.length s):KI (m+1000) p l a b=some (zev p l a b):=by
 unfold KI zea zev
 have ep:∀i:Int,((rdD (0,0) p.1 i).1,(rdD (0,0) p.1 i).2)=pt p.1 i:=fun _=>rfl
 refine (zaf (fun i=>(l,a,b,p,p.1,(p.1.length:Int),(i:Int))) p.1.length (fun i=>decide (Ins (pt p.1 a) (pt p.1 b) (rdD (0,0) p.1 (i:Int)))) (some false) (some (!ztI p.1 l a b&&decide ((KL p.1 p.2.1 [a,b]).1=1))) rfl (fun next=>?_) (fun i hi next=>?_) _ (by omega)).trans ?_
 ·dsimp only
  rw [zh (by omega)]
  refine (zaf (fun i=>(a,b,p,l,(l.length:Int),(i:Int))) l.length (fun i=>decide ((Qq (pt p.1 a) (pt p.1 b) (pt p.1 (rdD (0,0) l (i:Int)).1) (pt p.1 (rdD (0,0) l (i:Int)).2)).1>1)) (some false) (some (decide ((KL p.1 p.2.1 [a,b]).1=1))) rfl (fun next=>?_) (fun i hi next=>?_) _ (by omega)).trans ?_
  ·dsimp only
   rw [zh (by omega),zxw m _ _ _ _ hL,zr]
  ·dsimp only
   have h0:=hs _ (List.getElem_mem hi)
   rw [zk (by omega),zY (zM ⟨by omega,by omega⟩),zY (zM ha),zY (zM hb),qg _ l i hi,zY (zM h0.1),zY (zM h0.2),ep,ep,ep,ep,zzr,zr,zl (x:=(i:Int)+1) (by omega) (by omega)]
   rfl
  ·rw [zl2 (0,0) l fun s=>decide ((Qq (pt p.1 a) (pt p.1 b) (pt p.1 s.1) (pt p.1 s.2)).1>1)]
   exact zzK _ _
 ·dsimp only
  rw [zk (by omega),zY (zM ⟨by omega,by omega⟩),zY (zM ha),zY (zM hb),ep,ep,ep,zy7,zr,zl (x:=(i:Int)+1) (by omega) (by omega)]
  rfl
 ·rw [zl2 (0,0) p.1 fun q=>decide (Ins (pt p.1 a) (pt p.1 b) q)]
  exact zzK _ _
def zeM (p:zx) (a:Nat) (l:List Pt) (b:Nat):List Pt:=if zev p l (a:Int) (b:Int)=true then l++[((a:Int),(b:Int))] else l
def zfk (p:zx) (a j:Nat) (l:List Pt):List Pt:=(List.range' (a+1) j).foldl (zeM p a) l
def zds (p:zx) (j:Nat) (l:List Pt):List Pt:=(List.range j).foldl (fun l a=>zfk p a (p.1.length-(a+1)) l) l
theorem zab (p:zx) (a j:Nat) (l:List Pt):zfk p a (j+1) l=zeM p a (zfk p a j l) (a+1+j):=by
 unfold zfk
 rw [List.range'_concat,List.foldl_append,Nat.one_mul]
 rfl
theorem zb3 (p:zx) (j:Nat) (l:List Pt):zds p (j+1) l=zfk p j (p.1.length-(j+1)) (zds p j l):=by
 unfold zds
 rw [List.range_succ,List.foldl_append]
 rfl
structure zkn (p:zx) (l:List Pt) (c:Nat):Prop where
 ok:∀s∈l,oks p.1.length s
 len:l.length≤120+c
theorem zkn.step {p:zx} {l:List Pt} {c a b:Nat} (h:zkn p l c) (ha:a<p.1.length) (hb:b<p.1.length):zkn p (zeM p a l b) (c+1):=by
 unfold zeM
 split
 ·refine ⟨fun s hs=>?_,by rw [List.length_append];have:=h.len;simp;omega⟩
  rcases List.mem_append.1 hs with hs|hs
  ·exact h.ok s hs
  ·rw [List.mem_singleton.1 hs]
   exact ⟨⟨by omega,by dsimp only;omega⟩,⟨by omega,by dsimp only;omega⟩⟩
 ·exact ⟨h.ok,by have:=h.len;omega⟩
theorem zkn.inn {p:zx} {l:List Pt} {c a:Nat} (h:zkn p l c):∀j,a+1+j≤p.1.length→zkn p (zfk p a j l) (c+j)
 |0,_=>h
 |j+1,hj=>by
  rw [zab]
  exact (h.inn j (by omega)).step (by omega) (by omega)
theorem zkn.out {p:zx} {l:List Pt} (h:zkn p l 0):∀j,j≤p.1.length→zkn p (zds p j l) (24*j)∨24<p.1.length
 |0,_=>.inl h
 |j+1,hj=>by
  by_cases hn:24<p.1.length
  ·exact .inr hn
  ·rcases h.out j (by omega) with h1|h1
   ·refine .inl ?_
    rw [zb3]
    have h2:=h1.inn (a:=j) (p.1.length-(j+1)) (by omega)
    exact ⟨h2.ok,by have:=h2.len;omega⟩
   ·exact .inr h1
theorem zxB {n:Nat} {s:Pt} (h:oks n s):oks n (up s):=by
 obtain ⟨⟨h1,h2⟩,⟨h3,h4⟩⟩:=h
 refine ⟨⟨?_,?_⟩,⟨?_,?_⟩⟩<;>(unfold up mnI mxI;dsimp only;split<;>omega)
theorem zsh (p:zx):(QG p).length=(sgs p).length:=by unfold QG;rw [(Kp _ _).length_eq,List.length_map]
theorem zb4 (p:zx) (s:Pt):s∈QG p↔∃q∈sgs p,up q=s:=by unfold QG;rw [(Kp _ _).mem_iff,List.mem_map]
theorem zm2 {p:zx} (h:Sm p) (h1:p.2.1.length≤60) (h2:p.2.2.length≤60):zkn p (QG p) 0:=by
 refine ⟨fun s hs=>?_,?_⟩
 ·obtain ⟨q,hq,rfl⟩:=(zb4 p s).1 hs
  exact zxB (h.s q hq)
 ·rw [zsh]
  show (p.2.1++p.2.2).length≤_
  rw [List.length_append];omega
def ZL (p:zx):List Pt:=YA Jr (zds p p.1.length (QG p))
theorem zuB (m:Nat) {p:zx} (h:Sm p):JO (m+1000) p=some (zbR p):=by
 unfold JO zcW
 rw [show QW (m+1000) (p.1,p.2.1,p.2.2)=some (zkU p,0) from zvt m h,zr]
 rfl
structure Few (p:zx):Prop where
 sm:Sm p
 n:p.1.length≤24
 l:p.2.1.length≤60
 i:p.2.2.length≤60
theorem znx (m:Nat) {p:zx} (h:Few p):jl (m+1000) p=some (if zbR p=true then (ZL p,0) else ([],2)):=by
 unfold jl zct
 rw [show JO (m+1000) (p.1,p.2.1,p.2.2)=_ from zuB m h.sm,zr]
 cases hg:zbR p with
 |false=>rfl
 |true =>
  simp only [Bool.not_true,cF,if_true]
  have hn:=h.n;have hL:=h.l;have hI:=h.i
  rw [show Zy (m+1000) (p.1,p.2.1,p.2.2)=_ from zry m p (by omega) (by omega),zr]
  have I0:=zm2 h.sm hL hI
  have IO:∀j,j≤p.1.length→zkn p (zds p j (QG p)) (24*j):=fun j hj=>(I0.out j hj).resolve_right (by omega)
  refine JN (fun i=>(p,zds p i (QG p),(p.1.length:Int),(i:Int))) p.1.length rfl (fun next=>?_) (fun i hi next hn'=>?_) _ (by omega)
  ·dsimp only
   have:=(IO p.1.length (Nat.le_refl _)).len
   rw [zh (by omega),zY (ZA (by omega))]
   rfl
  ·dsimp only
   have Ii:=IO i (by omega)
   rw [zk (by omega),zl (x:=(i:Int)+1) (by omega) (by omega)]
   refine JN (fun j=>(p,zfk p i j (zds p i (QG p)),(i:Int),((i+1+j:Nat):Int),(p.1.length:Int),(i:Int))) (p.1.length-(i+1)) ?_ (fun nx=>?_) (fun j hj nx hnx=>?_) _ (by omega)
   ·rfl
   ·dsimp only
    rw [zh (by omega),←hn',zb3,zl (x:=(i:Int)+1) (by omega) (by omega)]
    rfl
   ·dsimp only
    have Ij:=Ii.inn (a:=i) j (by omega)
    have hlen:=Ij.len
    simp only [zz]
    rw [zk (by omega),show KI (m+1000) (p.1,p.2.1,p.2.2) _ _ _=_ from zxT m (p:=p) (l:=zfk p i j (zds p i (QG p))) (a:=(i:Int)) (b:=((i+1+j:Nat):Int)) (by omega) (by omega) (by omega) ⟨by omega,by omega⟩ ⟨by omega,by omega⟩ Ij.ok,zr,zl (x:=((i+1+j:Nat):Int)+1) (by omega) (by omega),←hnx,zab]
    unfold zeM
    cases hgo:zev p (zfk p i j (zds p i (QG p))) (i:Int) ((i+1+j:Nat):Int) with
    |true=>rw [cT,zY (ZA (by omega)),if_pos rfl];rfl
    |false=>rw [cF,if_neg (by decide)];rfl
end Go.Proofs.YtpkkcjmblocjdaaGreat.Pure
end
section
namespace Go.Proofs.YtpkkcjmblocjdaaGreat.Pure
open Go.RowKit Go.Proofs.YtpkkcjmblocjdaaGreat.AM PL
theorem Ka.dist {p:zx} (h:Ka p) {i j:Nat} (hi:i<p.1.length) (hj:j<p.1.length) (e:pt p.1 (i:Int)=pt p.1 (j:Int)):i=j:=by
 have hall:=(YO (alk p.1) (n:=p.1.length) _ 0 rfl (Nat.zero_le _)).1 h.n1
 rcases Nat.lt_trichotomy i j with hlt|he|hgt
 ·exact absurd (decide_eq_true e) (by have:=hall i j (by omega) hlt hj;unfold alk at this;rw [this];decide)
 ·exact he
 ·exact absurd (decide_eq_true e.symm) (by have:=hall j i (by omega) hgt hi;unfold alk at this;rw [this];decide)
theorem Ka.distI {p:zx} (h:Ka p) {i j:Int} (hi:inr i p.1.length) (hj:inr j p.1.length) (e:pt p.1 i=pt p.1 j):i=j:=by
 obtain ⟨h1,h2⟩:=hi
 obtain ⟨h3,h4⟩:=hj
 have:=h.dist (i:=i.toNat) (j:=j.toNat) (by omega) (by omega) (by rwa [Int.toNat_of_nonneg h1,Int.toNat_of_nonneg h3])
 omega
theorem zkO {P:List Pt} {a b:Int}:zun P a b=false↔∀q∈P,¬Ins (pt P a) (pt P b) q:=by
 unfold zun
 rw [List.any_eq_false]
 simp
theorem zas {P l:List Pt} {a b:Int}:ztI P l a b=false↔∀s∈l,(Qq (pt P a) (pt P b) (pt P s.1) (pt P s.2)).1≤1:=by
 unfold ztI
 rw [List.any_eq_false]
 constructor
 ·intro h s hs
  have:=h s hs
  rw [decide_eq_true_eq] at this
  omega
 ·intro h s hs
  have:=h s hs
  rw [decide_eq_true_eq]
  omega
theorem zcs {p:zx} {l:List Pt} {a b:Int}:zev p l a b=true↔zun p.1 a b=false∧ztI p.1 l a b=false∧(KL p.1 p.2.1 [a,b]).1=1:=by
 unfold zev
 simp
theorem zpn {p:zx} {l l':List Pt} {a b:Int} (h:∀s∈l,s∈l') (hg:zev p l' a b=true):zev p l a b=true:=by
 rw [zcs] at *
 exact ⟨hg.1,zas.2 fun s hs=>zas.1 hg.2.1 s (h s hs),hg.2.2⟩
theorem zur {p:zx} (hF:Ka p) {l:List Pt} {a b:Int} (ha:inr a p.1.length) (hb:inr b p.1.length) (hab:a≠b) (h:zev p l a b=true):(a,b)∉l:=by
 intro hm
 have h1:=zas.1 (zcs.1 h).2.1 _ hm
 dsimp only at h1
 rw [zhw (fun e=>hab (hF.distI ha hb e)) (hF.sm.fit ha) (hF.sm.fit hb)] at h1
 omega
structure zie (p:zx) (l:List Pt):Prop where
 ok:∀s∈l,oks p.1.length s∧s.1<s.2
 nd:l.Nodup
 apart:l.Pairwise fun s q=>(Qq (pt p.1 q.1) (pt p.1 q.2) (pt p.1 s.1) (pt p.1 s.2)).1≤1
 old:∀s∈QG p,s∈l
 new:∀s∈l,s∈QG p∨(zun p.1 s.1 s.2=false∧(KL p.1 p.2.1 [s.1,s.2]).1=1)
theorem zhp {p:zx} {a b:Nat} {l:List Pt}:∀s∈l,s∈zeM p a l b:=by
 intro s hs
 unfold zeM
 split
 ·exact List.mem_append_left _ hs
 ·exact hs
theorem zie.step {p:zx} (hF:Ka p) {l:List Pt} {a b:Nat} (h:zie p l) (hab:a<b) (hb:b<p.1.length):zie p (zeM p a l b):=by
 have ha':inr (a:Int) p.1.length:=⟨by omega,by omega⟩
 have hb':inr (b:Int) p.1.length:=⟨by omega,by omega⟩
 unfold zeM
 split
 ·rename_i hg
  have hno:=zur hF ha' hb' (by omega) hg
  have hg':=zcs.1 hg
  refine ⟨fun s hs=>?_,?_,?_,fun s hs=>List.mem_append_left _ (h.old s hs),fun s hs=>?_⟩
  ·rcases List.mem_append.1 hs with hs|hs
   ·exact h.ok s hs
   ·rw [List.mem_singleton.1 hs]
    exact ⟨⟨ha',hb'⟩,by dsimp only;omega⟩
  ·rw [List.nodup_append]
   exact ⟨h.nd,by simp,fun x hx y hy e=>hno (by rw [List.mem_singleton.1 hy] at e;rw [←e];exact hx)⟩
  ·rw [List.pairwise_append]
   refine ⟨h.apart,by simp,fun s hs q hq=>?_⟩
   rw [List.mem_singleton.1 hq]
   exact zas.1 hg'.2.1 s hs
  ·rcases List.mem_append.1 hs with hs|hs
   ·exact h.new s hs
   ·rw [List.mem_singleton.1 hs]
    exact .inr ⟨hg'.1,hg'.2.2⟩
 ·exact h
theorem zie.inn {p:zx} (hF:Ka p) {l:List Pt} {a:Nat} (h:zie p l):∀j,a+1+j≤p.1.length→zie p (zfk p a j l)
 |0,_=>h
 |j+1,hj=>by
  rw [zab]
  exact (zie.inn hF h j (by omega)).step hF (by omega) (by omega)
theorem zie.out {p:zx} (hF:Ka p) {l:List Pt} (h:zie p l):∀j,j≤p.1.length→zie p (zds p j l)
 |0,_=>h
 |j+1,hj=>by
  rw [zb3]
  exact (zie.out hF h j (by omega)).inn hF _ (by omega)
theorem zy5 {s:Pt} (h:s.1≠s.2):(up s).1<(up s).2:=by
 unfold up mnI mxI
 dsimp only
 (repeat' split)<;>omega
theorem zey (s:Pt):up s=s∨up s=rv s:=by
 unfold up rv mnI mxI
 by_cases h:s.1≤s.2
 ·refine .inl (Prod.ext ?_ ?_)<;>(dsimp only;split<;>omega)
 ·refine .inr (Prod.ext ?_ ?_)<;>(dsimp only;split<;>omega)
theorem zqp (P:List Pt) (s:Pt) (c d:Pt):Qq (pt P (up s).1) (pt P (up s).2) c d=Qq (pt P s.1) (pt P s.2) c d:=by
 rcases zey s with e|e
 ·rw [e]
 ·rw [e]
  unfold rv
  exact zbO _ _ _ _
theorem zlQ {p:zx} (hF:Ka p):(sgs p).Pairwise fun s q=>(Qq (pt p.1 q.1) (pt p.1 q.2) (pt p.1 s.1) (pt p.1 s.2)).1≤1:=by
 have hall:=(YO (qM (ens p)) (n:=(ens p).length) _ 0 rfl (Nat.zero_le _)).1 hF.n3
 rw [List.pairwise_iff_getElem]
 intro i j hi hj hij
 have:=hall i j (by omega) hij (by rw [zcI];exact hj)
 unfold qM at this
 rw [YS p hi,YS p hj,Qk hi,Qk hj] at this
 have:=of_decide_eq_false this
 unfold en at this
 dsimp only at this
 rw [QY]
 omega
theorem zwp {p:zx} (hF:Ka p):zie p (QG p):=by
 have hnd:((sgs p).map up).Nodup:=by
  rw [List.nodup_iff_pairwise_ne,List.pairwise_map]
  exact hF.two
 refine ⟨fun s hs=>?_,(Kp _ _).symm.nodup hnd,?_,fun s hs=>hs,fun s hs=>.inl hs⟩
 ·obtain ⟨q,hq,rfl⟩:=(zb4 p s).1 hs
  exact ⟨zxB (hF.sm.s q hq),zy5 (hF.ok q hq).2⟩
 ·have h1:((sgs p).map up).Pairwise fun s q=>(Qq (pt p.1 q.1) (pt p.1 q.2) (pt p.1 s.1) (pt p.1 s.2)).1≤1:=by
   rw [List.pairwise_map]
   refine (zlQ hF).imp fun {s q} h=>?_
   rw [zqp,QY,zqp,QY]
   exact h
  exact ((Kp Jr ((sgs p).map up)).pairwise_iff (fun {s q} h=>by rw [QY];exact h)).2 h1
theorem zoA {p:zx} {a:Nat} {l:List Pt}:∀j,∀s∈l,s∈zfk p a j l
 |0,s,hs=>hs
 |j+1,s,hs=>by rw [zab];exact zhp s (zoA j s hs)
theorem zlR {p:zx} {a:Nat} {l:List Pt} (j:Nat):∀d,∀s∈zfk p a j l,s∈zfk p a (j+d) l
 |0,s,hs=>hs
 |d+1,s,hs=>by rw [show j+(d+1)=(j+d)+1 by omega,zab];exact zhp s (zlR j d s hs)
theorem zlp {p:zx} {l:List Pt} (j:Nat):∀d,∀s∈zds p j l,s∈zds p (j+d) l
 |0,s,hs=>hs
 |d+1,s,hs=>by rw [show j+(d+1)=(j+d)+1 by omega,zb3];exact zoA _ s (zlp j d s hs)
def edg (p:zx):List Pt:=zds p p.1.length (QG p)
theorem zaH {p:zx} (hF:Ka p):zie p (edg p):=(zwp hF).out hF _ (Nat.le_refl _)
theorem zxj {p:zx} {a b:Nat} (hab:a<b) (hb:b<p.1.length):((a:Int),(b:Int))∈edg p∨zev p (edg p) (a:Int) (b:Int)=false:=by
 have sub:∀s∈zfk p a (p.1.length-(a+1)) (zds p a (QG p)),s∈edg p:=by
  intro s hs
  rw [←zb3] at hs
  have:=zlp (p:=p) (l:=QG p) (a+1) (p.1.length-(a+1)) s hs
  rwa [show a+1+(p.1.length-(a+1))=p.1.length by omega] at this
 have sub1:∀s∈zeM p a (zfk p a (b-(a+1)) (zds p a (QG p))) b,s∈edg p:=by
  intro s hs
  have e:=zab p a (b-(a+1)) (zds p a (QG p))
  rw [show a+1+(b-(a+1))=b by omega] at e
  rw [←e] at hs
  have:=zlR (p:=p) (b-(a+1)+1) (p.1.length-(a+1)-(b-(a+1)+1)) s hs
  rw [show b-(a+1)+1+(p.1.length-(a+1)-(b-(a+1)+1))=p.1.length-(a+1) by omega] at this
  exact sub s this
 cases hg:zev p (zfk p a (b-(a+1)) (zds p a (QG p))) (a:Int) (b:Int) with
 |true =>
  refine .inl (sub1 _ ?_)
  unfold zeM
  rw [if_pos hg]
  exact List.mem_append_right _ (by simp)
 |false =>
  refine .inr ?_
  rw [Bool.eq_false_iff]
  intro h
  have:=zpn (fun s hs=>sub1 s (zhp s hs)) h
  rw [hg] at this
  cases this
theorem jU (p:zx) (s:Pt):s∈ZL p↔s∈edg p:=(Kp Jr (edg p)).mem_iff
theorem zcE {p:zx} (hF:Ka p):(ZL p).Pairwise ltS:=zji.srt zyU (zaH hF).nd
end Go.Proofs.YtpkkcjmblocjdaaGreat.Pure
end
section
namespace Go.Proofs.YtpkkcjmblocjdaaGreat.Pure
open Go.RowKit Go.Proofs.YtpkkcjmblocjdaaGreat.AM PL
def inT (P:List Pt) (t:Tr) (q:Pt):Bool:=decide (ori (pt P t.1) (pt P t.2.1) q≥0)&&(decide (ori (pt P t.2.1) (pt P t.2.2) q≥0)&&decide (ori (pt P t.2.2) (pt P t.1) q≥0))
def zsg (t:Tr) (i:Int):Bool:=!(decide (i=t.1))&&(!(decide (i=t.2.1))&&!(decide (i=t.2.2)))
def zoy (P:List Pt) (t:Tr):Bool:=!((List.range P.length).any fun i=>zsg t (i:Int)&&inT P t (pt P (i:Int)))
theorem zy9 (m:Nat) {P:List Pt} {t:Tr} (h:inr t.1 P.length∧inr t.2.1 P.length∧inr t.2.2 P.length) (q:Pt):zae (m+1000) P t q=some (inT P t q):=by
 unfold zae zhz inT
 have ep:∀i:Int,((rdD (0,0) P i).1,(rdD (0,0) P i).2)=pt P i:=fun _=>rfl
 have eq:((q.1,q.2):Pt)=q:=rfl
 simp only [zz,Q9 h.1,Q9 h.2.1,Q9 h.2.2,gT,ep,eq,zzc,zr]
 cases decide (ori (pt P t.1) (pt P t.2.1) q≥0)<;>cases decide (ori (pt P t.2.1) (pt P t.2.2) q≥0)<;>rfl
theorem zvW (m:Nat) {P:List Pt} {t:Tr} (hp:P.length≤900) (h:inr t.1 P.length∧inr t.2.1 P.length∧inr t.2.2 P.length):Zr (m+1000) P t=some (zoy P t):=by
 unfold Zr zcH zoy
 refine (zaf (fun i=>(P,t,P,(P.length:Int),(i:Int))) P.length (fun i=>zsg t (i:Int)&&inT P t (pt P (i:Int))) (some false) (some true) rfl (fun next=>?_) (fun i hi next=>?_) _ (by omega)).trans ?_
 ·dsimp only
  rw [zh (by omega)]
 ·dsimp only
  have ep:∀i:Int,((rdD (0,0) P i).1,(rdD (0,0) P i).2)=pt P i:=fun _=>rfl
  simp only [zz,ep]
  rw [zk (by omega),zY (zM ⟨by omega,by omega⟩),show zae (m+1000) P (t.1,t.2.1,t.2.2) (pt P (i:Int))=_ from zy9 m h _,zr,zl (x:=(i:Int)+1) (by omega) (by omega)]
  unfold zsg
  cases decide ((i:Int)=t.1)<;>cases decide ((i:Int)=t.2.1)<;>cases decide ((i:Int)=t.2.2)<;>rfl
 ·cases (List.range P.length).any fun i=>zsg t (i:Int)&&inT P t (pt P (i:Int))<;>rfl
def zij (p:zx) (E:List Pt) (s:Pt) (c:Int):Option Tr :=
 if (s.1,c)∈E∧(s.2,c)∈E∧(KN p.1 s.1 s.2 c).2=true∧(KL p.1 p.2.1 [s.1,s.2,c]).1=1∧zoy p.1 (KN p.1 s.1 s.2 c).1=true then some (KN p.1 s.1 s.2 c).1 else none
def znm (p:zx) (E:List Pt) (s:Pt) (j:Nat):List Tr:=(List.range j).filterMap fun (j:Nat)=>zij p E s (s.2+1+(j:Int))
def cnt (p:zx) (s:Pt):Nat:=p.1.length-(s.2.toNat+1)
def zk7 (p:zx) (E:List Pt) (s:Pt):List Tr:=znm p E s (cnt p s)
def znr (p:zx) (E:List Pt):List Tr:=E.flatMap (zk7 p E)
def ZK (p:zx):List Tr:=YA KK (znr p (ZL p))
theorem zrN (p:zx) (E:List Pt) (s:Pt) (j:Nat):znm p E s (j+1)=znm p E s j++(zij p E s (s.2+1+(j:Int))).toList:=by
 unfold znm
 rw [List.range_succ,List.filterMap_append]
 cases h:zij p E s (s.2+1+(j:Int))<;>simp [h]
theorem zoU (p:zx) (E:List Pt) (s:Pt) (j:Nat):(znm p E s j).length≤j:=by
 unfold znm
 exact Nat.le_trans (List.length_filterMap_le _ _) (by rw [List.length_range];exact Nat.le_refl _)
theorem zah {α β:Type} (f:α→List β) (n:Nat):∀l:List α,(∀x∈l,(f x).length≤n)→(l.flatMap f).length≤l.length*n
 |[],_=>by simp
 |x::l,h=>by
  rw [List.flatMap_cons,List.length_append,List.length_cons,Nat.add_mul,Nat.one_mul]
  have h1:=h x List.mem_cons_self
  have h2:=zah f n l fun y hy=>h y (List.mem_cons_of_mem _ hy)
  omega
theorem zyw (m:Nat) (p l:List Pt) (a b c:Int) (hl:l.length≤350):Za (m+1000) p l a b c=some (KL p l [a,b,c]):=by
 unfold Za zaF
 rw [show jP (m+1000) p l [a,b,c]=_ from znO (m+600) p l [a,b,c] (by simp) (by simp) hl]
 rfl
theorem zuI {p:zx} (h:Few p):∀s∈ZL p,oks p.1.length s:=by
 intro s hs
 rw [jU] at hs
 exact (((zm2 h.sm h.l h.i).out p.1.length (Nat.le_refl _)).resolve_right (by have:=h.n;omega)).ok s hs
theorem zpc {p:zx} (h:Few p):(ZL p).length≤696:=by
 have h1:=(((zm2 h.sm h.l h.i).out p.1.length (Nat.le_refl _)).resolve_right (by have:=h.n;omega)).len
 have h2:=h.n
 unfold ZL
 rw [(Kp _ _).length_eq]
 omega
theorem zzT (m:Nat) {ρ:Type} {p:zx} (h:Few p) {D:ZT} (E:List Pt) (hE:E.length≤700) (A:List Tr) (hA:A.length≤20000) {R S:List Pt} {s:Pt} (hs:oks p.1.length s) {x26:List Pt} {x27 x28:Int} {K:ZT→List Pt→Int→Int→Option ρ} {F:(zx×ZT×List (Pt×Bool)×ZT×Pt×Int×List Pt×Int×Int)→((zx×ZT×List (Pt×Bool)×ZT×Pt×Int×List Pt×Int×Int)→Option ρ)→Option ρ}
  (hF:∀(c:Int) (B:List Tr) next,0≤c→c<p.1.length→B.length≤30000→F (p,D,yes E,(R,B,S),s,c,x26,x27,x28) next=next (p,D,yes E,(R,B++(zij p E s c).toList,S),s,c+1,x26,x27,x28))
  (hK:∀(B:List Tr) next,F (p,D,yes E,(R,B,S),s,(p.1.length:Int),x26,x27,x28) next=K (R,B,S) x26 x27 x28) :
  zA F (m+1000) (p,D,yes E,(R,A,S),s,s.2+1,x26,x27,x28)=K (R,A++zk7 p E s,S) x26 x27 x28:=by
 obtain ⟨_,h1,h2⟩:=hs
 have hn:=h.n
 refine JN (fun j=>(p,D,yes E,(R,A++znm p E s j,S),s,s.2+1+(j:Int),x26,x27,x28)) (cnt p s) ?_ (fun nx=>?_) (fun j hj nx hnx=>?_) _ (by unfold cnt;omega)
 ·show _=(p,D,yes E,(R,A++[],S),s,s.2+1+((0:Nat):Int),x26,x27,x28)
  rw [List.append_nil,show s.2+1+((0:Nat):Int)=s.2+1 by omega]
 ·rw [show s.2+1+(cnt p s:Int)=(p.1.length:Int) by unfold cnt;omega]
  exact hK _ _
 ·have:=zoU p E s j
  unfold cnt at hj
  rw [hF _ _ _ (by omega) (by omega) (by rw [List.length_append];omega),←hnx,zrN,List.append_assoc,show s.2+1+((j+1:Nat):Int)=s.2+1+(j:Int)+1 by omega]
end Go.Proofs.YtpkkcjmblocjdaaGreat.Pure
end
section
namespace Go.Proofs.YtpkkcjmblocjdaaGreat.Pure
open Go.RowKit Go.Proofs.YtpkkcjmblocjdaaGreat.AM PL
abbrev St9:Type:=zx×ZT×List (Pt×Bool)×ZT×Pt×Int×List Pt×Int×Int
theorem zyf (m : Nat) {ρ : Type} {p : zx} (h : Few p) {D : ZT} (E : List Pt) {R S : List Pt} {s : Pt} (hs : oks p.1.length s) {x26 : List Pt} {x27 x28 : Int} {K : zx → ZT → List (Pt × Bool) → ZT → List Pt → Int → Int → Option ρ} {F : St9 → (St9 → Option ρ) → Option ρ}
    (hF : ∀ (x20 : zx) (x21 : ZT) x22 (x23 : ZT) (x24 : Pt) (x25 : Int) x26 x27 x28 next19, F (x20, x21, x22, x23, x24, x25, x26, x27, x28) next19 =
        bif decide (x25 < (x20.1.length : Int)) then
         zz (α := (((List (Int × Int)) × ((List (Int × Int)) × (List (Int × Int)))) × (((List (Int × Int)) × ((List (Int × (Int × Int))) × (List (Int × Int)))) × ((List ((Int × Int) × Bool)) × (((List (Int × Int)) × ((List (Int × (Int × Int))) × (List (Int × Int)))) × ((Int × Int) × (Int × ((List (Int × Int)) × (Int × Int))))))))) (fun (y29, y30, y31, y32, y33, y34, y35, y36, y37) =>
          next19 ((y29.1, y29.2.1, y29.2.2), (y30.1, y30.2.1, y30.2.2), y31, (y32.1, y32.2.1, y32.2.2), (y33.1, y33.2), w64 (y34 + 1), y35, y36, y37)) fun j38 =>
         zz (α := (((List (Int × Int)) × ((List (Int × Int)) × (List (Int × Int)))) × (((List (Int × Int)) × ((List (Int × (Int × Int))) × (List (Int × Int)))) × ((List ((Int × Int) × Bool)) × (((List (Int × Int)) × ((List (Int × (Int × Int))) × (List (Int × Int)))) × ((Int × Int) × (Int × ((List (Int × Int)) × (Int × (Int × Bool)))))))))) (fun (y39, y40, y41, y42, y43, y44, y45, y46, y47, y48) =>
          bif y48 then
           j38 ((y39.1, y39.2.1, y39.2.2), (y40.1, y40.2.1, y40.2.2), y41, (y42.1, y42.2.1, y42.2.2), (y43.1, y43.2), y44, y45, y46, y47)
          else
           bnd (ZE (m + 1000) y39.1 y43.1 y43.2 y44) fun r49 =>
           bnd (Za (m + 1000) y39.1 y39.2.1 y43.1 y43.2 y44) fun r50 =>
           zz (α := (((List (Int × Int)) × ((List (Int × Int)) × (List (Int × Int)))) × (((List (Int × Int)) × ((List (Int × (Int × Int))) × (List (Int × Int)))) × ((List ((Int × Int) × Bool)) × (((List (Int × Int)) × ((List (Int × (Int × Int))) × (List (Int × Int)))) × ((Int × Int) × (Int × ((Int × (Int × Int)) × ((List (Int × Int)) × (Int × (Int × Bool))))))))))) (fun (y51, y52, y53, y54, y55, y56, y57, y58, y59, y60, y61) =>
            zz (α := (((List (Int × Int)) × ((List (Int × Int)) × (List (Int × Int)))) × (((List (Int × Int)) × ((List (Int × (Int × Int))) × (List (Int × Int)))) × ((List ((Int × Int) × Bool)) × (((List (Int × Int)) × ((List (Int × (Int × Int))) × (List (Int × Int)))) × ((Int × Int) × (Int × ((List (Int × Int)) × (Int × Int))))))))) (fun (y62, y63, y64, y65, y66, y67, y68, y69, y70) =>
             j38 ((y62.1, y62.2.1, y62.2.2), (y63.1, y63.2.1, y63.2.2), y64, (y65.1, y65.2.1, y65.2.2), (y66.1, y66.2), y67, y68, y69, y70)) fun j71 =>
            bif y61 then
             gd (few (y54.2.1.length + 1)) <|
             j71 ((y51.1, y51.2.1, y51.2.2), (y52.1, y52.2.1, y52.2.2), y53, (y54.1, y54.2.1 ++ [(y57.1, y57.2.1, y57.2.2)], y54.2.2), (y55.1, y55.2), y56, y58, y59, y60)
            else
             j71 ((y51.1, y51.2.1, y51.2.2), (y52.1, y52.2.1, y52.2.2), y53, (y54.1, y54.2.1, y54.2.2), (y55.1, y55.2), y56, y58, y59, y60)) fun j72 =>
           bif r49.2 then
            bif decide (r50.1 = 1) then
             bnd (Zr (m + 1000) y39.1 (r49.1.1, r49.1.2.1, r49.1.2.2)) fun r73 =>
             j72 ((y39.1, y39.2.1, y39.2.2), (y40.1, y40.2.1, y40.2.2), y41, (y42.1, y42.2.1, y42.2.2), (y43.1, y43.2), y44, (r49.1.1, r49.1.2.1, r49.1.2.2), y45, y46, y47, r73)
            else
             j72 ((y39.1, y39.2.1, y39.2.2), (y40.1, y40.2.1, y40.2.2), y41, (y42.1, y42.2.1, y42.2.2), (y43.1, y43.2), y44, (r49.1.1, r49.1.2.1, r49.1.2.2), y45, y46, y47, false)
           else
            j72 ((y39.1, y39.2.1, y39.2.2), (y40.1, y40.2.1, y40.2.2), y41, (y42.1, y42.2.1, y42.2.2), (y43.1, y43.2), y44, (r49.1.1, r49.1.2.1, r49.1.2.2), y45, y46, y47, false)) fun j74 =>
         bif !(toT Bool (lkM (.pair (.int .i64) (.int .i64)) .bool x22 (x24.1, x25))) then
          j74 ((x20.1, x20.2.1, x20.2.2), (x21.1, x21.2.1, x21.2.2), x22, (x23.1, x23.2.1, x23.2.2), (x24.1, x24.2), x25, x26, x27, x28, true)
         else
          j74 ((x20.1, x20.2.1, x20.2.2), (x21.1, x21.2.1, x21.2.2), x22, (x23.1, x23.2.1, x23.2.2), (x24.1, x24.2), x25, x26, x27, x28, !(toT Bool (lkM (.pair (.int .i64) (.int .i64)) .bool x22 (x24.2, x25))))
        else
         K x20 x21 x22 x23 x26 x27 x28) (c : Int) (B : List Tr) (next : St9 → Option ρ) (hc0 : 0 ≤ c) (hc : c < p.1.length) (hB : B.length ≤ 30000) :
    F (p, D, yes E, (R, B, S), s, c, x26, x27, x28) next = next (p, D, yes E, (R, B ++ (zij p E s c).toList, S), s, c + 1, x26, x27, x28) := by
  have hn := h.n
  have k1 : toT Bool (lkM (.pair (.int .i64) (.int .i64)) .bool (yes E) (s.1, c)) = decide ((s.1, c) ∈ E) := zdN E (s.1, c)
  have k2 : toT Bool (lkM (.pair (.int .i64) (.int .i64)) .bool (yes E) (s.2, c)) = decide ((s.2, c) ∈ E) := zdN E (s.2, c)
  have et := zxx m p.1 s.1 s.2 c (by omega)
  have eh := zyw m p.1 p.2.1 s.1 s.2 c (by have := h.l; omega)
  have ea : B ++ [] = B := List.append_nil B
  rw [hF, zk (by omega)]
  simp only [zz, k1, k2]
  rw [zl (x := c + 1) (by omega) (by omega)]
  unfold zij
  by_cases h1 : (s.1, c) ∈ E
  · rw [zcQ h1]
    by_cases h2 : (s.2, c) ∈ E
    · rw [decide_eq_true h2]
      simp only [Bool.not_true, cF]
      rw [et, zr, eh, zr]
      by_cases h3 : (KN p.1 s.1 s.2 c).2 = true
      · rw [JV h3]
        by_cases h4 : (KL p.1 p.2.1 [s.1, s.2, c]).1 = 1
        · rw [zk h4]
          have hr : inr (KN p.1 s.1 s.2 c).1.1 p.1.length ∧ inr (KN p.1 s.1 s.2 c).1.2.1 p.1.length ∧ inr (KN p.1 s.1 s.2 c).1.2.2 p.1.length := by
            have hr0 : inr c p.1.length := ⟨hc0, hc⟩
            unfold KN at h3 ⊢
            rw [if_pos ⟨hs.1, hs.2, hr0⟩] at h3 ⊢
            split at h3
            · cases h3
            · rename_i h0
              rw [if_neg h0]
              have r3 : ∀ x y z : Int, inr x p.1.length → inr y p.1.length → inr z p.1.length → inr (zdD x y z).1 p.1.length ∧ inr (zdD x y z).2.1 p.1.length ∧ inr (zdD x y z).2.2 p.1.length := by
                intro x y z hx hy hz
                unfold zdD
                (repeat' split)
                · exact ⟨hx, hy, hz⟩
                · exact ⟨hy, hz, hx⟩
                · exact ⟨hz, hx, hy⟩
              split
              · exact r3 _ _ _ hs.1 hr0 hs.2
              · exact r3 _ _ _ hs.1 hs.2 hr0
          rw [show Zr (m + 1000) p.1 ((KN p.1 s.1 s.2 c).1.1, (KN p.1 s.1 s.2 c).1.2.1, (KN p.1 s.1 s.2 c).1.2.2) = _ from zvW m (by omega) hr, zr]
          by_cases h5 : zoy p.1 (KN p.1 s.1 s.2 c).1 = true
          · rw [if_pos ⟨h1, h2, h3, h4, h5⟩, JV h5, zY (ZA (by omega))]
            rfl
          · rw [if_neg (fun x => h5 x.2.2.2.2), Z7 (by simpa using h5)]
            show _ = next (p, D, yes E, (R, B ++ [], S), s, c + 1, x26, x27, x28)
            rw [ea]
        · rw [zh h4, if_neg (fun x => h4 x.2.2.2.1)]
          show _ = next (p, D, yes E, (R, B ++ [], S), s, c + 1, x26, x27, x28)
          rw [ea]
      · rw [Z7 (by simpa using h3), if_neg (fun x => h3 x.2.2.1)]
        show _ = next (p, D, yes E, (R, B ++ [], S), s, c + 1, x26, x27, x28)
        rw [ea]
    · rw [decide_eq_false h2, if_neg (fun x => h2 x.2.1)]
      simp only [Bool.not_false, cT]
      show _ = next (p, D, yes E, (R, B ++ [], S), s, c + 1, x26, x27, x28)
      rw [ea]
  · rw [zgh h1, if_neg (fun x => h1 x.1), cT]
    show _ = next (p, D, yes E, (R, B ++ [], S), s, c + 1, x26, x27, x28)
    rw [ea]
theorem zyX (m : Nat) {ρ : Type} {p : zx} (h : Few p) {D : ZT} (E : List Pt) (hE : E.length ≤ 700) (A : List Tr) (hA : A.length ≤ 20000) {R S : List Pt} {s : Pt} (hs : oks p.1.length s) {x26 : List Pt} {x27 x28 : Int} {K : zx → ZT → List (Pt × Bool) → ZT → List Pt → Int → Int → Option ρ} {F : St9 → (St9 → Option ρ) → Option ρ}
    (hF : ∀ (x20 : zx) (x21 : ZT) x22 (x23 : ZT) (x24 : Pt) (x25 : Int) x26 x27 x28 next19, F (x20, x21, x22, x23, x24, x25, x26, x27, x28) next19 =
        bif decide (x25 < (x20.1.length : Int)) then
         zz (α := (((List (Int × Int)) × ((List (Int × Int)) × (List (Int × Int)))) × (((List (Int × Int)) × ((List (Int × (Int × Int))) × (List (Int × Int)))) × ((List ((Int × Int) × Bool)) × (((List (Int × Int)) × ((List (Int × (Int × Int))) × (List (Int × Int)))) × ((Int × Int) × (Int × ((List (Int × Int)) × (Int × Int))))))))) (fun (y29, y30, y31, y32, y33, y34, y35, y36, y37) =>
          next19 ((y29.1, y29.2.1, y29.2.2), (y30.1, y30.2.1, y30.2.2), y31, (y32.1, y32.2.1, y32.2.2), (y33.1, y33.2), w64 (y34 + 1), y35, y36, y37)) fun j38 =>
         zz (α := (((List (Int × Int)) × ((List (Int × Int)) × (List (Int × Int)))) × (((List (Int × Int)) × ((List (Int × (Int × Int))) × (List (Int × Int)))) × ((List ((Int × Int) × Bool)) × (((List (Int × Int)) × ((List (Int × (Int × Int))) × (List (Int × Int)))) × ((Int × Int) × (Int × ((List (Int × Int)) × (Int × (Int × Bool)))))))))) (fun (y39, y40, y41, y42, y43, y44, y45, y46, y47, y48) =>
          bif y48 then
           j38 ((y39.1, y39.2.1, y39.2.2), (y40.1, y40.2.1, y40.2.2), y41, (y42.1, y42.2.1, y42.2.2), (y43.1, y43.2), y44, y45, y46, y47)
          else
           bnd (ZE (m + 1000) y39.1 y43.1 y43.2 y44) fun r49 =>
           bnd (Za (m + 1000) y39.1 y39.2.1 y43.1 y43.2 y44) fun r50 =>
           zz (α := (((List (Int × Int)) × ((List (Int × Int)) × (List (Int × Int)))) × (((List (Int × Int)) × ((List (Int × (Int × Int))) × (List (Int × Int)))) × ((List ((Int × Int) × Bool)) × (((List (Int × Int)) × ((List (Int × (Int × Int))) × (List (Int × Int)))) × ((Int × Int) × (Int × ((Int × (Int × Int)) × ((List (Int × Int)) × (Int × (Int × Bool))))))))))) (fun (y51, y52, y53, y54, y55, y56, y57, y58, y59, y60, y61) =>
            zz (α := (((List (Int × Int)) × ((List (Int × Int)) × (List (Int × Int)))) × (((List (Int × Int)) × ((List (Int × (Int × Int))) × (List (Int × Int)))) × ((List ((Int × Int) × Bool)) × (((List (Int × Int)) × ((List (Int × (Int × Int))) × (List (Int × Int)))) × ((Int × Int) × (Int × ((List (Int × Int)) × (Int × Int))))))))) (fun (y62, y63, y64, y65, y66, y67, y68, y69, y70) =>
             j38 ((y62.1, y62.2.1, y62.2.2), (y63.1, y63.2.1, y63.2.2), y64, (y65.1, y65.2.1, y65.2.2), (y66.1, y66.2), y67, y68, y69, y70)) fun j71 =>
            bif y61 then
             gd (few (y54.2.1.length + 1)) <|
             j71 ((y51.1, y51.2.1, y51.2.2), (y52.1, y52.2.1, y52.2.2), y53, (y54.1, y54.2.1 ++ [(y57.1, y57.2.1, y57.2.2)], y54.2.2), (y55.1, y55.2), y56, y58, y59, y60)
            else
             j71 ((y51.1, y51.2.1, y51.2.2), (y52.1, y52.2.1, y52.2.2), y53, (y54.1, y54.2.1, y54.2.2), (y55.1, y55.2), y56, y58, y59, y60)) fun j72 =>
           bif r49.2 then
            bif decide (r50.1 = 1) then
             bnd (Zr (m + 1000) y39.1 (r49.1.1, r49.1.2.1, r49.1.2.2)) fun r73 =>
             j72 ((y39.1, y39.2.1, y39.2.2), (y40.1, y40.2.1, y40.2.2), y41, (y42.1, y42.2.1, y42.2.2), (y43.1, y43.2), y44, (r49.1.1, r49.1.2.1, r49.1.2.2), y45, y46, y47, r73)
            else
             j72 ((y39.1, y39.2.1, y39.2.2), (y40.1, y40.2.1, y40.2.2), y41, (y42.1, y42.2.1, y42.2.2), (y43.1, y43.2), y44, (r49.1.1, r49.1.2.1, r49.1.2.2), y45, y46, y47, false)
           else
            j72 ((y39.1, y39.2.1, y39.2.2), (y40.1, y40.2.1, y40.2.2), y41, (y42.1, y42.2.1, y42.2.2), (y43.1, y43.2), y44, (r49.1.1, r49.1.2.1, r49.1.2.2), y45, y46, y47, false)) fun j74 =>
         bif !(toT Bool (lkM (.pair (.int .i64) (.int .i64)) .bool x22 (x24.1, x25))) then
          j74 ((x20.1, x20.2.1, x20.2.2), (x21.1, x21.2.1, x21.2.2), x22, (x23.1, x23.2.1, x23.2.2), (x24.1, x24.2), x25, x26, x27, x28, true)
         else
          j74 ((x20.1, x20.2.1, x20.2.2), (x21.1, x21.2.1, x21.2.2), x22, (x23.1, x23.2.1, x23.2.2), (x24.1, x24.2), x25, x26, x27, x28, !(toT Bool (lkM (.pair (.int .i64) (.int .i64)) .bool x22 (x24.2, x25))))
        else
         K x20 x21 x22 x23 x26 x27 x28) :
    zA F (m + 1000) (p, D, yes E, (R, A, S), s, s.2 + 1, x26, x27, x28) = K p D (yes E) (R, A ++ zk7 p E s, S) x26 x27 x28 :=
  zzT m h E hE A hA hs (K := fun a b c d => K p D (yes E) a b c d) (zyf m h E hs hF) (fun B nx => by
    rw [hF]
    exact zh (by show ¬ (p.1.length : Int) < (p.1.length : Int); omega))
abbrev St7:Type:=zx×ZT×List (Pt×Bool)×ZT×List Pt×Int×Int
theorem zzJ (m : Nat) {ρ : Type} {fin : List Pt → List Tr → List Pt → Option ρ} {p : zx} (h : Few p) {D : ZT} {R S : List Pt} (E : List Pt) (hE : E.length ≤ 700) (ho : ∀ s ∈ E, oks p.1.length s) {G : (St7 → Option ρ) → zx → ZT → List (Pt × Bool) → ZT → Pt → Int → List Pt → Int → Int → Option ρ} {F : St7 → (St7 → Option ρ) → Option ρ}
    (hG : ∀ (A : List Tr) (s : Pt) (i : Int) next, A.length ≤ 20000 → oks p.1.length s → G next p D (yes E) (R, A, S) s (s.2 + 1) E (E.length : Int) i = next (p, D, yes E, (R, A ++ zk7 p E s, S), E, (E.length : Int), w64 (i + 1)))
    (hF : ∀ (x12 : zx) (x13 : ZT) x14 (x15 : ZT) (x16 : List Pt) (x17 x18 : Int) next11, F (x12, x13, x14, x15, x16, x17, x18) next11 =
      bif decide (x18 < x17) then
       gd (inb x18 x16.length) <|
       G next11 x12 x13 x14 x15 (rdD (0, 0) x16 x18) (w64 ((rdD (0, 0) x16 x18).2 + 1)) x16 x17 x18
      else
       gd (few x15.2.1.length) <|
       fin x15.1 (YA KK x15.2.1) x15.2.2) :
    zA F (m + 1000) (p, D, yes E, (R, [], S), E, (E.length : Int), 0) = fin R (YA KK (znr p E)) S := by
  have hlen : ∀ i, i ≤ E.length → ((E.take i).flatMap (zk7 p E)).length ≤ 20000 := by
    intro i hi
    have h1 := zah (zk7 p E) 24 (E.take i) (fun s _ => Nat.le_trans (zoU p E s (cnt p s)) (by have := h.n; unfold cnt; omega))
    rw [List.length_take] at h1
    omega
  have ht : (znr p E).length ≤ 20000 := by
    have := hlen E.length (Nat.le_refl _)
    rwa [List.take_length] at this
  refine JN (fun i => (p, D, yes E, (R, (E.take i).flatMap (zk7 p E), S), E, (E.length : Int), (i : Int))) E.length rfl (fun nx => ?_) (fun i hi nx hnx => ?_) _ (by omega)
  · rw [hF, zh (by omega), List.take_length, zY (ZA (by show (znr p E).length < _; omega))]
    rfl
  · have hs := ho _ (List.getElem_mem hi)
    obtain ⟨_, a1, a2⟩ := hs
    have hn := h.n
    rw [hF, zk (by omega), zY (zM ⟨by omega, by omega⟩), qg _ _ i hi, zl (x := E[i].2 + 1) (by omega) (by omega), hG _ _ _ _ (hlen i (by omega)) (ho _ (List.getElem_mem hi)), zl (x := (i : Int) + 1) (by omega) (by omega), ← hnx, zlN _ _ _ hi]
    rfl
theorem zyp (m : Nat) {p : zx} (h : Few p) (hF : zbR p = true → Ka p ∧ p.1.length ≠ 0) : ZB (m + 1000) p = some (if zbR p = true then ((p.1, ZK p, QG p), 0) else (([], [], []), 2)) := by
  unfold ZB zeo
  rw [show jl (m + 1000) (p.1, p.2.1, p.2.2) = _ from znx m h, zr]
  cases hg : zbR p with
  | false => rfl
  | true =>
    obtain ⟨hf, hne⟩ := hF hg
    rw [if_pos rfl, if_pos rfl, zcQ rfl]
    have hlen := zpc h
    have hnd : (ZL p).Nodup := zji.nodup (zcE hf)
    have hok := zuI h
    have ht : ZK p = YA KK (znr p (ZL p)) := rfl
    rw [ht]
    clear ht
    dsimp only
    generalize ZL p = E at *
    have hn := h.n; have hL := h.l; have hI := h.i
    refine JN (fun i => (p, ([], [], []), E, yes (E.take i), E, (E.length : Int), (i : Int))) E.length rfl (fun nx => ?_) (fun i hi nx hnx => ?_) _ (by omega)
    · dsimp only
      rw [zh (by omega), zY (decide_eq_true (by omega)), zY (ZA (by omega)), show Zy (m + 1000) (p.1, p.2.1, p.2.2) = _ from zry m p (by omega) (by omega), zr, List.take_length]
      refine Eq.trans (zzJ m h (ρ := ZT × Int) (D := ([], [], [])) (R := p.1) (S := QG p) (fin := fun R T S => some ((R, T, S), 0)) E (by omega) hok (G := fun next11 x12 x13 x14 x15 s c x16 x17 x18 =>
               zA (α := (((List (Int × Int)) × ((List (Int × Int)) × (List (Int × Int)))) × (((List (Int × Int)) × ((List (Int × (Int × Int))) × (List (Int × Int)))) × ((List ((Int × Int) × Bool)) × (((List (Int × Int)) × ((List (Int × (Int × Int))) × (List (Int × Int)))) × ((Int × Int) × (Int × ((List (Int × Int)) × (Int × Int))))))))) (fun (x20, x21, x22, x23, x24, x25, x26, x27, x28) next19 =>
                bif decide (x25 < (x20.1.length : Int)) then
                 zz (α := (((List (Int × Int)) × ((List (Int × Int)) × (List (Int × Int)))) × (((List (Int × Int)) × ((List (Int × (Int × Int))) × (List (Int × Int)))) × ((List ((Int × Int) × Bool)) × (((List (Int × Int)) × ((List (Int × (Int × Int))) × (List (Int × Int)))) × ((Int × Int) × (Int × ((List (Int × Int)) × (Int × Int))))))))) (fun (y29, y30, y31, y32, y33, y34, y35, y36, y37) =>
                  next19 ((y29.1, y29.2.1, y29.2.2), (y30.1, y30.2.1, y30.2.2), y31, (y32.1, y32.2.1, y32.2.2), (y33.1, y33.2), w64 (y34 + 1), y35, y36, y37)) fun j38 =>
                 zz (α := (((List (Int × Int)) × ((List (Int × Int)) × (List (Int × Int)))) × (((List (Int × Int)) × ((List (Int × (Int × Int))) × (List (Int × Int)))) × ((List ((Int × Int) × Bool)) × (((List (Int × Int)) × ((List (Int × (Int × Int))) × (List (Int × Int)))) × ((Int × Int) × (Int × ((List (Int × Int)) × (Int × (Int × Bool)))))))))) (fun (y39, y40, y41, y42, y43, y44, y45, y46, y47, y48) =>
                  bif y48 then
                   j38 ((y39.1, y39.2.1, y39.2.2), (y40.1, y40.2.1, y40.2.2), y41, (y42.1, y42.2.1, y42.2.2), (y43.1, y43.2), y44, y45, y46, y47)
                  else
                   bnd (ZE (m + 1000) y39.1 y43.1 y43.2 y44) fun r49 =>
                   bnd (Za (m + 1000) y39.1 y39.2.1 y43.1 y43.2 y44) fun r50 =>
                   zz (α := (((List (Int × Int)) × ((List (Int × Int)) × (List (Int × Int)))) × (((List (Int × Int)) × ((List (Int × (Int × Int))) × (List (Int × Int)))) × ((List ((Int × Int) × Bool)) × (((List (Int × Int)) × ((List (Int × (Int × Int))) × (List (Int × Int)))) × ((Int × Int) × (Int × ((Int × (Int × Int)) × ((List (Int × Int)) × (Int × (Int × Bool))))))))))) (fun (y51, y52, y53, y54, y55, y56, y57, y58, y59, y60, y61) =>
                    zz (α := (((List (Int × Int)) × ((List (Int × Int)) × (List (Int × Int)))) × (((List (Int × Int)) × ((List (Int × (Int × Int))) × (List (Int × Int)))) × ((List ((Int × Int) × Bool)) × (((List (Int × Int)) × ((List (Int × (Int × Int))) × (List (Int × Int)))) × ((Int × Int) × (Int × ((List (Int × Int)) × (Int × Int))))))))) (fun (y62, y63, y64, y65, y66, y67, y68, y69, y70) =>
                     j38 ((y62.1, y62.2.1, y62.2.2), (y63.1, y63.2.1, y63.2.2), y64, (y65.1, y65.2.1, y65.2.2), (y66.1, y66.2), y67, y68, y69, y70)) fun j71 =>
                    bif y61 then
                     gd (few (y54.2.1.length + 1)) <|
                     j71 ((y51.1, y51.2.1, y51.2.2), (y52.1, y52.2.1, y52.2.2), y53, (y54.1, y54.2.1 ++ [(y57.1, y57.2.1, y57.2.2)], y54.2.2), (y55.1, y55.2), y56, y58, y59, y60)
                    else
                     j71 ((y51.1, y51.2.1, y51.2.2), (y52.1, y52.2.1, y52.2.2), y53, (y54.1, y54.2.1, y54.2.2), (y55.1, y55.2), y56, y58, y59, y60)) fun j72 =>
                   bif r49.2 then
                    bif decide (r50.1 = 1) then
                     bnd (Zr (m + 1000) y39.1 (r49.1.1, r49.1.2.1, r49.1.2.2)) fun r73 =>
                     j72 ((y39.1, y39.2.1, y39.2.2), (y40.1, y40.2.1, y40.2.2), y41, (y42.1, y42.2.1, y42.2.2), (y43.1, y43.2), y44, (r49.1.1, r49.1.2.1, r49.1.2.2), y45, y46, y47, r73)
                    else
                     j72 ((y39.1, y39.2.1, y39.2.2), (y40.1, y40.2.1, y40.2.2), y41, (y42.1, y42.2.1, y42.2.2), (y43.1, y43.2), y44, (r49.1.1, r49.1.2.1, r49.1.2.2), y45, y46, y47, false)
                   else
                    j72 ((y39.1, y39.2.1, y39.2.2), (y40.1, y40.2.1, y40.2.2), y41, (y42.1, y42.2.1, y42.2.2), (y43.1, y43.2), y44, (r49.1.1, r49.1.2.1, r49.1.2.2), y45, y46, y47, false)) fun j74 =>
                 bif !(toT Bool (lkM (.pair (.int .i64) (.int .i64)) .bool x22 (x24.1, x25))) then
                  j74 ((x20.1, x20.2.1, x20.2.2), (x21.1, x21.2.1, x21.2.2), x22, (x23.1, x23.2.1, x23.2.2), (x24.1, x24.2), x25, x26, x27, x28, true)
                 else
                  j74 ((x20.1, x20.2.1, x20.2.2), (x21.1, x21.2.1, x21.2.2), x22, (x23.1, x23.2.1, x23.2.2), (x24.1, x24.2), x25, x26, x27, x28, !(toT Bool (lkM (.pair (.int .i64) (.int .i64)) .bool x22 (x24.2, x25))))
                else
                 next11 ((x20.1, x20.2.1, x20.2.2), (x21.1, x21.2.1, x21.2.2), x22, (x23.1, x23.2.1, x23.2.2), x26, x27, w64 (x28 + 1))) (m + 1000) (x12, x13, x14, x15, s, c, x16, x17, x18)) ?hG (fun _ _ _ _ _ _ _ _ => rfl)) rfl
      intro A s i next hA hs
      exact zyX m h E (by omega) A hA hs (K := fun x20 x21 x22 x23 x26 x27 x28 => next (x20, x21, x22, x23, x26, x27, w64 (x28 + 1))) (fun _ _ _ _ _ _ _ _ _ _ => rfl)
    · dsimp only
      have hno : E[i] ∉ E.take i := by
        intro hm
        obtain ⟨k, hk, e⟩ := List.getElem_of_mem hm
        rw [List.length_take] at hk
        rw [List.getElem_take] at e
        exact List.pairwise_iff_getElem.1 (List.nodup_iff_pairwise_ne.1 hnd) k i (by omega) hi (by omega) e
      have h1 : hsM (.pair (.int .i64) (.int .i64)) .bool (yes (E.take i)) (E[i].1, E[i].2) = false := (zpw (E.take i) E[i]).trans (decide_eq_false hno)
      have h2 : adM (.pair (.int .i64) (.int .i64)) .bool (yes (E.take i)) (E[i].1, E[i].2) true = yes (E.take (i + 1)) := (zpX (E.take i) E[i]).trans (by rw [YB E i hi])
      rw [zk (by omega), zY (zM ⟨by omega, by omega⟩), qg _ _ i hi, h1, h2, zl (x := (i : Int) + 1) (by omega) (by omega), ← hnx]
      rfl
end Go.Proofs.YtpkkcjmblocjdaaGreat.Pure
end
section
namespace Go.Proofs.YtpkkcjmblocjdaaGreat.Pure
open Go.RowKit Go.Proofs.YtpkkcjmblocjdaaGreat.AM PL
theorem zl8 {p:zx} (h:Sm p) (hg:zbR p=true):Ka p∧p.1.length≠0:=by
 have R:=zik h hg
 refine ⟨R.fine,fun e=>R.n6 ?_⟩
 cases hL:p.2.1 with
 |nil=>rfl
 |cons s l =>
  have:=(R.fine.okL s (by rw [hL];exact List.mem_cons_self)).1.1
  unfold inr at this
  omega
theorem zmo (m:Nat) {p:zx} (h:Few p):ZB (m+1000) p=some (if zbR p=true then ((p.1,ZK p,QG p),0) else (([],[],[]),2)):=zyp m h (zl8 h.sm)
theorem zvv (m:Nat) (l:List Tr) (hl:l.length≤900):qJ (m+1000) l l=some true:=by
 unfold qJ
 rw [zcQ rfl]
 refine JN (fun i=>(l,l,(i:Int))) l.length rfl (fun next=>?_) (fun i hi next hn=>?_) _ (by omega)
 ·dsimp only
  rw [zh (by omega)]
 ·dsimp only
  have hin:inb (i:Int) l.length=true:=zM ⟨by omega,by omega⟩
  simp only [hin,gT]
  rw [zk (by omega),zl (x:=(i:Int)+1) (by omega) (by omega)]
  simp only [decide_true,Bool.and_self,Bool.not_true,cF]
  exact hn
def sq0:zx:=([(0,0),(4,0),(4,4),(0,4)],[(0,1),(1,2),(2,3),(3,0)],[])
theorem zva:Sm sq0:=⟨by decide +kernel,by decide,by decide,by decide⟩
theorem zqf:Few sq0:=⟨zva,by decide,by decide,by decide⟩
theorem zkl:zbR sq0=true:=by decide +kernel
theorem ztC:Ka sq0:=(zl8 zva zkl).1
def sqE:List Pt:=[(0,1),(0,2),(0,3),(1,2),(2,3)]
def sqS:List Pt:=[(0,1),(0,3),(1,2),(2,3)]
def sqT:List Tr:=[(0,1,2),(0,2,3)]
theorem zos:QG sq0=sqS:=by
 refine zji.ext (zji.srt zyU (by decide)) (by decide) fun s=>?_
 refine ((Kp Jr ((sgs sq0).map up)).mem_iff).trans ?_
 show s∈[(0,1),(1,2),(2,3),(0,3)]↔s∈[(0,1),(0,3),(1,2),(2,3)]
 simp only [List.mem_cons,List.not_mem_nil,or_false]
 constructor<;>(rintro (h|h|h|h)<;>simp [h])
theorem zxf:edg sq0=sqS++[(0,2)]:=by
 unfold edg
 rw [zos]
 decide +kernel
theorem zlY:ZL sq0=sqE:=by
 refine zji.ext (zcE ztC) (by decide) fun s=>?_
 rw [jU,zxf]
 show s∈[(0,1),(0,3),(1,2),(2,3),(0,2)]↔s∈[(0,1),(0,2),(0,3),(1,2),(2,3)]
 simp only [List.mem_cons,List.not_mem_nil,or_false]
 constructor<;>(rintro (h|h|h|h|h)<;>simp [h])
theorem zue:ZK sq0=sqT:=by
 have e:znr sq0 sqE=sqT:=by decide +kernel
 unfold ZK
 rw [zlY,e]
 exact zuK.ext (zuK.srt zyi (by decide)) (by decide) fun s=>(Kp KK sqT).mem_iff
theorem zyr:Few ([],[],[]):=⟨⟨by decide +kernel,by decide,by decide,by decide⟩,by decide,by decide,by decide⟩
theorem zwu:zbR ([],[],[])=false:=by decide +kernel
theorem zwj (m:Nat):ju (m+1000)=some true:=by
 unfold ju JB
 have h1:=znx m zqf
 rw [if_pos zkl,zlY] at h1
 have h2:=zmo m zqf
 rw [if_pos zkl,zue,zos] at h2
 have h3:=zmo m zyr
 rw [zwu,if_neg (by decide)] at h3
 have h4:zyC (sq0.1,sqT,sqS)=0:=by decide +kernel
 have h5:=zts m (sq0.1,sqT,sqS) (by decide) (by decide) (by decide)
 rw [h4] at h5
 rw [show jl (m+1000) ([(0,0),(4,0),(4,4),(0,4)],[(0,1),(1,2),(2,3),(3,0)],[])=_ from h1,zr,show ZB (m+1000) ([(0,0),(4,0),(4,4),(0,4)],[(0,1),(1,2),(2,3),(3,0)],[])=_ from h2,zr,h3,zr]
 simp only [zz]
 rw [show qK (m+1000) sqE [(0,1),(0,2),(0,3),(1,2),(2,3)]=_ from zvM m sqE (by decide),zr,cT,zk trivial,show qJ (m+1000) sqT [(0,1,2),(0,2,3)]=_ from zvv m sqT (by decide),zr,cT,zk trivial,h5,zr,zk rfl]
 rfl
end Go.Proofs.YtpkkcjmblocjdaaGreat.Pure
end
section
namespace Go.Proofs.YtpkkcjmblocjdaaGreat.Pure
open Go.RowKit Go.Proofs.YtpkkcjmblocjdaaGreat.AM PL
def zgH (p:zx):Prop:=(p.1.length>24∧p.1.length≤200)∨(p.2.1.length>60∧p.2.1.length≤400)∨(p.2.2.length>60∧p.2.2.length≤400)∨p.1.length>300∨p.2.1.length>500∨p.2.2.length>500
theorem zwK (k:Nat) (p:zx):∃b,jc k p=some b∧(b=false→¬zgH p):=by
 unfold jc
 simp only [zz]
 have key:∀x:Option Bool,(∃b,x=some b∧(b=false→¬zgH p))→∃b,x=some b∧(b=false→¬zgH p):=fun _ h=>h
 have last:¬(p.1.length>24∧p.1.length≤200)→¬(p.2.1.length>60∧p.2.1.length≤400)→¬(p.2.2.length>60∧p.2.2.length≤400) →
   ∃b,(bif decide ((p.1.length:Int)>300) then some true else bif decide ((p.2.1.length:Int)>500) then some true else some (decide ((p.2.2.length:Int)>500)))=some b∧(b=false→¬zgH p):=by
  intro h1 h2 h3
  by_cases c1:(p.1.length:Int)>300
  ·rw [zk c1];exact ⟨true,rfl,fun h=>by cases h⟩
  rw [zh c1]
  by_cases c2:(p.2.1.length:Int)>500
  ·rw [zk c2];exact ⟨true,rfl,fun h=>by cases h⟩
  rw [zh c2]
  refine ⟨_,rfl,fun h=>?_⟩
  have:=of_decide_eq_false h
  unfold zgH
  omega
 have third:¬(p.1.length>24∧p.1.length≤200)→¬(p.2.1.length>60∧p.2.1.length≤400) →
   ∃b,(bif decide ((p.2.2.length:Int)>60) then bif decide ((p.2.2.length:Int)≤400) then some true else (bif decide ((p.1.length:Int)>300) then some true else bif decide ((p.2.1.length:Int)>500) then some true else some (decide ((p.2.2.length:Int)>500))) else (bif decide ((p.1.length:Int)>300) then some true else bif decide ((p.2.1.length:Int)>500) then some true else some (decide ((p.2.2.length:Int)>500))))=some b∧(b=false→¬zgH p):=by
  intro h1 h2
  by_cases c1:(p.2.2.length:Int)>60
  ·rw [zk c1]
   by_cases c2:(p.2.2.length:Int)≤400
   ·rw [zk c2];exact ⟨true,rfl,fun h=>by cases h⟩
   ·rw [zh c2];exact last h1 h2 (by omega)
  ·rw [zh c1];exact last h1 h2 (by omega)
 have second:¬(p.1.length>24∧p.1.length≤200) →
   ∃b,(bif decide ((p.2.1.length:Int)>60) then bif decide ((p.2.1.length:Int)≤400) then some true else (bif decide ((p.2.2.length:Int)>60) then bif decide ((p.2.2.length:Int)≤400) then some true else (bif decide ((p.1.length:Int)>300) then some true else bif decide ((p.2.1.length:Int)>500) then some true else some (decide ((p.2.2.length:Int)>500))) else (bif decide ((p.1.length:Int)>300) then some true else bif decide ((p.2.1.length:Int)>500) then some true else some (decide ((p.2.2.length:Int)>500)))) else (bif decide ((p.2.2.length:Int)>60) then bif decide ((p.2.2.length:Int)≤400) then some true else (bif decide ((p.1.length:Int)>300) then some true else bif decide ((p.2.1.length:Int)>500) then some true else some (decide ((p.2.2.length:Int)>500))) else (bif decide ((p.1.length:Int)>300) then some true else bif decide ((p.2.1.length:Int)>500) then some true else some (decide ((p.2.2.length:Int)>500)))))=some b∧(b=false→¬zgH p):=by
  intro h1
  by_cases c1:(p.2.1.length:Int)>60
  ·rw [zk c1]
   by_cases c2:(p.2.1.length:Int)≤400
   ·rw [zk c2];exact ⟨true,rfl,fun h=>by cases h⟩
   ·rw [zh c2];exact third h1 (by omega)
  ·rw [zh c1];exact third h1 (by omega)
 by_cases c1:(p.1.length:Int)>24
 ·rw [zk c1]
  by_cases c2:(p.1.length:Int)≤200
  ·rw [zk c2];exact ⟨true,rfl,fun h=>by cases h⟩
  ·rw [zh c2];exact second (by omega)
 ·rw [zh c1];exact second (by omega)
theorem zyP {p:zx} (h:¬zgH p):chk p=false∨Few p:=by
 unfold zgH at h
 cases hc:chk p with
 |false=>exact .inl rfl
 |true =>
  refine .inr ?_
  have hf:zr0 p:=by
   unfold chk at hc
   rw [Bool.and_eq_true] at hc
   exact of_decide_eq_true hc.1
  unfold zr0 at hf
  exact ⟨⟨hc,by omega,by omega,by omega⟩,by omega,by omega,by omega⟩
end Go.Proofs.YtpkkcjmblocjdaaGreat.Pure
end
section
namespace Go.Proofs.YtpkkcjmblocjdaaGreat.Pure
open Go.RowKit Go.Proofs.YtpkkcjmblocjdaaGreat.AM PL
end Go.Proofs.YtpkkcjmblocjdaaGreat.Pure
end
section
namespace Go.Proofs.YtpkkcjmblocjdaaGreat.Pure
open Go.RowKit Go.Proofs.YtpkkcjmblocjdaaGreat.AM PL
end Go.Proofs.YtpkkcjmblocjdaaGreat.Pure
end
section
namespace Go.Proofs.YtpkkcjmblocjdaaGreat.Pure
open Go.RowKit Go.Proofs.YtpkkcjmblocjdaaGreat.AM PL
end Go.Proofs.YtpkkcjmblocjdaaGreat.Pure
end
