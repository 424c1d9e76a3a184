/- Stable sorting, plain. No program here. -/
import Derived.Test.YtpkkcjmblocjdaaGreatF1
set_option linter.unusedVariables false
set_option linter.unusedSimpArgs false
set_option linter.unusedSectionVars false
section
namespace PL
section
variable {α:Type} (lt:α→α→Bool)
def eqv (c x:α):Bool:=!lt c x&&!lt x c
def zdc (r:List α):Prop:=r.Pairwise fun x y=>lt y x=false
structure zdQ:Prop where
 asymm:∀x y,lt x y=true→lt y x=false
 neg:∀x y z,lt x y=false→lt y z=false→lt x z=false
structure Ki (l r:List α):Prop where
 perm:r.Perm l
 sorted:zdc lt r
 filt:∀c,r.filter (eqv lt c)=l.filter (eqv lt c)
variable {lt}
theorem zdQ.irr (w:zdQ lt) (x:α):lt x x=false:=by
 cases h:lt x x with
 |false=>rfl
 |true=>have:=w.asymm x x h;rw [h] at this;exact this
theorem zdQ.eqv_self (w:zdQ lt) (x:α):eqv lt x x=true:=by simp [eqv,w.irr]
theorem zdQ.trans (w:zdQ lt) {x y z:α} (h1:lt x y=true) (h2:lt y z=true):lt x z=true:=by
 cases h:lt x z with
 |true=>rfl
 |false =>
  have:=w.neg x z y h (w.asymm _ _ h2)
  rw [h1] at this;cases this
theorem zdQ.lt_le (w:zdQ lt) {x y z:α} (h1:lt x y=true) (h2:lt z y=false):lt x z=true:=by
 cases h:lt x z with
 |true=>rfl
 |false=>have:=w.neg x z y h h2;rw [h1] at this;cases this
theorem zdQ.le_lt (w:zdQ lt) {x y z:α} (h1:lt y x=false) (h2:lt y z=true):lt x z=true:=by
 cases h:lt x z with
 |true=>rfl
 |false=>have:=w.neg y x z h1 h;rw [h2] at this;cases this
theorem Ki.unique_aux (w:zdQ lt):∀{r s:List α},zdc lt r→zdc lt s→(∀c,r.filter (eqv lt c)=s.filter (eqv lt c))→r=s
 |[],[],_,_,_=>rfl
 |[],y::s,_,_,h=>by have:=h y;simp [w.eqv_self] at this
 |x::r,[],_,_,h=>by have:=h x;simp [w.eqv_self] at this
 |x::r,y::s,hr,hs,h=>by
  have hx:x∈y::s:=by
   have h1:x∈(x::r).filter (eqv lt x):=by simp [w.eqv_self]
   rw [h x] at h1
   exact (List.mem_filter.1 h1).1
  have hy:y∈x::r:=by
   have h1:y∈(y::s).filter (eqv lt y):=by simp [w.eqv_self]
   rw [←h y] at h1
   exact (List.mem_filter.1 h1).1
  have a1:lt y x=false:=by
   rcases List.mem_cons.1 hy with e|e
   ·rw [e];exact w.irr _
   ·exact (List.pairwise_cons.1 hr).1 y e
  have a2:lt x y=false:=by
   rcases List.mem_cons.1 hx with e|e
   ·rw [e];exact w.irr _
   ·exact (List.pairwise_cons.1 hs).1 x e
  have e:eqv lt x y=true:=by simp [eqv,a1,a2]
  have hxy:x=y:=by
   have h1:=h x
   rw [List.filter_cons_of_pos (w.eqv_self x),List.filter_cons_of_pos e] at h1
   exact (List.cons.inj h1).1
  subst hxy
  rw [Ki.unique_aux w (List.pairwise_cons.1 hr).2 (List.pairwise_cons.1 hs).2 (fun c=>?_)]
  have h1:=h c
  rw [List.filter_cons,List.filter_cons] at h1
  split at h1
  ·exact (List.cons.inj h1).2
  ·exact h1
theorem Ki.unique (w:zdQ lt) {l r s:List α} (hr:Ki lt l r) (hs:Ki lt l s):r=s :=
 Ki.unique_aux w hr.sorted hs.sorted (fun c=>(hr.filt c).trans (hs.filt c).symm)
theorem Ki.refl {l:List α} (h:zdc lt l):Ki lt l l:=⟨List.Perm.refl _,h,fun _=>rfl⟩
variable (lt)
def mrg:List α→List α→List α
 |[],b=>b
 |x::a,[]=>x::a
 |x::a,y::b=>if lt y x=true then y::mrg (x::a) b else x::mrg a (y::b)
termination_by a b=>a.length+b.length
variable {lt}
theorem zjK (b:List α):mrg lt [] b=b:=by rw [mrg]
theorem zhh (a:List α):mrg lt a []=a:=by cases a<;>rw [mrg]
theorem zhP (a b:List α):(mrg lt a b).Perm (a++b):=by
 induction a,b using mrg.induct lt with
 |case1 b=>rw [zjK];simp
 |case2 x a=>rw [zhh];simp
 |case3 x a y b h ih =>
  rw [mrg,if_pos h]
  exact ((ih.cons y).trans (List.perm_middle (l₁:=x::a)).symm)
 |case4 x a y b h ih =>
  rw [mrg,if_neg h]
  exact ih.cons x
theorem zqe (w:zdQ lt) (a b:List α) (ha:zdc lt a) (hb:zdc lt b):zdc lt (mrg lt a b):=by
 induction a,b using mrg.induct lt with
 |case1 b=>rw [zjK];exact hb
 |case2 x a=>rw [zhh];exact ha
 |case3 x a y b h ih =>
  rw [mrg,if_pos h]
  obtain ⟨hb1,hb2⟩:=List.pairwise_cons.1 hb
  obtain ⟨ha1,ha2⟩:=List.pairwise_cons.1 ha
  refine List.pairwise_cons.2 ⟨fun z hz=>?_,ih ha hb2⟩
  rcases List.mem_append.1 ((zhP _ _).mem_iff.1 hz) with e|e
  ·rcases List.mem_cons.1 e with e|e
   ·rw [e];exact w.asymm _ _ h
   ·exact w.neg _ x _ (ha1 z e) (w.asymm _ _ h)
  ·exact hb1 z e
 |case4 x a y b h ih =>
  rw [mrg,if_neg h]
  obtain ⟨hb1,hb2⟩:=List.pairwise_cons.1 hb
  obtain ⟨ha1,ha2⟩:=List.pairwise_cons.1 ha
  have h':lt y x=false:=by simpa using h
  refine List.pairwise_cons.2 ⟨fun z hz=>?_,ih ha2 hb⟩
  rcases List.mem_append.1 ((zhP _ _).mem_iff.1 hz) with e|e
  ·exact ha1 z e
  ·rcases List.mem_cons.1 e with e|e
   ·rw [e];exact h'
   ·exact w.neg _ y _ (hb1 z e) h'
theorem zqK (w:zdQ lt) (a b:List α) (ha:zdc lt a) (c:α):(mrg lt a b).filter (eqv lt c)=a.filter (eqv lt c)++b.filter (eqv lt c):=by
 induction a,b using mrg.induct lt with
 |case1 b=>rw [zjK];simp
 |case2 x a=>rw [zhh];simp
 |case3 x a y b h ih =>
  rw [mrg,if_pos h,List.filter_cons (x:=y) (xs:=b),List.filter_cons (x:=y)]
  by_cases e:eqv lt c y=true
  ·rw [if_pos e,if_pos e,ih ha]
   have hn:(x::a).filter (eqv lt c)=[]:=by
    rw [List.filter_eq_nil_iff]
    intro z hz hcz
    obtain ⟨ha1,_⟩:=List.pairwise_cons.1 ha
    have hyz:lt y z=true:=by
     rcases List.mem_cons.1 hz with q|q
     ·rw [q];exact h
     ·exact w.lt_le h (ha1 z q)
    simp only [eqv,Bool.and_eq_true,Bool.not_eq_true'] at e hcz
    have:=w.le_lt e.2 hyz
    rw [hcz.1] at this
    cases this
   rw [hn];rfl
  ·rw [if_neg e,if_neg e,ih ha]
 |case4 x a y b h ih =>
  obtain ⟨_,ha2⟩:=List.pairwise_cons.1 ha
  rw [mrg,if_neg h,List.filter_cons (x:=x) (xs:=a),List.filter_cons (x:=x)]
  by_cases e:eqv lt c x=true
  ·rw [if_pos e,if_pos e,ih ha2];rfl
  ·rw [if_neg e,if_neg e,ih ha2]
theorem zqD (w:zdQ lt) {la lb a b:List α} (ha:Ki lt la a) (hb:Ki lt lb b):Ki lt (la++lb) (mrg lt a b) :=
 ⟨(zhP a b).trans (ha.perm.append hb.perm),zqe w a b ha.sorted hb.sorted,fun c=>by rw [zqK w a b ha.sorted,List.filter_append,ha.filt,hb.filt]⟩
variable (lt)
def srt:Nat→List α→List α
 |0,l=>l
 |n+1,l=>if l.length<2 then l else mrg lt (srt n (l.take (l.length / 2))) (srt n (l.drop (l.length / 2)))
variable {lt}
theorem zeG:∀(n:Nat) (l:List α),(srt lt n l).Perm l
 |0,l=>List.Perm.refl _
 |n+1,l=>by
  rw [srt]
  split
  ·exact List.Perm.refl _
  ·have:=(zhP (lt:=lt) (srt lt n (l.take (l.length / 2))) (srt lt n (l.drop (l.length / 2)))).trans ((zeG n _).append (zeG n _))
   rwa [List.take_append_drop] at this
theorem zhg {l:List α} (h:l.length<2):zdc lt l:=by
 match l,h with
 |[],_=>exact List.Pairwise.nil
 |[x],_=>exact List.pairwise_singleton _ _
theorem zcW (w:zdQ lt):∀(n:Nat) (l:List α),l.length≤n→Ki lt l (srt lt n l)
 |0,l,h=>by rw [srt];exact Ki.refl (zhg (by omega))
 |n+1,l,h=>by
  rw [srt]
  split
  ·exact Ki.refl (zhg (by assumption))
  ·have:=zqD w (zcW w n (l.take (l.length / 2)) (by rw [List.length_take];omega)) (zcW w n (l.drop (l.length / 2)) (by rw [List.length_drop];omega))
   rwa [List.take_append_drop] at this
theorem zj9 (n:Nat) (l:List α):(srt lt n l).length=l.length:=(zeG n l).length_eq
variable (lt)
variable {lt}
end
end PL
end
section
namespace Go.Proofs.YtpkkcjmblocjdaaGreat.Pure
open Go.RowKit Go.Proofs.YtpkkcjmblocjdaaGreat.AM PL
theorem Yo (f:Nat→Nat→Bool) {n a:Nat}:∀(d b:Nat),n-b=d→b≤n→(row f n a b=none→∀k,b≤k→k<n→f a k=false)∧(∀k,row f n a b=some k→b≤k∧k<n∧f a k=true∧∀k',b≤k'→k'<n→f a k'=true→k≤k')
 |0,b,hd,hb=>by
  obtain rfl:b=n:=by omega
  rw [Jt]
  exact ⟨fun _ k h1 h2=>(by omega),fun k h=>(by cases h)⟩
 |d+1,b,hd,hb=>by
  obtain ⟨h1,h2⟩:=Yo f (n:=n) (a:=a) d (b+1) (by omega) (by omega)
  rw [Qa f (show b<n by omega)]
  cases hf:f a b with
  |true =>
   simp only [if_true]
   refine ⟨fun h=>(by cases h),fun k h=>?_⟩
   obtain rfl:b=k:=by injection h
   exact ⟨Nat.le_refl _,by omega,hf,fun k' h _ _=>h⟩
  |false =>
   simp only [Bool.false_eq_true,if_false]
   refine ⟨fun h k hk hn=>?_,fun k h=>?_⟩
   ·by_cases e:k=b
    ·rw [e];exact hf
    ·exact h1 h k (by omega) hn
   ·obtain ⟨g1,g2,g3,g4⟩:=h2 k h
    refine ⟨by omega,g2,g3,fun k' hk hn hf'=>?_⟩
    by_cases e:k'=b
    ·rw [e,hf] at hf';cases hf'
    ·exact g4 k' (by omega) hn hf'
theorem YY (f:Nat→Nat→Bool) {n:Nat}:∀(d a:Nat),n-a=d→a≤n→(K7 f n a=none→∀i k,a≤i→i<k→k<n→f i k=false) ∧
  (∀i k,K7 f n a=some (i,k)→a≤i∧i<k∧k<n∧f i k=true∧(∀i' k',a≤i'→i'<k'→k'<n→f i' k'=true→i≤i')∧∀k',i<k'→k'<n→f i k'=true→k≤k')
 |0,a,hd,ha=>by
  obtain rfl:a=n:=by omega
  rw [zg5]
  exact ⟨fun _ i k h1 h2 h3=>(by omega),fun i k h=>(by cases h)⟩
 |d+1,a,hd,ha=>by
  obtain ⟨h1,h2⟩:=YY f (n:=n) d (a+1) (by omega) (by omega)
  obtain ⟨r1,r2⟩:=Yo f (n:=n) (a:=a) _ (a+1) rfl (by omega)
  rw [zfL f (show a<n by omega)]
  cases hr:row f n a (a+1) with
  |some b =>
   obtain ⟨g1,g2,g3,g4⟩:=r2 b hr
   refine ⟨fun h=>(by cases h),fun i k h=>?_⟩
   simp only [Option.some.injEq,Prod.mk.injEq] at h
   obtain ⟨rfl,rfl⟩:=h
   exact ⟨Nat.le_refl _,by omega,g2,g3,fun i' k' h _ _ _=>h,fun k' h1 h2 h3=>g4 k' (by omega) h2 h3⟩
  |none =>
   have hno:=r1 hr
   refine ⟨fun h i k hi hk hn=>?_,fun i k h=>?_⟩
   ·by_cases e:i=a
    ·rw [e];exact hno k (by omega) hn
    ·exact h1 h i k (by omega) hk hn
   ·obtain ⟨g1,g2,g3,g4,g5,g6⟩:=h2 i k h
    refine ⟨by omega,g2,g3,g4,fun i' k' hi hk hn hf=>?_,g6⟩
    by_cases e:i'=a
    ·rw [e,hno k' (by omega) hn] at hf;cases hf
    ·exact g5 i' k' (by omega) hk hn hf
def ltP (a b:Pt):Bool:=decide (a.1<b.1)||(decide (a.1=b.1)&&decide (a.2<b.2))
theorem zz0 (k:Nat) (a b:Pt):J0 k a b=some (ltP a b):=by
 unfold J0 ltP
 simp only [zx]
 by_cases h:a.1<b.1
 ·rw [zk h,decide_eq_true h];rfl
 ·rw [zg h,decide_eq_false h]
  by_cases h':a.1=b.1
  ·rw [zk h',decide_eq_true h'];rfl
  ·rw [zg h',decide_eq_false h'];rfl
theorem zyK:zdQ ltP where
 asymm:=by intro x y h;simp [ltP] at h ⊢;omega
 neg:=by intro x y z h1 h2;simp [ltP] at h1 h2 ⊢;omega
theorem zzL {a b:Pt}:eqv ltP a b=true↔a=b:=by
 obtain ⟨a1,a2⟩:=a
 obtain ⟨b1,b2⟩:=b
 simp [eqv,ltP];omega
def ltI (p:List Pt) (i j:Int):Bool:=ltP (pt p i) (pt p j)
theorem zrQ (p:List Pt):zdQ (ltI p):=⟨fun _ _ h=>zyK.asymm _ _ h,fun _ _ _ h1 h2=>zyK.neg _ _ _ h1 h2⟩
def idx (n:Nat):List Int:=(List.range n).map Int.ofNat
theorem zrv {n:Nat} {i:Int}:i∈idx n↔0≤i∧i<n:=by
 simp only [idx,List.mem_map,List.mem_range]
 constructor
 ·rintro ⟨j,hj,rfl⟩;simp only [Int.ofNat_eq_natCast];omega
 ·rintro ⟨h0,h1⟩;exact ⟨i.toNat,by omega,by simp only [Int.ofNat_eq_natCast];omega⟩
theorem Xd (n:Nat):(idx n).length=n:=by simp [idx]
theorem zt3 (n:Nat):idx (n+1)=idx n++[(n:Int)]:=by simp [idx,List.range_succ]
def ord (p:List Pt):List Int:=srt (ltI p) p.length (idx p.length)
theorem Y8 (p:List Pt):Ki (ltI p) (idx p.length) (ord p):=zcW (zrQ p) _ _ (by rw [Xd];exact Nat.le_refl _)
theorem zrt {p:List Pt} {i:Int}:i∈ord p↔0≤i∧i<p.length:=(Y8 p).perm.mem_iff.trans zrv
theorem zqs (p:List Pt):(ord p).length=p.length:=by rw [(Y8 p).perm.length_eq,Xd]
theorem ztC (p:List Pt):(ord p).Nodup:=by
 refine (Y8 p).perm.symm.nodup ?_
 unfold idx
 refine List.Pairwise.map _ (fun a b h=>?_) List.nodup_range
 simp only [Int.ofNat_eq_natCast];omega
theorem zoc (p:List Pt) {s t:Nat} (h:s<t) (ht:t<(ord p).length):ltP (pt p ((ord p)[t])) (pt p ((ord p)[s]'(by omega)))=false :=
 List.pairwise_iff_getElem.1 (Y8 p).sorted s t (by omega) ht h
theorem zqP (p:List Pt) {s t:Nat} (h:s<t) (ht:t<(ord p).length) (e:pt p ((ord p)[s]'(by omega))=pt p ((ord p)[t])):(ord p)[s]'(by omega)<(ord p)[t]:=by
 have hf:=(Y8 p).filt ((ord p)[s]'(by omega))
 have hp:(idx p.length).Pairwise (fun a b=>a<b):=by
  unfold idx
  refine List.Pairwise.map _ (fun a b h=>?_) List.pairwise_lt_range
  simp only [Int.ofNat_eq_natCast];omega
 have h1:=hp.filter (eqv (ltI p) ((ord p)[s]'(by omega)))
 rw [←hf,List.pairwise_filter] at h1
 refine List.pairwise_iff_getElem.1 h1 s t (by omega) ht h ?_ ?_
 ·exact (zrQ p).eqv_self _
 ·have:=zzL.2 e
  exact this
theorem zsl (p:List Pt) (i:Int) (h0:0≤i) (h1:i<p.length):∃s,∃h:s<(ord p).length,(ord p)[s]=i :=
 List.mem_iff_getElem.1 (zrt.2 ⟨h0,h1⟩)
theorem znZ (p:List Pt) {s:Nat} (h:s<(ord p).length):0≤(ord p)[s]∧(ord p)[s]<p.length:=zrt.1 (List.getElem_mem _)
theorem zup (k:Nat) (p:List Pt) (i j:Int) (hi:inr i p.length) (hj:inr j p.length):Q9 k i j p=some (ltI p i j):=by
 unfold Q9 XR
 rw [Jw hi,gT,Jw hj,gT]
 simp only [Ye,zz0,zr]
 rfl
theorem jG {n:Nat} (h:n<4294967296):few n=true:=decide_eq_true h
theorem zwF (m:Nat) (p:List Pt) (a b:List Int) (ha:∀i∈a,inr i p.length) (hb:∀i∈b,inr i p.length) (hl:a.length+b.length≤350):jh (m+400) a b ((),p)=some (mrg (ltI p) a b):=by
 unfold jh Yp
 refine Ql (fun n s v=>∃a b out:List Int,n=a.length+b.length∧s=(a,b,((),p),out)∧(∀i∈a,inr i p.length)∧(∀i∈b,inr i p.length)∧out.length+a.length+b.length≤350∧v=some (out++mrg (ltI p) a b)) ?_ (m+400) (a.length+b.length) _ _ ⟨a,b,[],rfl,rfl,ha,hb,by simpa using hl,rfl⟩ (by omega)
 rintro n s v ⟨a,b,out,rfl,rfl,ha,hb,hl,rfl⟩ next hn
 simp only [zx]
 cases a with
 |nil =>
  rw [zg (by simp),cF,zP (jG (by simp at hl ⊢<;>omega)),zP (jG (by simp at hl ⊢<;>omega)),zjK]
  simp
 |cons x a =>
  rw [zk (by simp<;>omega)]
  cases b with
  |nil =>
   rw [decide_eq_false (show ¬((([]:List Int).length:Int)>0) by simp),cF,zP (jG (by simp at hl ⊢<;>omega)),zP (jG (by simp at hl ⊢<;>omega)),zhh]
   simp
  |cons y b =>
   rw [decide_eq_true (show (((y::b).length:Nat):Int)>0 by simp<;>omega),cT]
   have hx:=ha x List.mem_cons_self
   have hy:=hb y List.mem_cons_self
   rw [zP (zA (by simp<;>omega)),zP (zA (by simp<;>omega))]
   have ex:rdD 0 (x::a) 0=x:=rfl
   have ey:rdD 0 (y::b) 0=y:=rfl
   rw [ex,ey,zup _ p y x hy hx,zr,mrg]
   cases h:ltI p y x with
   |true =>
    rw [cT,zP (zA (by simp<;>omega)),zP (jG (by simp at hl ⊢<;>omega)),zP (decide_eq_true (by simp<;>omega))]
    simp only [if_true]
    exact hn _ _ _ (by simp) ⟨x::a,b,out++[y],rfl,rfl,ha,fun i hi=>hb i (List.mem_cons_of_mem _ hi),by simp at hl ⊢<;>omega,by simp⟩
   |false =>
    rw [cF,zP (zA (by simp<;>omega)),zP (jG (by simp at hl ⊢<;>omega)),zP (decide_eq_true (by simp<;>omega))]
    simp only [Bool.false_eq_true,if_false]
    exact hn _ _ _ (by simp<;>omega) ⟨a,y::b,out++[x],rfl,rfl,fun i hi=>ha i (List.mem_cons_of_mem _ hi),hb,by simp at hl ⊢<;>omega,by simp⟩
theorem zzK (m:Nat) (p:List Pt):∀(n:Nat) (l:List Int),l.length≤n→l.length≤350→(∀i∈l,inr i p.length)→jx (m+400) (n+1) l ((),p)=some (srt (ltI p) n l):=by
 intro n
 induction n with
 |zero =>
  intro l hn hl hi
  show ZO (m+400) (jx (m+400) 0) (jh (m+400)) l ((),p)=_
  unfold ZO
  rw [zk (by omega),zP (jG (by omega))]
  rfl
 |succ n ih =>
  intro l hn hl hi
  show ZO (m+400) (jx (m+400) (n+1)) (jh (m+400)) l ((),p)=_
  unfold ZO
  by_cases h:l.length<2
  ·rw [zk (by omega),zP (jG (by omega)),srt,if_pos h]
  ·have ht:(l.length:Int).tdiv 2=((l.length / 2:Nat):Int):=by
    rw [Int.tdiv_eq_ediv_of_nonneg (by omega)];omega
   rw [zg (by omega),srt,if_neg h,ht,zl (by omega) (by omega),zP (decide_eq_true (by omega)),zP (decide_eq_true (by omega))]
   have e1:tkL l ((l.length / 2:Nat):Int)=l.take (l.length / 2):=by unfold tkL;rw [Int.toNat_natCast]
   have e2:dpL l ((l.length / 2:Nat):Int)=l.drop (l.length / 2):=by unfold dpL;rw [Int.toNat_natCast]
   simp only [e1,e2]
   have hit:∀i∈l.take (l.length / 2),inr i p.length:=fun i h=>hi i (List.mem_of_mem_take h)
   have hid:∀i∈l.drop (l.length / 2),inr i p.length:=fun i h=>hi i (List.mem_of_mem_drop h)
   rw [ih _ (by rw [List.length_take];omega) (by rw [List.length_take];omega) hit,zr,zP (decide_eq_true (by omega)),zP (decide_eq_true (by omega)),ih _ (by rw [List.length_drop];omega) (by rw [List.length_drop];omega) hid,zr]
   rw [zwF m p _ _ (fun i h=>hit i ((zeG _ _).mem_iff.1 h)) (fun i h=>hid i ((zeG _ _).mem_iff.1 h)) (by rw [zj9,zj9,List.length_take,List.length_drop];omega),zr]
theorem zxs (m:Nat) (p:List Pt) (hl:p.length≤350):Ks (m+400) p=some (ord p):=by
 unfold Ks zby
 refine zG (fun i=>(p,idx i,(p.length:Int),(i:Int))) p.length (fun _=>some (ord p)) ?_ ?_ (m+400) 0 (Nat.zero_le _) (by omega)
 ·intro next
  dsimp only
  rw [zg (by omega)]
  have:Ka (m+400) (idx p.length) ((),p)=some (srt (ltI p) (m+399) (idx p.length)):=zzK m p (m+399) (idx p.length) (by rw [Xd];omega) (by rw [Xd];omega) (fun i hi=>zrv.1 hi)
  rw [this,zr]
  congr 1
  exact Ki.unique (zrQ p) (zcW (zrQ p) _ _ (by rw [Xd];omega)) (Y8 p)
 ·intro i hi next hn
  dsimp only at hn ⊢
  rw [zk (by omega),zP (jG (by rw [Xd];omega)),zl (by omega) (by omega),←zt3]
  exact hn
def alk (p:List Pt) (i k:Nat):Bool:=decide (pt p (i:Int)=pt p (k:Int))
def Eqs (p:List Pt) (i j:Nat):Prop:=i<j∧j<p.length∧pt p (i:Int)=pt p (j:Int)
theorem zov (p:List Pt) {i j:Nat} (h:Eqs p i j):∃t:Nat,∃ht:t+1<(ord p).length,(ord p)[t]=(i:Int)∧pt p ((ord p)[t+1])=pt p (i:Int)∧(ord p)[t+1]≤(j:Int):=by
 obtain ⟨hij,hj,he⟩:=h
 obtain ⟨s,hs,es⟩:=zsl p (i:Int) (by omega) (by omega)
 obtain ⟨t,ht,et⟩:=zsl p (j:Int) (by omega) (by omega)
 have hst:s<t:=by
  rcases Nat.lt_trichotomy s t with h|h|h
  ·exact h
  ·subst h;omega
  ·have:=zqP p h hs (by rw [et,es];exact he.symm)
   omega
 refine ⟨s,by omega,es,?_,?_⟩
 ·by_cases e:s+1=t
  ·subst e;rw [et];exact he.symm
  ·have h1:=zoc p (s:=s) (t:=s+1) (by omega) (by omega)
   have h2:=zoc p (s:=s+1) (t:=t) (by omega) ht
   rw [es] at h1
   rw [et,←he] at h2
   exact (zzL.1 (by simp [eqv,h1,h2]))
 ·by_cases e:s+1=t
  ·subst e;rw [et];exact Int.le_refl _
  ·have h1:=zoc p (s:=s) (t:=s+1) (by omega) (by omega)
   have h2:=zoc p (s:=s+1) (t:=t) (by omega) ht
   rw [es] at h1
   rw [et,←he] at h2
   have h3:pt p ((ord p)[s+1])=pt p (i:Int):=zzL.1 (by simp [eqv,h1,h2])
   have:=zqP p (s:=s+1) (t:=t) (by omega) ht (by rw [et,h3];exact he)
   rw [et] at this
   omega
def zxY (p:List Pt) (n:Nat) (r:Int×Int×Bool):Prop :=
 (r=(0,0,false)∧∀t,∀_:t+1<(ord p).length,t+1<n→pt p ((ord p)[t+1])≠pt p ((ord p)[t])) ∨
 ∃t,∃_:t+1<(ord p).length,t+1<n∧r=((ord p)[t],(ord p)[t+1],true)∧pt p ((ord p)[t+1])=pt p ((ord p)[t])∧∀u,∀_:u+1<(ord p).length,u+1<n→pt p ((ord p)[u+1])=pt p ((ord p)[u])→(ord p)[t]≤(ord p)[u]
theorem zxY.is {p:List Pt} {n:Nat} {r:Int×Int×Bool} (hn:(ord p).length≤n) (h:zxY p n r):r=zgr (K7 (alk p) p.length 0):=by
 obtain ⟨s1,s2⟩:=YY (alk p) (n:=p.length) _ 0 rfl (Nat.zero_le _)
 rcases h with ⟨rfl,h⟩|⟨t,ht,_,rfl,he,h⟩
 ·cases hs:K7 (alk p) p.length 0 with
  |none=>rfl
  |some q =>
   obtain ⟨i,j⟩:=q
   obtain ⟨_,h1,h2,h3,_⟩:=s2 i j hs
   obtain ⟨t,ht,e1,e2,_⟩:=zov p (i:=i) (j:=j) ⟨h1,h2,of_decide_eq_true h3⟩
   exact absurd (by rw [e2,e1]) (h t ht (by omega))
 ·have b1:=znZ p (s:=t) (by omega)
  have b2:=znZ p ht
  have hlt:=zqP p (s:=t) (t:=t+1) (by omega) ht he.symm
  obtain ⟨i,hi⟩:=Int.eq_ofNat_of_zero_le b1.1
  obtain ⟨j,hj⟩:=Int.eq_ofNat_of_zero_le b2.1
  have hij:Eqs p i j:=⟨by omega,by omega,by rw [←hi,←hj];exact he.symm⟩
  cases hs:K7 (alk p) p.length 0 with
  |none =>
   have:=s1 hs i j (Nat.zero_le _) hij.1 hij.2.1
   rw [show alk p i j=true from decide_eq_true hij.2.2] at this
   cases this
  |some q =>
   obtain ⟨i',j'⟩:=q
   obtain ⟨_,h1,h2,h3,h4,h5⟩:=s2 i' j' hs
   have m1:=h4 i j (Nat.zero_le _) hij.1 hij.2.1 (decide_eq_true hij.2.2)
   obtain ⟨u,hu,e1,e2,e3⟩:=zov p (i:=i') (j:=j') ⟨h1,h2,of_decide_eq_true h3⟩
   have m2:=h u hu (by omega) (by rw [e2,e1])
   have ei:i'=i:=by omega
   subst ei
   have hut:u=t:=(List.getElem_inj (ztC p)).1 (by rw [e1,hi])
   subst hut
   have m3:=h5 j hij.1 hij.2.1 (decide_eq_true hij.2.2)
   have ej:j'=j:=by omega
   subst ej
   simp only [zgr,hi,hj]
theorem zxO (m:Nat) (p:List Pt) (hl:p.length≤350):Jj (m+400) p=some (zgr (K7 (alk p) p.length 0)):=by
 unfold Jj zbF
 rw [zxs m p hl,zr]
 have hL:=zqs p
 refine Ql (fun c s v=>∃(n:Nat) (r:Int×Int×Bool),1≤n∧n≤p.length+1∧c=p.length+1-n∧s=(p,r.1,r.2.1,r.2.2,ord p,(n:Int))∧zxY p n r∧v=some (zgr (K7 (alk p) p.length 0))) ?_ (m+400) p.length _ _ ⟨1,(0,0,false),by omega,by omega,by omega,rfl,.inl ⟨rfl,fun t _ h=>by omega⟩,rfl⟩ (by omega)
 rintro c s v ⟨n,r,h1,hn1,rfl,rfl,hT,rfl⟩ next hn
 simp only [zx]
 by_cases hlt:n<p.length
 ·obtain ⟨q,rfl⟩:∃q,n=q+1:=⟨n-1,by omega⟩
  have b1:=znZ p (s:=q) (by omega)
  have b2:=znZ p (s:=q+1) (by omega)
  have w1:w64 (((q+1:Nat):Int)-1)=(q:Int):=by rw [zl (by omega) (by omega)];omega
  have w2:w64 (((q+1:Nat):Int)+1)=((q+1+1:Nat):Int):=by rw [zl (by omega) (by omega)];omega
  rw [zk (by omega),w1,w2,zP (zA ⟨by omega,by omega⟩),zP (zA ⟨by omega,by omega⟩),zY 0 (ord p) q (by omega),zY 0 (ord p) (q+1) (by omega),zP (zA ⟨b1.1,b1.2⟩),zP (zA ⟨b2.1,b2.2⟩),eqP]
  have up:∀r',zxY p (q+1+1) r'→next (p,r'.1,r'.2.1,r'.2.2,ord p,((q+1+1:Nat):Int))=some (zgr (K7 (alk p) p.length 0)):=fun r' h=>hn (p.length+1-(q+1+1)) _ _ (by omega) ⟨q+1+1,r',by omega,by omega,rfl,rfl,h,rfl⟩
  by_cases he:pt p ((ord p)[q]'(by omega))=pt p ((ord p)[q+1]'(by omega))
  ·rw [zk (show rdD (0,0) p ((ord p)[q]'(by omega))=rdD (0,0) p ((ord p)[q+1]'(by omega)) from he)]
   rcases hT with ⟨rfl,hno⟩|⟨t,ht,htn,rfl,hte,hmin⟩
   ·refine up ((ord p)[q],(ord p)[q+1],true) (.inr ⟨q,by omega,by omega,rfl,he.symm,fun u hu hum hue=>?_⟩)
    by_cases e:u=q
    ·subst e;exact Int.le_refl _
    ·exact absurd hue (hno u hu (by omega))
   ·simp only [Bool.not_true,cF]
    by_cases hl':(ord p)[q]'(by omega)<(ord p)[t]
    ·rw [decide_eq_true hl',cT]
     refine up ((ord p)[q],(ord p)[q+1],true) (.inr ⟨q,by omega,by omega,rfl,he.symm,fun u hu hum hue=>?_⟩)
     by_cases e:u=q
     ·subst e;exact Int.le_refl _
     ·have:=hmin u hu (by omega) hue
      omega
    ·rw [decide_eq_false hl',cF]
     refine up ((ord p)[t],(ord p)[t+1],true) (.inr ⟨t,ht,by omega,rfl,hte,fun u hu hum hue=>?_⟩)
     by_cases e:u=q
     ·subst e;omega
     ·exact hmin u hu (by omega) hue
  ·rw [zg (show ¬rdD (0,0) p ((ord p)[q]'(by omega))=rdD (0,0) p ((ord p)[q+1]'(by omega)) from he),cF]
   refine up r ?_
   rcases hT with ⟨h,hno⟩|⟨t,ht,htn,hr,hte,hmin⟩
   ·refine .inl ⟨h,fun u hu hum hue=>?_⟩
    by_cases e:u=q
    ·subst e;exact he hue.symm
    ·exact hno u hu (by omega) hue
   ·refine .inr ⟨t,ht,by omega,hr,hte,fun u hu hum hue=>?_⟩
    by_cases e:u=q
    ·subst e;exact absurd hue.symm he
    ·exact hmin u hu (by omega) hue
 ·rw [zg (by omega),←hT.is (by omega)]
end Go.Proofs.YtpkkcjmblocjdaaGreat.Pure
end
section
namespace Go.Proofs.YtpkkcjmblocjdaaGreat.Pure
open Go.RowKit Go.Proofs.YtpkkcjmblocjdaaGreat.AM PL
abbrev zy:Type:=List Pt×List Pt×List Pt
def okq (q:Pt):Prop:=(-1048576≤q.1∧q.1≤1048576)∧(-1048576≤q.2∧q.2≤1048576)
instance (q:Pt):Decidable (okq q):=inferInstanceAs (Decidable (_∧_))
def oks (n:Nat) (s:Pt):Prop:=inr s.1 n∧inr s.2 n
instance (n:Nat) (s:Pt):Decidable (oks n s):=inferInstanceAs (Decidable ((_∧_)∧(_∧_)))
def zsR (p:zy):Prop:=p.1.length≤200∧p.2.1.length≤400∧p.2.2.length≤400
instance (p:zy):Decidable (zsR p):=inferInstanceAs (Decidable (_∧_∧_))
def Y2 (n:Nat) (l:List Pt):Bool:=l.all fun s=>decide (oks n s)
def zjs (l:List Pt):Bool:=l.all fun q=>decide (okq q)
def chk (p:zy):Bool:=decide (zsR p)&&(zjs p.1&&(Y2 p.1.length p.2.1&&Y2 p.1.length p.2.2))
theorem zxC (k:Nat) (x lo hi:Int):JF k x lo hi=some (decide (lo≤x∧x≤hi)):=by
 unfold JF
 simp only [zx]
 by_cases h:x≥lo
 ·rw [zk h];congr 1;rw [decide_eq_decide];omega
 ·rw [zg h];congr 1;exact (decide_eq_false (by omega)).symm
theorem zmh (q:Pt) (l:List Pt):zjs (q::l)=(decide (okq q)&&zjs l):=rfl
theorem zmH (n:Nat) (s:Pt) (l:List Pt):Y2 n (s::l)=(decide (oks n s)&&Y2 n l):=rfl
def ans (b:Bool):Option Int:=some (if b=true then 0 else 2)
theorem zAp (m:Nat) (p:zy):Ji (m+600) p=ans (chk p):=by
 obtain ⟨P,L,I⟩:=p
 unfold Ji zbU
 simp only [zx]
 by_cases h1:(P.length:Int)>200
 ·rw [zk h1,cT,show chk (P,L,I)=false from by unfold chk;rw [decide_eq_false (fun h=>by have:=h.1;dsimp only at this;omega)];rfl];rfl
 rw [zg h1]
 by_cases h2:(L.length:Int)>400
 ·rw [zk h2,cT,show chk (P,L,I)=false from by unfold chk;rw [decide_eq_false (fun h=>by have:=h.2.1;dsimp only at this;omega)];rfl];rfl
 rw [zg h2]
 by_cases h3:(I.length:Int)>400
 ·rw [zk h3,show chk (P,L,I)=false from by unfold chk;rw [decide_eq_false (fun h=>by have:=h.2.2;dsimp only at this;omega)];rfl];rfl
 rw [zg h3,show chk (P,L,I)=(zjs P&&(Y2 P.length L&&Y2 P.length I)) from by unfold chk;rw [decide_eq_true (show zsR (P,L,I) from ⟨by dsimp only;omega,by dsimp only;omega,by dsimp only;omega⟩)];rfl]
 refine zG (fun i=>((P,L,I),P,(P.length:Int),(i:Int))) P.length (fun i=>ans (zjs (P.drop i)&&(Y2 P.length L&&Y2 P.length I))) ?_ ?_ (m+600) 0 (Nat.zero_le _) (by omega)
 ·intro next
  dsimp only
  rw [zg (by omega),List.drop_length,show zjs []=true from rfl,Bool.true_and]
  have zbj:∀(X:List Pt) (j:Nat) (q:zy×(List Pt×List Pt)×Int×List Pt×Int×Int→(zy×(List Pt×List Pt)×Int×List Pt×Int×Int→Option Int)→Option Int) (w:Bool),X.length≤400 →
    (∀next,q ((P,L,I),(L,I),(j:Int),X,(X.length:Int),(X.length:Int)) next=ans w) →
    (∀(i:Nat) (hi:i<X.length) next,q ((P,L,I),(L,I),(j:Int),X,(X.length:Int),(i:Int)) next=if oks P.length X[i] then next ((P,L,I),(L,I),(j:Int),X,(X.length:Int),((i+1:Nat):Int)) else some 2) →
    zw q (m+600) ((P,L,I),(L,I),(j:Int),X,(X.length:Int),0)=ans (Y2 P.length X&&w):=by
   intro X j q w hX he hs
   refine zG (fun i=>((P,L,I),(L,I),(j:Int),X,(X.length:Int),(i:Int))) X.length (fun i=>ans (Y2 P.length (X.drop i)&&w)) ?_ ?_ (m+600) 0 (Nat.zero_le _) (by omega)
   ·intro next
    rw [he,List.drop_length];rfl
   ·intro i hi next hn
    rw [hs i hi,List.drop_eq_getElem_cons hi,zmH]
    by_cases h:oks P.length X[i]
    ·rw [if_pos h,decide_eq_true h,Bool.true_and];exact hn
    ·rw [if_neg h,decide_eq_false h];rfl
  have body:∀(X:List Pt) (i:Nat) (hi:i<X.length),X.length≤400→∀(z:Option Int) (t:Bool→Option Int),t true=some 2→t false=z →
    (gd (inb (i:Int) X.length)<|bnd (JF (m+600) (rdD (0,0) X (i:Int)).1 0 (w64 ((P.length:Int)-1))) fun r38=>bif !r38 then t true else bnd (JF (m+600) (rdD (0,0) X (i:Int)).2 0 (w64 ((P.length:Int)-1))) fun r39=>t (!r39))=if oks P.length X[i] then z else some 2:=by
   intro X i hi hX z t ht hf
   rw [zP (zA ⟨by omega,by omega⟩),zY _ X i hi,zl (by omega) (by omega),zxC,zr,zxC,zr]
   generalize X[i]=s
   by_cases c1:0≤s.1∧s.1≤(P.length:Int)-1
   ·rw [decide_eq_true c1,Bool.not_true,cF]
    by_cases c2:0≤s.2∧s.2≤(P.length:Int)-1
    ·rw [decide_eq_true c2,Bool.not_true,hf,if_pos (show oks P.length s from ⟨⟨by omega,by omega⟩,⟨by omega,by omega⟩⟩)]
    ·rw [decide_eq_false c2,Bool.not_false,ht,if_neg (fun h:oks P.length s=>c2 ⟨h.2.1,by have:=h.2.2;omega⟩)]
   ·rw [decide_eq_false c1,Bool.not_false,cT,ht,if_neg (fun h:oks P.length s=>c1 ⟨h.1.1,by have:=h.1.2;omega⟩)]
  rw [q6]
  dsimp only
  rw [zk (show (0:Int)<2 by omega),zk rfl]
  refine zbj L 0 _ (Y2 P.length I) (by omega) ?_ ?_
  ·intro next
   dsimp only
   rw [zg (by omega),show m+599=(m+598)+1 from rfl,q6]
   dsimp only
   rw [zk (show w64 (((0:Nat):Int)+1)<2 by decide),zg (show ¬w64 (((0:Nat):Int)+1)=0 by decide),zk (show w64 (((0:Nat):Int)+1)=1 by decide)]
   rw [←Bool.and_true (Y2 P.length I)]
   refine zbj I 1 _ true (by omega) ?_ ?_
   ·intro next
    dsimp only
    rw [zg (by omega),show m+598=(m+597)+1 from rfl,q6]
    dsimp only
    rw [zg (show ¬w64 (((1:Nat):Int)+1)<2 by decide)]
    rfl
   ·intro i hi next
    dsimp only
    rw [zk (by omega)]
    exact body I i hi (by omega) _ (fun b=>bif b then some 2 else next ((P,L,I),(L,I),((1:Nat):Int),I,(I.length:Int),w64 ((i:Int)+1))) rfl (by rw [zl (by omega) (by omega)];rfl)
  ·intro i hi next
   dsimp only
   rw [zk (by omega)]
   exact body L i hi (by omega) _ (fun b=>bif b then some 2 else next ((P,L,I),(L,I),((0:Nat):Int),L,(L.length:Int),w64 ((i:Int)+1))) rfl (by rw [zl (by omega) (by omega)];rfl)
 ·intro i hi next hn
  dsimp only at hn ⊢
  rw [zk (by omega),zP (zA ⟨by omega,by omega⟩),zY _ P i hi,zl (by omega) (by omega),List.drop_eq_getElem_cons hi,zmh,zxC,zr,zxC,zr]
  have hn':next ((P,L,I),P,(P.length:Int),(i:Int)+1)=ans (zjs (P.drop (i+1))&&(Y2 P.length L&&Y2 P.length I)):=hn
  generalize P[i]=q
  by_cases c1:-1048576≤q.1∧q.1≤1048576
  ·rw [decide_eq_true c1,Bool.not_true,cF]
   by_cases c2:-1048576≤q.2∧q.2≤1048576
   ·rw [decide_eq_true c2,Bool.not_true,cF,decide_eq_true (show okq q from ⟨c1,c2⟩),Bool.true_and];exact hn'
   ·rw [decide_eq_false c2,Bool.not_false,cT,decide_eq_false (fun h:okq q=>c2 h.2)];rfl
  ·rw [decide_eq_false c1,Bool.not_false,cT,cT,decide_eq_false (fun h:okq q=>c1 h.1)];rfl
theorem zue (m:Nat) (p:zy):qP (m+1000) p=ans (chk p):=by
 obtain ⟨P,L,I⟩:=p
 unfold qP
 simp only [zx]
 by_cases h1:(P.length:Int)>200
 ·rw [zk h1,cT,show chk (P,L,I)=false from by unfold chk;rw [decide_eq_false (fun h=>by have:=h.1;dsimp only at this;omega)];rfl];rfl
 rw [zg h1]
 by_cases h2:(L.length:Int)>400
 ·rw [zk h2,cT,show chk (P,L,I)=false from by unfold chk;rw [decide_eq_false (fun h=>by have:=h.2.1;dsimp only at this;omega)];rfl];rfl
 rw [zg h2]
 by_cases h3:(I.length:Int)>400
 ·rw [zk h3,show chk (P,L,I)=false from by unfold chk;rw [decide_eq_false (fun h=>by have:=h.2.2;dsimp only at this;omega)];rfl];rfl
 rw [zg h3,show chk (P,L,I)=(zjs P&&(Y2 P.length L&&Y2 P.length I)) from by unfold chk;rw [decide_eq_true (show zsR (P,L,I) from ⟨by dsimp only;omega,by dsimp only;omega,by dsimp only;omega⟩)];rfl]
 have e:Y2 P.length (L++I)=(Y2 P.length L&&Y2 P.length I):=by unfold Y2;rw [List.all_append]
 rw [←e]
 refine zG (fun i=>((P,L,I),(P.length:Int),(i:Int))) P.length (fun i=>ans (zjs (P.drop i)&&Y2 P.length (L++I))) ?_ ?_ (m+1000) 0 (Nat.zero_le _) (by omega)
 ·intro next
  dsimp only
  rw [zg (by omega),List.drop_length,show zjs []=true from rfl,Bool.true_and]
  refine zG (fun i=>((P,L,I),(P.length:Int),(i:Int))) (L++I).length (fun i=>ans (Y2 P.length ((L++I).drop i))) ?_ ?_ (m+1000) 0 (Nat.zero_le _) (by rw [List.length_append];omega)
  ·intro next
   dsimp only
   rw [zl (by omega) (by omega),zg (by rw [List.length_append];omega),List.drop_length]
   rfl
  ·intro i hi next hn
   have hi':=hi
   rw [List.length_append] at hi'
   dsimp only at hn ⊢
   rw [zl (x:=(L.length:Int)+(I.length:Int)) (by omega) (by omega),zk (by omega),List.drop_eq_getElem_cons hi,zmH]
   have hn':next ((P,L,I),(P.length:Int),(i:Int)+1)=ans (Y2 P.length ((L++I).drop (i+1))):=hn
   have tail:∀s:Pt,(bif decide (s.1<0) then (bif true then some 2 else next ((P,L,I),(P.length:Int),w64 ((i:Int)+1))) else bif decide (s.1≥(P.length:Int)) then (bif true then some 2 else next ((P,L,I),(P.length:Int),w64 ((i:Int)+1))) else bif decide (s.2<0) then (bif true then some 2 else next ((P,L,I),(P.length:Int),w64 ((i:Int)+1))) else (bif decide (s.2≥(P.length:Int)) then some 2 else next ((P,L,I),(P.length:Int),w64 ((i:Int)+1))))=ans (decide (oks P.length s)&&Y2 P.length ((L++I).drop (i+1))):=by
    intro s
    rw [zl (by omega) (by omega),hn']
    by_cases c1:s.1<0
    ·rw [zk c1,cT,decide_eq_false (fun h:oks P.length s=>by have:=h.1.1;omega)];rfl
    rw [zg c1]
    by_cases c2:s.1≥(P.length:Int)
    ·rw [zk c2,cT,decide_eq_false (fun h:oks P.length s=>by have:=h.1.2;omega)];rfl
    rw [zg c2]
    by_cases c3:s.2<0
    ·rw [zk c3,cT,decide_eq_false (fun h:oks P.length s=>by have:=h.2.1;omega)];rfl
    rw [zg c3]
    by_cases c4:s.2≥(P.length:Int)
    ·rw [zk c4,decide_eq_false (fun h:oks P.length s=>by have:=h.2.2;omega)];rfl
    rw [zg c4,decide_eq_true (show oks P.length s from ⟨⟨by omega,by omega⟩,⟨by omega,by omega⟩⟩),Bool.true_and]
   by_cases hL:i<L.length
   ·rw [zk (by omega),zP (zA ⟨by omega,by omega⟩),zY _ L i hL,List.getElem_append_left hL]
    exact tail _
   ·have ei:w64 ((i:Int)-(L.length:Int))=((i-L.length:Nat):Int):=by rw [zl (by omega) (by omega)];omega
    rw [zg (by omega),ei,zP (zA ⟨by omega,by omega⟩),zY _ I (i-L.length) (by omega),List.getElem_append_right (by omega)]
    exact tail _
 ·intro i hi next hn
  dsimp only at hn ⊢
  have hin:inb (i:Int) P.length=true:=zA ⟨by omega,by omega⟩
  simp only [hin,gT]
  rw [zk (by omega),zY _ P i hi,zl (by omega) (by omega),List.drop_eq_getElem_cons hi,zmh]
  have hn':next ((P,L,I),(P.length:Int),(i:Int)+1)=ans (zjs (P.drop (i+1))&&Y2 P.length (L++I)):=hn
  generalize P[i]=q
  by_cases c1:q.1>1048576
  ·rw [zk c1,cT,decide_eq_false (fun h:okq q=>by have:=h.1;omega)];rfl
  rw [zg c1]
  by_cases c2:q.1 < -1048576
  ·rw [zk c2,cT,decide_eq_false (fun h:okq q=>by have:=h.1;omega)];rfl
  rw [zg c2]
  by_cases c3:q.2>1048576
  ·rw [zk c3,cT,decide_eq_false (fun h:okq q=>by have:=h.2;omega)];rfl
  rw [zg c3]
  by_cases c4:q.2 < -1048576
  ·rw [zk c4,decide_eq_false (fun h:okq q=>by have:=h.2;omega)];rfl
  rw [zg c4,decide_eq_true (show okq q from ⟨⟨by omega,by omega⟩,⟨by omega,by omega⟩⟩),Bool.true_and]
  exact hn'
end Go.Proofs.YtpkkcjmblocjdaaGreat.Pure
end
section
namespace Go.Proofs.YtpkkcjmblocjdaaGreat.Pure
open Go.RowKit Go.Proofs.YtpkkcjmblocjdaaGreat.AM PL
abbrev Flw:Type:=Int×Int×Int
def sgs (p:zy):List Pt:=p.2.1++p.2.2
def en (P:List Pt) (s:Pt):Sg:=(pt P s.1,pt P s.2)
def ens (p:zy):List Sg:=(sgs p).map (en p.1)
def rct (f:Nat→Nat→Bool) (n m a:Nat):Option (Nat×Nat):=(List.range' a (n-a)).findSome? fun a=>(row f m a 0).map fun b=>(a,b)
theorem znR (f:Nat→Nat→Bool) (n m:Nat):rct f n m n=none:=by unfold rct;rw [Nat.sub_self];rfl
theorem zj5 (f:Nat→Nat→Bool) {n m a:Nat} (h:a<n):rct f n m a=match row f m a 0 with|some b=>some (a,b)|none=>rct f n m (a+1):=by
 conv=>lhs;unfold rct
 rw [show n-a=(n-(a+1))+1 by omega,List.range'_succ,List.findSome?_cons]
 cases row f m a 0<;>rfl
theorem zoX (f:Nat→Nat→Bool) {n m:Nat}:∀(d a:Nat),n-a=d→a≤n→(rct f n m a=none→∀i k,a≤i→i<n→k<m→f i k=false) ∧
  (∀i k,rct f n m a=some (i,k)→a≤i∧i<n∧k<m∧f i k=true)
 |0,a,hd,ha=>by
  obtain rfl:a=n:=by omega
  rw [znR]
  exact ⟨fun _ i k h1 h2 h3=>(by omega),fun i k h=>(by cases h)⟩
 |d+1,a,hd,ha=>by
  obtain ⟨h1,h2⟩:=zoX f (n:=n) (m:=m) d (a+1) (by omega) (by omega)
  obtain ⟨r1,r2⟩:=Yo f (n:=m) (a:=a) _ 0 rfl (Nat.zero_le _)
  rw [zj5 f (show a<n by omega)]
  cases hr:row f m a 0 with
  |some b =>
   obtain ⟨_,g2,g3,_⟩:=r2 b hr
   refine ⟨fun h=>(by cases h),fun i k h=>?_⟩
   simp only [Option.some.injEq,Prod.mk.injEq] at h
   obtain ⟨rfl,rfl⟩:=h
   exact ⟨Nat.le_refl _,by omega,g2,g3⟩
  |none =>
   refine ⟨fun h i k hi hn hk=>?_,fun i k h=>?_⟩
   ·by_cases e:i=a
    ·rw [e];exact r1 hr k (Nat.zero_le _) hk
    ·exact h1 h i k (by omega) hn hk
   ·obtain ⟨g1,g2,g3,g4⟩:=h2 i k h
    exact ⟨by omega,g2,g3,g4⟩
structure Sm (p:zy):Prop where
 chk:chk p=true
 P:p.1.length≤150
 L:p.2.1.length≤150
 I:p.2.2.length≤150
theorem zvC {l:List Pt} (h:zjs l=true):∀q∈l,okq q:=fun q hq=>of_decide_eq_true (List.all_eq_true.1 h q hq)
theorem zoO {n:Nat} {l:List Pt} (h:Y2 n l=true):∀s∈l,oks n s:=fun s hs=>of_decide_eq_true (List.all_eq_true.1 h s hs)
theorem Sm.q {p:zy} (h:Sm p):∀q∈p.1,okq q:=by
 have:=h.chk
 unfold Pure.chk at this
 simp only [Bool.and_eq_true] at this
 exact zvC this.2.1
theorem Sm.sl {p:zy} (h:Sm p):∀s∈p.2.1,oks p.1.length s:=by
 have:=h.chk
 unfold Pure.chk at this
 simp only [Bool.and_eq_true] at this
 exact zoO this.2.2.1
theorem Sm.si {p:zy} (h:Sm p):∀s∈p.2.2,oks p.1.length s:=by
 have:=h.chk
 unfold Pure.chk at this
 simp only [Bool.and_eq_true] at this
 exact zoO this.2.2.2
theorem Sm.s {p:zy} (h:Sm p):∀s∈sgs p,oks p.1.length s:=fun s hs=>(List.mem_append.1 hs).elim (h.sl s) (h.si s)
theorem Sm.len {p:zy} (h:Sm p):(sgs p).length≤300:=by
 unfold sgs;rw [List.length_append];have:=h.L;have:=h.I;omega
theorem zbm {q:Pt} (h:okq q):Fit q:=by unfold okq at h;unfold Fit;omega
theorem zq2 {P:List Pt} {i:Int} (h:inr i P.length):pt P i∈P:=by
 obtain ⟨j,rfl⟩:=Int.eq_ofNat_of_zero_le h.1
 have h2:=h.2
 unfold pt;rw [zY _ P j (by omega)];exact List.getElem_mem _
theorem Sm.fit {p:zy} (h:Sm p) {i:Int} (hi:inr i p.1.length):Fit (pt p.1 i):=zbm (h.q _ (zq2 hi))
theorem Qz {P:List Pt} {i:Nat} (h:i<P.length):pt P (i:Int)=P[i]:=by unfold pt;exact zY _ P i h
theorem Sm.at {p:zy} (h:Sm p) {i:Nat} (hi:i<(sgs p).length):oks p.1.length (pt (sgs p) (i:Int)):=by
 rw [Qz hi];exact h.s _ (List.getElem_mem _)
theorem Xf (p:zy) {i:Nat} (hi:i<(sgs p).length):sat (ens p) (i:Int)=en p.1 (pt (sgs p) (i:Int)):=by
 unfold sat ens
 rw [zY _ _ i (by rw [List.length_map];exact hi),List.getElem_map,Qz hi]
theorem zde (p:zy):(ens p).length=(sgs p).length:=by unfold ens;rw [List.length_map]
def pnt (S:List Pt):Nat→Nat→Bool:=fun _ k=>decide ((pt S (k:Int)).1=(pt S (k:Int)).2)
def zec (p:zy):Nat→Nat→Bool:=fun i k=>decide (Ins (en p.1 (pt (sgs p) (k:Int))).1 (en p.1 (pt (sgs p) (k:Int))).2 (pt p.1 (i:Int)))
def two (c:Int) (x:Option (Nat×Nat)) (r:Flw):Flw:=match x with|some (i,k)=>(c,(i:Int),(k:Int))|none=>r
def one (c:Int) (x:Option Nat) (r:Flw):Flw:=match x with|some k=>(c,(k:Int),0)|none=>r
def s1 (p:zy):Option (Nat×Nat):=K7 (alk p.1) p.1.length 0
def s2 (p:zy):Option Nat:=row (pnt (sgs p)) (sgs p).length 0 0
def s3 (p:zy):Option (Nat×Nat):=K7 (qQ (ens p)) (ens p).length 0
def s4 (p:zy):Option (Nat×Nat):=rct (zec p) p.1.length (sgs p).length 0
def fz:Flw:=(0,0,0)
theorem zr5 (k:Nat) {p:zy} (h:Sm p):qW k p=some (sgs p):=by
 have:=h.L;have:=h.I
 unfold qW
 rw [zP (jG (by omega)),zP (jG (by simp;omega))]
 rfl
theorem zud (k:Nat) {p:zy} (h:Sm p):qI k p=some (sgs p):=by
 have:=h.L;have:=h.I
 unfold qI
 rw [zP (jG (by omega)),zP (jG (by omega))]
 rfl
theorem ztY (k:Nat) (p:zy) {s:Pt} (h:oks p.1.length s):Ze k p s=some (en p.1 s):=by
 unfold Ze
 rw [Jw h.1,gT,Jw h.2,gT]
 rfl
theorem zw1 (m:Nat) {p:zy} (h:Sm p):KE (m+1000) p=some (two 1 (s1 p) fz):=by
 unfold KE zb1
 rw [show Jj (m+1000) p.1=some (zgr (s1 p)) from zxO (m+600) p.1 (by have:=h.P;omega),zr]
 cases s1 p with
 |none=>rfl
 |some q=>rfl
theorem zxT (m:Nat) {p:zy} (h:Sm p):Ky (m+1000) p=some (one 2 (s2 p) fz):=by
 unfold Ky zbO
 rw [show qW (m+1000) (p.1,p.2.1,p.2.2)=some (sgs p) from zr5 _ h,zr]
 have hl:=h.len
 refine zG (fun i=>(fz,sgs p,((sgs p).length:Int),(i:Int))) (sgs p).length (fun i=>some (one 2 (row (pnt (sgs p)) (sgs p).length 0 i) fz)) ?_ ?_ (m+1000) 0 (Nat.zero_le _) (by omega)
 ·intro next
  dsimp only
  rw [zg (by omega),Jt];rfl
 ·intro i hi next hn
  dsimp only at hn ⊢
  rw [zk (by omega),zP (zA ⟨by omega,by omega⟩),Qa _ hi,zl (by omega) (by omega)]
  have e:decide ((rdD (0,0) (sgs p) (i:Int)).1=(rdD (0,0) (sgs p) (i:Int)).2)=pnt (sgs p) 0 i:=rfl
  rw [e]
  cases pnt (sgs p) 0 i
  ·exact hn
  ·rfl
theorem zut (m:Nat) {p:zy} (h:Sm p):JQ (m+1000) p=some (two 4 (s4 p) fz):=by
 have hP:=h.P
 have hl:=h.len
 unfold JQ zaL
 refine zG (fun i=>(p,fz,p.1,(p.1.length:Int),(i:Int))) p.1.length (fun i=>some (two 4 (rct (zec p) p.1.length (sgs p).length i) fz)) ?_ ?_ (m+1000) 0 (Nat.zero_le _) (by omega)
 ·intro next
  dsimp only
  rw [zg (by omega),znR];rfl
 ·intro i hi next hn
  dsimp only at hn ⊢
  rw [zk (by omega),zP (zA ⟨by omega,by omega⟩),zj5 _ hi]
  rw [show qW (m+1000) (p.1,p.2.1,p.2.2)=some (sgs p) from zr5 _ h,zr]
  have hn':next (p,fz,p.1,(p.1.length:Int),(i:Int)+1)=some (two 4 (rct (zec p) p.1.length (sgs p).length (i+1)) fz):=hn
  refine zG (fun b=>(p,fz,(i:Int),pt p.1 (i:Int),p.1,(p.1.length:Int),(i:Int),sgs p,((sgs p).length:Int),(b:Int))) (sgs p).length (fun b=>some (two 4 (match row (zec p) (sgs p).length i b with|some b=>some (i,b)|none=>rct (zec p) p.1.length (sgs p).length (i+1)) fz)) ?_ ?_ (m+1000) 0 (Nat.zero_le _) (by omega)
  ·intro next2
   dsimp only
   rw [zg (by omega),Jt,zl (x:=(i:Int)+1) (by omega) (by omega)]
   exact hn'
  ·intro b hb next2 hn2
   dsimp only at hn2 ⊢
   rw [zk (by omega),zP (zA ⟨by omega,by omega⟩),zl (x:=(b:Int)+1) (by omega) (by omega),Qa _ hb]
   rw [show Ze (m+1000) (p.1,p.2.1,p.2.2) ((rdD (0,0) (sgs p) (b:Int)).1,(rdD (0,0) (sgs p) (b:Int)).2)=some (en p.1 (pt (sgs p) (b:Int))) from ztY _ p (h.at hb),zr]
   rw [show ∀a b c,jm (m+1000) a b c=some (decide (Ins a b c)) from fun a b c=>zcK (m+994) a b c,zr]
   have e:decide (Ins ((en p.1 (pt (sgs p) (b:Int))).1.1,(en p.1 (pt (sgs p) (b:Int))).1.2) ((en p.1 (pt (sgs p) (b:Int))).2.1,(en p.1 (pt (sgs p) (b:Int))).2.2) ((pt p.1 (i:Int)).1,(pt p.1 (i:Int)).2))=zec p i b:=rfl
   rw [e]
   cases zec p i b
   ·exact hn2
   ·rfl
theorem zuu {p:zy} (h:Sm p) (h1:s1 p=none) (h2:s2 p=none):∀s∈sgs p,¬zor (en p.1 s):=by
 intro s hs hb
 have hok:=h.s s hs
 rcases hb with hb|hb
 ·exact hb ⟨h.fit hok.1,h.fit hok.2⟩
 ·obtain ⟨k,hk,rfl⟩:=List.mem_iff_getElem.1 hs
  have hne:=(Yo (pnt (sgs p)) (n:=(sgs p).length) (a:=0) _ 0 rfl (Nat.zero_le _)).1 h2 k (Nat.zero_le _) hk
  unfold pnt at hne
  rw [Qz hk] at hne
  have hne':=of_decide_eq_false hne
  obtain ⟨⟨a0,a1⟩,⟨b0,b1⟩⟩:=hok
  obtain ⟨a,ha⟩:=Int.eq_ofNat_of_zero_le a0
  obtain ⟨b,hb'⟩:=Int.eq_ofNat_of_zero_le b0
  have hall:=(YY (alk p.1) (n:=p.1.length) _ 0 rfl (Nat.zero_le _)).1 h1
  unfold en at hb
  dsimp only at hb
  rw [ha,hb'] at hb hne'
  rw [ha] at a1
  rw [hb'] at b1
  rcases Nat.lt_trichotomy a b with hab|hab|hab
  ·have:=of_decide_eq_false (hall a b (Nat.zero_le _) hab (by omega))
   exact this hb
  ·exact hne' (by rw [hab])
  ·have:=of_decide_eq_false (hall b a (Nat.zero_le _) hab (by omega))
   exact this hb.symm
theorem zxq (m:Nat) {p:zy} (h:Sm p) (h1:s1 p=none) (h2:s2 p=none):KD (m+1000) p=some (two 3 (s3 p) fz):=by
 have hl:=h.len
 unfold KD zbE
 rw [show qW (m+1000) (p.1,p.2.1,p.2.2)=some (sgs p) from zr5 _ h,zr]
 refine zG (fun i=>(p,fz,((sgs p).take i).map (en p.1),sgs p,((sgs p).length:Int),(i:Int))) (sgs p).length (fun _=>some (two 3 (s3 p) fz)) ?_ ?_ (m+1000) 0 (Nat.zero_le _) (by omega)
 ·intro next
  dsimp only
  rw [zg (by omega),List.take_length]
  have hf:J4 (m+1000) ((sgs p).map (en p.1))=some (znQ (ens p)):=zyg (m+600) (ens p) (by rw [zde];omega)
  rw [hf,zr]
  have hno:((ens p).any fun s=>decide (zor s))=false:=by
   rw [List.any_eq_false]
   intro s hs
   unfold ens at hs
   obtain ⟨t,ht,rfl⟩:=List.mem_map.1 hs
   simpa using zuu h h1 h2 t ht
  unfold znQ
  rw [hno,if_neg (by simp)]
  show (bif (zgr (s3 p)).2.2 then some ((3:Int),(zgr (s3 p)).1,(zgr (s3 p)).2.1) else some (0,0,0))=_
  cases s3 p with
  |none=>rfl
  |some q=>rfl
 ·intro i hi next hn
  dsimp only at hn ⊢
  rw [zk (by omega),zP (zA ⟨by omega,by omega⟩),zl (by omega) (by omega)]
  rw [show Ze (m+1000) (p.1,p.2.1,p.2.2) ((rdD (0,0) (sgs p) (i:Int)).1,(rdD (0,0) (sgs p) (i:Int)).2)=some (en p.1 (pt (sgs p) (i:Int))) from ztY _ p (h.at hi),zr]
  rw [zP (jG (by simp;omega))]
  have e:((sgs p).take (i+1)).map (en p.1)=((sgs p).take i).map (en p.1)++[en p.1 (pt (sgs p) (i:Int))]:=by
   rw [List.take_succ_eq_append_getElem hi,List.map_append,Qz hi];rfl
  rw [e] at hn
  exact hn
def zzl (p:zy):Flw:=two 1 (s1 p) (one 2 (s2 p) (two 3 (s3 p) (two 4 (s4 p) fz)))
theorem zyc (m:Nat) {p:zy} (h:Sm p):ju (m+1000) p=some (zzl p):=by
 have hP:=h.P
 have hl:=h.len
 unfold ju JY
 refine zG (fun i=>(p,fz,(i:Int))) p.1.length (fun i=>some (two 1 (K7 (alk p.1) p.1.length i) (one 2 (s2 p) (two 3 (s3 p) (two 4 (s4 p) fz))))) ?_ ?_ (m+1000) 0 (Nat.zero_le _) (by omega)
 ·intro next
  dsimp only
  rw [zg (by omega),zg5]
  rw [show qI (m+1000) (p.1,p.2.1,p.2.2)=some (sgs p) from zud _ h,zr]
  refine zG (fun i=>(p,fz,sgs p,(i:Int))) (sgs p).length (fun i=>some (one 2 (row (pnt (sgs p)) (sgs p).length 0 i) (two 3 (s3 p) (two 4 (s4 p) fz)))) ?_ ?_ (m+1000) 0 (Nat.zero_le _) (by omega)
  ·intro next
   dsimp only
   rw [zg (by omega),Jt]
   refine zG (fun i=>(p,fz,sgs p,(i:Int))) (sgs p).length (fun i=>some (two 3 (K7 (qQ (ens p)) (ens p).length i) (two 4 (s4 p) fz))) ?_ ?_ (m+1000) 0 (Nat.zero_le _) (by omega)
   ·intro next
    dsimp only
    rw [zg (by omega),zde,zg5]
    refine zG (fun i=>(p,fz,sgs p,(i:Int))) p.1.length (fun i=>some (two 4 (rct (zec p) p.1.length (sgs p).length i) fz)) ?_ ?_ (m+1000) 0 (Nat.zero_le _) (by omega)
    ·intro next
     dsimp only
     rw [zg (by omega),znR];rfl
    ·intro i hi next hn
     dsimp only at hn ⊢
     rw [zk (by omega),zj5 _ hi]
     have hn':next (p,fz,sgs p,(i:Int)+1)=some (two 4 (rct (zec p) p.1.length (sgs p).length (i+1)) fz):=hn
     refine zG (fun b=>(p,fz,sgs p,(i:Int),(b:Int))) (sgs p).length (fun b=>some (two 4 (match row (zec p) (sgs p).length i b with|some b=>some (i,b)|none=>rct (zec p) p.1.length (sgs p).length (i+1)) fz)) ?_ ?_ (m+1000) 0 (Nat.zero_le _) (by omega)
     ·intro next2
      dsimp only
      rw [zg (by omega),Jt,zl (x:=(i:Int)+1) (by omega) (by omega)]
      exact hn'
     ·intro b hb next2 hn2
      have hok:=h.at hb
      dsimp only at hn2 ⊢
      have hin:inb (b:Int) (sgs p).length=true:=zA ⟨by omega,by omega⟩
      have hin2:inb (i:Int) p.1.length=true:=zA ⟨by omega,by omega⟩
      have e1:inb (rdD (0,0) (sgs p) (b:Int)).1 p.1.length=true:=Jw hok.1
      have e2:inb (rdD (0,0) (sgs p) (b:Int)).2 p.1.length=true:=Jw hok.2
      rw [zk (by omega),zl (x:=(b:Int)+1) (by omega) (by omega),Qa _ hb]
      simp only [hin,hin2,e1,e2,gT]
      rw [show ∀a b c,jj (m+1000) a b c=some (decide (Ins a b c)) from fun a b c=>zsI (m+900) a b c,zr]
      have e:∀x:Bool,x=zec p i b→(bif x then some ((4:Int),(i:Int),(b:Int)) else next2 (p,fz,sgs p,(i:Int),(b:Int)+1))=some (two 4 (match (if zec p i b=true then some b else row (zec p) (sgs p).length i (b+1)) with|some b=>some (i,b)|none=>rct (zec p) p.1.length (sgs p).length (i+1)) fz):=by
       intro x hx
       rw [hx]
       cases zec p i b
       ·exact hn2
       ·rfl
      exact e _ rfl
   ·intro i hi next hn
    dsimp only at hn ⊢
    rw [zk (by omega),zde,zfL _ hi]
    rw [zde] at hn
    have hn':next (p,fz,sgs p,(i:Int)+1)=some (two 3 (K7 (qQ (ens p)) (sgs p).length (i+1)) (two 4 (s4 p) fz)):=hn
    rw [zl (x:=(i:Int)+1) (by omega) (by omega)]
    refine zG (fun b=>(p,fz,sgs p,(i:Int),(b:Int))) (sgs p).length (fun b=>some (two 3 (match row (qQ (ens p)) (sgs p).length i b with|some b=>some (i,b)|none=>K7 (qQ (ens p)) (sgs p).length (i+1)) (two 4 (s4 p) fz))) ?_ ?_ (m+1000) (i+1) (by omega) (by omega)
    ·intro next2
     dsimp only
     rw [zg (by omega),Jt,zl (x:=(i:Int)+1) (by omega) (by omega)]
     exact hn'
    ·intro b hb next2 hn2
     have hok:=h.at hb
     have hok':=h.at hi
     dsimp only at hn2 ⊢
     have hin:inb (b:Int) (sgs p).length=true:=zA ⟨by omega,by omega⟩
     have hin2:inb (i:Int) (sgs p).length=true:=zA ⟨by omega,by omega⟩
     have e1:inb (rdD (0,0) (sgs p) (b:Int)).1 p.1.length=true:=Jw hok.1
     have e2:inb (rdD (0,0) (sgs p) (b:Int)).2 p.1.length=true:=Jw hok.2
     have e3:inb (rdD (0,0) (sgs p) (i:Int)).1 p.1.length=true:=Jw hok'.1
     have e4:inb (rdD (0,0) (sgs p) (i:Int)).2 p.1.length=true:=Jw hok'.2
     rw [zk (by omega),zl (x:=(b:Int)+1) (by omega) (by omega),Qa _ hb]
     simp only [hin,hin2,e1,e2,e3,e4,gT]
     rw [show ∀a b c d,jQ (m+1000) a b c d=some (QF a b c d) from fun a b c d=>by rw [←zvh];exact zym (m+900) a b c d,zr]
     have e:∀x:Bool,x=qQ (ens p) i b→(bif x then some ((3:Int),(i:Int),(b:Int)) else next2 (p,fz,sgs p,(i:Int),(b:Int)+1))=some (two 3 (match (if qQ (ens p) i b=true then some b else row (qQ (ens p)) (sgs p).length i (b+1)) with|some b=>some (i,b)|none=>K7 (qQ (ens p)) (sgs p).length (i+1)) (two 4 (s4 p) fz)):=by
      intro x hx
      rw [hx]
      cases qQ (ens p) i b
      ·exact hn2
      ·rfl
     refine e _ ?_
     unfold qQ
     rw [Xf p hi,Xf p hb]
     rfl
  ·intro i hi next hn
   dsimp only at hn ⊢
   have hin:inb (i:Int) (sgs p).length=true:=zA ⟨by omega,by omega⟩
   simp only [hin,gT]
   rw [zk (by omega),Qa _ hi,zl (by omega) (by omega)]
   have e:decide ((rdD (0,0) (sgs p) (i:Int)).1=(rdD (0,0) (sgs p) (i:Int)).2)=pnt (sgs p) 0 i:=rfl
   rw [e]
   cases pnt (sgs p) 0 i
   ·exact hn
   ·rfl
 ·intro i hi next hn
  dsimp only at hn ⊢
  rw [zk (by omega),zfL _ hi,zl (x:=(i:Int)+1) (by omega) (by omega)]
  have hn':next (p,fz,(i:Int)+1)=some (two 1 (K7 (alk p.1) p.1.length (i+1)) (one 2 (s2 p) (two 3 (s3 p) (two 4 (s4 p) fz)))):=hn
  refine zG (fun b=>(p,fz,(i:Int),(b:Int))) p.1.length (fun b=>some (two 1 (match row (alk p.1) p.1.length i b with|some b=>some (i,b)|none=>K7 (alk p.1) p.1.length (i+1)) (one 2 (s2 p) (two 3 (s3 p) (two 4 (s4 p) fz))))) ?_ ?_ (m+1000) (i+1) (by omega) (by omega)
  ·intro next2
   dsimp only
   rw [zg (by omega),Jt,zl (x:=(i:Int)+1) (by omega) (by omega)]
   exact hn'
  ·intro b hb next2 hn2
   dsimp only at hn2 ⊢
   rw [zk (by omega),zP (zA ⟨by omega,by omega⟩),zP (zA ⟨by omega,by omega⟩),zl (x:=(b:Int)+1) (by omega) (by omega),Qa _ hb,eqP]
   have e:decide (rdD (0,0) p.1 (i:Int)=rdD (0,0) p.1 (b:Int))=alk p.1 i b:=rfl
   rw [e]
   cases alk p.1 i b
   ·exact hn2
   ·rfl
end Go.Proofs.YtpkkcjmblocjdaaGreat.Pure
end
section
namespace Go.Proofs.YtpkkcjmblocjdaaGreat.Pure
open Go.RowKit Go.Proofs.YtpkkcjmblocjdaaGreat.AM PL
def dgr (L:List Pt) (i:Int):Nat:=(L.countP fun s=>decide (s.1=i))+L.countP fun s=>decide (s.2=i)
def dgs (L:List Pt) (n:Nat):List Int:=(List.range n).map fun (i:Nat)=>(dgr L (i:Int):Int)
theorem zli (L:List Pt) (s:Pt) (i:Int):dgr (L++[s]) i=dgr L i+(if s.1=i then 1 else 0)+(if s.2=i then 1 else 0):=by
 unfold dgr
 rw [List.countP_append,List.countP_append,List.countP_singleton,List.countP_singleton]
 by_cases h1:s.1=i<;>by_cases h2:s.2=i<;>simp [h1,h2]<;>omega
theorem zqw (L:List Pt) (i:Int):dgr L i≤2*L.length:=by
 unfold dgr
 have h1:=List.countP_le_length (p:=fun s:Pt=>decide (s.1=i)) (l:=L)
 have h2:=List.countP_le_length (p:=fun s:Pt=>decide (s.2=i)) (l:=L)
 omega
theorem Z0 (L:List Pt) (n:Nat):(dgs L n).length=n:=by unfold dgs;simp
theorem zc4 (L:List Pt) (n:Nat) {i:Nat} (h:i<n):rdD 0 (dgs L n) (i:Int)=(dgr L (i:Int):Int):=by
 rw [zY 0 _ i (by rw [Z0];exact h)]
 simp [dgs]
theorem zpo (L:List Pt) (n:Nat) (a b:Nat) (ha:a<n) (hb:b<n) (hab:a≠b) (hl:L.length≤1000) :
  stL (stL (dgs L n) (a:Int) (w64 (rdD 0 (dgs L n) (a:Int)+1))) (b:Int) (w64 (rdD 0 (stL (dgs L n) (a:Int) (w64 (rdD 0 (dgs L n) (a:Int)+1))) (b:Int)+1))=dgs (L++[((a:Int),(b:Int))]) n:=by
 have h1:=zqw L (a:Int)
 have h2:=zqw L (b:Int)
 have hne:rdD 0 (stL (dgs L n) (a:Int) (w64 (rdD 0 (dgs L n) (a:Int)+1))) (b:Int)=(dgr L (b:Int):Int):=by
  rw [←zc4 L n hb]
  unfold rdD stL
  simp only [Int.toNat_natCast,List.getD_eq_getElem?_getD]
  rw [List.getElem?_set_ne hab]
 rw [hne,zc4 L n ha,zl (by omega) (by omega),zl (by omega) (by omega)]
 unfold stL
 simp only [Int.toNat_natCast]
 apply List.ext_getElem
 ·simp [Z0]
 ·intro j h3 h4
  have hj:j<n:=by rw [Z0] at h4;exact h4
  rw [List.getElem_set,List.getElem_set]
  simp only [dgs,List.getElem_map,List.getElem_range]
  rw [zli]
  dsimp only
  by_cases e1:b=j
  ·subst e1
   rw [if_pos rfl,if_neg (by omega),if_pos rfl];omega
  ·rw [if_neg e1]
   by_cases e2:a=j
   ·subst e2
    rw [if_pos rfl,if_pos rfl,if_neg (by omega)];omega
   ·rw [if_neg e2,if_neg (by omega),if_neg (by omega)];omega
theorem zmw (m:Nat) (n:Nat) (L:List Pt) (hn:n≤350) (hL:L.length≤350) (h:∀s∈L,oks n s∧s.1≠s.2):jV (m+1000) (n:Int) L=some (dgs L n,0):=by
 unfold jV
 simp only [zx]
 rw [zg (by omega),show (decide ((n:Int)>1048576))=false from decide_eq_false (by omega),cF,zP (decide_eq_true (by omega)),zP (by unfold zfY;exact jG (by omega))]
 have e0:rpL (n:Int) (0:Int)=dgs (L.take 0) n:=by
  unfold rpL dgs
  rw [Int.toNat_natCast]
  apply List.ext_getElem
  ·simp
  ·intro j h1 h2
   simp [dgr]
 rw [e0]
 refine zG (fun i=>((n:Int),dgs (L.take i) n,L,(L.length:Int),(i:Int))) L.length (fun _=>some (dgs L n,0)) ?_ ?_ (m+1000) 0 (Nat.zero_le _) (by omega)
 ·intro next
  dsimp only
  rw [zg (by omega),List.take_length]
 ·intro i hi next hn'
  have hs:=h _ (List.getElem_mem hi)
  dsimp only at hn' ⊢
  rw [zk (by omega),zP (zA ⟨by omega,by omega⟩),zY _ L i hi,zl (x:=(i:Int)+1) (by omega) (by omega)]
  rw [List.take_succ_eq_append_getElem hi] at hn'
  generalize L[i]=s at hs hn' ⊢
  obtain ⟨⟨⟨a0,a1⟩,⟨b0,b1⟩⟩,hne⟩:=hs
  obtain ⟨s1,s2⟩:=s
  dsimp only at a0 a1 b0 b1 hne hn' ⊢
  obtain ⟨a,rfl⟩:=Int.eq_ofNat_of_zero_le a0
  obtain ⟨b,rfl⟩:=Int.eq_ofNat_of_zero_le b0
  rw [zg (by omega),zg (by omega),zg (by omega),zg (by omega),decide_eq_false (by omega),cF]
  have hl1:inb (a:Int) (dgs (L.take i) n).length=true:=zA ⟨by omega,by rw [Z0];omega⟩
  have hl2:∀x,inb (b:Int) (stL (dgs (L.take i) n) (a:Int) x).length=true:=fun x=>zA ⟨by omega,by unfold stL;rw [List.length_set,Z0];omega⟩
  have hl3:inb (b:Int) (dgs (L.take i) n).length=true:=zA ⟨by omega,by rw [Z0];omega⟩
  simp only [hl1,hl2,hl3,gT]
  rw [zpo _ n a b (by omega) (by omega) (by omega) (by rw [List.length_take];omega)]
  exact hn'
def nrm (s:Pt):Pt:=(mnI s.1 s.2,mxI s.1 s.2)
abbrev kk:Kd:=.pair (.int .i64) (.int .i64)
theorem zqq (a b:Pt):Kd.eqT kk a b=decide (a=b):=by
 show (zpg a.1 b.1&&zpg a.2 b.2)=_
 unfold zpg
 exact eqP
theorem zAW {κ ν:Kd} {es:List (κ.T×ν.T)} {x:κ.T} (h:∀q∈es,Kd.eqT κ x q.1=false):lkM κ ν es x=ν.dflt∧hsM κ ν es x=false:=by
 constructor
 ·unfold lkM
  rw [List.find?_eq_none.2 (fun q hq=>by rw [h q hq];simp)]
 ·unfold hsM
  rw [List.any_eq_false]
  intro q hq
  rw [h q hq];simp
theorem zyr {ρ:Type} {es:List (kk.T×Kd.T .bool)} {x:kk.T} (h:∀q∈es,Kd.eqT kk x q.1=false) (A B:Option ρ):(bif lkM kk .bool es x then A else gd (!(hsM kk .bool es x)) B)=B:=by
 obtain ⟨h1,h2⟩:=zAW h
 rw [h2]
 have h1':lkM kk .bool es x=false:=h1
 rw [h1']
 rfl
theorem zuq (m:Nat) (L:List Pt) (hL:L.length≤350) (h:L.Pairwise fun a b=>nrm a≠nrm b):Jg (m+1000) L=some (-1):=by
 unfold Jg
 refine zG (fun i=>(((L.take i).map fun s=>(nrm s,true):List (Pt×Bool)),L,(L.length:Int),(i:Int))) L.length (fun _=>some (-1)) ?_ ?_ (m+1000) 0 (Nat.zero_le _) (by omega)
 ·intro next
  dsimp only
  rw [zg (by omega)]
 ·intro i hi next hn
  dsimp only at hn ⊢
  rw [zk (by omega),zP (zA ⟨by omega,by omega⟩),zY _ L i hi,zl (x:=(i:Int)+1) (by omega) (by omega)]
  have hno:∀q∈((L.take i).map fun s=>(nrm s,true):List (Pt×Bool)),Kd.eqT kk (nrm L[i]) q.1=false:=by
   intro q hq
   obtain ⟨s,hs,rfl⟩:=List.mem_map.1 hq
   obtain ⟨j,hj,rfl⟩:=List.mem_iff_getElem.1 hs
   rw [List.length_take] at hj
   rw [zqq]
   refine decide_eq_false fun e=>?_
   dsimp only at e
   rw [List.getElem_take] at e
   exact List.pairwise_iff_getElem.1 h j i (by omega) hi (by omega) e.symm
  rw [List.take_succ_eq_append_getElem hi,List.map_append] at hn
  exact (zyr (x:=nrm L[i]) hno _ _).trans hn
def odd (L:List Pt):Nat→Nat→Bool:=fun _ k=>decide (dgr L (k:Int)≠0)&&decide (dgr L (k:Int)≠2)
def s5 (p:zy):Option Nat:=row (odd p.2.1) p.1.length 0 0
theorem zBi (k:Nat) (L:List Pt) (i:Nat):Z5 k (dgr L (i:Int):Int)=some (odd L 0 i):=by
 unfold Z5 odd
 simp only [zx]
 rw [show decide ((dgr L (i:Int):Int)=0)=decide (dgr L (i:Int)=0) from decide_eq_decide.2 (by omega),show decide ((dgr L (i:Int):Int)=2)=decide (dgr L (i:Int)=2) from decide_eq_decide.2 (by omega),show decide (dgr L (i:Int)≠0)=!decide (dgr L (i:Int)=0) from decide_not,show decide (dgr L (i:Int)≠2)=!decide (dgr L (i:Int)=2) from decide_not]
 cases decide (dgr L (i:Int)=0)<;>cases decide (dgr L (i:Int)=2)<;>rfl
theorem zpc (m:Nat) (n:Nat) (L:List Pt) (hn:n≤350):q9 (m+1000) (dgs L n) ((),())=some (match row (odd L) n 0 0 with|some k=>(k:Int)|none=>-1):=by
 unfold q9 ZS
 refine zG (fun i=>(dgs L n,((),()),((dgs L n).length:Int),(i:Int))) n (fun i=>some (match row (odd L) n 0 i with|some k=>(k:Int)|none=>-1)) ?_ ?_ (m+1000) 0 (Nat.zero_le _) (by omega)
 ·intro next
  dsimp only
  rw [zg (by rw [Z0];omega),Jt]
 ·intro i hi next hn'
  dsimp only at hn' ⊢
  rw [zk (by rw [Z0];omega),zP (zA ⟨by omega,by rw [Z0];omega⟩),zc4 L n hi,zBi,zr,Qa _ hi,zl (x:=(i:Int)+1) (by omega) (by omega)]
  cases odd L 0 i
  ·exact hn'
  ·rfl
end Go.Proofs.YtpkkcjmblocjdaaGreat.Pure
end
section
namespace Go.Proofs.YtpkkcjmblocjdaaGreat.Pure
open Go.RowKit Go.Proofs.YtpkkcjmblocjdaaGreat.AM PL
structure Rg (n:Nat) (D:Int→Prop) (nb:Int→Pt):Prop where
 rng:∀v,D v→0≤v∧v<(n:Int)
 ne:∀v,D v→(nb v).1≠(nb v).2
 nv:∀v,D v→(nb v).1≠v∧(nb v).2≠v
 d:∀v,D v→D (nb v).1∧D (nb v).2
 sym:∀v,D v→∀u,(u=(nb v).1∨u=(nb v).2)→(v=(nb u).1∨v=(nb u).2)
def oth (x:Pt) (f:Int):Int:=if x.1=f then x.2 else x.1
def Ch (nb:Int→Pt):List Int→Prop
 |a::b::c::r=>(((nb b).1=a∧(nb b).2=c)∨((nb b).1=c∧(nb b).2=a))∧Ch nb (b::c::r)
 |_=>True
theorem zxI {nb:Int→Pt} {a:Int} {l:List Int} (h:Ch nb (a::l)):Ch nb l:=by
 match l,h with
 |[],_=>trivial
 |[b],_=>trivial
 |b::c::r,h=>exact h.2
theorem zvY {nb:Int→Pt}:∀(l:List Int) (b:Int),Ch nb (b::l)→∀x∈l,(b::l).getLast?≠some x→(nb x).1∈b::l∧(nb x).2∈b::l
 |[],b,h,x,hx,_=>by cases hx
 |[c],b,h,x,hx,hn=>by
  obtain rfl:x=c:=by simpa using hx
  exact absurd (by simp) hn
 |c::d::r,b,h,x,hx,hn=>by
  rcases List.mem_cons.1 hx with rfl|hx
  ·rcases h.1 with ⟨e1,e2⟩|⟨e1,e2⟩<;>rw [e1,e2]<;>simp
  ·have:=zvY (d::r) c h.2 x hx (by rw [List.getLast?_cons_cons] at hn;exact hn)
   exact ⟨List.mem_cons_of_mem _ this.1,List.mem_cons_of_mem _ this.2⟩
structure Wk (D:Int→Prop) (nb:Int→Pt) (i:Int) (fr:Int) (r:List Int) (at':Int):Prop where
 nd:(fr::r).Nodup
 d:∀x∈fr::r,D x
 last:(fr::r).getLast?=some i
 ch:Ch nb (fr::r)
 to:at'=(nb fr).1∨at'=(nb fr).2
 pr:∀p,r.head?=some p→(p=(nb fr).1∨p=(nb fr).2)∧at'≠p
section
variable {n:Nat} {D:Int→Prop} {nb:Int→Pt} (G:Rg n D nb) {i:Int}
include G
theorem Wk.new {fr:Int} {r:List Int} {at':Int} (w:Wk D nb i fr r at') (h:at'≠i):at'∉fr::r:=by
 intro hm
 have hfr:=w.d fr List.mem_cons_self
 rcases List.mem_cons.1 hm with e|hm
 ·have:=G.nv fr hfr
  rcases w.to with h1|h1<;>rw [h1] at e
  ·exact this.1 e
  ·exact this.2 e
 ·cases r with
  |nil=>cases hm
  |cons p r =>
   rcases List.mem_cons.1 hm with e|hm'
   ·exact (w.pr p rfl).2 e
   ·have hl:(p::r).getLast?≠some at':=by
     have:=w.last
     rw [List.getLast?_cons_cons] at this
     rw [this]
     intro e
     injection e with e
     exact h e.symm
    have hin:=zvY r p (zxI w.ch) at' hm' hl
    have hs:=G.sym fr hfr at' w.to
    have hnd:=(List.nodup_cons.1 w.nd).1
    rcases hs with e|e<;>rw [e] at hnd
    ·exact hnd hin.1
    ·exact hnd hin.2
theorem Wk.step {fr:Int} {r:List Int} {at':Int} (w:Wk D nb i fr r at') (h:at'≠i):Wk D nb i at' (fr::r) (oth (nb at') fr):=by
 have hfr:=w.d fr List.mem_cons_self
 have hD:D at':=by
  rcases w.to with e|e
  ·rw [e];exact (G.d fr hfr).1
  ·rw [e];exact (G.d fr hfr).2
 have hs:=G.sym fr hfr at' w.to
 have hne:=G.ne at' hD
 refine ⟨List.nodup_cons.2 ⟨w.new G h,w.nd⟩,fun x hx=>(List.mem_cons.1 hx).elim (fun e=>e ▸ hD) (w.d x),by rw [List.getLast?_cons_cons];exact w.last,?_,?_,fun p hp=>?_⟩
 ·cases r with
  |nil=>trivial
  |cons p r =>
   obtain ⟨h1,h2⟩:=w.pr p rfl
   have hne':=G.ne fr hfr
   refine ⟨?_,w.ch⟩
   rcases w.to with e1|e1<;>rcases h1 with e2|e2
   ·exact absurd (e1.trans e2.symm) h2
   ·exact .inl ⟨e1.symm,e2.symm⟩
   ·exact .inr ⟨e2.symm,e1.symm⟩
   ·exact absurd (e1.trans e2.symm) h2
 ·unfold oth;split
  ·exact .inr rfl
  ·exact .inl rfl
 ·obtain rfl:fr=p:=by simpa using hp
  refine ⟨hs,?_⟩
  unfold oth
  split
  ·rename_i e;rw [←e];exact fun e'=>hne e'.symm
  ·rename_i e;exact e
omit G in
theorem zl9:∀{l:List Int} {n:Nat},l.Nodup→(∀x∈l,0≤x∧x<(n:Int))→l.length≤n:=by
 intro l n hnd hin
 have h1:(l.map Int.toNat).Nodup:=by
  unfold List.Nodup
  rw [List.pairwise_map]
  refine List.Pairwise.imp_of_mem (fun {a b} ha hb h=>?_) hnd
  have:=hin a ha;have:=hin b hb
  omega
 have h2:(l.map Int.toNat) ⊆ List.range n:=by
  intro x hx
  obtain ⟨y,hy,rfl⟩:=List.mem_map.1 hx
  have:=hin y hy
  rw [List.mem_range];omega
 have:=h1.length_le_of_subset h2
 simpa using this
theorem Wk.len {fr:Int} {r:List Int} {at':Int} (w:Wk D nb i fr r at'):(fr::r).length≤n:=zl9 w.nd (fun x hx=>G.rng x (w.d x hx))
omit G in
theorem Wk.first {v : Int} (h : D v) {a : Int} (ha : a = (nb v).1 ∨ a = (nb v).2) : Wk D nb v v [] a :=
  ⟨by simp, fun x hx => by obtain rfl : x = v := by simpa using hx
                           exact h, rfl, trivial, ha, fun p hp => by cases hp⟩
def zjy (nb:Int→Pt) (i:Int):Nat→Int→List Int→Int→List Int
 |0,fr,r,_=>fr::r
 |q+1,fr,r,a=>if a=i then fr::r else zjy nb i q a (fr::r) (oth (nb a) fr)
theorem zmR:∀(q:Nat) (fr:Int) (r:List Int) (a:Int),Wk D nb i fr r a→n<q+(fr::r).length→∃fr' r',zjy nb i q fr r a=fr'::r'∧Wk D nb i fr' r' i∧∀x∈fr::r,x∈fr'::r'
 |0,fr,r,a,w,h=>by have:=w.len G;omega
 |q+1,fr,r,a,w,h=>by
  rw [zjy]
  by_cases e:a=i
  ·rw [if_pos e]
   subst e
   exact ⟨fr,r,rfl,w,fun x hx=>hx⟩
  ·rw [if_neg e]
   obtain ⟨fr',r',h1,h2,h3⟩:=zmR q a (fr::r) (oth (nb a) fr) (w.step G e) (by simp at h ⊢;omega)
   exact ⟨fr',r',h1,h2,fun x hx=>h3 x (List.mem_cons_of_mem _ hx)⟩
end
def ring (nb:Int→Pt) (n:Nat) (i:Int):List Int:=(zjy nb i (n+1) i [] (mnI (nb i).1 (nb i).2)).reverse
theorem zp1 (a b:Int):mnI a b=a∨mnI a b=b:=by
 unfold mnI
 split
 ·exact .inr rfl
 ·exact .inl rfl
theorem zaA {n:Nat} {D:Int→Prop} {nb:Int→Pt} (G:Rg n D nb) {i:Int} (h:D i):∃fr r,ring nb n i=(fr::r).reverse∧Wk D nb i fr r i∧i∈fr::r:=by
 obtain ⟨fr,r,h1,h2,h3⟩:=zmR G (n+1) i [] _ (Wk.first h (zp1 _ _)) (by simp;omega)
 exact ⟨fr,r,by unfold ring;rw [h1],h2,h3 i (by simp)⟩
def nl (L:List Pt) (v:Int):List Int:=L.flatMap fun s=>(if s.1=v then [s.2] else [])++(if s.2=v then [s.1] else [])
def put (x:Pt) (a:Int):Pt:=if x.1<0 then (a,x.2) else (x.1,a)
def nbv (l:List Int):Pt:=l.foldl put (-1,-1)
def nbr (L:List Pt) (v:Int):Pt:=nbv (nl L v)
theorem zrc (L:List Pt) (s:Pt) (v:Int):nl (L++[s]) v=nl L v++((if s.1=v then [s.2] else [])++(if s.2=v then [s.1] else [])):=by
 unfold nl;rw [List.flatMap_append];simp
theorem zso (s:Pt) (L:List Pt) (v:Int):nl (s::L) v=((if s.1=v then [s.2] else [])++(if s.2=v then [s.1] else []))++nl L v:=by
 unfold nl;rw [List.flatMap_cons]
theorem ziL:∀(L:List Pt) (v:Int),(nl L v).length=dgr L v
 |[],v=>rfl
 |s::L,v=>by
  rw [zso,List.length_append,List.length_append,ziL L v]
  unfold dgr
  rw [List.countP_cons,List.countP_cons]
  by_cases h1:s.1=v<;>by_cases h2:s.2=v<;>simp [h1,h2]<;>omega
theorem JT {L:List Pt} {v u:Int}:u∈nl L v↔∃s∈L,(s.1=v∧s.2=u)∨(s.2=v∧s.1=u):=by
 unfold nl
 rw [List.mem_flatMap]
 constructor
 ·rintro ⟨s,hs,h⟩
  refine ⟨s,hs,?_⟩
  rcases List.mem_append.1 h with h|h
  ·split at h
   ·rename_i e;exact .inl ⟨e,(List.mem_singleton.1 h).symm⟩
   ·cases h
  ·split at h
   ·rename_i e;exact .inr ⟨e,(List.mem_singleton.1 h).symm⟩
   ·cases h
 ·rintro ⟨s,hs,h⟩
  refine ⟨s,hs,List.mem_append.2 ?_⟩
  rcases h with ⟨e1,e2⟩|⟨e1,e2⟩
  ·exact .inl (by rw [if_pos e1,e2];simp)
  ·exact .inr (by rw [if_pos e1,e2];simp)
theorem zuf {L:List Pt} {v u:Int}:u∈nl L v↔v∈nl L u:=by
 rw [JT,JT]
 constructor
 ·rintro ⟨s,hs,h|h⟩
  ·exact ⟨s,hs,.inr ⟨h.2,h.1⟩⟩
  ·exact ⟨s,hs,.inl ⟨h.2,h.1⟩⟩
 ·rintro ⟨s,hs,h|h⟩
  ·exact ⟨s,hs,.inr ⟨h.2,h.1⟩⟩
  ·exact ⟨s,hs,.inl ⟨h.2,h.1⟩⟩
theorem zeI {s t:Pt} (h:(s.1=t.1∧s.2=t.2)∨(s.1=t.2∧s.2=t.1)):nrm s=nrm t:=by
 unfold nrm mnI mxI
 rcases h with ⟨e1,e2⟩|⟨e1,e2⟩<;>rw [e1,e2]
 refine Prod.ext ?_ ?_<;>dsimp only<;>(repeat' split)<;>omega
theorem zpb (v:Int):∀{L:List Pt},(∀s∈L,s.1≠s.2)→L.Pairwise (fun a b=>nrm a≠nrm b)→(nl L v).Nodup
 |[],_,_=>by simp [nl]
 |s::L,h,hp=>by
  rw [zso]
  have ih:=zpb v (fun t ht=>h t (List.mem_cons_of_mem _ ht)) (List.pairwise_cons.1 hp).2
  have hs:=h s List.mem_cons_self
  have hno:=(List.pairwise_cons.1 hp).1
  by_cases e1:s.1=v
  ·rw [if_pos e1,if_neg (fun e=>hs (e1.trans e.symm)),List.append_nil]
   refine List.nodup_cons.2 ⟨fun hm=>?_,ih⟩
   obtain ⟨t,ht,h1⟩:=JT.1 hm
   refine hno t ht (zeI ?_)
   rcases h1 with ⟨a,b⟩|⟨a,b⟩
   ·exact .inl ⟨e1.trans a.symm,b.symm⟩
   ·exact .inr ⟨e1.trans a.symm,b.symm⟩
  ·rw [if_neg e1,List.nil_append]
   by_cases e2:s.2=v
   ·rw [if_pos e2]
    refine List.nodup_cons.2 ⟨fun hm=>?_,ih⟩
    obtain ⟨t,ht,h1⟩:=JT.1 hm
    refine hno t ht (zeI ?_)
    rcases h1 with ⟨a,b⟩|⟨a,b⟩
    ·exact .inr ⟨b.symm,e2.trans a.symm⟩
    ·exact .inl ⟨b.symm,e2.trans a.symm⟩
   ·rw [if_neg e2,List.nil_append];exact ih
structure Lp (n:Nat) (L:List Pt):Prop where
 ok:∀s∈L,oks n s∧s.1≠s.2
 two:L.Pairwise fun a b=>nrm a≠nrm b
 deg:∀v:Nat,v<n→dgr L (v:Int)=0∨dgr L (v:Int)=2
theorem Lp.two_nl {n:Nat} {L:List Pt} (h:Lp n L) {v:Int} (hv:dgr L v=2):∃a b,nl L v=[a,b]∧nbr L v=(a,b)∧a≠b∧0≤a∧0≤b:=by
 have hl:=ziL L v
 rw [hv] at hl
 obtain ⟨a,b,e⟩:∃a b,nl L v=[a,b]:=by
  match nl L v,hl with
  |[a,b],_=>exact ⟨a,b,rfl⟩
 have hnd:=zpb v (fun s hs=>(h.ok s hs).2) h.two
 rw [e] at hnd
 have hpos:∀u∈nl L v,0≤u:=by
  intro u hu
  obtain ⟨s,hs,h1⟩:=JT.1 hu
  have:=(h.ok s hs).1
  rcases h1 with ⟨_,h1⟩|⟨_,h1⟩<;>rw [←h1]
  ·exact this.2.1
  ·exact this.1.1
 have ha:=hpos a (by rw [e];simp)
 have hb:=hpos b (by rw [e];simp)
 refine ⟨a,b,e,?_,fun e'=>by rw [e'] at hnd;simp at hnd,ha,hb⟩
 unfold nbr
 rw [e]
 show put (put (-1,-1) a) b=(a,b)
 unfold put
 rw [if_pos (show ((-1,-1):Pt).1<0 by decide),if_neg (show ¬((a,((-1,-1):Pt).2):Pt).1<0 by dsimp only;omega)]
theorem Lp.rg {n:Nat} {L:List Pt} (h:Lp n L):Rg n (fun v=>(0≤v∧v<(n:Int))∧dgr L v=2) (nbr L):=by
 have inl:∀v,dgr L v=2→∀u,u∈nl L v↔(u=(nbr L v).1∨u=(nbr L v).2):=by
  intro v hv u
  obtain ⟨a,b,e,e',_⟩:=h.two_nl hv
  rw [e,e'];simp
 have rngu:∀v u,u∈nl L v→(0≤u∧u<(n:Int))∧u≠v:=by
  intro v u hu
  obtain ⟨s,hs,h1⟩:=JT.1 hu
  have h2:=h.ok s hs
  rcases h1 with ⟨e1,e2⟩|⟨e1,e2⟩
  ·rw [←e1,←e2];exact ⟨h2.1.2,fun e=>h2.2 e.symm⟩
  ·rw [←e1,←e2];exact ⟨h2.1.1,h2.2⟩
 have deg2:∀v u,u∈nl L v→dgr L u=2:=by
  intro v u hu
  obtain ⟨⟨h0,h1⟩,_⟩:=rngu v u hu
  obtain ⟨w,rfl⟩:=Int.eq_ofNat_of_zero_le h0
  have hv:v∈nl L (w:Int):=zuf.1 hu
  rcases h.deg w (by omega) with h2|h2
  ·have:=ziL L (w:Int)
   rw [h2] at this
   rw [List.eq_nil_of_length_eq_zero this] at hv
   cases hv
  ·exact h2
 refine ⟨fun v hv=>hv.1,fun v hv=>?_,fun v hv=>?_,fun v hv=>?_,fun v hv u hu=>?_⟩
 ·obtain ⟨a,b,e,e',hne,_⟩:=h.two_nl hv.2
  rw [e'];exact hne
 ·exact ⟨(rngu v _ ((inl v hv.2 _).2 (.inl rfl))).2,(rngu v _ ((inl v hv.2 _).2 (.inr rfl))).2⟩
 ·have h1:=(inl v hv.2 _).2 (.inl rfl)
  have h2:=(inl v hv.2 _).2 (.inr rfl)
  exact ⟨⟨(rngu v _ h1).1,deg2 v _ h1⟩,⟨(rngu v _ h2).1,deg2 v _ h2⟩⟩
 ·have hm:=(inl v hv.2 u).2 hu
  exact (inl u (deg2 v u hm) v).1 (zuf.1 hm)
end Go.Proofs.YtpkkcjmblocjdaaGreat.Pure
end
