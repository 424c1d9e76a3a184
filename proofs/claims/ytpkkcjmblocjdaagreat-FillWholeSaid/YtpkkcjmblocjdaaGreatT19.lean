/- What goes round all triangles goes round the loops. -/
import Derived.Test.YtpkkcjmblocjdaaGreatT18
import Derived.Test.YtpkkcjmblocjdaaGreatV9
import Derived.Test.YtpkkcjmblocjdaaGreatGa9
set_option linter.unusedVariables false
set_option linter.unusedSimpArgs false
set_option linter.unusedSectionVars false
section
namespace Go.Proofs.YtpkkcjmblocjdaaGreat.Pure
open Go.RowKit Go.Proofs.YtpkkcjmblocjdaaGreat.AM PL
def sI {α:Type} (f:α→Int):List α→Int
 |[]=>0
 |a::l=>f a+sI f l
theorem qU {α:Type} (f:α→Int) (a:α) (l:List α):sI f (a::l)=f a+sI f l:=rfl
theorem zle {α:Type} (f:α→Int):∀l r:List α,sI f (l++r)=sI f l+sI f r
 |[],r=>by rw [List.nil_append];show _=0+_;omega
 |a::l,r=>by rw [List.cons_append,qU,qU,zle f l r];omega
theorem zhR {α:Type} (f:α→Int) {l r:List α} (h:l.Perm r):sI f l=sI f r:=by
 induction h with
 |nil=>rfl
 |cons a _ ih=>rw [qU,qU,ih]
 |swap a b l=>rw [qU,qU,qU,qU];omega
 |trans _ _ h1 h2=>rw [h1,h2]
theorem zi7 {α β:Type} (f:β→Int) (g:α→β):∀l:List α,sI f (l.map g)=sI (fun x=>f (g x)) l
 |[]=>rfl
 |a::l=>by rw [List.map_cons,qU,qU,zi7 f g l]
theorem zoE {α β:Type} (f:β→Int) (g:α→List β):∀l:List α,sI f (l.flatMap g)=sI (fun x=>sI f (g x)) l
 |[]=>rfl
 |a::l=>by rw [List.flatMap_cons,zle,qU,zoE f g l]
theorem KZ {α:Type} {f g:α→Int}:∀l:List α,(∀x∈l,f x=g x)→sI f l=sI g l
 |[],_=>rfl
 |a::l,h=>by rw [qU,qU,h a List.mem_cons_self,KZ l fun x hx=>h x (List.mem_cons_of_mem _ hx)]
theorem zqZ {α:Type} (f:α→Int):∀l:List α,sI (fun x=>- f x) l=-sI f l
 |[]=>rfl
 |a::l=>by rw [qU,qU,zqZ f l];omega
theorem zou {α:Type} {f:α→Int}:∀l:List α,(∀x∈l,f x=0)→sI f l=0
 |[],_=>rfl
 |a::l,h=>by rw [qU,h a List.mem_cons_self,zou l fun x hx=>h x (List.mem_cons_of_mem _ hx)];rfl
theorem zpe {α:Type} (f:α→Int) (b:α→Bool):∀l:List α,sI f l=sI f (l.filter b)+sI f (l.filter fun x=>!b x)
 |[]=>rfl
 |a::l=>by
  have ih:=zpe f b l
  cases h:b a with
  |true=>rw [List.filter_cons_of_pos h,List.filter_cons_of_neg (by rw [h];decide),qU,qU,ih];omega
  |false=>rw [List.filter_cons_of_neg (by rw [h];decide),List.filter_cons_of_pos (by rw [h];rfl),qU,qU,ih];omega
theorem zzj {α:Type} [DecidableEq α] {f:α→Int} {l:List α} (hn:l.Nodup) {a b:α} (ha:a∈l) (hb:b∈l) (hab:a≠b) (h:∀x∈l,x≠a→x≠b→f x=0):sI f l=f a+f b:=by
 have p1:=List.perm_cons_erase ha
 have hb':b∈l.erase a:=(List.mem_erase_of_ne (fun e=>hab e.symm)).2 hb
 have p2:=List.perm_cons_erase hb'
 have n1:=hn.erase a
 rw [zhR f p1,qU,zhR f p2,qU,zou _ fun x hx=>?_]
 ·omega
 ·have m1:=List.mem_of_mem_erase hx
  have m2:=List.mem_of_mem_erase m1
  refine h x m2 (fun e=>?_) (fun e=>?_)
  ·rw [e] at m1
   exact (List.nodup_cons.1 (p1.nodup hn)).1 m1
  ·rw [e] at hx
   exact (List.nodup_cons.1 (p2.nodup n1)).1 hx
noncomputable def XC (p:zJ) (s:Pt):Pt:=by
 classical
 exact if ∃c,QP p s.1 s.2 c then s else rv s
theorem zeS {p:zJ} {s:Pt} (h:∃c,QP p s.1 s.2 c):XC p s=s:=by
 unfold XC
 rw [if_pos h]
theorem zft {p:zJ} {s:Pt} (h:¬∃c,QP p s.1 s.2 c):XC p s=rv s:=by
 unfold XC
 rw [if_neg h]
theorem zhN {α:Type} [DecidableEq α]:∀{l r:List α},l.Nodup→r.Nodup→(∀x,x∈l↔x∈r)→l.Perm r
 |[],[],_,_,_=>.nil
 |[],y::r,_,_,h=>by have:=(h y).2 List.mem_cons_self;cases this
 |a::l,r,h1,h2,h=>by
  have ha:=(h a).1 List.mem_cons_self
  have p:=List.perm_cons_erase ha
  obtain ⟨h3,h4⟩:=List.nodup_cons.1 h1
  have h5:=List.nodup_cons.1 (p.nodup h2)
  refine (List.Perm.cons a (zhN h4 h5.2 fun x=>⟨fun hx=>?_,fun hx=>?_⟩)).trans p.symm
  ·exact (List.mem_erase_of_ne (fun e=>h3 (by rw [←e];exact hx))).2 ((h x).1 (List.mem_cons_of_mem _ hx))
  ·have:=(h x).2 (List.mem_of_mem_erase hx)
   rcases List.mem_cons.1 this with e|m
   ·rw [e] at hx;exact (h5.1 hx).elim
   ·exact m
section
variable {p:zJ} (R:Rt p)
include R
theorem zzk {s:Pt} (hs:s∈p.2.1):(∃c,QP p (XC p s).1 (XC p s).2 c)∧¬∃c,QP p (rv (XC p s)).1 (rv (XC p s)).2 c:=by
 by_cases h:∃c,QP p s.1 s.2 c
 ·rw [zeS h]
  refine ⟨h,fun h'=>?_⟩
  obtain ⟨c,g⟩:=h
  obtain ⟨c',g'⟩:=h'
  exact zlh R hs g g'
 ·rw [zft h]
  exact ⟨(zcM R hs).resolve_left h,h⟩
theorem zri (s:Pt):XC p s=s∨XC p s=rv s:=by
 by_cases h:∃c,QP p s.1 s.2 c
 ·exact .inl (zeS h)
 ·exact .inr (zft h)
theorem zrD {F:List Pt} (hF:F.Nodup) (hm:∀s,s∈F↔∃c,QP p s.1 s.2 c) {f:Pt→Int} (hf:∀s,f (rv s)=-f s):sI f F=sI (fun s=>f (XC p s)) p.2.1:=by
 classical
 have rin:∀{s t:Pt},rv s=rv t→s=t:=fun {s t} h=>by have:=congrArg rv h;exact this
 rw [zpe f (fun s=>decide (rv s∈F)) F]
 have e1:sI f (F.filter fun s=>decide (rv s∈F))=0:=by
  have pm:((F.filter fun s=>decide (rv s∈F)).map rv).Perm (F.filter fun s=>decide (rv s∈F)):=by
   refine zhN ?_ (hF.sublist List.filter_sublist) fun x=>?_
   ·rw [List.nodup_iff_pairwise_ne,List.pairwise_map]
    exact (hF.sublist List.filter_sublist).imp fun h e=>h (rin e)
   ·rw [List.mem_map]
    constructor
    ·rintro ⟨y,hy,rfl⟩
     rw [List.mem_filter,decide_eq_true_eq] at hy ⊢
     exact ⟨hy.2,hy.1⟩
    ·intro hx
     rw [List.mem_filter,decide_eq_true_eq] at hx
     exact ⟨rv x,by rw [List.mem_filter,decide_eq_true_eq];exact ⟨hx.2,hx.1⟩,rfl⟩
  have:=zhR f pm
  rw [zi7,KZ (g:=fun s=>- f s) _ (fun s _=>hf s),zqZ] at this
  omega
 have e2:(F.filter fun s=>!decide (rv s∈F)).Perm (p.2.1.map (XC p)):=by
  refine zhN (hF.sublist List.filter_sublist) ?_ fun x=>?_
  ·rw [List.nodup_iff_pairwise_ne,List.pairwise_map]
   refine R.lp.nd.imp_of_mem fun {s t} hs ht hne e=>hne (za3 R ht hs ?_)
   rcases zri R s with h1|h1<;>rcases zri R t with h2|h2<;>rw [h1,h2] at e
   ·exact .inl ⟨by rw [e],by rw [e]⟩
   ·rw [e];exact .inr ⟨rfl,rfl⟩
   ·rw [←e];exact .inr ⟨rfl,rfl⟩
   ·rw [rin e];exact .inl ⟨rfl,rfl⟩
  ·rw [List.mem_filter,List.mem_map,Bool.not_eq_true',decide_eq_false_iff_not,hm,hm]
   constructor
   ·rintro ⟨⟨c,g⟩,hn⟩
    have hL:onL p x.1 x.2:=Classical.byContradiction fun h=>hn (zgB R g.ab.symm fun ⟨q,hq,e⟩=>h ⟨q,hq,Or.symm e⟩)
    obtain ⟨s,hs,⟨h1,h2⟩|⟨h1,h2⟩⟩:=hL
    ·exact ⟨s,hs,by rw [show s=x from Prod.ext h1 h2];exact zeS ⟨c,g⟩⟩
    ·refine ⟨s,hs,?_⟩
     rw [show s=rv x from Prod.ext h1 h2,zft hn]
     rfl
   ·rintro ⟨s,hs,rfl⟩
    exact zzk R hs
 rw [e1,zhR f e2,zi7,Int.zero_add]
end
end Go.Proofs.YtpkkcjmblocjdaaGreat.Pure
end
section
namespace Go.Proofs.YtpkkcjmblocjdaaGreat.Pure
open Go.RowKit Go.Proofs.YtpkkcjmblocjdaaGreat.AM PL
def isG (p:zJ) (x y:Int):Prop:=∃c,QP p x y c
def rdT (f:Pt→Int) (t:Tr):Int:=f (t.1,t.2.1)+f (t.2.1,t.2.2)+f (t.2.2,t.1)
section
variable {p:zJ} (R:Rt p)
include R
theorem zi9 {f:Pt→Int} (hf:∀s,f (rv s)=-f s):sI (rdT f) (qt p)=sI (fun s=>f (XC p s)) p.2.1:=by
 rw [←zrD R (zrO R) (zpK R) hf,zoE]
 refine KZ _ fun t _=>?_
 unfold rdT qM
 rw [qU,qU,qU]
 show _=_+(_+(_+0))
 omega
theorem zsI {x y:Int} (h:onL p x y):(isG p x y∨isG p y x)∧¬(isG p x y∧isG p y x):=by
 obtain ⟨s,hs,⟨rfl,rfl⟩|⟨rfl,rfl⟩⟩:=h
 ·exact ⟨zcM R hs,fun ⟨⟨c,g⟩,c',g'⟩=>zlh R hs g g'⟩
 ·exact ⟨(zcM R hs).symm,fun ⟨⟨c,g⟩,c',g'⟩=>zlh R hs g' g⟩
theorem zqc {x y:Int} (h:onL p x y):XC p (y,x)=XC p (x,y):=by
 obtain ⟨h1,h2⟩:=zsI R h
 by_cases g:isG p x y
 ·rw [zeS (s:=(x,y)) g,zft (s:=(y,x)) fun g'=>h2 ⟨g,g'⟩]
  rfl
 ·rw [zft (s:=(x,y)) g,zeS (s:=(y,x)) (h1.resolve_left g)]
  rfl
theorem zva {u v w:Int} (hu:onL p u v) (hw:onL p v w) (huw:u≠w) (hd:dgr p.2.1 v=2) {f:Pt→Int} (h0:∀s:Pt,s.1≠v→s.2≠v→f s=0):sI (fun s=>f (XC p s)) p.2.1=f (XC p (u,v))+f (XC p (v,w)):=by
 obtain ⟨a,b,hn,-,hab,-,-⟩:=R.lp.two_nl hd
 obtain ⟨s,hs,es⟩:=hu
 obtain ⟨t,ht,et⟩:=hw
 have ms:u∈nl p.2.1 v:=Yg.2 ⟨s,hs,by rcases es with ⟨e1,e2⟩|⟨e1,e2⟩;exact .inr ⟨e2,e1⟩;exact .inl ⟨e1,e2⟩⟩
 have mt:w∈nl p.2.1 v:=Yg.2 ⟨t,ht,by rcases et with ⟨e1,e2⟩|⟨e1,e2⟩;exact .inl ⟨e1,e2⟩;exact .inr ⟨e2,e1⟩⟩
 have ds:XC p s=XC p (u,v):=by
  rcases es with ⟨e1,e2⟩|⟨e1,e2⟩
  ·rw [←e1,←e2]
  ·rw [show s=(v,u) from Prod.ext e1 e2]
   exact zqc R ⟨s,hs,.inr ⟨e1,e2⟩⟩
 have dt:XC p t=XC p (v,w):=by
  rcases et with ⟨e1,e2⟩|⟨e1,e2⟩
  ·rw [←e1,←e2]
  ·rw [show t=(w,v) from Prod.ext e1 e2]
   exact zqc R ⟨t,ht,.inr ⟨e1,e2⟩⟩
 have nov:∀q∈p.2.1,q.1≠q.2:=fun q hq=>(R.lp.ok q hq).2
 rw [zzj (f:=fun s=>f (XC p s)) R.lp.nd hs ht (fun e=>?_) (fun q hq n1 n2=>?_),ds,dt]
 ·subst e
  have:=nov s hs
  omega
 ·have hv:q.1≠v∧q.2≠v:=by
   refine ⟨fun e=>?_,fun e=>?_⟩
   ·have mq:q.2∈nl p.2.1 v:=Yg.2 ⟨q,hq,.inl ⟨e,rfl⟩⟩
    rw [hn] at ms mt mq
    simp only [List.mem_cons,List.not_mem_nil,or_false] at ms mt mq
    have:q.2=u∨q.2=w:=by omega
    rcases this with e2|e2
    ·exact n1 (za3 R hs hq (by omega))
    ·exact n2 (za3 R ht hq (by omega))
   ·have mq:q.1∈nl p.2.1 v:=Yg.2 ⟨q,hq,.inr ⟨e,rfl⟩⟩
    rw [hn] at ms mt mq
    simp only [List.mem_cons,List.not_mem_nil,or_false] at ms mt mq
    have:q.1=u∨q.1=w:=by omega
    rcases this with e2|e2
    ·exact n1 (za3 R hs hq (by omega))
    ·exact n2 (za3 R ht hq (by omega))
  rcases zri R q with e|e
  ·rw [e];exact h0 q hv.1 hv.2
  ·rw [e];exact h0 (rv q) hv.2 hv.1
def zhQ (v:Int) (s:Pt):Int:=(if s.1=v then 1 else 0)-(if s.2=v then 1 else 0)
omit R in
theorem zv9 (v:Int) (s:Pt):zhQ v (rv s)=-zhQ v s:=by unfold zhQ rv;dsimp only;omega
theorem ztl {u v w:Int} (hu:onL p u v) (hw:onL p v w) (huw:u≠w) (hd:dgr p.2.1 v=2):isG p u v↔isG p v w:=by
 have e1:=zi9 R (zv9 v)
 have e2:sI (rdT (zhQ v)) (qt p)=0:=zou _ fun t _=>by
  unfold rdT zhQ
  dsimp only
  omega
 have e3:=zva R hu hw huw hd (f:=zhQ v) (fun s h1 h2=>by unfold zhQ;rw [if_neg h1,if_neg h2];rfl)
 rw [e2] at e1
 rw [←e1] at e3
 have nuv:u≠v:=by
  obtain ⟨s,hs,h⟩:=hu
  have:=(R.lp.ok s hs).2
  omega
 have nvw:v≠w:=by
  obtain ⟨s,hs,h⟩:=hw
  have:=(R.lp.ok s hs).2
  omega
 by_cases g1:isG p u v
 ·by_cases g2:isG p v w
  ·exact ⟨fun _=>g2,fun _=>g1⟩
  ·rw [zeS (s:=(u,v)) g1,zft (s:=(v,w)) g2] at e3
   unfold zhQ rv at e3
   dsimp only at e3
   rw [if_neg nuv,if_pos rfl,if_neg (fun e=>nvw e.symm)] at e3
   omega
 ·by_cases g2:isG p v w
  ·rw [zft (s:=(u,v)) g1,zeS (s:=(v,w)) g2] at e3
   unfold zhQ rv at e3
   dsimp only at e3
   rw [if_neg nuv,if_pos rfl,if_neg (fun e=>nvw e.symm)] at e3
   omega
  ·exact ⟨fun h=>(g1 h).elim,fun h=>(g2 h).elim⟩
end
def at' (r:List Int) (i:Nat):Int:=rdD 0 r ((i % r.length:Nat):Int)
def cyc (r:List Int):List Pt:=(List.range r.length).map fun i=>(at' r i,at' r (i+1))
theorem zfw {r:List Int} (i:Nat) (h:r.length≠0):∃h':i % r.length<r.length,at' r i=r[i % r.length]:=by
 have h':i % r.length<r.length:=Nat.mod_lt _ (by omega)
 exact ⟨h',z7 _ r _ h'⟩
theorem Z6 {r:List Int} (i:Nat) (h:r.length≠0):at' r i∈r:=by
 obtain ⟨h',e⟩:=zfw i h
 rw [e]
 exact List.getElem_mem _
theorem znt {r:List Int} (nd:r.Nodup) (h:r.length≠0) {i j:Nat} (e:at' r i=at' r j):i % r.length=j % r.length:=by
 obtain ⟨h1,e1⟩:=zfw i h
 obtain ⟨h2,e2⟩:=zfw j h
 rw [e1,e2] at e
 rcases Nat.lt_trichotomy (i % r.length) (j % r.length) with h|h|h
 ·exact absurd e (List.pairwise_iff_getElem.1 nd _ _ h1 h2 h)
 ·exact h
 ·exact absurd e.symm (List.pairwise_iff_getElem.1 nd _ _ h2 h1 h)
theorem zuT (r:List Int) (i:Nat):at' r (i+r.length)=at' r i:=by unfold at';rw [Nat.add_mod_right]
theorem Qf {r:List Int} {s:Pt}:s∈cyc r↔∃i,i<r.length∧s=(at' r i,at' r (i+1)):=by
 unfold cyc
 rw [List.mem_map]
 constructor
 ·rintro ⟨i,hi,rfl⟩;exact ⟨i,List.mem_range.1 hi,rfl⟩
 ·rintro ⟨i,hi,rfl⟩;exact ⟨i,List.mem_range.2 hi,rfl⟩
theorem zrm {r:List Int} (nd:r.Nodup) (h3:3≤r.length) (i:Nat):at' r i≠at' r (i+1)∧at' r i≠at' r (i+2):=by
 have key:∀d,0<d→d<r.length→at' r i≠at' r (i+d):=by
  intro d h1 h2 e
  have:=znt nd (by omega) e
  have hm:i % r.length<r.length:=Nat.mod_lt _ (by omega)
  rw [Nat.add_mod,Nat.mod_eq_of_lt h2] at this
  generalize i % r.length=j at *
  by_cases c:j+d<r.length
  ·rw [Nat.mod_eq_of_lt c] at this;omega
  ·rw [Nat.mod_eq_sub_mod (show r.length≤j+d by omega),Nat.mod_eq_of_lt (show j+d-r.length<r.length by omega)] at this;omega
 exact ⟨key 1 (by omega) (by omega),key 2 (by omega) (by omega)⟩
structure Rng (L:List Pt) (r:List Int):Prop where
 nd:r.Nodup
 three:3≤r.length
 on:∀i,∃s∈L,(s.1=at' r i∧s.2=at' r (i+1))∨(s.1=at' r (i+1)∧s.2=at' r i)
 deg:∀x∈r,dgr L x=2
theorem zkA {p:zJ} (R:Rt p) {r:List Int} (G:Rng p.2.1 r):∀i,isG p (at' r i) (at' r (i+1))↔isG p (at' r 0) (at' r 1)
 |0=>Iff.rfl
 |i+1=>by
  have h0:r.length≠0:=by have:=G.three;omega
  rw [←zkA R G i]
  exact (ztl R (G.on i) (G.on (i+1)) (zrm G.nd G.three i).2 (G.deg _ (Z6 _ h0))).symm
theorem zo9 {p:zJ} (R:Rt p) {r:List Int} (G:Rng p.2.1 r) {f:Pt→Int} (hf:∀s,f (rv s)=-f s):sI (fun s=>f (XC p s)) (cyc r)=sI f (cyc r)∧isG p (at' r 0) (at' r 1)∨sI (fun s=>f (XC p s)) (cyc r)=-sI f (cyc r)∧¬isG p (at' r 0) (at' r 1):=by
 by_cases g:isG p (at' r 0) (at' r 1)
 ·refine .inl ⟨KZ _ fun s hs=>?_,g⟩
  obtain ⟨i,_,rfl⟩:=Qf.1 hs
  rw [zeS (s:=(at' r i,at' r (i+1))) ((zkA R G i).2 g)]
 ·refine .inr ⟨?_,g⟩
  rw [←zqZ]
  refine KZ _ fun s hs=>?_
  obtain ⟨i,_,rfl⟩:=Qf.1 hs
  rw [zft (s:=(at' r i,at' r (i+1))) (fun h=>g ((zkA R G i).1 h)),hf]
end Go.Proofs.YtpkkcjmblocjdaaGreat.Pure
end
section
namespace Go.Proofs.YtpkkcjmblocjdaaGreat.Pure
open Go.RowKit Go.Proofs.YtpkkcjmblocjdaaGreat.AM PL
theorem zqp (m n:Nat) (L:List Pt) (hn:n≤350) (hL:L.length≤350) (h:∀s∈L,oks n s∧s.1≠s.2):jq (m+1000) (n:Int) L=some (dgs L n,0):=by
 unfold jq
 simp only [zz]
 rw [zg (by omega)]
 refine (QD (decide_eq_false (by omega))).trans ?_
 refine zG (fun i=>((n:Int),L,(i:Int))) L.length (fun _=>some (dgs L n,0)) ?_ ?_ (m+1000) 0 (Nat.zero_le _) (by omega)
 ·intro next
  dsimp only
  rw [zg (by omega),z6 (decide_eq_true (by omega)),z6 (by unfold zgc;exact ZU (by omega))]
  have e0:rpL (n:Int) (0:Int)=dgs (L.take 0) n:=by
   unfold rpL dgs
   rw [Int.toNat_natCast]
   apply List.ext_getElem
   ·simp
   ·intro j h1 h2
    simp [dgr]
  rw [e0]
  refine zG (fun i=>(L,dgs (L.take i) n,(i:Int))) L.length (fun _=>some (dgs L n,0)) ?_ ?_ (m+1000) 0 (Nat.zero_le _) (by omega)
  ·intro next
   dsimp only
   rw [zg (by omega),List.take_length]
  ·intro i hi next hn'
   have hs:=h _ (List.getElem_mem hi)
   dsimp only at hn' ⊢
   have hin:inb (i:Int) L.length=true:=zF ⟨by omega,by omega⟩
   simp only [hin,gT]
   rw [zl (by omega),z7 _ L i hi,zo (x:=(i:Int)+1) (by omega) (by omega)]
   rw [List.take_succ_eq_append_getElem hi] at hn'
   generalize L[i]=s at hs hn' ⊢
   obtain ⟨⟨⟨a0,a1⟩,⟨b0,b1⟩⟩,hne⟩:=hs
   obtain ⟨s1,s2⟩:=s
   dsimp only at a0 a1 b0 b1 hne hn' ⊢
   obtain ⟨a,rfl⟩:=Int.eq_ofNat_of_zero_le a0
   obtain ⟨b,rfl⟩:=Int.eq_ofNat_of_zero_le b0
   have hl1:inb (a:Int) (dgs (L.take i) n).length=true:=zF ⟨by omega,by rw [Qj];omega⟩
   have hl2:∀x,inb (b:Int) (stL (dgs (L.take i) n) (a:Int) x).length=true:=fun x=>zF ⟨by omega,by unfold stL;rw [List.length_set,Qj];omega⟩
   have hl3:inb (b:Int) (dgs (L.take i) n).length=true:=zF ⟨by omega,by rw [Qj];omega⟩
   simp only [hl1,hl2,hl3,gT]
   rw [zpq _ n a b (by omega) (by omega) (by omega) (by rw [List.length_take];omega)]
   exact hn'
 ·intro i hi next hn'
  have hs:=h _ (List.getElem_mem hi)
  dsimp only at hn' ⊢
  rw [zl (by omega),z6 (zF ⟨by omega,by omega⟩),z7 _ L i hi,zo (x:=(i:Int)+1) (by omega) (by omega)]
  generalize L[i]=s at hs ⊢
  obtain ⟨⟨⟨a0,a1⟩,⟨b0,b1⟩⟩,hne⟩:=hs
  rw [zg hne,zg (by omega),zg (by omega),zg (by omega)]
  exact (QD (decide_eq_false (by omega))).trans hn'
theorem zzw (k:Nat) (a b:Pt):jY k a b=some (decide (nrm a=nrm b)):=by
 unfold jY
 simp only [zz]
 have key:decide (nrm a=nrm b)=decide ((a.1=b.1∧a.2=b.2)∨(a.1=b.2∧a.2=b.1)):=decide_eq_decide.2 ⟨zj6,zfB⟩
 rw [key]
 by_cases c1:a.1=b.1
 ·rw [zl c1]
  by_cases c2:a.2=b.2
  ·rw [zl c2,decide_eq_true (.inl ⟨c1,c2⟩)]
  ·rw [zg c2]
   by_cases c3:a.1=b.2
   ·rw [zl c3];congr 1;rw [decide_eq_decide];exact ⟨fun h=>.inr ⟨c3,h⟩,fun h=>h.elim (fun h=>absurd h.2 c2) (fun h=>h.2)⟩
   ·rw [zg c3,decide_eq_false (fun h=>h.elim (fun h=>c2 h.2) (fun h=>c3 h.1))]
 ·rw [zg c1]
  by_cases c3:a.1=b.2
  ·rw [zl c3];congr 1;rw [decide_eq_decide];exact ⟨fun h=>.inr ⟨c3,h⟩,fun h=>h.elim (fun h=>absurd h.1 c1) (fun h=>h.2)⟩
  ·rw [zg c3,decide_eq_false (fun h=>h.elim (fun h=>c1 h.1) (fun h=>c3 h.1))]
def bs (row:List Int) (b u:Int):Int:=if u∈row then b else if b<0∨u<b then u else b
def bsv (L:List Pt) (at':Int) (row:List Int):Int:=(nl L at').foldl (bs row) (-1)
theorem zwm (L:List Pt) (s:Pt) (hs:s.1≠s.2) (at':Int) (row:List Int):bsv (L++[s]) at' row=if s.1=at' then bs row (bsv L at' row) s.2 else if s.2=at' then bs row (bsv L at' row) s.1 else bsv L at' row:=by
 unfold bsv
 rw [zrS,List.foldl_append]
 by_cases h1:s.1=at'
 ·rw [if_pos h1,if_pos h1,if_neg (fun e=>hs (h1.trans e.symm))];rfl
 ·rw [if_neg h1,if_neg h1]
  by_cases h2:s.2=at'
  ·rw [if_pos h2,if_pos h2];rfl
  ·rw [if_neg h2,if_neg h2];rfl
theorem zv3 (m n:Nat) (L:List Pt) (at':Int) (row:List Int) (hL:L.length≤350) (hr:row.length≤350) (h:∀s∈L,oks n s∧s.1≠s.2):jy (m+1000) L at' row=some (bsv L at' row):=by
 unfold jy
 refine zG (fun i=>(L,at',row,bsv (L.take i) at' row,(i:Int))) L.length (fun _=>some (bsv L at' row)) ?_ ?_ (m+1000) 0 (Nat.zero_le _) (by omega)
 ·intro next
  dsimp only
  rw [zg (by omega),List.take_length]
 ·intro i hi next hn'
  have hs:=h _ (List.getElem_mem hi)
  dsimp only at hn' ⊢
  have hin:inb (i:Int) L.length=true:=zF ⟨by omega,by omega⟩
  simp only [hin,gT,zz]
  rw [zl (by omega),z7 _ L i hi]
  rw [List.take_succ_eq_append_getElem hi,zwm _ _ hs.2] at hn'
  generalize L[i]=s at hs hn' ⊢
  generalize bsv (L.take i) at' row=best at hn' ⊢
  have zgB:∀(k0:Int) (f:List Pt×Int×List Int×Int×Int×Int×Int→(List Pt×Int×List Int×Int×Int×Int×Int→Option Int)→Option Int),
    (∀kk next,f (L,at',row,best,(i:Int),kk,(row.length:Int)) next=if kk≥0∧(best<0∨kk<best) then (some (bsv L at' row)) else (some (bsv L at' row)))→True:=fun _ _ _=>trivial
  have nx:∀b:Int,b=(if s.1=at' then bs row best s.2 else if s.2=at' then bs row best s.1 else best)→next (L,at',row,b,w64 ((i:Int)+1))=some (bsv L at' row):=by
   intro b hb
   rw [zo (x:=(i:Int)+1) (by omega) (by omega),hb]
   exact hn'
  have run:∀k0:Int,(k0=-1∨0≤k0)→(∀b,b=(if k0<0 then best else bs row best k0)→next (L,at',row,b,w64 ((i:Int)+1))=some (bsv L at' row)) →
    zA (α:=List (Int×Int)×Int×List Int×Int×Int×Int×Int) (fun (x19,x20,x21,x22,x23,x24,x25) next18 =>
     bif decide (x25<(x21.length:Int)) then
      gd (inb x25 x21.length) <|
      bif decide ((rdD 0 x21 x25)=x24) then next18 (x19,x20,x21,x22,x23,(-1),w64 (x25+1)) else next18 (x19,x20,x21,x22,x23,x24,w64 (x25+1))
     else
      bif decide (x24≥0) then (bif decide (x22<0) then (bif true then next (x19,x20,x21,x24,w64 (x23+1)) else next (x19,x20,x21,x22,w64 (x23+1))) else (bif decide (x24<x22) then next (x19,x20,x21,x24,w64 (x23+1)) else next (x19,x20,x21,x22,w64 (x23+1)))) else (bif false then next (x19,x20,x21,x24,w64 (x23+1)) else next (x19,x20,x21,x22,w64 (x23+1)))) (m+1000) (L,at',row,best,(i:Int),k0,0)=some (bsv L at' row):=by
   intro k0 hk0 hb
   refine zG (fun j=>(L,at',row,best,(i:Int),(if k0∈row.take j then -1 else k0),(j:Int))) row.length (fun _=>some (bsv L at' row)) ?_ ?_ (m+1000) 0 (Nat.zero_le _) (by omega)
   ·intro next2
    dsimp only
    rw [zg (by omega),List.take_length]
    by_cases hm:k0∈row
    ·rw [if_pos hm,zg (by omega),cF]
     refine hb _ ?_
     unfold bs
     rw [if_pos hm]
     split<;>rfl
    ·rw [if_neg hm]
     by_cases hk:k0≥0
     ·rw [zl hk]
      by_cases hbst:best<0
      ·rw [zl hbst,cT]
       refine hb _ ?_
       unfold bs
       rw [if_neg (by omega),if_neg hm,if_pos (.inl hbst)]
      ·rw [zg hbst]
       by_cases hlt:k0<best
       ·rw [zl hlt]
        refine hb _ ?_
        unfold bs
        rw [if_neg (by omega),if_neg hm,if_pos (.inr hlt)]
       ·rw [zg hlt]
        refine hb _ ?_
        unfold bs
        rw [if_neg (by omega),if_neg hm,if_neg (fun h=>h.elim hbst hlt)]
     ·rw [zg hk,cF]
      refine hb _ ?_
      rw [if_pos (by omega)]
   ·intro j hj next2 hn2
    dsimp only at hn2 ⊢
    rw [zl (by omega),z6 (zF ⟨by omega,by omega⟩),z7 _ row j hj,zo (x:=(j:Int)+1) (by omega) (by omega)]
    rw [List.take_succ_eq_append_getElem hj] at hn2
    by_cases hm:k0∈row.take j
    ·rw [if_pos hm]
     rw [if_pos (List.mem_append_left _ hm)] at hn2
     by_cases e:row[j]=-1
     ·rw [zl e];exact hn2
     ·rw [zg e];exact hn2
    ·rw [if_neg hm]
     by_cases e:row[j]=k0
     ·rw [zl e]
      rw [if_pos (List.mem_append_right _ (by rw [e];simp))] at hn2
      exact hn2
     ·rw [zg e]
      rw [if_neg (fun h=>(List.mem_append.1 h).elim hm (fun h=>e (List.mem_singleton.1 h).symm))] at hn2
      exact hn2
  by_cases c1:s.1=at'
  ·have c2:¬s.2=at':=fun e=>hs.2 (c1.trans e.symm)
   rw [zl c1,zg c2]
   refine run s.2 (.inr hs.1.2.1) (fun b hb=>nx b ?_)
   rw [hb,if_neg (by have:=hs.1.2.1;omega),if_pos c1]
  ·rw [zg c1]
   by_cases c2:s.2=at'
   ·rw [zl c2]
    refine run s.1 (.inr hs.1.1.1) (fun b hb=>nx b ?_)
    rw [hb,if_neg (by have:=hs.1.1.1;omega),if_neg c1,if_pos c2]
   ·rw [zg c2]
    refine run (-1) (.inl rfl) (fun b hb=>nx b ?_)
    rw [hb,if_pos (by omega),if_neg c1,if_neg c2]
end Go.Proofs.YtpkkcjmblocjdaaGreat.Pure
end
section
namespace Go.Proofs.YtpkkcjmblocjdaaGreat.Pure
open Go.RowKit Go.Proofs.YtpkkcjmblocjdaaGreat.AM PL
abbrev Dg (L:List Pt) (n:Nat):Int→Prop:=fun v=>(0≤v∧v<(n:Int))∧dgr L v=2
theorem zuy {n:Nat} {L:List Pt} (lp:Lp n L) {i fr:Int} {r:List Int} {a:Int} (w:Wk (Dg L n) (nbr L) i fr r a) (hmin:r=[]→a=mnI (nbr L fr).1 (nbr L fr).2) :
  bsv L fr (fr::r).reverse=if a=i then -1 else a:=by
 have G:=lp.rg
 have hfr:=w.d fr List.mem_cons_self
 obtain ⟨x,y,e,e',hne,hx,hy⟩:=lp.two_nl hfr.2
 have hnv:=G.nv fr hfr
 have hto:=w.to
 have hpr:=w.pr
 rw [e'] at hnv hto hpr hmin
 dsimp only at hnv hto hpr hmin
 have hval:bsv L fr (fr::r).reverse=bs (fr::r).reverse (bs (fr::r).reverse (-1) x) y:=by unfold bsv;rw [e];rfl
 rw [hval]
 have hmem:∀u,u∈(fr::r).reverse↔u∈fr::r:=fun u=>List.mem_reverse
 cases r with
 |nil =>
  have hfi:fr=i:=by have:=w.last;simpa using this
  have hxr:¬x∈[fr].reverse:=fun h=>hnv.1 (by simpa using h)
  have hyr:¬y∈[fr].reverse:=fun h=>hnv.2 (by simpa using h)
  have ha:=hmin rfl
  have e1:bs [fr].reverse (-1) x=x:=by unfold bs;rw [if_neg hxr,if_pos (.inl (by omega))]
  rw [e1]
  have hai:a≠i:=by
   rw [←hfi]
   rcases hto with h|h<;>rw [h]
   ·exact hnv.1
   ·exact hnv.2
  rw [if_neg hai,ha]
  unfold bs mnI
  rw [if_neg hyr]
  by_cases c:y<x
  ·rw [if_pos (.inr c),if_pos c]
  ·rw [if_neg (fun h=>h.elim (fun h=>by omega) c),if_neg c]
 |cons p r =>
  obtain ⟨hp,hap⟩:=hpr p rfl
  have hpm:p∈(fr::p::r).reverse:=(hmem p).2 (by simp)
  have hai:(a∈(fr::p::r).reverse)↔a=i:=by
   rw [hmem]
   constructor
   ·intro h
    by_cases e:a=i
    ·exact e
    ·exact absurd h (w.new G e)
   ·intro h
    rw [h]
    exact List.mem_of_getLast? w.last
  have hone:∀u,0≤u→bs (fr::p::r).reverse (-1) u=if u∈(fr::p::r).reverse then -1 else u:=by
   intro u hu
   unfold bs
   split
   ·rfl
   ·rw [if_pos (.inl (by omega))]
  rcases hp with hp|hp
  ·have ha:a=y:=hto.resolve_left (fun h=>hap (h.trans hp.symm))
   subst hp
   rw [hone p hx,if_pos hpm,hone y hy,←ha]
   by_cases c:a=i
   ·rw [if_pos c,if_pos (hai.2 c)]
   ·rw [if_neg c,if_neg (fun h=>c (hai.1 h))]
  ·have ha:a=x:=hto.resolve_right (fun h=>hap (h.trans hp.symm))
   subst hp
   have e2:∀b,bs (fr::p::r).reverse b p=b:=fun b=>by unfold bs;rw [if_pos hpm]
   rw [e2,hone x hx,←ha]
   by_cases c:a=i
   ·rw [if_pos c,if_pos (hai.2 c)]
   ·rw [if_neg c,if_neg (fun h=>c (hai.1 h))]
theorem zuv {n:Nat} {L:List Pt} (lp:Lp n L) {i:Int} (h:Dg L n i):(ring (nbr L) n i).length≤n:=by
 obtain ⟨fr,r,e,w,_⟩:=za1 lp.rg h
 rw [e,List.length_reverse]
 exact w.len lp.rg
theorem zmC {n:Nat} {L:List Pt} (lp:Lp n L):∀i,i≤n→(zZ L n i).flatten.length≤i*n
 |0,_=>by simp [zZ]
 |i+1,hi=>by
  have ih:=zmC lp i (by omega)
  rw [XD]
  unfold zeD
  by_cases c:dgr L (i:Int)=0∨(i:Int)∈(zZ L n i).flatten
  ·rw [if_pos c]
   exact Nat.le_trans ih (Nat.mul_le_mul_right _ (by omega))
  ·rw [if_neg c]
   have hd:dgr L (i:Int)=2:=(lp.deg i (by omega)).resolve_left (fun h=>c (.inl h))
   have:=zuv lp (i:=(i:Int)) ⟨⟨by omega,by omega⟩,hd⟩
   rw [List.flatten_append,List.length_append,Nat.succ_mul]
   simp only [List.flatten_cons,List.flatten_nil,List.append_nil]
   omega
theorem zvw (m n:Nat) (L:List Pt) (hm:130000≤m) (hn:n≤350) (hL:L.length≤350) (ok:∀s∈L,oks n s∧s.1≠s.2) (two:L.Pairwise fun a b=>nrm a≠nrm b):Zu (m+1000) (n:Int) L=some (zdO L n):=by
 unfold Zu JV
 rw [zqp m n L hn hL ok,zt]
 rw [show (!(decide ((dgs L n,(0:Int)).2=0)))=false from rfl,cF]
 refine zG (fun i=>((n:Int),L,dgs L n,(i:Int))) L.length (fun _=>some (zdO L n)) ?_ ?_ (m+1000) 0 (Nat.zero_le _) (by omega)
 ·intro next
  dsimp only
  rw [zg (by omega)]
  unfold zdO
  have step:∀(i:Nat) (hi:i<n) (A B:Option (List (List Int)×Int×Int)),
    (bif decide ((i:Int)<(n:Int)) then (gd (inb (i:Int) (dgs L n).length)<|bif !(decide ((rdD 0 (dgs L n) (i:Int))=0)) then (gd (inb (i:Int) (dgs L n).length)<|(bif !(decide ((rdD 0 (dgs L n) (i:Int))=2)) then A else B)) else (bif false then A else B)) else none)=if odd L 0 i=true then A else B:=by
   intro i hi A B
   have hin:inb (i:Int) (dgs L n).length=true:=zF ⟨by omega,by rw [Qj];omega⟩
   simp only [hin,gT]
   rw [zl (by omega),zdx L n hi]
   have eo:odd L 0 i=(!decide ((dgr L (i:Int):Int)=0)&&!decide ((dgr L (i:Int):Int)=2)):=by
    unfold odd
    rw [show decide ((dgr L (i:Int):Int)=0)=decide (dgr L (i:Int)=0) from decide_eq_decide.2 (by omega),show decide ((dgr L (i:Int):Int)=2)=decide (dgr L (i:Int)=2) from decide_eq_decide.2 (by omega)]
    rw [decide_not,decide_not]
   rw [eo]
   cases decide ((dgr L (i:Int):Int)=0)<;>cases decide ((dgr L (i:Int):Int)=2)<;>rfl
  have bifT:∀(i:Nat) (hi:i<n) (X Y:Option (List (List Int)×Int×Int)),(bif decide ((i:Int)<(n:Int)) then X else Y)=(bif decide ((i:Int)<(n:Int)) then X else none):=by
   intro i hi X Y
   rw [zl (by omega),zl (by omega)]
  obtain ⟨r1,r2⟩:=J6 (odd L) (n:=n) (a:=0) _ 0 rfl (Nat.zero_le _)
  cases hodd:row (odd L) n 0 0 with
  |some k =>
   obtain ⟨_,hk,hof,hmin⟩:=r2 k hodd
   refine zG (fun i=>((n:Int),L,dgs L n,(i:Int))) k (fun _=>some ([],(k:Int),81)) ?_ ?_ (m+1000) 0 (Nat.zero_le _) (by omega)
   ·intro next
    dsimp only
    simp only [zz]
    rw [bifT k hk]
    refine (step k hk _ _).trans ?_
    rw [if_pos hof]
   ·intro i hi next hn'
    dsimp only at hn' ⊢
    simp only [zz]
    rw [bifT i (by omega)]
    refine (step i (by omega) _ _).trans ?_
    rw [if_neg (fun h=>by have:=hmin i (Nat.zero_le _) (by omega) h;omega),zo (x:=(i:Int)+1) (by omega) (by omega)]
    exact hn'
  |none =>
   have lp:=zuI ok two hodd
   have G:=lp.rg
   refine zG (fun i=>((n:Int),L,dgs L n,(i:Int))) n (fun _=>some (zZ L n n,0,0)) ?_ ?_ (m+1000) 0 (Nat.zero_le _) (by omega)
   ·intro next
    dsimp only
    rw [zg (by omega)]
    refine zG (fun i=>((n:Int),L,dgs L n,zZ L n i,(zZ L n i).flatten,(i:Int))) n (fun _=>some (zZ L n n,0,0)) ?_ ?_ (m+1000) 0 (Nat.zero_le _) (by omega)
    ·intro next
     dsimp only
     rw [zg (by omega)]
    ·intro i hi next hn'
     have hfl:=zmC lp i (by omega)
     have hmul:i*n≤350*350:=Nat.mul_le_mul (by omega) hn
     dsimp only at hn' ⊢
     simp only [zz]
     rw [zl (by omega),z6 (zF ⟨by omega,by rw [Qj];omega⟩),zdx L n hi]
     rw [XD] at hn'
     have hsk:(dgr L (i:Int)=0∨(i:Int)∈(zZ L n i).flatten)→next ((n:Int),L,dgs L n,zZ L n i,(zZ L n i).flatten,(i:Int)+1)=some (zZ L n n,0,0):=by
      intro h
      unfold zeD at hn'
      rw [if_pos h] at hn'
      exact hn'
     have ed:decide ((dgr L (i:Int):Int)=0)=decide (dgr L (i:Int)=0∨(i:Int)∈(zZ L n i).flatten.take 0):=decide_eq_decide.2 (by simp)
     rw [ed]
     refine zG (fun k=>((n:Int),L,dgs L n,zZ L n i,(zZ L n i).flatten,(i:Int),decide (dgr L (i:Int)=0∨(i:Int)∈(zZ L n i).flatten.take k),(k:Int))) (zZ L n i).flatten.length (fun _=>some (zZ L n n,0,0)) ?_ ?_ (m+1000) 0 (Nat.zero_le _) (by omega)
     ·intro next2
      dsimp only
      rw [zg (by omega),List.take_length,zo (x:=(i:Int)+1) (by omega) (by omega)]
      by_cases hs:dgr L (i:Int)=0∨(i:Int)∈(zZ L n i).flatten
      ·rw [decide_eq_true hs,cT]
       exact hsk hs
      rw [decide_eq_false hs,cF]
      unfold zeD at hn'
      rw [if_neg hs] at hn'
      have hdi:dgr L (i:Int)=2:=(lp.deg i hi).resolve_left (fun h=>hs (.inl h))
      have hD:Dg L n (i:Int):=⟨⟨by omega,by omega⟩,hdi⟩
      obtain ⟨fr0,r0,hr0,w0,hi0⟩:=za1 G hD
      refine Q7 (fun c s v=>∃(fr:Int) (r:List Int) (a:Int),Wk (Dg L n) (nbr L) (i:Int) fr r a∧(r=[]→a=mnI (nbr L fr).1 (nbr L fr).2)∧c=n-(fr::r).length∧zjS (nbr L) (i:Int) (n+1-(fr::r).length+1) fr r a=fr0::r0 ∧
        s=((n:Int),L,dgs L n,zZ L n i,(zZ L n i).flatten,(i:Int),(fr::r).reverse)∧v=some (zZ L n n,0,0)) ?_ (m+1000) (n-1) _ _ ⟨(i:Int),[],mnI (nbr L (i:Int)).1 (nbr L (i:Int)).2,Wk.first hD (zpZ _ _),fun _=>rfl,by simp,?_,rfl,rfl⟩ (by omega)
      ·rintro c s v ⟨fr,r,a,w,hmin,rfl,hw,rfl,rfl⟩ next3 hn3
       have hlen:=w.len G
       have hl1:((fr::r).reverse).length=r.length+1:=by simp
       have hlast:rdD 0 (fr::r).reverse ((r.length:Nat):Int)=fr:=by
        rw [z7 _ _ r.length (by simp)];simp
       have el:w64 ((((fr::r).reverse).length:Int)-1)=((r.length:Nat):Int):=by
        simp only [List.length_cons] at hlen
        rw [hl1,zo (by omega) (by omega)];omega
       dsimp only
       simp only [List.length_cons] at hlen
       rw [el,z6 (zF ⟨by omega,by rw [hl1];omega⟩),hlast,zv3 m n L fr _ hL (by rw [hl1];omega) ok,zt,zuy lp w hmin]
       by_cases e:a=(i:Int)
       ·rw [if_pos e,zl (by omega)]
        subst e
        rw [zjS,if_pos rfl] at hw
        have hol:=zho L n i
        rw [z6 (ZU (by omega)),z6 (ZU (by rw [hl1];omega)),zo (x:=(i:Int)+1) (by omega) (by omega)]
        rw [hw,←hr0]
        have ef:(zZ L n i++[ring (nbr L) n (i:Int)]).flatten=(zZ L n i).flatten++ring (nbr L) n (i:Int):=by simp
        rw [ef] at hn'
        exact hn'
       ·have w':=w.step G e
        have ha:=(w'.d a List.mem_cons_self).1
        have hlen':=w'.len G
        rw [if_neg e,zg (by omega),z6 (ZU (by rw [hl1];omega))]
        refine hn3 (n-(a::fr::r).length) _ _ (by simp only [List.length_cons] at hlen' ⊢;omega) ⟨a,fr::r,oth (nbr L a) fr,w',fun h=>(by cases h),rfl,?_,by simp,rfl⟩
        rw [zjS,if_neg e] at hw
        rw [show n+1-(a::fr::r).length+1=n+1-(fr::r).length from by simp only [List.length_cons] at hlen' ⊢;omega]
        exact hw
      ·have:ring (nbr L) n (i:Int)=(zjS (nbr L) (i:Int) (n+1) (i:Int) [] (mnI (nbr L (i:Int)).1 (nbr L (i:Int)).2)).reverse:=rfl
       rw [this] at hr0
       have:=List.reverse_inj.1 hr0
       rw [show n+1-[(i:Int)].length+1=n+1 from by simp]
       exact this
     ·intro k hk next2 hn2
      dsimp only at hn2 ⊢
      rw [zl (by omega),z7 _ _ k hk,zo (x:=(k:Int)+1) (by omega) (by omega)]
      rw [List.take_succ_eq_append_getElem hk] at hn2
      by_cases c:dgr L (i:Int)=0∨(i:Int)∈(zZ L n i).flatten.take k
      ·rw [decide_eq_true c,cT]
       rw [decide_eq_true (c.imp id fun h=>List.mem_append_left _ h)] at hn2
       exact hn2
      ·rw [decide_eq_false c,cF,z6 (zF ⟨by omega,by omega⟩)]
       have:decide ((zZ L n i).flatten[k]=(i:Int))=decide (dgr L (i:Int)=0∨(i:Int)∈(zZ L n i).flatten.take k++[(zZ L n i).flatten[k]]):=by
        rw [decide_eq_decide]
        constructor
        ·intro h;exact .inr (List.mem_append_right _ (by rw [h];simp))
        ·rintro (h|h)
         ·exact absurd (.inl h) c
         ·rcases List.mem_append.1 h with h|h
          ·exact absurd (.inr h) c
          ·exact (List.mem_singleton.1 h).symm
       rw [this]
       exact hn2
   ·intro i hi next hn'
    dsimp only at hn' ⊢
    simp only [zz]
    rw [bifT i (by omega)]
    refine (step i (by omega) _ _).trans ?_
    rw [if_neg (by rw [r1 hodd i (Nat.zero_le _) hi];simp),zo (x:=(i:Int)+1) (by omega) (by omega)]
    exact hn'
 ·intro i hi next hn'
  dsimp only at hn' ⊢
  rw [zl (by omega)]
  refine zG (fun k=>((n:Int),L,dgs L n,(i:Int),(k:Int))) i (fun _=>some (zdO L n)) ?_ ?_ (m+1000) 0 (Nat.zero_le _) (by omega)
  ·intro next2
   dsimp only
   rw [zg (by omega),zo (x:=(i:Int)+1) (by omega) (by omega)]
   exact hn'
  ·intro k hk next2 hn2
   dsimp only at hn2 ⊢
   rw [zl (by omega),z6 (zF ⟨by omega,by omega⟩),z6 (zF ⟨by omega,by omega⟩),z7 _ L i hi,z7 _ L k (by omega),zo (x:=(k:Int)+1) (by omega) (by omega)]
   simp only [Y0]
   rw [zzw,zt,zg (fun e=>List.pairwise_iff_getElem.1 two k i (by omega) hi hk e.symm)]
   exact hn2
end Go.Proofs.YtpkkcjmblocjdaaGreat.Pure
end
section
namespace Go.Proofs.YtpkkcjmblocjdaaGreat.Pure
open Go.RowKit Go.Proofs.YtpkkcjmblocjdaaGreat.AM PL
theorem zkF {n:Nat} {L:List Pt} (lp:Lp n L):∀i,i≤n→∀r∈zZ L n i,∃v:Int,Dg L n v∧r=ring (nbr L) n v
 |0,_,r,hr=>by simp [zZ] at hr
 |i+1,hi,r,hr=>by
  rw [XD] at hr
  unfold zeD at hr
  split at hr
  ·exact zkF lp i (by omega) r hr
  ·rename_i c
   rcases List.mem_append.1 hr with hr|hr
   ·exact zkF lp i (by omega) r hr
   ·have hd:dgr L (i:Int)=2:=(lp.deg i (by omega)).resolve_left (fun h=>c (.inl h))
    exact ⟨(i:Int),⟨⟨by omega,by omega⟩,hd⟩,List.mem_singleton.1 hr⟩
theorem zll {n:Nat} {D:Int→Prop} {nb:Int→Pt} (G:Rg n D nb) {i fr:Int} {r:List Int} (w:Wk D nb i fr r i):3≤(fr::r).length:=by
 match r,w with
 |[],w =>
  have hl:=w.last
  have hfi:fr=i:=by simpa using hl
  have hnv:=G.nv fr (w.d fr List.mem_cons_self)
  rcases w.to with h|h
  ·exact absurd (h.symm.trans hfi.symm) hnv.1
  ·exact absurd (h.symm.trans hfi.symm) hnv.2
 |[p],w =>
  have hl:=w.last
  have hpi:p=i:=by simpa using hl
  exact absurd hpi.symm (w.pr p rfl).2
 |p::q::r,w=>simp
theorem zqA {n:Nat} {L:List Pt} (lp:Lp n L) {v:Int} (h:Dg L n v):3≤(ring (nbr L) n v).length:=by
 obtain ⟨fr,r,e,w,_⟩:=za1 lp.rg h
 rw [e,List.length_reverse]
 exact zll lp.rg w
theorem zsx {nb:Int→Pt} {O:Int→Prop} (cl:∀x,O x→O (nb x).1∧O (nb x).2):∀(l:List Int) (a:Int),Ch nb (a::l)→∀x∈l,O x→∀z,(a::l).getLast?=some z→O z
 |[],a,_,x,hx,_,z,_=>by cases hx
 |[b],a,_,x,hx,ho,z,hz=>by
  obtain rfl:x=b:=by simpa using hx
  have:x=z:=by simpa using hz
  rw [←this];exact ho
 |b::c::l,a,h,x,hx,ho,z,hz=>by
  have ht:Ch nb (b::c::l):=h.2
  have hz':(b::c::l).getLast?=some z:=by rw [List.getLast?_cons_cons] at hz;exact hz
  rcases List.mem_cons.1 hx with rfl|hx
  ·have hc:O c:=by
    rcases h.1 with ⟨_,e⟩|⟨e,_⟩<;>rw [←e]
    ·exact (cl _ ho).2
    ·exact (cl _ ho).1
   exact zsx cl (c::l) x ht c List.mem_cons_self hc z hz'
  ·exact zsx cl (c::l) b ht x hx ho z hz'
theorem zrT {nb:Int→Pt}:∀(l:List Int) (a b c:Int),Ch nb (a::b::c::l)→∀z,(a::b::c::l).getLast?=some z→∃y∈b::c::l,(z=(nb y).1∨z=(nb y).2)
 |[],a,b,c,h,z,hz=>by
  have:c=z:=by simpa using hz
  subst this
  refine ⟨b,by simp,?_⟩
  rcases h.1 with ⟨_,e⟩|⟨e,_⟩
  ·exact .inr e.symm
  ·exact .inl e.symm
 |d::l,a,b,c,h,z,hz=>by
  have hz':(b::c::d::l).getLast?=some z:=by rw [List.getLast?_cons_cons] at hz;exact hz
  obtain ⟨y,hy,e⟩:=zrT l b c d h.2 z hz'
  exact ⟨y,List.mem_cons_of_mem _ hy,e⟩
section
variable {n:Nat} {D:Int→Prop} {nb:Int→Pt} (G:Rg n D nb) {i fr:Int} {r:List Int}
include G
theorem ztr (w:Wk D nb i fr r i):∀x∈fr::r,(nb x).1∈fr::r∧(nb x).2∈fr::r:=by
 have h3:=zll G w
 intro x hx
 match r,w,h3,hx with
 |p::q::r,w,h3,hx =>
 have him:i∈fr::p::q::r:=List.mem_of_getLast? w.last
 have two:∀(x a b:Int),(a=(nb x).1∨a=(nb x).2)→(b=(nb x).1∨b=(nb x).2)→a≠b→a∈fr::p::q::r→b∈fr::p::q::r→(nb x).1∈fr::p::q::r∧(nb x).2∈fr::p::q::r:=by
  intro x a b ha hb hne h1 h2
  rcases ha with ha|ha<;>rcases hb with hb|hb
  ·exact absurd (ha.trans hb.symm) hne
  ·rw [←ha,←hb];exact ⟨h1,h2⟩
  ·rw [←ha,←hb];exact ⟨h2,h1⟩
  ·exact absurd (ha.trans hb.symm) hne
 rcases List.mem_cons.1 hx with rfl|hx'
 ·exact two x i p w.to (w.pr p rfl).1 (w.pr p rfl).2 him (by simp)
 ·by_cases e:x=i
  ·subst e
   obtain ⟨y,hy,hyx⟩:=zrT r fr p q w.ch x w.last
   have hfr:=w.d fr List.mem_cons_self
   have hyD:=w.d y (List.mem_cons_of_mem _ hy)
   refine two x fr y (G.sym fr hfr x w.to) (G.sym y hyD x hyx) (fun e=>?_) List.mem_cons_self (List.mem_cons_of_mem _ hy)
   exact (List.nodup_cons.1 w.nd).1 (e ▸ hy)
  ·have hin:=zv7 (p::q::r) fr w.ch x hx' (by rw [w.last];intro h;injection h with h;exact e h.symm)
   exact hin
theorem zvX {O:Int→Prop} (cl:∀x,O x→O (nb x).1∧O (nb x).2) (w:Wk D nb i fr r i) {x:Int} (hx:x∈fr::r) (ho:O x):O i:=by
 have h3:=zll G w
 match r,w,h3,hx with
 |p::q::r,w,h3,hx =>
 rcases List.mem_cons.1 hx with rfl|hx
 ·have:O p:=by
   rcases (w.pr p rfl).1 with e|e<;>rw [e]
   ·exact (cl _ ho).1
   ·exact (cl _ ho).2
  exact zsx cl (p::q::r) x w.ch p (by simp) this i w.last
 ·exact zsx cl (p::q::r) fr w.ch x hx ho i w.last
end
structure Oi (L:List Pt) (n i:Nat):Prop where
 nd:(zZ L n i).flatten.Nodup
 d:∀x∈(zZ L n i).flatten,Dg L n x
 cl:∀x∈(zZ L n i).flatten,(nbr L x).1∈(zZ L n i).flatten∧(nbr L x).2∈(zZ L n i).flatten
 al:∀v:Nat,v<i→Dg L n (v:Int)→(v:Int)∈(zZ L n i).flatten
theorem oi {n:Nat} {L:List Pt} (lp:Lp n L):∀i,i≤n→Oi L n i
 |0,_=>⟨by simp [zZ],fun x hx=>by simp [zZ] at hx,fun x hx=>by simp [zZ] at hx,fun v hv=>by omega⟩
 |i+1,hi=>by
  have I:=oi lp i (by omega)
  have G:=lp.rg
  by_cases c:dgr L (i:Int)=0∨(i:Int)∈(zZ L n i).flatten
  ·have e:zZ L n (i+1)=zZ L n i:=by rw [XD];unfold zeD;rw [if_pos c]
   refine ⟨by rw [e];exact I.nd,by rw [e];exact I.d,by rw [e];exact I.cl,fun v hv hd=>?_⟩
   rw [e]
   by_cases hvi:v=i
   ·subst hvi
    rcases c with c|c
    ·have:=hd.2;omega
    ·exact c
   ·exact I.al v (by omega) hd
  ·have hd:dgr L (i:Int)=2:=(lp.deg i (by omega)).resolve_left (fun h=>c (.inl h))
   have hD:Dg L n (i:Int):=⟨⟨by omega,by omega⟩,hd⟩
   obtain ⟨fr,r,hr,w,him⟩:=za1 G hD
   have e:(zZ L n (i+1)).flatten=(zZ L n i).flatten++(fr::r).reverse:=by
    rw [XD];unfold zeD;rw [if_neg c,hr];simp
   have mem:∀x,x∈(zZ L n (i+1)).flatten↔(x∈(zZ L n i).flatten∨x∈fr::r):=by
    intro x;rw [e,List.mem_append,List.mem_reverse]
   refine ⟨?_,fun x hx=>?_,fun x hx=>?_,fun v hv hd=>?_⟩
   ·rw [e,List.nodup_append]
    refine ⟨I.nd,(by unfold List.Nodup;rw [List.pairwise_reverse];exact w.nd.imp (fun h=>h.symm)),fun a ha b hb hab=>?_⟩
    subst hab
    exact c (.inr (zvX G (O:=fun x=>x∈(zZ L n i).flatten) (fun x hx=>I.cl x hx) w (List.mem_reverse.1 hb) ha))
   ·exact ((mem x).1 hx).elim (I.d x) (w.d x)
   ·rcases (mem x).1 hx with hx|hx
    ·exact ⟨(mem _).2 (.inl (I.cl x hx).1),(mem _).2 (.inl (I.cl x hx).2)⟩
    ·have:=ztr G w x hx
     exact ⟨(mem _).2 (.inr this.1),(mem _).2 (.inr this.2)⟩
   ·by_cases hvi:v=i
    ·subst hvi;exact (mem _).2 (.inr him)
    ·exact (mem _).2 (.inl (I.al v (by omega) hd))
theorem zsD (L:List Pt):∀n,(∀v:Nat,v<n→dgr L (v:Int)=0∨dgr L (v:Int)=2)→smN (fun v=>dgr L (v:Int)) n=2*((List.range n).filter fun v=>decide (dgr L ((v:Nat):Int)=2)).length
 |0,_=>rfl
 |n+1,h=>by
  rw [smN,zsD L n (fun v hv=>h v (by omega)),List.range_succ,List.filter_append,List.length_append]
  rcases h n (by omega) with e|e
  ·rw [e,List.filter_cons_of_neg (by rw [e];decide)];simp
  ·rw [e,List.filter_cons_of_pos (by rw [e];decide)];simp;omega
theorem zql {n:Nat} {L:List Pt} (lp:Lp n L):(zZ L n n).flatten.length=L.length:=by
 have I:=oi lp n (Nat.le_refl _)
 have hs:=zr6 (fun s hs=>(lp.ok s hs).1)
 rw [zsD L n lp.deg] at hs
 generalize hF:(List.range n).filter (fun v=>decide (dgr L ((v:Nat):Int)=2))=F at hs
 have memF:∀v:Nat,v∈F↔Dg L n (v:Int):=by
  intro v
  rw [←hF,List.mem_filter,List.mem_range,decide_eq_true_eq]
  exact ⟨fun h=>⟨⟨by omega,by omega⟩,h.2⟩,fun h=>⟨by have:=h.1;omega,h.2⟩⟩
 have ndF:F.Nodup:=by rw [←hF];exact List.Nodup.sublist List.filter_sublist List.nodup_range
 have h1:((zZ L n n).flatten.map Int.toNat).Nodup:=by
  unfold List.Nodup
  rw [List.pairwise_map]
  refine List.Pairwise.imp_of_mem (fun {a b} ha hb h=>?_) I.nd
  have:=(I.d a ha).1;have:=(I.d b hb).1
  omega
 have l1:(zZ L n n).flatten.length≤F.length:=by
  have:=h1.length_le_of_subset (l₂:=F) (fun x hx=>by
   obtain ⟨y,hy,rfl⟩:=List.mem_map.1 hx
   have hd:=I.d y hy
   rw [memF,show ((y.toNat:Nat):Int)=y from by have:=hd.1;omega]
   exact hd)
  rw [List.length_map] at this;exact this
 have l2:F.length≤(zZ L n n).flatten.length:=by
  have:=ndF.length_le_of_subset (l₂:=(zZ L n n).flatten.map Int.toNat) (fun v hv=>by
   have hd:=(memF v).1 hv
   exact List.mem_map.2 ⟨(v:Int),I.al v (by have:=hd.1;omega) hd,by simp⟩)
  rw [List.length_map] at this;exact this
 omega
end Go.Proofs.YtpkkcjmblocjdaaGreat.Pure
end
section
namespace Go.Proofs.YtpkkcjmblocjdaaGreat.Pure
open Go.RowKit Go.Proofs.YtpkkcjmblocjdaaGreat.AM PL
def ix (r:List Int) (i:Nat):Int:=rdD 0 r (i:Int)
def wsg (r:List Int):List Pt:=(List.range r.length).map fun i=>(ix r i,ix r ((i+1) % r.length))
theorem zse (r:List Int):(wsg r).length=r.length:=by unfold wsg;simp
theorem zud (m:Nat) (r:List Int) (hl:r.length≤350):jZ (m+400) r=some (wsg r):=by
 unfold jZ
 refine zG (fun i=>(r,(List.range i).map fun i=>(ix r i,ix r ((i+1) % r.length)),(i:Int))) r.length (fun _=>some (wsg r)) ?_ ?_ (m+400) 0 (Nat.zero_le _) (by omega)
 ·intro next
  dsimp only
  rw [zg (by omega)];rfl
 ·intro i hi next hn
  dsimp only at hn ⊢
  simp only [zz]
  have hm:(i+1) % r.length<r.length:=Nat.mod_lt _ (by omega)
  rw [List.range_succ,List.map_append] at hn
  have hin:inb (i:Int) r.length=true:=zF ⟨by omega,by omega⟩
  have hfew:few (((List.range i).map fun i=>(ix r i,ix r ((i+1) % r.length))).length+1)=true:=by unfold few;simp;omega
  rw [zl (by omega),zo (x:=(i:Int)+1) (by omega) (by omega)]
  simp only [hin,gT,hfew]
  by_cases e:(i:Int)+1=(r.length:Int)
  ·rw [zl e,z6 (zF ⟨by omega,by omega⟩)]
   have e2:(i+1) % r.length=0:=by rw [show i+1=r.length by omega];exact Nat.mod_self _
   simp only [List.map_cons,List.map_nil,e2] at hn
   exact hn
  ·rw [zg e,z6 (zF ⟨by omega,by omega⟩)]
   have e2:(i+1) % r.length=i+1:=Nat.mod_eq_of_lt (by omega)
   simp only [List.map_cons,List.map_nil,e2] at hn
   exact hn
def rg (R:List (List Int)) (i:Nat):List Int:=rdD [] R (i:Int)
def okr (p:List Pt) (r:List Int):Bool:=okl p 1 (wsg r)&&!decide (r.length=0)
def dnn (p:List Pt) (R:List (List Int)) (i k:Nat):Bool:=!decide (k=i)&&decide ((atv p (wsg (rg R k)) 1 (pt p (ix (rg R i) 0))).1=1)
def dcn (p:List Pt) (R:List (List Int)) (i:Nat):Nat→Nat
 |0=>0
 |k+1=>dcn p R i k+if dnn p R i k=true then 1 else 0
theorem zph (p:List Pt) (R:List (List Int)) (i k:Nat):dcn p R i (k+1)=dcn p R i k+if dnn p R i k=true then 1 else 0:=rfl
theorem zq3 (p:List Pt) (R:List (List Int)) (i:Nat):∀k,dcn p R i k≤k
 |0=>Nat.le_refl _
 |k+1=>by
  have:=zq3 p R i k
  unfold dcn;split<;>omega
def zhF (p:List Pt) (R:List (List Int)):List Int×Int:=if (R.all fun r=>okr p r)=true then ((List.range R.length).map fun i=>(dcn p R i R.length:Int),0) else ([],2)
theorem zmU {p:List Pt} {r:List Int} (h:okr p r=true):r.length≠0∧okl p 1 (wsg r)=true∧inr (ix r 0) p.length∧Fit (pt p (ix r 0)):=by
 unfold okr at h
 simp only [Bool.and_eq_true,Bool.not_eq_true',decide_eq_false_iff_not] at h
 refine ⟨h.2,h.1,?_⟩
 have hm:(ix r 0,ix r ((0+1) % r.length))∈wsg r:=by
  unfold wsg
  exact List.mem_map.2 ⟨0,List.mem_range.2 (by omega),rfl⟩
 have:=of_decide_eq_true (List.all_eq_true.1 h.1 _ hm)
 exact ⟨this.1.1,this.2.2.1.1⟩
section
variable (m:Nat) (p:List Pt) (R:List (List Int)) (hR:R.length≤350) (hr:∀r∈R,r.length≤350)
include hR hr
theorem zvu {i:Nat} (hi:i<R.length):rg R i∈R:=by unfold rg;rw [z7 _ R i hi];exact List.getElem_mem _
theorem zA0 {r:List Int} (h:r.length≠0):inb 0 r.length=true:=zF ⟨by omega,by omega⟩
theorem zxG:Za (m+400) p R=some (zhF p R):=by
 unfold Za KE
 refine Q7 (fun n s v=>∃i:Nat,i≤R.length∧(∀r∈R.take i,okr p r=true)∧n=R.length-i∧s=(p,R,(i:Int))∧v=some (zhF p R)) ?_ (m+400) R.length _ _ ⟨0,by omega,by simp,rfl,rfl,rfl⟩ (by omega)
 rintro n s v ⟨i,hi,hok,rfl,rfl,rfl⟩ next hn
 by_cases e:i=R.length
 ·subst e
  rw [List.take_length] at hok
  have hd:zhF p R=((List.range R.length).map fun i=>(dcn p R i R.length:Int),0):=by
   unfold zhF;rw [if_pos (List.all_eq_true.2 hok)]
  dsimp only
  rw [zg (by omega),hd]
  refine zG (fun i=>(p,R,(List.range i).map fun i=>(dcn p R i R.length:Int),(i:Int))) R.length (fun _=>some ((List.range R.length).map fun i=>(dcn p R i R.length:Int),0)) ?_ ?_ (m+400) 0 (Nat.zero_le _) (by omega)
  ·intro next
   dsimp only
   rw [zg (by omega)]
  ·intro i hi next hn
   dsimp only at hn ⊢
   rw [zl (by omega)]
   have hme:=zvu R hR hr hi
   obtain ⟨q1,q2,q3,q4⟩:=zmU (hok _ hme)
   refine zG (fun k=>(p,R,(List.range i).map fun i=>(dcn p R i R.length:Int),(i:Int),(dcn p R i k:Int),(k:Int))) R.length (fun _=>some ((List.range R.length).map fun i=>(dcn p R i R.length:Int),0)) ?_ ?_ (m+400) 0 (Nat.zero_le _) (by omega)
   ·intro next2
    dsimp only
    rw [zg (by omega),z6 (by unfold few;simp;omega),zo (x:=(i:Int)+1) (by omega) (by omega)]
    rw [List.range_succ,List.map_append] at hn
    exact hn
   ·intro k hk next2 hn2
    dsimp only at hn2 ⊢
    simp only [zz]
    have hmk:=zvu R hR hr hk
    have hc:=zq3 p R i k
    obtain ⟨_,z2,_,_⟩:=zmU (hok _ hmk)
    have es:rdD [] R (k:Int)=rg R k:=rfl
    have es2:rdD [] R (i:Int)=rg R i:=rfl
    have e0:rdD 0 (rg R i) 0=ix (rg R i) 0:=rfl
    have e1:rdD (0,0) p (ix (rg R i) 0)=pt p (ix (rg R i) 0):=rfl
    have i1:inb (k:Int) R.length=true:=zF ⟨by omega,by omega⟩
    have i2:inb (i:Int) R.length=true:=zF ⟨by omega,by omega⟩
    rw [zl (by omega),zo (x:=(k:Int)+1) (by omega) (by omega),zo (x:=(dcn p R i k:Int)+1) (by omega) (by omega)]
    simp only [i1,i2,gT,es,es2,e0,e1,zA0 R hR hr q1,Zz q3,Y0]
    rw [zud m _ (hr _ hmk),zt,zof m p _ 1 _ (by omega) (by omega) (by rw [zse];exact hr _ hmk) z2 q4,zt]
    have ea:atv p (wsg (rg R k)) 1 (pt p (ix (rg R i) 0))=(whr ((wsg (rg R k)).map (sgm p 1)) (pt p (ix (rg R i) 0)),0):=by
     unfold atv;rw [if_pos ⟨z2,q4⟩]
    have ek:decide ((k:Int)=(i:Int))=decide (k=i):=by rw [decide_eq_decide];omega
    rw [ek]
    have hz0:dnn p R i k=(!decide (k=i)&&decide ((atv p (wsg (rg R k)) 1 (pt p (ix (rg R i) 0))).1=1)):=rfl
    rw [zph,hz0] at hn2
    rw [ea] at hn2
    cases hk0:decide (k=i)
    ·cases hz:decide (whr ((wsg (rg R k)).map (sgm p 1)) (pt p (ix (rg R i) 0))=1)
     ·rw [hk0,hz] at hn2;exact hn2
     ·rw [hk0,hz] at hn2;exact hn2
    ·rw [hk0] at hn2;exact hn2
 ·have hi':i<R.length:=by omega
  dsimp only
  simp only [zz]
  have hin:inb (i:Int) R.length=true:=zF ⟨by omega,by omega⟩
  rw [zl (by omega),zo (x:=(i:Int)+1) (by omega) (by omega),z7 _ R i hi']
  simp only [hin,gT]
  have hmem:R[i]∈R:=List.getElem_mem _
  have hl:=hr R[i] hmem
  have htake:R.take (i+1)=R.take i++[R[i]]:=by rw [List.take_succ_eq_append_getElem hi']
  have hn':okr p R[i]=true→next (p,R,(i:Int)+1)=some (zhF p R):=fun h=>hn (R.length-(i+1)) _ _ (by omega) ⟨i+1,by omega,by
   rw [htake];intro r hx
   rcases List.mem_append.1 hx with hx|hx
   ·exact hok r hx
   ·rw [List.mem_singleton] at hx;rw [hx];exact h,rfl,rfl,rfl⟩
  have hbad:¬okr p R[i]=true→zhF p R=([],2):=by
   intro h;unfold zhF;rw [if_neg];intro ha;exact h (List.all_eq_true.1 ha _ hmem)
  rw [zud m _ hl,zt,zsC m p _ 1 (by omega) (by omega) (by rw [zse];exact hl),zt]
  by_cases h0:R[i].length=0
  ·rw [decide_eq_true (show (R[i].length:Int)=0 by omega),hbad (by unfold okr;simp [h0])];rfl
  ·rw [decide_eq_false (show ¬(R[i].length:Int)=0 by omega)]
   by_cases h:okl p 1 (wsg R[i])=true
   ·rw [h]
    exact hn' (by unfold okr;simp [h0,h])
   ·rw [hbad (by unfold okr;simp [h])]
    rw [Bool.not_eq_true] at h
    rw [h];rfl
end
end Go.Proofs.YtpkkcjmblocjdaaGreat.Pure
end
section
namespace Go.Proofs.YtpkkcjmblocjdaaGreat.Pure
open Go.RowKit Go.Proofs.YtpkkcjmblocjdaaGreat.AM PL
def Ad (nb:Int→Pt) (x y:Int):Prop:=(y=(nb x).1∨y=(nb x).2)∨(x=(nb y).1∨x=(nb y).2)
theorem Ad.symm {nb:Int→Pt} {x y:Int} (h:Ad nb x y):Ad nb y x:=Or.symm h
theorem zvp {nb:Int→Pt}:∀(l:List Int) (a b c:Int),Ch nb (a::b::c::l)→∀j (h:j+1<(a::b::c::l).length),Ad nb (a::b::c::l)[j] (a::b::c::l)[j+1]
 |[],a,b,c,h,j,hj=>by
  match j,hj with
  |0,_=>exact .inr (by rcases h.1 with ⟨e,_⟩|⟨_,e⟩<;>simp [e])
  |1,_=>exact .inl (by rcases h.1 with ⟨_,e⟩|⟨e,_⟩<;>simp [e])
 |d::l,a,b,c,h,0,hj=>.inr (by rcases h.1 with ⟨e,_⟩|⟨_,e⟩<;>simp [e])
 |d::l,a,b,c,h,j+1,hj=>zvp l b c d h.2 j (by simp only [List.length_cons] at hj ⊢;omega)
theorem zz0 {n:Nat} {L:List Pt} (lp:Lp n L) {x y:Int} (hx:dgr L x=2) (hy:dgr L y=2) (h:Ad (nbr L) x y):∃s∈L,(s.1=x∧s.2=y)∨(s.1=y∧s.2=x):=by
 have one:∀{x y:Int},dgr L x=2→(y=(nbr L x).1∨y=(nbr L x).2)→∃s∈L,(s.1=x∧s.2=y)∨(s.1=y∧s.2=x):=by
  intro x y hd h
  obtain ⟨a,b,e1,e2,_⟩:=lp.two_nl hd
  have:y∈nl L x:=by
   rw [e1]
   rw [e2] at h
   rcases h with h|h<;>rw [h]<;>simp
  obtain ⟨s,hs,⟨h1,h2⟩|⟨h1,h2⟩⟩:=Yg.1 this
  ·exact ⟨s,hs,.inl ⟨h1,h2⟩⟩
  ·exact ⟨s,hs,.inr ⟨h2,h1⟩⟩
 rcases h with h|h
 ·exact one hx h
 ·obtain ⟨s,hs,e⟩:=one hy h
  exact ⟨s,hs,Or.symm e⟩
theorem zcA {n:Nat} {L:List Pt} (lp:Lp n L) {r:List Int} (hr:r∈zZ L n n):Rng L r:=by
 obtain ⟨v,hv,rfl⟩:=zkF lp n (Nat.le_refl _) r hr
 have h3:=zqA lp hv
 obtain ⟨fr,rr,e,w,_⟩:=za1 lp.rg hv
 rw [e] at h3 ⊢
 rw [List.length_reverse] at h3
 have hd:∀x∈(fr::rr).reverse,dgr L x=2:=fun x hx=>(w.d x (List.mem_reverse.1 hx)).2
 have nd:((fr::rr).reverse).Nodup:=by
  unfold List.Nodup
  rw [List.pairwise_reverse]
  exact w.nd.imp fun h=>h.symm
 refine ⟨nd,by rw [List.length_reverse];exact h3,fun i=>?_,hd⟩
 have h0:((fr::rr).reverse).length≠0:=by rw [List.length_reverse];omega
 refine zz0 lp (hd _ (Z6 _ h0)) (hd _ (Z6 _ h0)) ?_
 obtain ⟨g1,e1⟩:=zfw (r:=(fr::rr).reverse) i h0
 obtain ⟨g2,e2⟩:=zfw (r:=(fr::rr).reverse) (i+1) h0
 rw [e1,e2,List.getElem_reverse,List.getElem_reverse]
 have hk:((fr::rr).reverse).length=(fr::rr).length:=List.length_reverse
 have hm:(i+1) % (fr::rr).length=if i % (fr::rr).length+1=(fr::rr).length then 0 else i % (fr::rr).length+1:=by
  have hlt:i % (fr::rr).length<(fr::rr).length:=Nat.mod_lt _ (by omega)
  rw [←Nat.mod_add_mod]
  split
  ·rename_i h;rw [h,Nat.mod_self]
  ·exact Nat.mod_eq_of_lt (by omega)
 have hlt:i % (fr::rr).length<(fr::rr).length:=Nat.mod_lt _ (by omega)
 simp only [hk] at g1 g2 ⊢
 match rr,w,h3 with
 |p::q::rr,w,h3 =>
  by_cases c:i % (fr::p::q::rr).length+1=(fr::p::q::rr).length
  ·rw [if_pos c] at hm
   have a1:(fr::p::q::rr)[(fr::p::q::rr).length-1-i % (fr::p::q::rr).length]'(by omega)=fr:=by
    have:(fr::p::q::rr).length-1-i % (fr::p::q::rr).length=0:=by omega
    simp only [this]
    rfl
   have a2:(fr::p::q::rr)[(fr::p::q::rr).length-1-(i+1) % (fr::p::q::rr).length]'(by omega)=v:=by
    have hl:=w.last
    rw [List.getLast?_eq_getElem?] at hl
    have:(fr::p::q::rr).length-1-(i+1) % (fr::p::q::rr).length=(fr::p::q::rr).length-1:=by omega
    simp only [this]
    rw [List.getElem?_eq_getElem (by omega)] at hl
    injection hl
   rw [a1,a2]
   exact .inl w.to
  ·rw [if_neg c] at hm
   have:=zvp rr fr p q w.ch ((fr::p::q::rr).length-1-(i+1) % (fr::p::q::rr).length) (by omega)
   have e3:(fr::p::q::rr).length-1-(i+1) % (fr::p::q::rr).length+1=(fr::p::q::rr).length-1-i % (fr::p::q::rr).length:=by omega
   simp only [e3] at this
   exact this.symm
theorem zoo (r:List Int):(cyc r).length=r.length:=by unfold cyc;simp
theorem znL {r:List Int} {i j:Nat} (h:i % r.length=j % r.length):at' r (i+1)=at' r (j+1):=by
 unfold at'
 rw [←Nat.mod_add_mod,h,Nat.mod_add_mod]
theorem zu6 {L:List Pt} {r:List Int} (G:Rng L r):((cyc r).map nrm).Nodup:=by
 rw [List.nodup_iff_pairwise_ne,List.pairwise_map]
 unfold cyc
 rw [List.pairwise_map]
 have h0:r.length≠0:=by have:=G.three;omega
 refine (List.nodup_iff_pairwise_ne.1 (List.nodup_range (n:=r.length))).imp_of_mem fun {i j} hi hj hne e=>?_
 have hi:=List.mem_range.1 hi
 have hj:=List.mem_range.1 hj
 rcases zj6 e with ⟨e1,e2⟩|⟨e1,e2⟩
 ·have:=znt G.nd h0 e1
  rw [Nat.mod_eq_of_lt hi,Nat.mod_eq_of_lt hj] at this
  exact hne this
 ·have:=znt G.nd h0 e2
  have:=znL this
  exact (zrm G.nd G.three i).2 (e1.trans this.symm)
theorem zwD (s:Pt):nrm s=s∨nrm s=rv s:=zc0 s
theorem zkG {n:Nat} {L:List Pt} (lp:Lp n L):(((zZ L n n).flatMap cyc).map nrm).Perm (L.map nrm):=by
 have nA:(L.map nrm).Nodup:=by
  rw [List.nodup_iff_pairwise_ne,List.pairwise_map]
  exact lp.two
 have nB:(((zZ L n n).flatMap cyc).map nrm).Nodup:=by
  rw [List.map_flatMap,List.nodup_iff_pairwise_ne,List.pairwise_flatMap]
  refine ⟨fun r hr=>List.nodup_iff_pairwise_ne.1 (zu6 (zcA lp hr)),?_⟩
  have hf:=(List.pairwise_flatten.1 (List.nodup_iff_pairwise_ne.1 (oi lp n (Nat.le_refl _)).nd)).2
  refine hf.imp_of_mem fun {r r'} hr hr' h x hx y hy e=>?_
  obtain ⟨s,hs,rfl⟩:=List.mem_map.1 hx
  obtain ⟨t,ht,rfl⟩:=List.mem_map.1 hy
  obtain ⟨i,hi,rfl⟩:=Qf.1 hs
  obtain ⟨j,hj,rfl⟩:=Qf.1 ht
  have m1:=Z6 (r:=r) i (by omega)
  rcases zj6 e with ⟨e1,e2⟩|⟨e1,e2⟩
  ·exact h _ m1 _ (Z6 j (by omega)) e1
  ·exact h _ m1 _ (Z6 (j+1) (by omega)) e1
 have sub:∀x∈((zZ L n n).flatMap cyc).map nrm,x∈L.map nrm:=by
  intro x hx
  obtain ⟨s,hs,rfl⟩:=List.mem_map.1 hx
  obtain ⟨r,hr,hs⟩:=List.mem_flatMap.1 hs
  obtain ⟨i,hi,rfl⟩:=Qf.1 hs
  obtain ⟨t,ht,h⟩:=(zcA lp hr).on i
  exact List.mem_map.2 ⟨t,ht,zfB h⟩
 have hlen:(((zZ L n n).flatMap cyc).map nrm).length=(L.map nrm).length:=by
  rw [List.length_map,List.length_map,←zql lp,List.length_flatMap,List.length_flatten]
  congr 1
  exact List.map_congr_left fun r _=>zoo r
 refine zhN nB nA fun x=>⟨sub x,fun hx=>?_⟩
 apply Decidable.byContradiction
 intro hn
 have:=zrc nB (r:=(L.map nrm).erase x) fun y hy=>(List.mem_erase_of_ne (fun e=>hn (by rw [←e];exact hy))).2 (sub y hy)
 rw [List.length_erase_of_mem hx,hlen] at this
 have:=List.length_pos_of_mem hx
 omega
theorem zs9 {n:Nat} {L:List Pt} (lp:Lp n L) {g:Pt→Int} (hg:∀x y,(∃s∈L,(s.1=x∧s.2=y)∨(s.1=y∧s.2=x))→g (y,x)=g (x,y)):sI g L=sI (fun r=>sI g (cyc r)) (zZ L n n):=by
 have nr:∀s:Pt,(∃t∈L,(t.1=s.1∧t.2=s.2)∨(t.1=s.2∧t.2=s.1))→g (nrm s)=g s:=by
  intro s h
  rcases zwD s with e|e
  ·rw [e]
  ·rw [e];exact hg s.1 s.2 h
 have e1:sI g L=sI g (L.map nrm):=by
  rw [zi7]
  exact KZ _ fun s hs=>(nr s ⟨s,hs,.inl ⟨rfl,rfl⟩⟩).symm
 rw [e1,←zhR g (zkG lp),zi7,←zoE]
 refine KZ _ fun s hs=>?_
 obtain ⟨r,hr,hs⟩:=List.mem_flatMap.1 hs
 obtain ⟨i,hi,rfl⟩:=Qf.1 hs
 exact nr _ ((zcA lp hr).on i)
end Go.Proofs.YtpkkcjmblocjdaaGreat.Pure
end
section
namespace Go.Proofs.YtpkkcjmblocjdaaGreat.Pure
open Go.RowKit Go.Proofs.YtpkkcjmblocjdaaGreat.AM PL
def add (a b:Pt):Pt:=(a.1+b.1,a.2+b.2)
theorem zmP {a b v u:Pt} (hab:a≠b) (hvu:v≠u) (fa:Fit a) (fb:Fit b) (fv:Fit v) (fu:Fit u) (nc:¬Cro a b v u) (i1:¬Ins a b v) (i3:¬Ins v u a) (i4:¬Ins v u b) (na:v≠a) (nb':v≠b):Ji (sc 2 v) (add v u) (sc 2 a) (sc 2 b):=by
 have e1:crs (sc 2 a) (sc 2 b) (sc 2 v)=4*crs a b v:=by unfold crs sc;dsimp only;grind
 have e2:crs (sc 2 a) (sc 2 b) (add v u)=2*(crs a b v+crs a b u):=by unfold crs sc add;dsimp only;grind
 have e3:crs (sc 2 v) (add v u) (sc 2 a)=2*crs v u a:=by unfold crs sc add;dsimp only;grind
 have e4:crs (sc 2 v) (add v u) (sc 2 b)=2*crs v u b:=by unfold crs sc add;dsimp only;grind
 unfold Ji
 rw [e1,e2,e3,e4]
 by_cases hz:crs a b v=0∧crs a b u=0
 ·
  have l1:=zaF hab hz.1 hz.2
  exact .inl ⟨by omega,by omega,by rw [l1.2.1];rfl,by rw [l1.2.2.1];rfl⟩
 ·refine .inr fun ⟨h1,h2⟩=>?_
  have nz:¬(crs v u a=0∧crs v u b=0):=by
   intro h
   have l2:=zaF hvu h.1 h.2
   exact hz ⟨l2.2.1,l2.2.2.1⟩
  have ss:∀{x y:Int},sg x=sg y→(0<x↔0<y)∧(x<0↔y<0):=by
   intro x y h;unfold sg at h;(repeat' split at h)<;>omega
  have c0:crs a b v≠0:=by
   intro h0
   by_cases hB:Btw a.1 b.1 v.1∧Btw a.2 b.2 v.2
   ·exact i1 ⟨⟨hab,⟨fa,fb,fv⟩,h0,hB⟩,na,nb'⟩
   ·have:=ss (zbl (d:=u) hab h0 hB)
    unfold Opp at h2
    omega
  have d0:(0<crs a b v∧crs a b u<0)∨(crs a b v<0∧0<crs a b u):=by
   unfold Opp at h1
   omega
  have key:∀w,(w=a∨w=b)→crs v u w≠0:=by
   intro w hw h0
   have fw:Fit w:=by rcases hw with rfl|rfl<;>assumption
   have nw:¬Ins v u w:=by rcases hw with rfl|rfl<;>assumption
   have vw:w≠v:=by rcases hw with rfl|rfl;exact fun e=>na e.symm;exact fun e=>nb' e.symm
   by_cases hB:Btw v.1 u.1 w.1∧Btw v.2 u.2 w.2
   ·by_cases hwu:w=u
    ·have:crs a b u=0:=by
      rw [←hwu]
      rcases hw with rfl|rfl
      ·unfold crs;simp
      ·unfold crs;grind
     omega
    ·exact nw ⟨⟨hvu,⟨fv,fu,fw⟩,h0,hB⟩,vw,hwu⟩
   ·rcases hw with rfl|rfl
    ·have:=ss (zbl (d:=b) hvu h0 hB)
     omega
    ·have:=ss (zbl (d:=a) hvu h0 hB)
     have r1:crs w a v=-crs a w v:=JD a w v
     have r2:crs w a u=-crs a w u:=JD a w u
     omega
  have ka:=key a (.inl rfl)
  have kb:=key b (.inr rfl)
  refine nc ?_
  unfold Cro ori
  rw [if_pos ⟨fa,fb,fv⟩,if_pos ⟨fa,fb,fu⟩,if_pos ⟨fv,fu,fa⟩,if_pos ⟨fv,fu,fb⟩,zsl,zsl]
  refine ⟨d0,?_⟩
  unfold Opp at h2
  omega
theorem zlD {f:Nat→Nat→Bool} {n a:Nat}:row f n a 0=none↔∀k,k<n→f a k=false:=by
 obtain ⟨h1,h2⟩:=J6 f (n:=n) (a:=a) _ 0 rfl (Nat.zero_le _)
 refine ⟨fun h k hk=>h1 h k (Nat.zero_le _) hk,fun h=>?_⟩
 cases hr:row f n a 0 with
 |none=>rfl
 |some k=>obtain ⟨_,g2,g3,_⟩:=h2 k hr;rw [h k g2] at g3;cases g3
theorem zs2 {f:Nat→Nat→Bool} {n:Nat}:Yy f n 0=none↔∀i k,i<k→k<n→f i k=false:=by
 obtain ⟨h1,h2⟩:=Xo f (n:=n) _ 0 rfl (Nat.zero_le _)
 refine ⟨fun h i k hi hk=>h1 h i k (Nat.zero_le _) hi hk,fun h=>?_⟩
 cases hr:Yy f n 0 with
 |none=>rfl
 |some q=>obtain ⟨_,g1,g2,g3,_⟩:=h2 q.1 q.2 hr;rw [h _ _ g1 g2] at g3;cases g3
theorem s2n {p:zJ}:s2 p=none↔∀s∈sgs p,s.1≠s.2:=by
 unfold s2
 rw [zlD]
 constructor
 ·intro h s hs
  obtain ⟨k,hk,rfl⟩:=List.mem_iff_getElem.1 hs
  have:=h k hk
  unfold pnt at this
  rw [ZS hk] at this
  exact of_decide_eq_false this
 ·intro h k hk
  unfold pnt
  rw [ZS hk]
  exact decide_eq_false (h _ (List.getElem_mem _))
def Mt (P:List Pt) (s t:Pt):Prop:=¬(QT (en P s).1 (en P s).2 (en P t).1 (en P t).2).1>1
theorem s3n {p:zJ}:s3 p=none↔(sgs p).Pairwise (Mt p.1):=by
 unfold s3
 rw [zs2,List.pairwise_iff_getElem,zdo]
 constructor
 ·intro h i k hi hk hik
  have:=h i k hik hk
  unfold qW at this
  rw [XG p hi,XG p hk,ZS hi,ZS hk] at this
  exact of_decide_eq_false this
 ·intro h i k hik hk
  unfold qW
  have hi:i<(sgs p).length:=by omega
  rw [XG p hi,XG p hk,ZS hi,ZS hk]
  exact decide_eq_false (h i k hi hk hik)
theorem zrB {k:Int} (hk:0<k) {q q' a b:Pt} (h:Ji q q' a b):Ji (sc k q) (sc k q') (sc k a) (sc k b):=by
 have kk:=qp hk hk
 have z:∀x:Int,k*k*x=0↔x=0:=fun x=>⟨QL kk,fun h=>by rw [h,Int.mul_zero]⟩
 have le:∀x:Int,k*k*x≤0↔x≤0:=fun x=>⟨zfK kk,fun h=>jz (Int.le_of_lt kk) h⟩
 have ge:∀x:Int,0≤k*k*x↔0≤x:=fun x=>⟨Yu kk,fun h=>jl (Int.le_of_lt kk) h⟩
 unfold Ji Opp at *
 rw [YI,YI,YI,YI]
 simp only [z,le,ge]
 exact h
def ps (p:zJ) (r:List Int):zJ:=(p.1,cyc r,[])
theorem zv6 (r:List Int):(cyc r).map (·.1)=r:=by
 unfold cyc
 rw [List.map_map]
 refine List.ext_getElem (by simp) fun i h1 h2=>?_
 rw [List.getElem_map,List.getElem_range]
 obtain ⟨h',e⟩:=zfw (r:=r) i (by omega)
 show at' r i=_
 rw [e]
 simp only [Nat.mod_eq_of_lt h2]
theorem zuO {L:List Pt} {r:List Int} (G:Rng L r):((cyc r).map (·.2)).Perm r:=by
 have h0:r.length≠0:=by have:=G.three;omega
 refine zhN ?_ G.nd fun x=>⟨fun hx=>?_,fun hx=>?_⟩
 ·unfold cyc
  rw [List.map_map,List.nodup_iff_pairwise_ne,List.pairwise_map]
  refine (List.nodup_iff_pairwise_ne.1 (List.nodup_range (n:=r.length))).imp_of_mem fun {i j} hi hj hne e=>?_
  have hi:=List.mem_range.1 hi
  have hj:=List.mem_range.1 hj
  have h1:=znt G.nd h0 (i:=i+1) (j:=j+1) e
  have h2:(i+1+(r.length-1)) % r.length=(j+1+(r.length-1)) % r.length:=by rw [←Nat.mod_add_mod,h1,Nat.mod_add_mod]
  rw [show i+1+(r.length-1)=i+r.length by omega,show j+1+(r.length-1)=j+r.length by omega,Nat.add_mod_right,Nat.add_mod_right,Nat.mod_eq_of_lt hi,Nat.mod_eq_of_lt hj] at h2
  exact hne h2
 ·obtain ⟨s,hs,rfl⟩:=List.mem_map.1 hx
  obtain ⟨i,hi,rfl⟩:=Qf.1 hs
  exact Z6 _ h0
 ·obtain ⟨i,hi,rfl⟩:=List.mem_iff_getElem.1 hx
  refine List.mem_map.2 ⟨(at' r (i+(r.length-1)),at' r (i+(r.length-1)+1)),Qf.2 ⟨(i+(r.length-1)) % r.length,Nat.mod_lt _ (by omega),?_⟩,?_⟩
  ·refine Prod.ext ?_ ?_
   ·unfold at';rw [Nat.mod_mod]
   ·exact znL (Nat.mod_mod _ _).symm
  ·show at' r (i+(r.length-1)+1)=r[i]
   obtain ⟨h',e⟩:=zfw (r:=r) (i+(r.length-1)+1) h0
   rw [e]
   simp only [show i+(r.length-1)+1=i+r.length by omega,Nat.add_mod_right,Nat.mod_eq_of_lt hi]
theorem zrK {L:List Pt} {r:List Int} (G:Rng L r) (v:Int):dgr (cyc r) v=if v∈r then 2 else 0:=by
 have c1:((cyc r).countP fun s=>decide (s.1=v))=r.count v:=by
  have:=congrArg (List.count v) (zv6 r)
  rw [←this,List.count,List.countP_map]
  refine List.countP_congr fun s _=>?_
  simp
 have c2:((cyc r).countP fun s=>decide (s.2=v))=r.count v:=by
  rw [←(zuO G).count_eq v,List.count,List.countP_map]
  refine List.countP_congr fun s _=>?_
  simp
 unfold dgr
 rw [c1,c2]
 by_cases h:v∈r
 ·rw [if_pos h,G.nd.count,if_pos h]
 ·rw [if_neg h,List.count_eq_zero.2 h]
theorem zqt (r:List Int) (h0:r.length≠0) (i:Nat):(at' r i,at' r (i+1))∈cyc r:=by
 refine Qf.2 ⟨i % r.length,Nat.mod_lt _ (by omega),Prod.ext ?_ ?_⟩
 ·unfold at';rw [Nat.mod_mod]
 ·exact znL (Nat.mod_mod _ _).symm
theorem Rng.own {L:List Pt} {r:List Int} (G:Rng L r):Rng (cyc r) r where
 nd:=G.nd
 three:=G.three
 on i:=⟨_,zqt r (by have:=G.three;omega) i,.inl ⟨rfl,rfl⟩⟩
 deg x hx:=by rw [zrK G,if_pos hx]
theorem Rng.lp {n:Nat} {L:List Pt} {r:List Int} (G:Rng L r) (lp:Lp n L):Lp n (cyc r) where
 ok s hs:=by
  obtain ⟨i,hi,rfl⟩:=Qf.1 hs
  obtain ⟨t,ht,h⟩:=G.on i
  obtain ⟨⟨r1,r2⟩,ne⟩:=lp.ok t ht
  rcases h with ⟨e1,e2⟩|⟨e1,e2⟩
  ·rw [←e1,←e2];exact ⟨⟨r1,r2⟩,ne⟩
  ·rw [←e1,←e2];exact ⟨⟨r2,r1⟩,fun e=>ne e.symm⟩
 two:=by
  have:=zu6 G
  rw [List.nodup_iff_pairwise_ne,List.pairwise_map] at this
  exact this
 deg v _:=by
  rw [zrK G]
  split
  ·exact .inr rfl
  ·exact .inl rfl
theorem Rng.len {n:Nat} {L:List Pt} {r:List Int} (G:Rng L r) (lp:Lp n L):r.length≤n:=by
 refine zmN G.nd fun x hx=>?_
 have hd:=G.deg x hx
 have:0<(nl L x).length:=by rw [ziY,hd];decide
 obtain ⟨u,hu⟩:=List.exists_mem_of_length_pos this
 obtain ⟨s,hs,⟨e1,_⟩|⟨e1,_⟩⟩:=Yg.1 hu
 ·rw [←e1];exact (lp.ok s hs).1.1
 ·rw [←e1];exact (lp.ok s hs).1.2
theorem Rt.ring {p:zJ} (R:Rt p) {r:List Int} (G:Rng p.2.1 r):Rt (ps p r):=by
 have lp:=G.lp R.lp
 have sg:sgs (ps p r)=cyc r:=List.append_nil _
 have sm:=R.fine.sm
 have hlen:(cyc r).length≤p.1.length:=by rw [zoo];exact G.len R.lp
 have hP:=sm.P
 have hc:=sm.chk
 unfold chk at hc
 rw [Bool.and_eq_true,Bool.and_eq_true,decide_eq_true_eq] at hc
 have ci:∀i,∃t∈p.2.1,(t.1=at' r i∧t.2=at' r (i+1))∨(t.1=at' r (i+1)∧t.2=at' r i):=G.on
 have sm':Sm (ps p r):=by
  refine ⟨?_,hP,by show (cyc r).length≤150;omega,by show ([]:List Pt).length≤150;decide⟩
  unfold chk
  rw [Bool.and_eq_true,Bool.and_eq_true,Bool.and_eq_true]
  refine ⟨decide_eq_true ⟨hc.1.1,by show (cyc r).length≤400;omega,by show ([]:List Pt).length≤400;decide⟩,hc.2.1,?_,rfl⟩
  unfold Xx
  rw [List.all_eq_true]
  exact fun s hs=>decide_eq_true (lp.ok s hs).1
 refine ⟨⟨sm',R.fine.n1,s2n.2 fun s hs=>?_,s3n.2 ?_⟩,fun k hk s hs=>?_,lp,fun s hs=>by cases hs⟩
 ·rw [sg] at hs
  exact (lp.ok s hs).2
 ·rw [sg]
  refine lp.two.imp_of_mem fun {s t} hs ht hne=>?_
  obtain ⟨i,hi,rfl⟩:=Qf.1 hs
  obtain ⟨j,hj,rfl⟩:=Qf.1 ht
  obtain ⟨a,ha,ea⟩:=ci i
  obtain ⟨b,hb,eb⟩:=ci j
  have hab:a≠b:=by
   intro e
   subst e
   exact hne ((zfB ea).symm.trans (zfB eb))
  have:=znK (r:=fun s q:Pt=>(QT (pt p.1 q.1) (pt p.1 q.2) (pt p.1 s.1) (pt p.1 s.2)).1≤1) (fun {x y} h=>by rw [JC];exact h) (znf R.fine) a (List.mem_append_left _ ha) b (List.mem_append_left _ hb) hab
  unfold Mt en
  show ¬(QT (pt p.1 (at' r i)) (pt p.1 (at' r (i+1))) (pt p.1 (at' r j)) (pt p.1 (at' r (j+1)))).1>1
  rcases ea with ⟨a1,a2⟩|⟨a1,a2⟩<;>rcases eb with ⟨b1,b2⟩|⟨b1,b2⟩<;>rw [a1,a2,b1,b2,JC] at this
  ·omega
  ·rw [zir] at this;omega
  ·rw [zdb] at this;omega
  ·rw [zdb,zir] at this;omega
 ·rw [sg] at hs
  obtain ⟨i,hi,rfl⟩:=Qf.1 hs
  obtain ⟨a,ha,⟨a1,a2⟩|⟨a1,a2⟩⟩:=ci i
  ·have:=R.s4 k hk a (List.mem_append_left _ ha)
   rw [a1,a2] at this
   exact this
  ·have:=R.s4 k hk a (List.mem_append_left _ ha)
   rw [a1,a2] at this
   exact fun h=>this (zfE.1 h)
end Go.Proofs.YtpkkcjmblocjdaaGreat.Pure
end
section
namespace Go.Proofs.YtpkkcjmblocjdaaGreat.Pure
open Go.RowKit Go.Proofs.YtpkkcjmblocjdaaGreat.AM PL
theorem zdQ {α:Type} (h:α→Bool):∀l r:List α,xs (l++r) h=xor (xs l h) (xs r h)
 |[],r=>by rw [List.nil_append];show _=xor false _;rw [Bool.false_xor]
 |a::l,r=>by rw [List.cons_append,jN,jN,zdQ h l r,Bool.xor_assoc]
theorem zor {α β:Type} (g:α→β) (h:β→Bool):∀l:List α,xs (l.map g) h=xs l fun x=>h (g x)
 |[]=>rfl
 |a::l=>by rw [List.map_cons,jN,jN,zor g h l]
theorem zsi {α β:Type} (g:α→List β) (h:β→Bool):∀l:List α,xs (l.flatMap g) h=xs l fun x=>xs (g x) h
 |[]=>rfl
 |a::l=>by rw [List.flatMap_cons,zdQ,jN,zsi g h l]
theorem zyk {α:Type} (h:α→Bool) {l r:List α} (p:l.Perm r):xs l h=xs r h:=by
 induction p with
 |nil=>rfl
 |cons a _ ih=>rw [jN,jN,ih]
 |swap a b l=>rw [jN,jN,jN,jN,Bool.xor_left_comm]
 |trans _ _ h1 h2=>rw [h1,h2]
theorem zs5 {p:zJ} (R:Rt p) (q:Pt):Zi p q=xs (zZ p.2.1 p.1.length p.1.length) fun r=>Zi (ps p r) q:=by
 have e0:∀L:List Pt,par (L.map (sgm p.1 6)) q=xs L fun s=>decide (Rgt (U6 p s.1) (U6 p s.2) q):=fun L=>zaE p.1 6 q L
 have hn:∀s:Pt,decide (Rgt (U6 p (nrm s).1) (U6 p (nrm s).2) q)=decide (Rgt (U6 p s.1) (U6 p s.2) q):=by
  intro s
  rcases zwD s with e|e
  ·rw [e]
  ·rw [e,decide_eq_decide];exact zlI
 show par (p.2.1.map (sgm p.1 6)) q=xs _ fun r=>par ((cyc r).map (sgm p.1 6)) q
 rw [e0,show (fun r=>par ((cyc r).map (sgm p.1 6)) q)=fun r=>xs (cyc r) fun s=>decide (Rgt (U6 p s.1) (U6 p s.2) q) from funext fun r=>e0 _,←zsi]
 have:=zyk (fun s=>decide (Rgt (U6 p s.1) (U6 p s.2) q)) (zkG R.lp)
 rw [zor,zor] at this
 rw [←K2 p.2.1 (fun s _=>hn s),←this]
 exact K2 _ fun s _=>hn s
section
variable {p:zJ} (R:Rt p) {r r':List Int} (G:Rng p.2.1 r) (G':Rng p.2.1 r')
include R G
theorem zj3 (i:Nat):GE p (at' r i) (at' r (i+1)):=by
 obtain ⟨s,hs,⟨e1,e2⟩|⟨e1,e2⟩⟩:=G.on i
 ·rw [←e1,←e2];exact q9 R hs
 ·rw [←e1,←e2];exact (q9 R hs).symm
include G'
theorem zrb (hd:∀x∈r,∀y∈r',x≠y) {x y c:Int} (hxy:(x=at' r 0∧y=at' r 1)∨(x=at' r 1∧y=at' r 0)) (T:zc1 (U6 p) p.1.length (GE p) x y c):Zi (ps p r') (c6 p x y c)=Zi (ps p r') (U6 p (at' r 0)):=by
 have h0:r.length≠0:=by have:=G.three;omega
 have h0':r'.length≠0:=by have:=G'.three;omega
 have lp':=G'.lp R.lp
 have em:m6 p x y=m6 p (at' r 0) (at' r 1):=by
  rcases hxy with ⟨e1,e2⟩|⟨e1,e2⟩
  ·rw [e1,e2]
  ·rw [e1,e2,zf3]
 have hx:x∈r:=by rcases hxy with ⟨e1,_⟩|⟨e1,_⟩<;>rw [e1]<;>exact Z6 _ h0
 have s1:Zi (ps p r') (c6 p x y c)=Zi (ps p r') (m6 p x y):=by
  refine zpl (P:=p.1) lp' fun s hs=>?_
  obtain ⟨i,hi,rfl⟩:=Qf.1 hs
  obtain ⟨t,ht,h⟩:=G'.on i
  have d1:=hd x hx _ (Z6 (r:=r') i h0')
  have d2:=hd x hx _ (Z6 (r:=r') (i+1) h0')
  have fr:=zcz R T ht (by omega)
  rcases h with ⟨e1,e2⟩|⟨e1,e2⟩
  ·rw [e1,e2] at fr;exact fr
  ·rw [e1,e2] at fr;exact ziy fr
 have s2:Zi (ps p r') (U6 p (at' r 0))=Zi (ps p r') (m6 p (at' r 0) (at' r 1)):=by
  refine zpl (P:=p.1) lp' fun s hs=>?_
  obtain ⟨i,hi,rfl⟩:=Qf.1 hs
  have g1:=zj3 R G 0
  have g2:=zj3 R G' i
  obtain ⟨⟨r1,r2⟩,ne1⟩:=g1.ok R
  obtain ⟨⟨r3,r4⟩,ne2⟩:=g2.ok R
  have f1:=R.fine.sm.fit r1
  have f2:=R.fine.sm.fit r2
  have f3:=R.fine.sm.fit r3
  have f4:=R.fine.sm.fit r4
  have:=zmP (a:=pt p.1 (at' r' i)) (b:=pt p.1 (at' r' (i+1))) (v:=pt p.1 (at' r 0)) (u:=pt p.1 (at' r 1)) (fun e=>ne2 (R.fine.distI r3 r4 e)) (fun e=>ne1 (R.fine.distI r1 r2 e)) f3 f4 f1 f2 (fun hc=>g2.npc R g1 ((zi5 f3 f4 f1 f2).1 hc)) (g2.out R r1) (g1.out R r3) (g1.out R r4) (fun e=>hd _ (Z6 0 h0) _ (Z6 i h0') (R.fine.distI r1 r3 e)) (fun e=>hd _ (Z6 0 h0) _ (Z6 (i+1) h0') (R.fine.distI r1 r4 e))
  have:=zrB (k:=3) (by decide) this
  rw [zea,zea,zea] at this
  exact this
 rw [s1,em,s2]
end
def zb2 (p:zJ) (l:List (List Int)) (v:Int):Bool:=xs l fun r'=>Zi (ps p r') (U6 p v)
section
variable {p:zJ} (R:Rt p) {l1 l2:List (List Int)} {r:List Int} (ho:zZ p.2.1 p.1.length p.1.length=l1++r::l2)
include R ho
theorem zfZ:Rng p.2.1 r:=zcA R.lp (by rw [ho];simp)
theorem zeQ {r':List Int} (h:r'∈l1++l2):Rng p.2.1 r'∧∀x∈r,∀y∈r',x≠y:=by
 refine ⟨zcA R.lp (by rw [ho];rcases List.mem_append.1 h with h|h<;>simp [h]),?_⟩
 have hf:=(List.pairwise_flatten.1 (List.nodup_iff_pairwise_ne.1 (oi R.lp p.1.length (Nat.le_refl _)).nd)).2
 rw [ho,List.pairwise_append] at hf
 intro x hx y hy e
 rcases List.mem_append.1 h with h|h
 ·exact hf.2.2 r' h r List.mem_cons_self y hy x hx e.symm
 ·exact (List.pairwise_cons.1 hf.2.1).1 r' h x hx y hy e
theorem zs0 {x y c:Int} (hxy:(x=at' r 0∧y=at' r 1)∨(x=at' r 1∧y=at' r 0)) (g:QP p x y c):Zi (ps p r) (c6 p x y c)=!(zb2 p (l1++l2) (at' r 0)):=by
 have G:=zfZ R ho
 have e:=zs5 R (c6 p x y c)
 rw [g.mid,ho,zdQ,jN,Bool.xor_left_comm,←zdQ,K2 (l1++l2) (fun r' h'=>zrb R G (zeQ R ho h').1 (zeQ R ho h').2 hxy g.T)] at e
 unfold zb2
 revert e
 generalize Zi (ps p r) (c6 p x y c)=a
 generalize xs (l1++l2) (fun r'=>Zi (ps p r') (U6 p (at' r 0)))=b
 cases a<;>cases b<;>decide
theorem zvb:(isG p (at' r 0) (at' r 1)↔isG (ps p r) (at' r 0) (at' r 1))↔zb2 p (l1++l2) (at' r 0)=false:=by
 have G:=zfZ R ho
 have h0:r.length≠0:=by have:=G.three;omega
 have R':=R.ring G
 have hs:(at' r 0,at' r 1)∈(ps p r).2.1:=zqt r h0 0
 have key:∀(P:Prop) (x y c:Int),((x=at' r 0∧y=at' r 1∧P)∨(x=at' r 1∧y=at' r 0∧¬P))→0<crs (U6 p x) (U6 p y) (U6 p c)→(∀t∈cyc r,¬((t.1=x∧t.2=y)∨(t.1=y∧t.2=x))→Ji (c6 p x y c) (m6 p x y) (U6 p t.1) (U6 p t.2))→∀b:Bool,(b=true↔P)→xor (Zi (ps p r) (c6 p x y c)) (Zi (ps p r) (m6 p (at' r 0) (at' r 1)))=xor b (kap (U6 p (at' r 0)) (U6 p (at' r 1))):=by
  intro P x y c hxy pos fr b hb
  have cen:=(zbm p x y c).three (U6 p x) (U6 p y)
  rw [qo,qB] at cen
  rcases hxy with ⟨rfl,rfl,hP⟩|⟨rfl,rfl,hP⟩
  ·have:=Xs R' hs (q:=c6 p (at' r 0) (at' r 1) c) (fun t ht hn=>fr t ht hn) (show crs (U6 p (at' r 0)) (U6 p (at' r 1)) _≠0 by omega)
   refine this.trans ?_
   rw [show decide (0<crs (U6 (ps p r) (at' r 0,at' r 1).1) (U6 (ps p r) (at' r 0,at' r 1).2) (c6 p (at' r 0) (at' r 1) c))=b by
    rw [hb.2 hP]
    exact decide_eq_true (show 0<crs (U6 p (at' r 0)) (U6 p (at' r 1)) _ by omega)]
   rfl
  ·have sw:=qj (U6 p (at' r 0)) (U6 p (at' r 1)) (c6 p (at' r 1) (at' r 0) c)
   have:=Xs R' hs (q:=c6 p (at' r 1) (at' r 0) c) (fun t ht hn=>by
    have:=fr t ht fun e=>hn (Or.symm e)
    rw [zf3] at this
    exact this) (show crs (U6 p (at' r 0)) (U6 p (at' r 1)) _≠0 by omega)
   refine this.trans ?_
   rw [show decide (0<crs (U6 (ps p r) (at' r 0,at' r 1).1) (U6 (ps p r) (at' r 0,at' r 1).2) (c6 p (at' r 1) (at' r 0) c))=b by
    rw [Bool.eq_false_iff.2 fun h=>hP (hb.1 h)]
    exact decide_eq_false (show ¬0<crs (U6 p (at' r 0)) (U6 p (at' r 1)) _ by omega)]
   rfl
 have some1:∀q:zJ,Rt q→onL q (at' r 0) (at' r 1)→∃x y c,((x=at' r 0∧y=at' r 1∧isG q (at' r 0) (at' r 1))∨(x=at' r 1∧y=at' r 0∧¬isG q (at' r 0) (at' r 1)))∧QP q x y c:=by
  intro q Rq hq
  obtain ⟨h1,h2⟩:=zsI Rq hq
  by_cases h:isG q (at' r 0) (at' r 1)
  ·obtain ⟨c,g⟩:=h
   exact ⟨_,_,c,.inl ⟨rfl,rfl,⟨c,g⟩⟩,g⟩
  ·obtain ⟨c,g⟩:=h1.resolve_left h
   exact ⟨_,_,c,.inr ⟨rfl,rfl,h⟩,g⟩
 obtain ⟨x,y,c,hxy,g⟩:=some1 p R (G.on 0)
 obtain ⟨x',y',c',hxy',g'⟩:=some1 (ps p r) R' (G.own.on 0)
 have hxy1:(x=at' r 0∧y=at' r 1)∨(x=at' r 1∧y=at' r 0):=hxy.imp (fun h=>⟨h.1,h.2.1⟩) fun h=>⟨h.1,h.2.1⟩
 have fp:=zs0 R ho hxy1 g
 have fr1:∀t∈cyc r,¬((t.1=x∧t.2=y)∨(t.1=y∧t.2=x))→Ji (c6 p x y c) (m6 p x y) (U6 p t.1) (U6 p t.2):=by
  intro t ht hn
  obtain ⟨i,hi,rfl⟩:=Qf.1 ht
  obtain ⟨s,hs,h⟩:=G.on i
  have fr:=zcz R g.T hs (by dsimp only at hn;omega)
  rcases h with ⟨e1,e2⟩|⟨e1,e2⟩
  ·rw [e1,e2] at fr;exact fr
  ·rw [e1,e2] at fr;exact ziy fr
 classical
 have k1:=key _ x y c hxy g.T.pos fr1 (decide (isG p (at' r 0) (at' r 1))) decide_eq_true_iff
 have k2:=key _ x' y' c' hxy' g'.T.pos (fun t ht hn=>zcz R' g'.T ht hn) (decide (isG (ps p r) (at' r 0) (at' r 1))) decide_eq_true_iff
 rw [fp] at k1
 rw [show Zi (ps p r) (c6 p x' y' c')=true from g'.mid] at k2
 have fin:decide (isG p (at' r 0) (at' r 1))=decide (isG (ps p r) (at' r 0) (at' r 1))↔zb2 p (l1++l2) (at' r 0)=false:=by
  revert k1 k2
  generalize zb2 p (l1++l2) (at' r 0)=a1
  generalize decide (isG p (at' r 0) (at' r 1))=a2
  generalize decide (isG (ps p r) (at' r 0) (at' r 1))=a3
  generalize Zi (ps p r) (m6 p (at' r 0) (at' r 1))=a4
  generalize kap (U6 p (at' r 0)) (U6 p (at' r 1))=a5
  cases a1<;>cases a2<;>cases a3<;>cases a4<;>cases a5<;>decide
 rw [←fin,decide_eq_decide]
end
end Go.Proofs.YtpkkcjmblocjdaaGreat.Pure
end
section
namespace Go.Proofs.YtpkkcjmblocjdaaGreat.Pure
open Go.RowKit Go.Proofs.YtpkkcjmblocjdaaGreat.AM PL
def dt (P:List Pt) (s:Pt):Int:=crs (0,0) (pt P s.1) (pt P s.2)
theorem zoO (P:List Pt) (s:Pt):dt P (rv s)=-dt P s:=jB _ _ _
def Ar (P:List Pt) (r:List Int):Int:=sI (dt P) (cyc r)
def crT (P:List Pt) (t:Tr):Int:=crs (pt P t.1) (pt P t.2.1) (pt P t.2.2)
theorem zuF (P:List Pt) (t:Tr):rdT (dt P) t=crT P t:=by
 unfold rdT dt crT
 have:=zbr (pt P t.1) (pt P t.2.1) (pt P t.2.2) (0,0)
 rw [ji (0,0) (pt P t.1) (pt P t.2.1),ji (0,0) (pt P t.2.1) (pt P t.2.2),ji (0,0) (pt P t.2.2) (pt P t.1)] at this
 exact this
theorem zwz {α:Type} {f:α→Int}:∀{l:List α},(∀x∈l,0<f x)→l≠[]→0<sI f l
 |[],_,h=>absurd rfl h
 |[a],h,_=>by rw [qU];have:=h a List.mem_cons_self;show 0<_+0;omega
 |a::b::l,h,_=>by
  rw [qU]
  have:=h a List.mem_cons_self
  have:=zwz (l:=b::l) (fun x hx=>h x (List.mem_cons_of_mem _ hx)) (by simp)
  omega
theorem zwZ {p:zJ} (R:Rt p) {t:Tr} (h:t∈qt p):0<crT p.1 t:=by
 obtain ⟨_,g⟩:=(zf4 R t).1 h
 have:=g.T.pos
 unfold U6 at this
 rw [YI] at this
 exact qA (by decide) this
theorem zul {p:zJ} (R:Rt p) {r:List Int} (G:Rng p.2.1 r):(isG (ps p r) (at' r 0) (at' r 1)∧0<Ar p.1 r)∨(¬isG (ps p r) (at' r 0) (at' r 1)∧Ar p.1 r<0):=by
 have R':=R.ring G
 have e:=zi9 R' (zoO p.1)
 have e2:sI (rdT (dt p.1)) (qt (ps p r))=sI (crT p.1) (qt (ps p r)):=KZ _ fun t _=>zuF p.1 t
 have pos:0<sI (crT p.1) (qt (ps p r)):=by
  refine zwz (fun t ht=>zwZ R' ht) fun h0=>?_
  have hs:(at' r 0,at' r 1)∈(ps p r).2.1:=zqt r (by have:=G.three;omega) 0
  rcases zcM R' hs with ⟨c,g⟩|⟨c,g⟩
  ·have:=(zeV R' g).1;rw [h0] at this;cases this
  ·have:=(zeV R' g).1;rw [h0] at this;cases this
 rw [←e2,e] at pos
 have:(ps p r).2.1=cyc r:=rfl
 rw [this] at pos
 unfold Ar
 rcases zo9 R' G.own (zoO p.1) with ⟨h1,h2⟩|⟨h1,h2⟩
 ·rw [h1] at pos;exact .inl ⟨h2,pos⟩
 ·rw [h1] at pos;exact .inr ⟨h2,by omega⟩
theorem ztG {p:zJ} (R:Rt p) {l1 l2:List (List Int)} {r:List Int} (ho:zZ p.2.1 p.1.length p.1.length=l1++r::l2):sI (fun s=>dt p.1 (XC p s)) (cyc r)=if zb2 p (l1++l2) (at' r 0)=true then-av (Ar p.1 r) else av (Ar p.1 r):=by
 have G:=zfZ R ho
 have h1:=zvb R ho
 have h2:=zul R G
 have h3:=zo9 R G (zoO p.1)
 unfold Ar at *
 rcases h2 with ⟨a1,a2⟩|⟨a1,a2⟩<;>rcases h3 with ⟨b1,b2⟩|⟨b1,b2⟩<;>rw [b1]
 ·rw [if_neg (by rw [h1.1 ⟨fun _=>a1,fun _=>b2⟩];decide),zlK a2]
 ·rw [if_pos (by rw [←Bool.not_eq_false];exact fun h=>b2 ((h1.2 h).2 a1)),zlK a2]
 ·rw [if_pos (by rw [←Bool.not_eq_false];exact fun h=>a1 ((h1.2 h).1 b2)),zkr a2];omega
 ·rw [if_neg (by rw [h1.1 ⟨fun h=>(b2 h).elim,fun h=>(a1 h).elim⟩];decide),zkr a2]
theorem zwk {α:Type} (d:α) (h:α→Bool) (L:List α):xs L h=xs (List.range L.length) fun k=>h (rdD d L (k:Int)):=by
 have e:L=(List.range L.length).map fun k:Nat=>rdD d L (k:Int):=by
  refine List.ext_getElem (by simp) fun i h1 h2=>?_
  rw [List.getElem_map,List.getElem_range,z7 d L i h1]
 have:=congrArg (fun l=>xs l h) e
 rw [zor] at this
 exact this
theorem zt7 (f:Nat→Bool) (i:Nat):∀n,xs (List.range n) f=xor (if i<n then f i else false) (xs (List.range n) fun k=>!(decide (k=i))&&f k)
 |0=>by simp [xs]
 |n+1=>by
  have ih:=zt7 f i n
  rw [List.range_succ,zdQ,zdQ,ih]
  have e1:∀g:Nat→Bool,xs [n] g=g n:=fun g=>by rw [jN];show xor _ false=_;rw [Bool.xor_false]
  rw [e1,e1]
  by_cases c:n=i
  ·subst c
   rw [if_neg (by omega),if_pos (by omega),decide_eq_true rfl,Bool.not_true,Bool.false_and,Bool.xor_false,Bool.false_xor,Bool.xor_comm]
  ·rw [decide_eq_false c,Bool.not_false,Bool.true_and]
   by_cases c2:i<n
   ·rw [if_pos c2,if_pos (by omega),Bool.xor_assoc]
   ·rw [if_neg c2,if_neg (by omega),Bool.xor_assoc]
theorem zsM (P:List Pt) (O:List (List Int)) (i:Nat):∀K,decide (dcn P O i K % 2=1)=xs (List.range K) fun k=>dnn P O i k
 |0=>rfl
 |K+1=>by
  rw [List.range_succ,zdQ,←zsM P O i K,zph,jN]
  show _=xor _ (xor _ false)
  rw [Bool.xor_false]
  cases dnn P O i K with
  |true =>
   rw [if_pos rfl,Bool.xor_true,←decide_not,decide_eq_decide]
   omega
  |false=>rw [if_neg (by decide),Bool.xor_false];rfl
theorem zsq (r:List Int):wsg r=cyc r:=by
 unfold wsg cyc
 refine List.map_congr_left fun i hi=>?_
 have hi:=List.mem_range.1 hi
 unfold ix at'
 rw [Nat.mod_eq_of_lt hi]
section
variable {p:zJ} (R:Rt p)
include R
theorem zw4 {r:List Int} (G:Rng p.2.1 r) {v:Int} (hv:inr v p.1.length) (hn:v∉r):(atv p.1 (cyc r) 1 (pt p.1 v)).1=1↔Zi (ps p r) (U6 p v)=true:=by
 have R':=R.ring G
 have h0:r.length≠0:=by have:=G.three;omega
 have hr:rim ((cyc r).map (sgm p.1 1)) (pt p.1 v)=false:=by
  refine ziL fun s hs ho=>?_
  rw [zgQ,zgQ] at ho
  obtain ⟨i,hi,rfl⟩:=Qf.1 hs
  have g:=zj3 R G i
  obtain ⟨⟨r1,r2⟩,_⟩:=g.ok R
  refine g.out R hv ⟨ho,fun e=>hn ?_,fun e=>hn ?_⟩
  ·rw [R.fine.distI hv r1 e];exact Z6 _ h0
  ·rw [R.fine.distI hv r2 e];exact Z6 _ h0
 have ep:Zi (ps p r) (U6 p v)=par ((cyc r).map (sgm p.1 1)) (pt p.1 v):=by
  unfold Zi U6
  rw [show (6:Int)=6*1 from rfl]
  exact ziJ (k:=6*1) (by decide) p.1 (cyc r) 1 (pt p.1 v) |> fun h=>by rwa [show (6:Int)*1*1=6*1 from rfl] at h
 unfold atv
 rw [if_pos ⟨R'.okl (by decide) (by decide),R.fine.sm.fit hv⟩,ep]
 unfold whr
 rw [hr,if_neg (by decide)]
 cases par ((cyc r).map (sgm p.1 1)) (pt p.1 v)<;>simp
theorem zr0 {i:Nat} (hi:i<(zZ p.2.1 p.1.length p.1.length).length):zZ p.2.1 p.1.length p.1.length=(zZ p.2.1 p.1.length p.1.length).take i++rg (zZ p.2.1 p.1.length p.1.length) i::(zZ p.2.1 p.1.length p.1.length).drop (i+1):=by
 unfold rg
 rw [z7 _ _ i hi,←List.drop_eq_getElem_cons hi,List.take_append_drop]
theorem zj4 {r:List Int} (G:Rng p.2.1 r) {x:Int} (hx:x∈r):inr x p.1.length:=by
 obtain ⟨i,hi,rfl⟩:=List.mem_iff_getElem.1 hx
 have:=((zj3 R G i).ok R).1.1
 obtain ⟨h',e⟩:=zfw (r:=r) i (by omega)
 rw [e] at this
 simp only [Nat.mod_eq_of_lt hi] at this
 exact this
theorem ztQ {i:Nat} (hi:i<(zZ p.2.1 p.1.length p.1.length).length):decide (dcn p.1 (zZ p.2.1 p.1.length p.1.length) i (zZ p.2.1 p.1.length p.1.length).length % 2=1)=zb2 p ((zZ p.2.1 p.1.length p.1.length).take i++(zZ p.2.1 p.1.length p.1.length).drop (i+1)) (at' (rg (zZ p.2.1 p.1.length p.1.length) i) 0):=by
 have ho:=zr0 R hi
 have G:=zfZ R ho
 have h0:(rg (zZ p.2.1 p.1.length p.1.length) i).length≠0:=by have:=G.three;omega
 have hx:=Z6 (r:=rg (zZ p.2.1 p.1.length p.1.length) i) 0 h0
 have apart:=fun {r':List Int}=>zeQ R ho (r':=r')
 have e1:=zwk [] (fun r'=>Zi (ps p r') (U6 p (at' (rg (zZ p.2.1 p.1.length p.1.length) i) 0))) (zZ p.2.1 p.1.length p.1.length)
 rw [zt7 _ i,if_pos hi] at e1
 have e2:xs (zZ p.2.1 p.1.length p.1.length) (fun r'=>Zi (ps p r') (U6 p (at' (rg (zZ p.2.1 p.1.length p.1.length) i) 0)))=xor (Zi (ps p (rg (zZ p.2.1 p.1.length p.1.length) i)) (U6 p (at' (rg (zZ p.2.1 p.1.length p.1.length) i) 0))) (zb2 p ((zZ p.2.1 p.1.length p.1.length).take i++(zZ p.2.1 p.1.length p.1.length).drop (i+1)) (at' (rg (zZ p.2.1 p.1.length p.1.length) i) 0)):=by
  have:=congrArg (fun l=>xs l (fun r'=>Zi (ps p r') (U6 p (at' (rg (zZ p.2.1 p.1.length p.1.length) i) 0)))) ho
  rw [zdQ,jN,Bool.xor_left_comm,←zdQ] at this
  exact this
 have e3:xs (List.range (zZ p.2.1 p.1.length p.1.length).length) (fun k=>dnn p.1 (zZ p.2.1 p.1.length p.1.length) i k)=xs (List.range (zZ p.2.1 p.1.length p.1.length).length) fun k=>!(decide (k=i))&&Zi (ps p (rdD [] (zZ p.2.1 p.1.length p.1.length) (k:Int))) (U6 p (at' (rg (zZ p.2.1 p.1.length p.1.length) i) 0)):=by
  refine K2 _ fun k hk=>?_
  have hk:=List.mem_range.1 hk
  unfold dnn
  by_cases c:k=i
  ·rw [decide_eq_true c];rfl
  ·rw [decide_eq_false c,Bool.not_false,Bool.true_and,Bool.true_and,zsq]
   have hm:rg (zZ p.2.1 p.1.length p.1.length) k∈(zZ p.2.1 p.1.length p.1.length).take i++(zZ p.2.1 p.1.length p.1.length).drop (i+1):=by
    unfold rg
    rw [z7 _ _ k hk,List.mem_append]
    rcases Nat.lt_or_gt_of_ne c with h|h
    ·exact .inl (List.mem_take_iff_getElem.2 ⟨k,by omega,rfl⟩)
    ·refine .inr (List.mem_drop_iff_getElem.2 ⟨k-(i+1),by omega,?_⟩)
     simp only [show i+1+(k-(i+1))=k by omega]
   obtain ⟨G',hd⟩:=apart hm
   have eix:ix (rg (zZ p.2.1 p.1.length p.1.length) i) 0=at' (rg (zZ p.2.1 p.1.length p.1.length) i) 0:=by unfold ix at';rw [Nat.zero_mod]
   rw [eix]
   show decide _=Zi (ps p (rg (zZ p.2.1 p.1.length p.1.length) k)) _
   rw [Bool.eq_iff_iff,decide_eq_true_eq]
   exact zw4 R G' (zj4 R G hx) fun h=>hd _ hx _ h rfl
 rw [zsM,e3]
 rw [e1] at e2
 revert e2
 generalize (xs (List.range (zZ p.2.1 p.1.length p.1.length).length) fun k=>!(decide (k=i))&&Zi (ps p (rdD [] (zZ p.2.1 p.1.length p.1.length) (k:Int))) (U6 p (at' (rg (zZ p.2.1 p.1.length p.1.length) i) 0)))=a
 generalize zb2 p _ _=b
 show xor (Zi (ps p (rg (zZ p.2.1 p.1.length p.1.length) i)) (U6 p (at' (rg (zZ p.2.1 p.1.length p.1.length) i) 0))) a=_→_
 generalize Zi (ps p (rg (zZ p.2.1 p.1.length p.1.length) i)) (U6 p (at' (rg (zZ p.2.1 p.1.length p.1.length) i) 0))=c
 cases a<;>cases b<;>cases c<;>decide
theorem zue {α:Type} (d:α) (f:α→Int) (L:List α):sI f L=sI (fun k:Nat=>f (rdD d L (k:Int))) (List.range L.length):=by
 have e:L=(List.range L.length).map fun k:Nat=>rdD d L (k:Int):=by
  refine List.ext_getElem (by simp) fun i h1 h2=>?_
  rw [List.getElem_map,List.getElem_range,z7 d L i h1]
 have:=congrArg (fun l=>sI f l) e
 rw [zi7] at this
 exact this
def zhO (p:zJ) (i:Nat):Int:=if dcn p.1 (zZ p.2.1 p.1.length p.1.length) i (zZ p.2.1 p.1.length p.1.length).length % 2=1 then-av (Ar p.1 (rg (zZ p.2.1 p.1.length p.1.length) i)) else av (Ar p.1 (rg (zZ p.2.1 p.1.length p.1.length) i))
theorem ztS:sI (crT p.1) (qt p)=sI (zhO p) (List.range (zZ p.2.1 p.1.length p.1.length).length):=by
 have e:=zi9 R (zoO p.1)
 rw [KZ (g:=crT p.1) (qt p) (fun t _=>zuF p.1 t),zs9 R.lp (n:=p.1.length) (g:=fun s=>dt p.1 (XC p s)) (fun x y h=>congrArg (dt p.1) (zqc R h)),zue R []] at e
 rw [e]
 refine KZ _ fun i hi=>?_
 have hi:=List.mem_range.1 hi
 have:=ztG R (zr0 R hi)
 rw [←ztQ R hi] at this
 unfold zhO
 simp only [decide_eq_true_eq] at this
 exact this
end
end Go.Proofs.YtpkkcjmblocjdaaGreat.Pure
end
section
namespace Go.Proofs.YtpkkcjmblocjdaaGreat.Pure
open Go.RowKit Go.Proofs.YtpkkcjmblocjdaaGreat.AM PL
theorem za6.s8 {p:zJ} (R:za6 p) {v:Int} (hv:inr v p.1.length) (hd:dgr (sgs p) v=0):(atv p.1 p.2.1 1 (pt p.1 v)).1=1:=by
 have h:=R.n8
 unfold Pure.s8 at h
 have:=(zlD.1 h) v.toNat (by have:=hv.1;have:=hv.2;omega)
 unfold zei at this
 rw [Int.toNat_of_nonneg hv.1] at this
 simpa [hd] using this
theorem zyX {L:List Pt} {v:Int} (h:dgr L v≠0):∃s∈L,s.1=v∨s.2=v:=by
 have:0<(nl L v).length:=by rw [ziY];omega
 obtain ⟨u,hu⟩:=List.exists_mem_of_length_pos this
 obtain ⟨s,hs,⟨e1,_⟩|⟨e1,_⟩⟩:=Yg.1 hu
 ·exact ⟨s,hs,.inl e1⟩
 ·exact ⟨s,hs,.inr e1⟩
theorem zzU {L:List Pt} {v:Int} (h:dgr L v=0):∀s∈L,s.1≠v∧s.2≠v:=by
 have h0:(nl L v).length=0:=by rw [ziY];exact h
 have:nl L v=[]:=List.eq_nil_of_length_eq_zero h0
 intro s hs
 refine ⟨fun e=>?_,fun e=>?_⟩
 ·have:=Yg.2 ⟨s,hs,.inl ⟨e,rfl⟩⟩
  rename_i h1
  rw [h1] at this;cases this
 ·have:=Yg.2 ⟨s,hs,.inr ⟨e,rfl⟩⟩
  rename_i h1
  rw [h1] at this;cases this
theorem zxZ {U:Int→Pt} {n:Nat} {G:Int→Int→Prop} (N:Net U n G) {v d:Int} (rv:inr v n) (rd:inr d n) (S:zeh U n G (U v) (U d)):Net U n (fun i j=>G i j∨(i=v∧j=d)∨(i=d∧j=v)) where
 ok i j h:=by
  rcases h with h|⟨rfl,rfl⟩|⟨rfl,rfl⟩
  ·exact N.ok i j h
  ·exact ⟨rv,rd⟩
  ·exact ⟨rd,rv⟩
 sym i j h:=by
  rcases h with h|⟨rfl,rfl⟩|⟨rfl,rfl⟩
  ·exact .inl (N.sym i j h)
  ·exact .inr (.inr ⟨rfl,rfl⟩)
  ·exact .inr (.inl ⟨rfl,rfl⟩)
 inj:=N.inj
 out i j h k hk:=by
  rcases h with h|⟨rfl,rfl⟩|⟨rfl,rfl⟩
  ·exact N.out i j h k hk
  ·exact S.1 k hk
  ·exact fun hb=>S.1 k hk (zno hb)
 npc i j h k l h':=by
  have sw:∀{a b c d:Pt},PC a b c d→PC c d a b:=fun h=>⟨h.2,h.1⟩
  have own:∀{a b:Pt},¬PC a b a b:=fun h=>by have:=h.1;rw [qo,Int.zero_mul] at this;omega
  have own2:∀{a b:Pt},¬PC a b b a:=fun h=>own (znx h)
  rcases h with h|⟨rfl,rfl⟩|⟨rfl,rfl⟩<;>rcases h' with h'|⟨rfl,rfl⟩|⟨rfl,rfl⟩
  ·exact N.npc i j h k l h'
  ·exact fun hp=>S.2 i j h (sw hp)
  ·exact fun hp=>S.2 i j h (ziX.1 (sw hp))
  ·exact S.2 k l h'
  ·exact own
  ·exact own2
  ·exact fun hp=>S.2 k l h' (ziX.1 hp)
  ·exact own2
  ·exact own
theorem zxJ {U:Int→Pt} {n:Nat} {G:Int→Int→Prop} (N:Net U n G) {a b:Int} (g:G a b) (hab:U a≠U b) {m:Pt} (hm:Mid (U a) (U b) m) (hth:∀c,∃q,Cen (U a) (U b) (U c) q) {i j:Int} (gij:G i j) (hij:i≠j) (hne:¬((i=a∧j=b)∨(i=b∧j=a))):¬On (U i) (U j) m:=by
 obtain ⟨ri,rj⟩:=N.ok i j gij
 obtain ⟨ra,rb⟩:=N.ok a b g
 rcases zrI N g hm with ⟨c,T⟩|hall
 ·obtain ⟨q,hq⟩:=hth c
  exact znX N gij hij (T.tri3 N g) hm hq hne
 ·obtain ⟨d,h1,_⟩:=zrF (x:=(U b).1-(U a).1) (y:=(U b).2-(U a).2) (by
   apply Decidable.byContradiction
   intro hn
   exact hab (Prod.ext (by omega) (by omega)))
  have e0:crs (U a) (U b) m=0:=by have:=hm.two (U a) (U b);rw [qo,qB] at this;omega
  have hp:0<crs (U a) (U b) (m.1+d.1,m.2+d.2):=by
   have:crs (U a) (U b) (m.1+d.1,m.2+d.2)=crs (U a) (U b) m+(((U b).1-(U a).1)*d.2-((U b).2-(U a).2)*d.1):=by unfold crs;grind
   omega
  generalize ((m.1+d.1,m.2+d.2):Pt)=q at hp
  have cen:Cen (U a) (U b) (3*q.1-(U a).1-(U b).1,3*q.2-(U a).2-(U b).2) q:=⟨by dsimp only;omega,by dsimp only;omega⟩
  have hC:=cen.three (U a) (U b)
  rw [qo,qB] at hC
  generalize ((3*q.1-(U a).1-(U b).1,3*q.2-(U a).2-(U b).2):Pt)=C at cen hC
  have hC':0<crs (U a) (U b) C:=by omega
  have N':=znF N g hall hC'
  have T':=zsc N g hall hC'
  have:=znX N' gij hij T' (q:=q) (m:=m) (by rw [jr ra,jr rb];exact hm) (by rw [jr ra,jr rb,zjo];exact cen) hne
  rw [jr ri,jr rj] at this
  exact this
theorem zur {p:zJ} (R:Rt p) {v d:Int} (rv:inr v p.1.length) (rd:inr d p.1.length) (hvd:v≠d) (S:zeh (U6 p) p.1.length (GE p) (U6 p v) (U6 p d)) {s:Pt} (hs:s∈p.2.1) (h1:s.1≠v) (h2:s.2≠v):Ji (U6 p v) (m6 p v d) (U6 p s.1) (U6 p s.2):=by
 have g:=q9 R hs
 obtain ⟨⟨r3,r4⟩,ne2⟩:=g.ok R
 have f1:=R.fine.sm.fit rv
 have f2:=R.fine.sm.fit rd
 have f3:=R.fine.sm.fit r3
 have f4:=R.fine.sm.fit r4
 have:=zmP (a:=pt p.1 s.1) (b:=pt p.1 s.2) (v:=pt p.1 v) (u:=pt p.1 d) (fun e=>ne2 (R.fine.distI r3 r4 e)) (fun e=>hvd (R.fine.distI rv rd e)) f3 f4 f1 f2 (fun hc=>S.2 _ _ g ((zsA (by decide)).2 ⟨((zi5 f3 f4 f1 f2).1 hc).2,((zi5 f3 f4 f1 f2).1 hc).1⟩)) (g.out R rv) (fun hi=>S.1 _ r3 ((zkn (by decide)).2 (zdC hi))) (fun hi=>S.1 _ r4 ((zkn (by decide)).2 (zdC hi))) (fun e=>h1 (R.fine.distI rv r3 e).symm) (fun e=>h2 (R.fine.distI rv r4 e).symm)
 have:=zrB (k:=3) (by decide) this
 rw [zea,zea,zea] at this
 exact this
theorem zsW {p:zJ} (R:Rt p) {v d:Int} (rv:inr v p.1.length) (rd:inr d p.1.length) (hvd:v≠d) (S:zeh (U6 p) p.1.length (GE p) (U6 p v) (U6 p d)) (hv:∀s∈p.2.1,s.1≠v∧s.2≠v) (hp:Zi p (U6 p v)=true):GE p v d:=by
 have N:=zly R
 have pvd:pt p.1 v≠pt p.1 d:=fun e=>hvd (R.fine.distI rv rd e)
 apply Classical.byContradiction
 intro hn
 have noin:∀k,inr k p.1.length→¬Ins (pt p.1 v) (pt p.1 d) (pt p.1 k):=fun k hk hi=>S.1 k hk ((zkn (by decide)).2 (zdC hi))
 refine hn (zpx R rv rd hvd noin (fun s hs=>?_) (zrE R rv rd ?_ fun s hs=>?_))
 ·have gs:GE p s.1 s.2:=.inl hs
  obtain ⟨⟨r1,r2⟩,ne⟩:=gs.ok R
  refine zsb pvd (fun e=>ne (R.fine.distI r1 r2 e)) (fun hc=>?_) (noin _ r1) (noin _ r2) (gs.out R rv) (gs.out R rd) (fun e=>?_) (fun e=>?_)
  ·exact S.2 _ _ gs ((zsA (by decide)).2 ((zi5 (R.fine.sm.fit rv) (R.fine.sm.fit rd) (R.fine.sm.fit r1) (R.fine.sm.fit r2)).1 hc))
  ·exact hn (by rw [R.fine.distI rv r1 e.1,R.fine.distI rd r2 e.2];exact gs)
  ·exact hn (by rw [R.fine.distI rv r2 e.1,R.fine.distI rd r1 e.2];exact gs.symm)
 ·rw [←hp]
  exact (zpl (P:=p.1) R.lp fun s hs=>zur R rv rd hvd S hs (hv s hs).1 (hv s hs).2).symm
 ·have N':=zxZ N rv rd S
  have hh:=hv s hs
  exact zxJ N' (a:=v) (b:=d) (.inr (.inl ⟨rfl,rfl⟩)) (fun e=>hvd (N.inj v d rv rd e)) (zg4 p v d) (fun c=>⟨_,zbm p v d c⟩) (.inl (q9 R hs)) ((q9 R hs).ok R).2 (by omega)
theorem zq0 {p:zJ} (R:za6 p) {v:Int} (hv:inr v p.1.length):∃w,GE p v w:=by
 have R':=R.rt
 by_cases hd:dgr (sgs p) v=0
 ·have h8:=R.s8 hv hd
  have hL:∀s∈p.2.1,s.1≠v∧s.2≠v:=fun s hs=>zzU hd s (List.mem_append_left _ hs)
  have hp:Zi p (U6 p v)=true:=by
   unfold atv at h8
   split at h8
   ·unfold whr at h8
    dsimp only at h8
    split at h8
    ·cases h8
    ·split at h8
     ·rename_i h
      unfold Zi U6
      have e:=ziJ (k:=6) (by decide) p.1 p.2.1 1 (pt p.1 v)
      rw [show (6:Int)*1=6 from rfl] at e
      rw [e]
      exact h
     ·cases h8
   ·cases h8
  obtain ⟨s,hs⟩:=List.exists_mem_of_length_pos (show 0<p.2.1.length by have:=R.n6;omega)
  obtain ⟨⟨rs,_⟩,_⟩:=(q9 R' hs).ok R'
  have hne:U6 p s.1≠U6 p v:=fun e=>(hL s hs).1 ((zly R').inj _ _ rs hv e)
  have h0:0<crs (U6 p v) ((U6 p v).1+((U6 p s.1).2-(U6 p v).2),(U6 p v).2-((U6 p s.1).1-(U6 p v).1)) (U6 p s.1):=by
   have e:crs (U6 p v) ((U6 p v).1+((U6 p s.1).2-(U6 p v).2),(U6 p v).2-((U6 p s.1).1-(U6 p v).1)) (U6 p s.1)=((U6 p s.1).1-(U6 p v).1)*((U6 p s.1).1-(U6 p v).1)+((U6 p s.1).2-(U6 p v).2)*((U6 p s.1).2-(U6 p v).2):=by unfold crs;grind
   rw [e]
   have s1:=Xj ((U6 p s.1).1-(U6 p v).1)
   have s2:=Xj ((U6 p s.1).2-(U6 p v).2)
   apply Decidable.byContradiction
   intro hn
   refine hne (Prod.ext ?_ ?_)
   ·apply Decidable.byContradiction
    intro hx
    have:=zb0 (show (U6 p s.1).1-(U6 p v).1≠0 by omega)
    omega
   ·apply Decidable.byContradiction
    intro hx
    have:=zb0 (show (U6 p s.1).2-(U6 p v).2≠0 by omega)
    omega
  obtain ⟨d,rd,hd',S⟩:=zln (zly R') (m:=U6 p v) rs h0
  refine ⟨d,zsW R' hv rd (fun e=>?_) S hL hp⟩
  rw [←e,qo] at hd'
  omega
 ·obtain ⟨s,hs,h⟩:=zyX hd
  have he:up s∈edg p:=(zab R.fine).old _ ((Xm p _).2 ⟨s,hs,rfl⟩)
  have g:GE p s.1 s.2:=by
   rcases zc0 s with e|e
   ·rw [e] at he;exact .inl he
   ·rw [e] at he;exact .inr he
  rcases h with h|h
  ·exact ⟨s.2,by rw [←h];exact g⟩
  ·exact ⟨s.1,by rw [←h];exact g.symm⟩
theorem ztN {p:zJ} (R:za6 p) {v:Int} (hv:inr v p.1.length):∃t∈qt p,t.1=v∨t.2.1=v∨t.2.2=v:=by
 obtain ⟨w,g⟩:=zq0 R hv
 have key:∀{a b c:Int},QP p a b c→(a=v∨b=v)→∃t∈qt p,t.1=v∨t.2.1=v∨t.2.2=v:=by
  intro a b c g h
  refine ⟨_,(zeV R.rt g).1,?_⟩
  unfold zcE
  (repeat' split)<;>(dsimp only;omega)
 rcases zlr R.rt g with ⟨c,h⟩|⟨c,h⟩
 ·exact key h (.inl rfl)
 ·exact key h (.inr rfl)
end Go.Proofs.YtpkkcjmblocjdaaGreat.Pure
end
section
namespace Go.Proofs.YtpkkcjmblocjdaaGreat.Pure
open Go.RowKit Go.Proofs.YtpkkcjmblocjdaaGreat.AM PL
def Mod (x:Int):Prop:=-340282366920938463463374607431768211455≤x∧x≤340282366920938463463374607431768211455
theorem zrM {x:Nm} (h:Ok x) (hm:Mod (val x)):x.2.length≤8:=by
 have hp:(65536:Int)^8=340282366920938463463374607431768211456:=by decide
 unfold Mod at hm
 exact zeO h (by rw [hp];omega) (by rw [hp];omega)
theorem zrX (m:Nat) {x y:Nm} (hx:Ok x) (hy:Ok y) (mx:Mod (val x)) (my:Mod (val y)):∃z,zn (m+1000) (x.1,x.2) (y.1,y.2)=some z∧Ok z∧val z=val x+val y:=by
 have l1:=zrM hx mx
 have l2:=zrM hy my
 obtain ⟨z,h1,h2,h3,_⟩:=zgZ (m+900) x y hx hy (by omega) (by omega)
 exact ⟨z,h1,h2,h3⟩
theorem zf8 {a b c:Pt} (ha:Fit a) (hb:Fit b) (hc:Fit c):-147573952589676412928≤crs a b c∧crs a b c≤147573952589676412928:=by
 unfold Fit at ha hb hc
 have e:crs a b c=a.1*b.2-a.2*b.1+(b.1*c.2-b.2*c.1)+(c.1*a.2-c.2*a.1):=by unfold crs;grind
 have w1:=Qp (x:=a.1) (y:=b.2) (by omega) (by omega)
 have w2:=Qp (x:=a.2) (y:=b.1) (by omega) (by omega)
 have w3:=Qp (x:=b.1) (y:=c.2) (by omega) (by omega)
 have w4:=Qp (x:=b.2) (y:=c.1) (by omega) (by omega)
 have w5:=Qp (x:=c.1) (y:=a.2) (by omega) (by omega)
 have w6:=Qp (x:=c.2) (y:=a.1) (by omega) (by omega)
 omega
theorem zcX {α:Type} {f:α→Int} {B:Int}:∀{l:List α},(∀x∈l,-B≤f x∧f x≤B)→-((l.length:Int)*B)≤sI f l∧sI f l≤(l.length:Int)*B
 |[],_=>by show -(((0:Nat):Int)*B)≤0∧(0:Int)≤((0:Nat):Int)*B;simp
 |a::l,h=>by
  have h1:=h a List.mem_cons_self
  have h2:=zcX (l:=l) fun x hx=>h x (List.mem_cons_of_mem _ hx)
  rw [qU,List.length_cons,Int.natCast_add,Int.add_mul]
  omega
theorem zih:Ok ((false,[]):Nm)∧val ((false,[]):Nm)=0:=⟨⟨(fun d hd=>by cases hd),(fun d h=>by simp at h),(fun h=>by simp at h)⟩,rfl⟩
theorem zm9 {O:List (List Int)} {i:Nat} (hi:i<O.length):rg O i∈O:=by unfold rg;rw [z7 _ O i hi];exact List.getElem_mem _
theorem zrs {α:Type} (f:α→Int) (l:List α) (a:α):sI f (l++[a])=sI f l+f a:=by
 rw [zle,qU];show _+(_+0)=_;omega
theorem zqE (m:Nat) {P:List Pt} {T:List Tr} {S:List Pt} (hT:T.length≤900) (ht:∀t∈T,inr t.1 P.length∧inr t.2.1 P.length∧inr t.2.2 P.length) (hf:∀i,inr i P.length→Fit (pt P i)) :
  ∃r,ZI (m+1000) (P,T,S)=some r∧Ok r∧val r=sI (crT P) T:=by
 unfold ZI KD
 refine zke (fun r:Nm=>Ok r∧val r=sI (crT P) T) (fun n s=>∃(i:Nat) (acc:Nm),i≤T.length∧n=T.length-i∧s=((P,T,S),(false,[]),acc,(i:Int))∧Ok acc∧val acc=sI (crT P) (T.take i)) ?_ (m+1000) T.length _ ⟨0,(false,[]),by omega,rfl,rfl,zih.1,zih.2⟩ (by omega)
 rintro n s ⟨i,acc,hi,rfl,rfl,oa,va⟩ next hn
 dsimp only
 by_cases e:i=T.length
 ·subst e
  rw [zg (by omega)]
  rw [List.take_length] at va
  exact ⟨_,rfl,oa,va⟩
 ·have hi':i<T.length:=by omega
  have bd:∀l:List Tr,(∀t∈l,t∈T)→∀t∈l,-147573952589676412928≤crT P t∧crT P t≤147573952589676412928:=fun l hl t h=>by
   obtain ⟨r1,r2,r3⟩:=ht t (hl t h)
   exact zf8 (hf _ r1) (hf _ r2) (hf _ r3)
  have b1:=zcX (bd (T.take i) fun t h=>List.mem_of_mem_take h)
  rw [List.length_take] at b1
  have mem:=List.getElem_mem hi'
  obtain ⟨r1,r2,r3⟩:=ht _ mem
  have b2:=bd T (fun _ h=>h) _ mem
  have hin:inb (i:Int) T.length=true:=zF ⟨by omega,by omega⟩
  have ep:∀i:Int,((rdD (0,0) P i).1,(rdD (0,0) P i).2)=pt P i:=fun _=>rfl
  obtain ⟨y,y1,y2,y3⟩:=zqF (m+900) _ _ _ (hf _ r1) (hf _ r2) (hf _ r3)
  have y3':val y=crT P T[i]:=y3
  obtain ⟨z,z1,z2,z3⟩:=zrX m oa y2 (by unfold Mod;omega) (by unfold Mod;omega)
  rw [zl (by omega)]
  simp only [hin,gT,z7 _ T i hi',Zz r1,Zz r2,Zz r3,ep]
  rw [show qu (m+1000) _ _ _=some y from y1,zt,z1,zt,zo (x:=(i:Int)+1) (by omega) (by omega)]
  refine hn (T.length-(i+1)) _ (by omega) ⟨i+1,z,by omega,rfl,rfl,z2,?_⟩
  rw [z3,va,y3',show T.take (i+1)=T.take i++[T[i]] by rw [List.take_append_getElem],zrs]
section
variable {P:List Pt} {r:List Int} (hf:∀i,inr i P.length→Fit (pt P i)) (hr:∀x∈r,inr x P.length)
include hf hr
theorem zko {i j:Nat} (h0:r.length≠0):-147573952589676412928≤dt P (at' r i,at' r j)∧dt P (at' r i,at' r j)≤147573952589676412928 :=
 zf8 ⟨by decide,by decide,by decide,by decide⟩ (hf _ (hr _ (Z6 i h0))) (hf _ (hr _ (Z6 j h0)))
theorem zo0 (hl:r.length≤350):-51650883406386744524800≤Ar P r∧Ar P r≤51650883406386744524800:=by
 have:=zcX (f:=dt P) (l:=cyc r) (B:=147573952589676412928) fun s hs=>by
  obtain ⟨i,hi,rfl⟩:=Qf.1 hs
  exact zko hf hr (by omega)
 rw [zoo] at this
 unfold Ar
 omega
theorem zqh (m:Nat) (hl:r.length≤350) (h3:3≤r.length):∃y,jX (m+1000) P r=some (y,0)∧Ok y∧val y=Ar P r:=by
 unfold jX KB
 rw [zg (by omega)]
 have h0:r.length≠0:=by omega
 have at_lt:∀{i:Nat} (h:i<r.length),r[i]=at' r i:=fun {i} h=>by
  unfold at'
  rw [Nat.mod_eq_of_lt h,z7 _ r i h]
 suffices H:∀x:Option (Nm×Int),(∃y,x=some (y,(0:Int))∧Ok y∧val y=Ar P r)→∃y,x=some (y,(0:Int))∧Ok y∧val y=Ar P r by
  have key:∃o:Nm×Int,(zA (α:=(LPt×((List Int)×((Bool×(List Int))×((Bool×(List Int))×Int))))) (fun (x13,x14,x15,x16,x17) next12 =>
    bif decide (x17<(x14.length:Int)) then
    gd (inb 0 x14.length) <|
    gd (inb (rdD 0 x14 0) x13.length) <|
    gd (inb (w64 (x17-1)) x14.length) <|
    gd (inb (rdD 0 x14 (w64 (x17-1))) x13.length) <|
    gd (inb x17 x14.length) <|
    gd (inb (rdD 0 x14 x17) x13.length) <|
    bnd (qu (m+1000) ((rdD (0,0) x13 (rdD 0 x14 0)).1,(rdD (0,0) x13 (rdD 0 x14 0)).2) ((rdD (0,0) x13 (rdD 0 x14 (w64 (x17-1)))).1,(rdD (0,0) x13 (rdD 0 x14 (w64 (x17-1)))).2) ((rdD (0,0) x13 (rdD 0 x14 x17)).1,(rdD (0,0) x13 (rdD 0 x14 x17)).2)) fun r18 =>
    bnd (zn (m+1000) (x16.1,x16.2) (r18.1,r18.2)) fun r19 =>
    next12 (x13,x14,(x15.1,x15.2),(r19.1,r19.2),w64 (x17+1))
    else
    some ((x16.1,x16.2),(0:Int))) (m+1000) (P,r,(false,[]),(false,[]),2))=some o∧(o.2=0∧Ok o.1∧val o.1=Ar P r):=by
   refine zke (fun o:Nm×Int=>o.2=0∧Ok o.1∧val o.1=Ar P r) (fun n s=>∃(i:Nat) (acc:Nm),2≤i∧i≤r.length∧n=r.length-i∧s=(P,r,(false,[]),acc,(i:Int))∧Ok acc∧val acc=sI (dt P) ((List.range (i-1)).map fun j=>(at' r j,at' r (j+1)))+dt P (at' r (i-1),at' r 0)) ?_ (m+1000) (r.length-2) _ ⟨2,(false,[]),by omega,by omega,rfl,rfl,zih.1,?_⟩ (by omega)
   ·rintro n s ⟨i,acc,h2,hi,rfl,rfl,oa,va⟩ next hn
    dsimp only
    by_cases e:i=r.length
    ·rw [zg (by omega)]
     refine ⟨_,rfl,rfl,oa,?_⟩
     show val acc=_
     rw [va]
     unfold Ar cyc
     rw [show r.length=(i-1)+1 by omega,List.range_succ,List.map_append,zle,List.map_cons,List.map_nil,qU]
     have:at' r (i-1+1)=at' r 0:=by
      have:=zuT r 0
      rw [show 0+r.length=i-1+1 by omega] at this
      exact this
     rw [this]
     show _=_+(_+0)
     omega
    ·have hi':i<r.length:=by omega
     have hb:∀x∈((List.range (i-1)).map fun j=>(at' r j,at' r (j+1))),-147573952589676412928≤dt P x∧dt P x≤147573952589676412928:=fun x hx=>by
      obtain ⟨j,_,rfl⟩:=List.mem_map.1 hx
      exact zko hf hr h0
     have b1:=zcX hb
     rw [List.length_map,List.length_range] at b1
     have b2:=zko hf hr (i:=i-1) (j:=0) h0
     have g0:=hr _ (Z6 0 h0)
     have g1:=hr _ (Z6 (i-1) h0)
     have g2:=hr _ (Z6 i h0)
     have i0:inb 0 r.length=true:=zF ⟨by omega,by omega⟩
     have i1:inb ((i-1:Nat):Int) r.length=true:=zF ⟨by omega,by omega⟩
     have i2:inb (i:Int) r.length=true:=zF ⟨by omega,by omega⟩
     have q0:rdD 0 r 0=at' r 0:=(z7 0 r 0 (by omega)).trans (at_lt (by omega))
     have q1:rdD 0 r ((i-1:Nat):Int)=at' r (i-1):=(z7 0 r (i-1) (by omega)).trans (at_lt (by omega))
     have q2:rdD 0 r (i:Int)=at' r i:=(z7 0 r i hi').trans (at_lt hi')
     have ep:∀i:Int,((rdD (0,0) P i).1,(rdD (0,0) P i).2)=pt P i:=fun _=>rfl
     obtain ⟨y,y1,y2,y3⟩:=zqF (m+900) _ _ _ (hf _ g0) (hf _ g1) (hf _ g2)
     have b3:=zf8 (hf _ g0) (hf _ g1) (hf _ g2)
     obtain ⟨z,z1,z2,z3⟩:=zrX m oa y2 (by unfold Mod;omega) (by unfold Mod;omega)
     rw [zl (by omega),zo (x:=(i:Int)-1) (by omega) (by omega),show (i:Int)-1=((i-1:Nat):Int) by omega]
     simp only [i0,i1,i2,q0,q1,q2,gT,Zz g0,Zz g1,Zz g2,ep]
     rw [show qu (m+1000) _ _ _=some y from y1,zt,z1,zt,zo (x:=(i:Int)+1) (by omega) (by omega)]
     refine hn (r.length-(i+1)) _ (by omega) ⟨i+1,z,by omega,by omega,rfl,rfl,z2,?_⟩
     rw [z3,va,y3,show i+1-1=(i-1)+1 by omega,List.range_succ,List.map_append,zle,List.map_cons,List.map_nil,qU,show i-1+1=i by omega]
     have c1:=zbr (pt P (at' r 0)) (pt P (at' r (i-1))) (pt P (at' r i)) (0,0)
     rw [ji (0,0) (pt P (at' r 0)) (pt P (at' r (i-1))),ji (0,0) (pt P (at' r (i-1))) (pt P (at' r i)),ji (0,0) (pt P (at' r i)) (pt P (at' r 0))] at c1
     have c2:dt P (at' r (i-1),at' r 0)=-crs (0,0) (pt P (at' r 0)) (pt P (at' r (i-1))):=jB _ _ _
     show _=_+(crs (0,0) _ _+0)+crs (0,0) _ _
     dsimp only at *
     omega
   ·show (0:Int)=sI (dt P) [(at' r 0,at' r 1)]+dt P (at' r 1,at' r 0)
    rw [qU]
    have:=zoO P (at' r 0,at' r 1)
    unfold rv at this
    rw [this]
    show (0:Int)=_+0+_
    omega
  obtain ⟨o,k1,k2,k3,k4⟩:=key
  refine ⟨o.1,?_,k3,k4⟩
  have ko:(o.1,(0:Int))=o:=by rw [←k2]
  rw [ko,←k1]
  refine zG (fun i=>(P,r,(false,[]),(i:Int))) r.length (fun _=>_) (fun next=>?_) (fun i hi next hnx=>?_) (m+1000) 0 (Nat.zero_le _) (by omega)
  ·dsimp only
   rw [zg (by omega)]
  ·dsimp only at hnx ⊢
   have hin:inb (i:Int) r.length=true:=zF ⟨by omega,by omega⟩
   have q:rdD 0 r (i:Int)=at' r i:=(z7 0 r i hi).trans (at_lt hi)
   have g:=hr _ (Z6 i h0)
   have ep:∀i:Int,((rdD (0,0) P i).1,(rdD (0,0) P i).2)=pt P i:=fun _=>rfl
   rw [zl (by omega)]
   simp only [zz,hin,gT,q,Zz g,ep]
   rw [zg (by have:=g.1;omega),zg (by have:=g.2;omega),ztd,decide_eq_true (hf _ g),zt,Bool.not_true,cF,zo (x:=(i:Int)+1) (by omega) (by omega)]
   exact hnx
 exact fun x h=>h
end
theorem zuZ {x:Int}:sg x<0↔x<0:=by unfold sg;split<;>(try split)<;>omega
theorem zAD {x:Int}:sg x=0↔x=0:=by unfold sg;split<;>(try split)<;>omega
theorem zv2 (m:Nat) (hm:130000≤m) {p:zJ} (R:Rt p) (hn:p.1.length≤350) (hL:p.2.1.length≤350) :
  ∃r,jv (m+1000) p=some r∧Ok r∧val r=sI (zhO p) (List.range (zZ p.2.1 p.1.length p.1.length).length):=by
 have hf:∀i,inr i p.1.length→Fit (pt p.1 i):=fun i h=>R.fine.sm.fit h
 have hrg:=zvw m p.1.length p.2.1 hm hn hL R.fine.okL R.fine.twoL
 have hod:row (odd p.2.1) p.1.length 0 0=none:=zlD.2 fun k hk=>by
  unfold odd
  rcases R.lp.deg k hk with h|h<;>simp [h]
 have hrv:zdO p.2.1 p.1.length=(zZ p.2.1 p.1.length p.1.length,0,0):=by unfold zdO;rw [hod]
 rw [hrv] at hrg
 unfold jv JK
 rw [hrg,zt]
 have hol:=zho p.2.1 p.1.length p.1.length
 have rng:∀r∈zZ p.2.1 p.1.length p.1.length,Rng p.2.1 r:=fun r hr=>zcA R.lp hr
 have rle:∀r∈zZ p.2.1 p.1.length p.1.length,r.length≤350:=fun r hr=>by have:=(rng r hr).len R.lp;omega
 have hdp:zhF p.1 (zZ p.2.1 p.1.length p.1.length)=((List.range (zZ p.2.1 p.1.length p.1.length).length).map fun i=>(dcn p.1 (zZ p.2.1 p.1.length p.1.length) i (zZ p.2.1 p.1.length p.1.length).length:Int),0):=by
  unfold zhF
  rw [if_pos (List.all_eq_true.2 fun r hr=>?_)]
  have G:=rng r hr
  have:=(R.ring G).okl (g:=1) (by decide) (by decide)
  unfold okr
  rw [zsq]
  have h3:=G.three
  rw [show okl p.1 1 (cyc r)=true from this,decide_eq_false (by omega)]
  rfl
 have hdd:=zxG (m+600) p.1 (zZ p.2.1 p.1.length p.1.length) (by omega) rle
 have hde:ZH (m+1000) (p.1,p.2.1,p.2.2) (zZ p.2.1 p.1.length p.1.length)=some ((List.range (zZ p.2.1 p.1.length p.1.length).length).map fun i=>(dcn p.1 (zZ p.2.1 p.1.length p.1.length) i (zZ p.2.1 p.1.length p.1.length).length:Int)):=by
  unfold ZH KF
  dsimp only
  rw [show Za (m+1000) p.1 _=_ from hdd,zt,hdp]
 dsimp only
 rw [hde,zt]
 have bdo:∀i,i<(zZ p.2.1 p.1.length p.1.length).length→-51650883406386744524800≤zhO p i∧zhO p i≤51650883406386744524800:=fun i hi=>by
  have hmem:=zm9 hi
  have:=zo0 hf (fun x hx=>zj4 R (rng _ hmem) hx) (rle _ hmem)
  unfold zhO av
  split<;>split<;>omega
 have dle:=fun i=>zq3 p.1 (zZ p.2.1 p.1.length p.1.length) i (zZ p.2.1 p.1.length p.1.length).length
 have ea:=fun {i:Nat} (hi:i<(zZ p.2.1 p.1.length p.1.length).length)=>zqh hf (fun x hx=>zj4 R (rng _ (zm9 hi)) hx) m (rle _ (zm9 hi)) (rng _ (zm9 hi)).three
 have bA:=fun {i:Nat} (hi:i<(zZ p.2.1 p.1.length p.1.length).length)=>zo0 hf (fun x hx=>zj4 R (rng _ (zm9 hi)) hx) (rle _ (zm9 hi))
 have edv:∀i,zhO p i=if dcn p.1 (zZ p.2.1 p.1.length p.1.length) i (zZ p.2.1 p.1.length p.1.length).length % 2=1 then-av (Ar p.1 (rg (zZ p.2.1 p.1.length p.1.length) i)) else av (Ar p.1 (rg (zZ p.2.1 p.1.length p.1.length) i)):=fun i=>rfl
 generalize zZ p.2.1 p.1.length p.1.length=O at *
 refine zke (fun r:Nm=>Ok r∧val r=sI (zhO p) (List.range O.length)) (fun n s=>∃(i:Nat) (acc:Nm),i≤O.length∧n=O.length-i∧s=(p,(false,[]),O,acc,((List.range O.length).map fun i=>(dcn p.1 O i O.length:Int)),(i:Int))∧Ok acc∧val acc=sI (zhO p) (List.range i)) ?_ (m+1000) O.length _ ⟨0,(false,[]),by omega,rfl,rfl,zih.1,zih.2⟩ (by omega)
 rintro n s ⟨i,acc,hi,rfl,rfl,oa,va⟩ next hnx
 dsimp only
 by_cases e:i=O.length
 ·subst e
  rw [zg (by omega)]
  exact ⟨_,rfl,oa,va⟩
 ·have hi':i<O.length:=by omega
  have hin:inb (i:Int) O.length=true:=zF ⟨by omega,by omega⟩
  have hin2:inb (i:Int) ((List.range O.length).map fun i=>(dcn p.1 O i O.length:Int)).length=true:=by rw [List.length_map,List.length_range];exact hin
  have hrd:rdD 0 ((List.range O.length).map fun i=>(dcn p.1 O i O.length:Int)) (i:Int)=(dcn p.1 O i O.length:Int):=by
   rw [z7 _ _ i (by rw [List.length_map,List.length_range];exact hi'),List.getElem_map,List.getElem_range]
  obtain ⟨y,y1,y2,y3⟩:=ea hi'
  have bb:=bA hi'
  have ed:=edv i
  have bs:-(((List.range i).length:Int)*51650883406386744524800)≤sI (zhO p) (List.range i)∧sI (zhO p) (List.range i)≤((List.range i).length:Int)*51650883406386744524800:=zcX fun k hk=>bdo k (by have:=List.mem_range.1 hk;omega)
  rw [List.length_range] at bs
  have ma:Mod (val acc):=by rw [va];unfold Mod;omega
  have fin:∀w:Nm,Ok w→val w=zhO p i→∃r,bnd (zn (m+1000) (acc.1,acc.2) (w.1,w.2)) (fun r27=>next (p,(false,[]),O,(r27.1,r27.2),((List.range O.length).map fun i=>(dcn p.1 O i O.length:Int)),w64 ((i:Int)+1)))=some r∧Ok r∧val r=sI (zhO p) (List.range O.length):=fun w hw ew=>by
   have bw:=bdo i hi'
   obtain ⟨z,z1,z2,z3⟩:=zrX m oa hw ma (by rw [ew];unfold Mod;omega)
   rw [z1,zt,zo (x:=(i:Int)+1) (by omega) (by omega)]
   refine hnx (O.length-(i+1)) _ (by omega) ⟨i+1,z,by omega,rfl,rfl,z2,?_⟩
   rw [z3,va,ew,List.range_succ,zrs]
  have mid:∀w:Nm,Ok w→val w=av (Ar p.1 (rg O i))→∃r,(gd (inb (i:Int) ((List.range O.length).map fun i=>(dcn p.1 O i O.length:Int)).length) <|
    bif decide (((rdD 0 ((List.range O.length).map fun i=>(dcn p.1 O i O.length:Int)) (i:Int)).tmod 2)=1) then
    bnd (zN (m+1000) (w.1,w.2)) fun r29=>bnd (zn (m+1000) (acc.1,acc.2) (r29.1,r29.2)) (fun r27=>next (p,(false,[]),O,(r27.1,r27.2),((List.range O.length).map fun i=>(dcn p.1 O i O.length:Int)),w64 ((i:Int)+1)))
    else bnd (zn (m+1000) (acc.1,acc.2) (w.1,w.2)) (fun r27=>next (p,(false,[]),O,(r27.1,r27.2),((List.range O.length).map fun i=>(dcn p.1 O i O.length:Int)),w64 ((i:Int)+1))))=some r∧Ok r∧val r=sI (zhO p) (List.range O.length):=fun w hw ew=>by
   rw [hin2,gT,hrd,Int.tmod_eq_emod_of_nonneg (by omega)]
   by_cases c:dcn p.1 O i O.length % 2=1
   ·rw [if_pos c] at ed
    obtain ⟨v,v1,v2,v3⟩:=zoN (m+1000) hw
    rw [zl (by omega),show zN (m+1000) (w.1,w.2)=some v from v1,zt]
    exact fin v v2 (by rw [v3,ew,ed])
   ·rw [if_neg c] at ed
    rw [zg (by omega)]
    exact fin w hw (by rw [ew,ed])
  rw [zl (by omega),hin,gT,show jX (m+1000) p.1 (rdD [] O (i:Int))=some (y,0) from y1,zt,show zD (m+1000) _=_ from ziM (m+1000) y2,zt]
  simp only [zz]
  by_cases c:sg (val y)<0
  ·have c':val y<0:=zuZ.1 c
   obtain ⟨v,v1,v2,v3⟩:=zoN (m+1000) y2
   rw [zl c,show zN (m+1000) (y.1,y.2)=some v from v1,zt]
   exact mid v v2 (by rw [v3,zkr (by omega)];omega)
  ·have c':¬val y<0:=fun h=>c (zuZ.2 h)
   rw [zg c]
   refine mid y y2 ?_
   rw [y3]
   unfold av
   split<;>omega
theorem zAo (m:Nat) {x y:Nm} (hx:Ok x) (hy:Ok y) (mx:Mod (val x)) (my:Mod (val y)) (e:val x=val y):jQ (m+1000) (x.1,x.2) (y.1,y.2)=some 0:=by
 unfold jQ Jo
 obtain ⟨v,v1,v2,v3⟩:=zoN (m+1000) hy
 obtain ⟨z,z1,z2,z3⟩:=zrX m hx v2 mx (by unfold Mod at *;omega)
 rw [show zN (m+1000) _=some v from v1,zt]
 dsimp only
 rw [z1,zt,show zD (m+1000) (z.1,z.2)=_ from ziM (m+1000) z2,zt,z3,v3,e]
 rw [zAD.2 (by omega)]
end Go.Proofs.YtpkkcjmblocjdaaGreat.Pure
end
