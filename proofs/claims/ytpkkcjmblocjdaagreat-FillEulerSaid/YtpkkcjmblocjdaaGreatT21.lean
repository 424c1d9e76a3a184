/- What goes round all triangles goes round the loops. -/
import Derived.Test.YtpkkcjmblocjdaaGreatT18
import Derived.Test.YtpkkcjmblocjdaaGreatV9
import Derived.Test.YtpkkcjmblocjdaaGreatGa9
set_option linter.unusedVariables false
set_option linter.unusedSimpArgs false
set_option linter.unusedSectionVars false
section
namespace Go.Proofs.YtpkkcjmblocjdaaGreat.Pure
open Go.RowKit Go.Proofs.YtpkkcjmblocjdaaGreat.AM PL
def sI {α:Type} (f:α→Int):List α→Int
 |[]=>0
 |a::l=>f a+sI f l
theorem qy {α:Type} (f:α→Int) (a:α) (l:List α):sI f (a::l)=f a+sI f l:=rfl
theorem znz {α:Type} (f:α→Int):∀l r:List α,sI f (l++r)=sI f l+sI f r
 |[],r=>by rw [List.nil_append];show _=0+_;omega
 |a::l,r=>by rw [List.cons_append,qy,qy,znz f l r];omega
theorem zfw {α:Type} (f:α→Int) {l r:List α} (h:l.Perm r):sI f l=sI f r:=by
 induction h with
 |nil=>rfl
 |cons a _ ih=>rw [qy,qy,ih]
 |swap a b l=>rw [qy,qy,qy,qy];omega
 |trans _ _ h1 h2=>rw [h1,h2]
theorem ziH {α β:Type} (f:β→Int) (g:α→β):∀l:List α,sI f (l.map g)=sI (fun x=>f (g x)) l
 |[]=>rfl
 |a::l=>by rw [List.map_cons,qy,qy,ziH f g l]
theorem zjX {α β:Type} (f:β→Int) (g:α→List β):∀l:List α,sI f (l.flatMap g)=sI (fun x=>sI f (g x)) l
 |[]=>rfl
 |a::l=>by rw [List.flatMap_cons,znz,qy,zjX f g l]
theorem Xw {α:Type} {f g:α→Int}:∀l:List α,(∀x∈l,f x=g x)→sI f l=sI g l
 |[],_=>rfl
 |a::l,h=>by rw [qy,qy,h a List.mem_cons_self,Xw l fun x hx=>h x (List.mem_cons_of_mem _ hx)]
theorem zwk {α:Type} (f:α→Int):∀l:List α,sI (fun x=>- f x) l=-sI f l
 |[]=>rfl
 |a::l=>by rw [qy,qy,zwk f l];omega
theorem zc1 {α:Type} {f:α→Int}:∀l:List α,(∀x∈l,f x=0)→sI f l=0
 |[],_=>rfl
 |a::l,h=>by rw [qy,h a List.mem_cons_self,zc1 l fun x hx=>h x (List.mem_cons_of_mem _ hx)];rfl
theorem zo9 {α:Type} (f:α→Int) (b:α→Bool):∀l:List α,sI f l=sI f (l.filter b)+sI f (l.filter fun x=>!b x)
 |[]=>rfl
 |a::l=>by
  have ih:=zo9 f b l
  cases h:b a with
  |true=>rw [List.filter_cons_of_pos h,List.filter_cons_of_neg (by rw [h];decide),qy,qy,ih];omega
  |false=>rw [List.filter_cons_of_neg (by rw [h];decide),List.filter_cons_of_pos (by rw [h];rfl),qy,qy,ih];omega
theorem zzQ {α:Type} [DecidableEq α] {f:α→Int} {l:List α} (hn:l.Nodup) {a b:α} (ha:a∈l) (hb:b∈l) (hab:a≠b) (h:∀x∈l,x≠a→x≠b→f x=0):sI f l=f a+f b:=by
 have p1:=List.perm_cons_erase ha
 have hb':b∈l.erase a:=(List.mem_erase_of_ne (fun e=>hab e.symm)).2 hb
 have p2:=List.perm_cons_erase hb'
 have n1:=hn.erase a
 rw [zfw f p1,qy,zfw f p2,qy,zc1 _ fun x hx=>?_]
 ·omega
 ·have m1:=List.mem_of_mem_erase hx
  have m2:=List.mem_of_mem_erase m1
  refine h x m2 (fun e=>?_) (fun e=>?_)
  ·rw [e] at m1
   exact (List.nodup_cons.1 (p1.nodup hn)).1 m1
  ·rw [e] at hx
   exact (List.nodup_cons.1 (p2.nodup n1)).1 hx
noncomputable def XU (p:zy) (s:Pt):Pt:=by
 classical
 exact if ∃c,ZV p s.1 s.2 c then s else rv s
theorem zbz {p:zy} {s:Pt} (h:∃c,ZV p s.1 s.2 c):XU p s=s:=by
 unfold XU
 rw [if_pos h]
theorem zeh {p:zy} {s:Pt} (h:¬∃c,ZV p s.1 s.2 c):XU p s=rv s:=by
 unfold XU
 rw [if_neg h]
theorem zbh {α:Type} [DecidableEq α]:∀{l r:List α},l.Nodup→r.Nodup→(∀x,x∈l↔x∈r)→l.Perm r
 |[],[],_,_,_=>.nil
 |[],y::r,_,_,h=>by have:=(h y).2 List.mem_cons_self;cases this
 |a::l,r,h1,h2,h=>by
  have ha:=(h a).1 List.mem_cons_self
  have p:=List.perm_cons_erase ha
  obtain ⟨h3,h4⟩:=List.nodup_cons.1 h1
  have h5:=List.nodup_cons.1 (p.nodup h2)
  refine (List.Perm.cons a (zbh h4 h5.2 fun x=>⟨fun hx=>?_,fun hx=>?_⟩)).trans p.symm
  ·exact (List.mem_erase_of_ne (fun e=>h3 (by rw [←e];exact hx))).2 ((h x).1 (List.mem_cons_of_mem _ hx))
  ·have:=(h x).2 (List.mem_of_mem_erase hx)
   rcases List.mem_cons.1 this with e|m
   ·rw [e] at hx;exact (h5.1 hx).elim
   ·exact m
section
variable {p:zy} (R:Rt p)
include R
theorem zp7 {s:Pt} (hs:s∈p.2.1):(∃c,ZV p (XU p s).1 (XU p s).2 c)∧¬∃c,ZV p (rv (XU p s)).1 (rv (XU p s)).2 c:=by
 by_cases h:∃c,ZV p s.1 s.2 c
 ·rw [zbz h]
  refine ⟨h,fun h'=>?_⟩
  obtain ⟨c,g⟩:=h
  obtain ⟨c',g'⟩:=h'
  exact zko R hs g g'
 ·rw [zeh h]
  exact ⟨(zcw R hs).resolve_left h,h⟩
theorem zig (s:Pt):XU p s=s∨XU p s=rv s:=by
 by_cases h:∃c,ZV p s.1 s.2 c
 ·exact .inl (zbz h)
 ·exact .inr (zeh h)
theorem zrb {F:List Pt} (hF:F.Nodup) (hm:∀s,s∈F↔∃c,ZV p s.1 s.2 c) {f:Pt→Int} (hf:∀s,f (rv s)=-f s):sI f F=sI (fun s=>f (XU p s)) p.2.1:=by
 classical
 have rin:∀{s t:Pt},rv s=rv t→s=t:=fun {s t} h=>by have:=congrArg rv h;exact this
 rw [zo9 f (fun s=>decide (rv s∈F)) F]
 have e1:sI f (F.filter fun s=>decide (rv s∈F))=0:=by
  have pm:((F.filter fun s=>decide (rv s∈F)).map rv).Perm (F.filter fun s=>decide (rv s∈F)):=by
   refine zbh ?_ (hF.sublist List.filter_sublist) fun x=>?_
   ·rw [List.nodup_iff_pairwise_ne,List.pairwise_map]
    exact (hF.sublist List.filter_sublist).imp fun h e=>h (rin e)
   ·rw [List.mem_map]
    constructor
    ·rintro ⟨y,hy,rfl⟩
     rw [List.mem_filter,decide_eq_true_eq] at hy ⊢
     exact ⟨hy.2,hy.1⟩
    ·intro hx
     rw [List.mem_filter,decide_eq_true_eq] at hx
     exact ⟨rv x,by rw [List.mem_filter,decide_eq_true_eq];exact ⟨hx.2,hx.1⟩,rfl⟩
  have:=zfw f pm
  rw [ziH,Xw (g:=fun s=>- f s) _ (fun s _=>hf s),zwk] at this
  omega
 have e2:(F.filter fun s=>!decide (rv s∈F)).Perm (p.2.1.map (XU p)):=by
  refine zbh (hF.sublist List.filter_sublist) ?_ fun x=>?_
  ·rw [List.nodup_iff_pairwise_ne,List.pairwise_map]
   refine R.lp.nd.imp_of_mem fun {s t} hs ht hne e=>hne (Y9 R ht hs ?_)
   rcases zig R s with h1|h1<;>rcases zig R t with h2|h2<;>rw [h1,h2] at e
   ·exact .inl ⟨by rw [e],by rw [e]⟩
   ·rw [e];exact .inr ⟨rfl,rfl⟩
   ·rw [←e];exact .inr ⟨rfl,rfl⟩
   ·rw [rin e];exact .inl ⟨rfl,rfl⟩
  ·rw [List.mem_filter,List.mem_map,Bool.not_eq_true',decide_eq_false_iff_not,hm,hm]
   constructor
   ·rintro ⟨⟨c,g⟩,hn⟩
    have hL:onL p x.1 x.2:=Classical.byContradiction fun h=>hn (zbj R g.ab.symm fun ⟨q,hq,e⟩=>h ⟨q,hq,Or.symm e⟩)
    obtain ⟨s,hs,⟨h1,h2⟩|⟨h1,h2⟩⟩:=hL
    ·exact ⟨s,hs,by rw [show s=x from Prod.ext h1 h2];exact zbz ⟨c,g⟩⟩
    ·refine ⟨s,hs,?_⟩
     rw [show s=rv x from Prod.ext h1 h2,zeh hn]
     rfl
   ·rintro ⟨s,hs,rfl⟩
    exact zp7 R hs
 rw [e1,zfw f e2,ziH,Int.zero_add]
end
end Go.Proofs.YtpkkcjmblocjdaaGreat.Pure
end
section
namespace Go.Proofs.YtpkkcjmblocjdaaGreat.Pure
open Go.RowKit Go.Proofs.YtpkkcjmblocjdaaGreat.AM PL
def isG (p:zy) (x y:Int):Prop:=∃c,ZV p x y c
def rdT (f:Pt→Int) (t:Tr):Int:=f (t.1,t.2.1)+f (t.2.1,t.2.2)+f (t.2.2,t.1)
section
variable {p:zy} (R:Rt p)
include R
theorem zmV {f:Pt→Int} (hf:∀s,f (rv s)=-f s):sI (rdT f) (ji p)=sI (fun s=>f (XU p s)) p.2.1:=by
 rw [←zrb R (zj0 R) (zcz R) hf,zjX]
 refine Xw _ fun t _=>?_
 unfold rdT qT
 rw [qy,qy,qy]
 show _=_+(_+(_+0))
 omega
theorem zhN {x y:Int} (h:onL p x y):(isG p x y∨isG p y x)∧¬(isG p x y∧isG p y x):=by
 obtain ⟨s,hs,⟨rfl,rfl⟩|⟨rfl,rfl⟩⟩:=h
 ·exact ⟨zcw R hs,fun ⟨⟨c,g⟩,c',g'⟩=>zko R hs g g'⟩
 ·exact ⟨(zcw R hs).symm,fun ⟨⟨c,g⟩,c',g'⟩=>zko R hs g' g⟩
theorem zv0 {x y:Int} (h:onL p x y):XU p (y,x)=XU p (x,y):=by
 obtain ⟨h1,h2⟩:=zhN R h
 by_cases g:isG p x y
 ·rw [zbz (s:=(x,y)) g,zeh (s:=(y,x)) fun g'=>h2 ⟨g,g'⟩]
  rfl
 ·rw [zeh (s:=(x,y)) g,zbz (s:=(y,x)) (h1.resolve_left g)]
  rfl
theorem zpj {u v w:Int} (hu:onL p u v) (hw:onL p v w) (huw:u≠w) (hd:dgr p.2.1 v=2) {f:Pt→Int} (h0:∀s:Pt,s.1≠v→s.2≠v→f s=0):sI (fun s=>f (XU p s)) p.2.1=f (XU p (u,v))+f (XU p (v,w)):=by
 obtain ⟨a,b,hn,-,hab,-,-⟩:=R.lp.two_nl hd
 obtain ⟨s,hs,es⟩:=hu
 obtain ⟨t,ht,et⟩:=hw
 have ms:u∈nl p.2.1 v:=JT.2 ⟨s,hs,by rcases es with ⟨e1,e2⟩|⟨e1,e2⟩;exact .inr ⟨e2,e1⟩;exact .inl ⟨e1,e2⟩⟩
 have mt:w∈nl p.2.1 v:=JT.2 ⟨t,ht,by rcases et with ⟨e1,e2⟩|⟨e1,e2⟩;exact .inl ⟨e1,e2⟩;exact .inr ⟨e2,e1⟩⟩
 have ds:XU p s=XU p (u,v):=by
  rcases es with ⟨e1,e2⟩|⟨e1,e2⟩
  ·rw [←e1,←e2]
  ·rw [show s=(v,u) from Prod.ext e1 e2]
   exact zv0 R ⟨s,hs,.inr ⟨e1,e2⟩⟩
 have dt:XU p t=XU p (v,w):=by
  rcases et with ⟨e1,e2⟩|⟨e1,e2⟩
  ·rw [←e1,←e2]
  ·rw [show t=(w,v) from Prod.ext e1 e2]
   exact zv0 R ⟨t,ht,.inr ⟨e1,e2⟩⟩
 have nov:∀q∈p.2.1,q.1≠q.2:=fun q hq=>(R.lp.ok q hq).2
 rw [zzQ (f:=fun s=>f (XU p s)) R.lp.nd hs ht (fun e=>?_) (fun q hq n1 n2=>?_),ds,dt]
 ·subst e
  have:=nov s hs
  omega
 ·have hv:q.1≠v∧q.2≠v:=by
   refine ⟨fun e=>?_,fun e=>?_⟩
   ·have mq:q.2∈nl p.2.1 v:=JT.2 ⟨q,hq,.inl ⟨e,rfl⟩⟩
    rw [hn] at ms mt mq
    simp only [List.mem_cons,List.not_mem_nil,or_false] at ms mt mq
    have:q.2=u∨q.2=w:=by omega
    rcases this with e2|e2
    ·exact n1 (Y9 R hs hq (by omega))
    ·exact n2 (Y9 R ht hq (by omega))
   ·have mq:q.1∈nl p.2.1 v:=JT.2 ⟨q,hq,.inr ⟨e,rfl⟩⟩
    rw [hn] at ms mt mq
    simp only [List.mem_cons,List.not_mem_nil,or_false] at ms mt mq
    have:q.1=u∨q.1=w:=by omega
    rcases this with e2|e2
    ·exact n1 (Y9 R hs hq (by omega))
    ·exact n2 (Y9 R ht hq (by omega))
  rcases zig R q with e|e
  ·rw [e];exact h0 q hv.1 hv.2
  ·rw [e];exact h0 (rv q) hv.2 hv.1
def zhv (v:Int) (s:Pt):Int:=(if s.1=v then 1 else 0)-(if s.2=v then 1 else 0)
omit R in
theorem zvs (v:Int) (s:Pt):zhv v (rv s)=-zhv v s:=by unfold zhv rv;dsimp only;omega
theorem zsC {u v w:Int} (hu:onL p u v) (hw:onL p v w) (huw:u≠w) (hd:dgr p.2.1 v=2):isG p u v↔isG p v w:=by
 have e1:=zmV R (zvs v)
 have e2:sI (rdT (zhv v)) (ji p)=0:=zc1 _ fun t _=>by
  unfold rdT zhv
  dsimp only
  omega
 have e3:=zpj R hu hw huw hd (f:=zhv v) (fun s h1 h2=>by unfold zhv;rw [if_neg h1,if_neg h2];rfl)
 rw [e2] at e1
 rw [←e1] at e3
 have nuv:u≠v:=by
  obtain ⟨s,hs,h⟩:=hu
  have:=(R.lp.ok s hs).2
  omega
 have nvw:v≠w:=by
  obtain ⟨s,hs,h⟩:=hw
  have:=(R.lp.ok s hs).2
  omega
 by_cases g1:isG p u v
 ·by_cases g2:isG p v w
  ·exact ⟨fun _=>g2,fun _=>g1⟩
  ·rw [zbz (s:=(u,v)) g1,zeh (s:=(v,w)) g2] at e3
   unfold zhv rv at e3
   dsimp only at e3
   rw [if_neg nuv,if_pos rfl,if_neg (fun e=>nvw e.symm)] at e3
   omega
 ·by_cases g2:isG p v w
  ·rw [zeh (s:=(u,v)) g1,zbz (s:=(v,w)) g2] at e3
   unfold zhv rv at e3
   dsimp only at e3
   rw [if_neg nuv,if_pos rfl,if_neg (fun e=>nvw e.symm)] at e3
   omega
  ·exact ⟨fun h=>(g1 h).elim,fun h=>(g2 h).elim⟩
end
def at' (r:List Int) (i:Nat):Int:=rdD 0 r ((i % r.length:Nat):Int)
def cyc (r:List Int):List Pt:=(List.range r.length).map fun i=>(at' r i,at' r (i+1))
theorem zcX {r:List Int} (i:Nat) (h:r.length≠0):∃h':i % r.length<r.length,at' r i=r[i % r.length]:=by
 have h':i % r.length<r.length:=Nat.mod_lt _ (by omega)
 exact ⟨h',zY _ r _ h'⟩
theorem Zs {r:List Int} (i:Nat) (h:r.length≠0):at' r i∈r:=by
 obtain ⟨h',e⟩:=zcX i h
 rw [e]
 exact List.getElem_mem _
theorem zlv {r:List Int} (nd:r.Nodup) (h:r.length≠0) {i j:Nat} (e:at' r i=at' r j):i % r.length=j % r.length:=by
 obtain ⟨h1,e1⟩:=zcX i h
 obtain ⟨h2,e2⟩:=zcX j h
 rw [e1,e2] at e
 rcases Nat.lt_trichotomy (i % r.length) (j % r.length) with h|h|h
 ·exact absurd e (List.pairwise_iff_getElem.1 nd _ _ h1 h2 h)
 ·exact h
 ·exact absurd e.symm (List.pairwise_iff_getElem.1 nd _ _ h2 h1 h)
theorem zkh (r:List Int) (i:Nat):at' r (i+r.length)=at' r i:=by unfold at';rw [Nat.add_mod_right]
theorem Q0 {r:List Int} {s:Pt}:s∈cyc r↔∃i,i<r.length∧s=(at' r i,at' r (i+1)):=by
 unfold cyc
 rw [List.mem_map]
 constructor
 ·rintro ⟨i,hi,rfl⟩;exact ⟨i,List.mem_range.1 hi,rfl⟩
 ·rintro ⟨i,hi,rfl⟩;exact ⟨i,List.mem_range.2 hi,rfl⟩
theorem zjZ {r:List Int} (nd:r.Nodup) (h3:3≤r.length) (i:Nat):at' r i≠at' r (i+1)∧at' r i≠at' r (i+2):=by
 have key:∀d,0<d→d<r.length→at' r i≠at' r (i+d):=by
  intro d h1 h2 e
  have:=zlv nd (by omega) e
  have hm:i % r.length<r.length:=Nat.mod_lt _ (by omega)
  rw [Nat.add_mod,Nat.mod_eq_of_lt h2] at this
  generalize i % r.length=j at *
  by_cases c:j+d<r.length
  ·rw [Nat.mod_eq_of_lt c] at this;omega
  ·rw [Nat.mod_eq_sub_mod (show r.length≤j+d by omega),Nat.mod_eq_of_lt (show j+d-r.length<r.length by omega)] at this;omega
 exact ⟨key 1 (by omega) (by omega),key 2 (by omega) (by omega)⟩
structure Rng (L:List Pt) (r:List Int):Prop where
 nd:r.Nodup
 three:3≤r.length
 on:∀i,∃s∈L,(s.1=at' r i∧s.2=at' r (i+1))∨(s.1=at' r (i+1)∧s.2=at' r i)
 deg:∀x∈r,dgr L x=2
theorem zh5 {p:zy} (R:Rt p) {r:List Int} (G:Rng p.2.1 r):∀i,isG p (at' r i) (at' r (i+1))↔isG p (at' r 0) (at' r 1)
 |0=>Iff.rfl
 |i+1=>by
  have h0:r.length≠0:=by have:=G.three;omega
  rw [←zh5 R G i]
  exact (zsC R (G.on i) (G.on (i+1)) (zjZ G.nd G.three i).2 (G.deg _ (Zs _ h0))).symm
end Go.Proofs.YtpkkcjmblocjdaaGreat.Pure
end
section
namespace Go.Proofs.YtpkkcjmblocjdaaGreat.Pure
open Go.RowKit Go.Proofs.YtpkkcjmblocjdaaGreat.AM PL
theorem zq0 (m n:Nat) (L:List Pt) (hn:n≤350) (hL:L.length≤350) (h:∀s∈L,oks n s∧s.1≠s.2):jd (m+1000) (n:Int) L=some (dgs L n,0):=by
 unfold jd
 simp only [zx]
 rw [zg (by omega)]
 refine (Qx (decide_eq_false (by omega))).trans ?_
 refine zG (fun i=>((n:Int),L,(i:Int))) L.length (fun _=>some (dgs L n,0)) ?_ ?_ (m+1000) 0 (Nat.zero_le _) (by omega)
 ·intro next
  dsimp only
  rw [zg (by omega),zP (decide_eq_true (by omega)),zP (by unfold zfY;exact jG (by omega))]
  have e0:rpL (n:Int) (0:Int)=dgs (L.take 0) n:=by
   unfold rpL dgs
   rw [Int.toNat_natCast]
   apply List.ext_getElem
   ·simp
   ·intro j h1 h2
    simp [dgr]
  rw [e0]
  refine zG (fun i=>(L,dgs (L.take i) n,(i:Int))) L.length (fun _=>some (dgs L n,0)) ?_ ?_ (m+1000) 0 (Nat.zero_le _) (by omega)
  ·intro next
   dsimp only
   rw [zg (by omega),List.take_length]
  ·intro i hi next hn'
   have hs:=h _ (List.getElem_mem hi)
   dsimp only at hn' ⊢
   have hin:inb (i:Int) L.length=true:=zA ⟨by omega,by omega⟩
   simp only [hin,gT]
   rw [zk (by omega),zY _ L i hi,zl (x:=(i:Int)+1) (by omega) (by omega)]
   rw [List.take_succ_eq_append_getElem hi] at hn'
   generalize L[i]=s at hs hn' ⊢
   obtain ⟨⟨⟨a0,a1⟩,⟨b0,b1⟩⟩,hne⟩:=hs
   obtain ⟨s1,s2⟩:=s
   dsimp only at a0 a1 b0 b1 hne hn' ⊢
   obtain ⟨a,rfl⟩:=Int.eq_ofNat_of_zero_le a0
   obtain ⟨b,rfl⟩:=Int.eq_ofNat_of_zero_le b0
   have hl1:inb (a:Int) (dgs (L.take i) n).length=true:=zA ⟨by omega,by rw [Z0];omega⟩
   have hl2:∀x,inb (b:Int) (stL (dgs (L.take i) n) (a:Int) x).length=true:=fun x=>zA ⟨by omega,by unfold stL;rw [List.length_set,Z0];omega⟩
   have hl3:inb (b:Int) (dgs (L.take i) n).length=true:=zA ⟨by omega,by rw [Z0];omega⟩
   simp only [hl1,hl2,hl3,gT]
   rw [zpo _ n a b (by omega) (by omega) (by omega) (by rw [List.length_take];omega)]
   exact hn'
 ·intro i hi next hn'
  have hs:=h _ (List.getElem_mem hi)
  dsimp only at hn' ⊢
  rw [zk (by omega),zP (zA ⟨by omega,by omega⟩),zY _ L i hi,zl (x:=(i:Int)+1) (by omega) (by omega)]
  generalize L[i]=s at hs ⊢
  obtain ⟨⟨⟨a0,a1⟩,⟨b0,b1⟩⟩,hne⟩:=hs
  rw [zg hne,zg (by omega),zg (by omega),zg (by omega)]
  exact (Qx (decide_eq_false (by omega))).trans hn'
theorem zzB (k:Nat) (a b:Pt):jS k a b=some (decide (nrm a=nrm b)):=by
 unfold jS
 simp only [zx]
 have key:decide (nrm a=nrm b)=decide ((a.1=b.1∧a.2=b.2)∨(a.1=b.2∧a.2=b.1)):=decide_eq_decide.2 ⟨zjP,zeI⟩
 rw [key]
 by_cases c1:a.1=b.1
 ·rw [zk c1]
  by_cases c2:a.2=b.2
  ·rw [zk c2,decide_eq_true (.inl ⟨c1,c2⟩)]
  ·rw [zg c2]
   by_cases c3:a.1=b.2
   ·rw [zk c3];congr 1;rw [decide_eq_decide];exact ⟨fun h=>.inr ⟨c3,h⟩,fun h=>h.elim (fun h=>absurd h.2 c2) (fun h=>h.2)⟩
   ·rw [zg c3,decide_eq_false (fun h=>h.elim (fun h=>c2 h.2) (fun h=>c3 h.1))]
 ·rw [zg c1]
  by_cases c3:a.1=b.2
  ·rw [zk c3];congr 1;rw [decide_eq_decide];exact ⟨fun h=>.inr ⟨c3,h⟩,fun h=>h.elim (fun h=>absurd h.1 c1) (fun h=>h.2)⟩
  ·rw [zg c3,decide_eq_false (fun h=>h.elim (fun h=>c1 h.1) (fun h=>c3 h.1))]
def bs (row:List Int) (b u:Int):Int:=if u∈row then b else if b<0∨u<b then u else b
def bsv (L:List Pt) (at':Int) (row:List Int):Int:=(nl L at').foldl (bs row) (-1)
theorem zuQ (L:List Pt) (s:Pt) (hs:s.1≠s.2) (at':Int) (row:List Int):bsv (L++[s]) at' row=if s.1=at' then bs row (bsv L at' row) s.2 else if s.2=at' then bs row (bsv L at' row) s.1 else bsv L at' row:=by
 unfold bsv
 rw [zrc,List.foldl_append]
 by_cases h1:s.1=at'
 ·rw [if_pos h1,if_pos h1,if_neg (fun e=>hs (h1.trans e.symm))];rfl
 ·rw [if_neg h1,if_neg h1]
  by_cases h2:s.2=at'
  ·rw [if_pos h2,if_pos h2];rfl
  ·rw [if_neg h2,if_neg h2];rfl
theorem zvw (m n:Nat) (L:List Pt) (at':Int) (row:List Int) (hL:L.length≤350) (hr:row.length≤350) (h:∀s∈L,oks n s∧s.1≠s.2):jl (m+1000) L at' row=some (bsv L at' row):=by
 unfold jl
 refine zG (fun i=>(L,at',row,bsv (L.take i) at' row,(i:Int))) L.length (fun _=>some (bsv L at' row)) ?_ ?_ (m+1000) 0 (Nat.zero_le _) (by omega)
 ·intro next
  dsimp only
  rw [zg (by omega),List.take_length]
 ·intro i hi next hn'
  have hs:=h _ (List.getElem_mem hi)
  dsimp only at hn' ⊢
  have hin:inb (i:Int) L.length=true:=zA ⟨by omega,by omega⟩
  simp only [hin,gT,zx]
  rw [zk (by omega),zY _ L i hi]
  rw [List.take_succ_eq_append_getElem hi,zuQ _ _ hs.2] at hn'
  generalize L[i]=s at hs hn' ⊢
  generalize bsv (L.take i) at' row=best at hn' ⊢
  have zbj:∀(k0:Int) (f:List Pt×Int×List Int×Int×Int×Int×Int→(List Pt×Int×List Int×Int×Int×Int×Int→Option Int)→Option Int),
    (∀kk next,f (L,at',row,best,(i:Int),kk,(row.length:Int)) next=if kk≥0∧(best<0∨kk<best) then (some (bsv L at' row)) else (some (bsv L at' row)))→True:=fun _ _ _=>trivial
  have nx:∀b:Int,b=(if s.1=at' then bs row best s.2 else if s.2=at' then bs row best s.1 else best)→next (L,at',row,b,w64 ((i:Int)+1))=some (bsv L at' row):=by
   intro b hb
   rw [zl (x:=(i:Int)+1) (by omega) (by omega),hb]
   exact hn'
  have run:∀k0:Int,(k0=-1∨0≤k0)→(∀b,b=(if k0<0 then best else bs row best k0)→next (L,at',row,b,w64 ((i:Int)+1))=some (bsv L at' row)) →
    zw (α:=List (Int×Int)×Int×List Int×Int×Int×Int×Int) (fun (x19,x20,x21,x22,x23,x24,x25) next18 =>
     bif decide (x25<(x21.length:Int)) then
      gd (inb x25 x21.length) <|
      bif decide ((rdD 0 x21 x25)=x24) then next18 (x19,x20,x21,x22,x23,(-1),w64 (x25+1)) else next18 (x19,x20,x21,x22,x23,x24,w64 (x25+1))
     else
      bif decide (x24≥0) then (bif decide (x22<0) then (bif true then next (x19,x20,x21,x24,w64 (x23+1)) else next (x19,x20,x21,x22,w64 (x23+1))) else (bif decide (x24<x22) then next (x19,x20,x21,x24,w64 (x23+1)) else next (x19,x20,x21,x22,w64 (x23+1)))) else (bif false then next (x19,x20,x21,x24,w64 (x23+1)) else next (x19,x20,x21,x22,w64 (x23+1)))) (m+1000) (L,at',row,best,(i:Int),k0,0)=some (bsv L at' row):=by
   intro k0 hk0 hb
   refine zG (fun j=>(L,at',row,best,(i:Int),(if k0∈row.take j then -1 else k0),(j:Int))) row.length (fun _=>some (bsv L at' row)) ?_ ?_ (m+1000) 0 (Nat.zero_le _) (by omega)
   ·intro next2
    dsimp only
    rw [zg (by omega),List.take_length]
    by_cases hm:k0∈row
    ·rw [if_pos hm,zg (by omega),cF]
     refine hb _ ?_
     unfold bs
     rw [if_pos hm]
     split<;>rfl
    ·rw [if_neg hm]
     by_cases hk:k0≥0
     ·rw [zk hk]
      by_cases hbst:best<0
      ·rw [zk hbst,cT]
       refine hb _ ?_
       unfold bs
       rw [if_neg (by omega),if_neg hm,if_pos (.inl hbst)]
      ·rw [zg hbst]
       by_cases hlt:k0<best
       ·rw [zk hlt]
        refine hb _ ?_
        unfold bs
        rw [if_neg (by omega),if_neg hm,if_pos (.inr hlt)]
       ·rw [zg hlt]
        refine hb _ ?_
        unfold bs
        rw [if_neg (by omega),if_neg hm,if_neg (fun h=>h.elim hbst hlt)]
     ·rw [zg hk,cF]
      refine hb _ ?_
      rw [if_pos (by omega)]
   ·intro j hj next2 hn2
    dsimp only at hn2 ⊢
    rw [zk (by omega),zP (zA ⟨by omega,by omega⟩),zY _ row j hj,zl (x:=(j:Int)+1) (by omega) (by omega)]
    rw [List.take_succ_eq_append_getElem hj] at hn2
    by_cases hm:k0∈row.take j
    ·rw [if_pos hm]
     rw [if_pos (List.mem_append_left _ hm)] at hn2
     by_cases e:row[j]=-1
     ·rw [zk e];exact hn2
     ·rw [zg e];exact hn2
    ·rw [if_neg hm]
     by_cases e:row[j]=k0
     ·rw [zk e]
      rw [if_pos (List.mem_append_right _ (by rw [e];simp))] at hn2
      exact hn2
     ·rw [zg e]
      rw [if_neg (fun h=>(List.mem_append.1 h).elim hm (fun h=>e (List.mem_singleton.1 h).symm))] at hn2
      exact hn2
  by_cases c1:s.1=at'
  ·have c2:¬s.2=at':=fun e=>hs.2 (c1.trans e.symm)
   rw [zk c1,zg c2]
   refine run s.2 (.inr hs.1.2.1) (fun b hb=>nx b ?_)
   rw [hb,if_neg (by have:=hs.1.2.1;omega),if_pos c1]
  ·rw [zg c1]
   by_cases c2:s.2=at'
   ·rw [zk c2]
    refine run s.1 (.inr hs.1.1.1) (fun b hb=>nx b ?_)
    rw [hb,if_neg (by have:=hs.1.1.1;omega),if_neg c1,if_pos c2]
   ·rw [zg c2]
    refine run (-1) (.inl rfl) (fun b hb=>nx b ?_)
    rw [hb,if_pos (by omega),if_neg c1,if_neg c2]
end Go.Proofs.YtpkkcjmblocjdaaGreat.Pure
end
section
namespace Go.Proofs.YtpkkcjmblocjdaaGreat.Pure
open Go.RowKit Go.Proofs.YtpkkcjmblocjdaaGreat.AM PL
abbrev Dg (L:List Pt) (n:Nat):Int→Prop:=fun v=>(0≤v∧v<(n:Int))∧dgr L v=2
theorem zvA {n:Nat} {L:List Pt} (lp:Lp n L) {i fr:Int} {r:List Int} {a:Int} (w:Wk (Dg L n) (nbr L) i fr r a) (hmin:r=[]→a=mnI (nbr L fr).1 (nbr L fr).2) :
  bsv L fr (fr::r).reverse=if a=i then -1 else a:=by
 have G:=lp.rg
 have hfr:=w.d fr List.mem_cons_self
 obtain ⟨x,y,e,e',hne,hx,hy⟩:=lp.two_nl hfr.2
 have hnv:=G.nv fr hfr
 have hto:=w.to
 have hpr:=w.pr
 rw [e'] at hnv hto hpr hmin
 dsimp only at hnv hto hpr hmin
 have hval:bsv L fr (fr::r).reverse=bs (fr::r).reverse (bs (fr::r).reverse (-1) x) y:=by unfold bsv;rw [e];rfl
 rw [hval]
 have hmem:∀u,u∈(fr::r).reverse↔u∈fr::r:=fun u=>List.mem_reverse
 cases r with
 |nil =>
  have hfi:fr=i:=by have:=w.last;simpa using this
  have hxr:¬x∈[fr].reverse:=fun h=>hnv.1 (by simpa using h)
  have hyr:¬y∈[fr].reverse:=fun h=>hnv.2 (by simpa using h)
  have ha:=hmin rfl
  have e1:bs [fr].reverse (-1) x=x:=by unfold bs;rw [if_neg hxr,if_pos (.inl (by omega))]
  rw [e1]
  have hai:a≠i:=by
   rw [←hfi]
   rcases hto with h|h<;>rw [h]
   ·exact hnv.1
   ·exact hnv.2
  rw [if_neg hai,ha]
  unfold bs mnI
  rw [if_neg hyr]
  by_cases c:y<x
  ·rw [if_pos (.inr c),if_pos c]
  ·rw [if_neg (fun h=>h.elim (fun h=>by omega) c),if_neg c]
 |cons p r =>
  obtain ⟨hp,hap⟩:=hpr p rfl
  have hpm:p∈(fr::p::r).reverse:=(hmem p).2 (by simp)
  have hai:(a∈(fr::p::r).reverse)↔a=i:=by
   rw [hmem]
   constructor
   ·intro h
    by_cases e:a=i
    ·exact e
    ·exact absurd h (w.new G e)
   ·intro h
    rw [h]
    exact List.mem_of_getLast? w.last
  have hone:∀u,0≤u→bs (fr::p::r).reverse (-1) u=if u∈(fr::p::r).reverse then -1 else u:=by
   intro u hu
   unfold bs
   split
   ·rfl
   ·rw [if_pos (.inl (by omega))]
  rcases hp with hp|hp
  ·have ha:a=y:=hto.resolve_left (fun h=>hap (h.trans hp.symm))
   subst hp
   rw [hone p hx,if_pos hpm,hone y hy,←ha]
   by_cases c:a=i
   ·rw [if_pos c,if_pos (hai.2 c)]
   ·rw [if_neg c,if_neg (fun h=>c (hai.1 h))]
  ·have ha:a=x:=hto.resolve_right (fun h=>hap (h.trans hp.symm))
   subst hp
   have e2:∀b,bs (fr::p::r).reverse b p=b:=fun b=>by unfold bs;rw [if_pos hpm]
   rw [e2,hone x hx,←ha]
   by_cases c:a=i
   ·rw [if_pos c,if_pos (hai.2 c)]
   ·rw [if_neg c,if_neg (fun h=>c (hai.1 h))]
theorem zvb {n:Nat} {L:List Pt} (lp:Lp n L) {i:Int} (h:Dg L n i):(ring (nbr L) n i).length≤n:=by
 obtain ⟨fr,r,e,w,_⟩:=zaA lp.rg h
 rw [e,List.length_reverse]
 exact w.len lp.rg
theorem zmg {n:Nat} {L:List Pt} (lp:Lp n L):∀i,i≤n→(zV L n i).flatten.length≤i*n
 |0,_=>by simp [zV]
 |i+1,hi=>by
  have ih:=zmg lp i (by omega)
  rw [Xb]
  unfold zeM
  by_cases c:dgr L (i:Int)=0∨(i:Int)∈(zV L n i).flatten
  ·rw [if_pos c]
   exact Nat.le_trans ih (Nat.mul_le_mul_right _ (by omega))
  ·rw [if_neg c]
   have hd:dgr L (i:Int)=2:=(lp.deg i (by omega)).resolve_left (fun h=>c (.inl h))
   have:=zvb lp (i:=(i:Int)) ⟨⟨by omega,by omega⟩,hd⟩
   rw [List.flatten_append,List.length_append,Nat.succ_mul]
   simp only [List.flatten_cons,List.flatten_nil,List.append_nil]
   omega
theorem zvl (m n:Nat) (L:List Pt) (hm:130000≤m) (hn:n≤350) (hL:L.length≤350) (ok:∀s∈L,oks n s∧s.1≠s.2) (two:L.Pairwise fun a b=>nrm a≠nrm b):jA (m+1000) (n:Int) L=some (zdb L n):=by
 unfold jA JV
 rw [zq0 m n L hn hL ok,zr]
 rw [show (!(decide ((dgs L n,(0:Int)).2=0)))=false from rfl,cF]
 refine zG (fun i=>((n:Int),L,dgs L n,(i:Int))) L.length (fun _=>some (zdb L n)) ?_ ?_ (m+1000) 0 (Nat.zero_le _) (by omega)
 ·intro next
  dsimp only
  rw [zg (by omega)]
  unfold zdb
  have step:∀(i:Nat) (hi:i<n) (A B:Option (List (List Int)×Int×Int)),
    (bif decide ((i:Int)<(n:Int)) then (gd (inb (i:Int) (dgs L n).length)<|bif !(decide ((rdD 0 (dgs L n) (i:Int))=0)) then (gd (inb (i:Int) (dgs L n).length)<|(bif !(decide ((rdD 0 (dgs L n) (i:Int))=2)) then A else B)) else (bif false then A else B)) else none)=if odd L 0 i=true then A else B:=by
   intro i hi A B
   have hin:inb (i:Int) (dgs L n).length=true:=zA ⟨by omega,by rw [Z0];omega⟩
   simp only [hin,gT]
   rw [zk (by omega),zc4 L n hi]
   have eo:odd L 0 i=(!decide ((dgr L (i:Int):Int)=0)&&!decide ((dgr L (i:Int):Int)=2)):=by
    unfold odd
    rw [show decide ((dgr L (i:Int):Int)=0)=decide (dgr L (i:Int)=0) from decide_eq_decide.2 (by omega),show decide ((dgr L (i:Int):Int)=2)=decide (dgr L (i:Int)=2) from decide_eq_decide.2 (by omega)]
    rw [decide_not,decide_not]
   rw [eo]
   cases decide ((dgr L (i:Int):Int)=0)<;>cases decide ((dgr L (i:Int):Int)=2)<;>rfl
  have bifT:∀(i:Nat) (hi:i<n) (X Y:Option (List (List Int)×Int×Int)),(bif decide ((i:Int)<(n:Int)) then X else Y)=(bif decide ((i:Int)<(n:Int)) then X else none):=by
   intro i hi X Y
   rw [zk (by omega),zk (by omega)]
  obtain ⟨r1,r2⟩:=Yo (odd L) (n:=n) (a:=0) _ 0 rfl (Nat.zero_le _)
  cases hodd:row (odd L) n 0 0 with
  |some k =>
   obtain ⟨_,hk,hof,hmin⟩:=r2 k hodd
   refine zG (fun i=>((n:Int),L,dgs L n,(i:Int))) k (fun _=>some ([],(k:Int),81)) ?_ ?_ (m+1000) 0 (Nat.zero_le _) (by omega)
   ·intro next
    dsimp only
    simp only [zx]
    rw [bifT k hk]
    refine (step k hk _ _).trans ?_
    rw [if_pos hof]
   ·intro i hi next hn'
    dsimp only at hn' ⊢
    simp only [zx]
    rw [bifT i (by omega)]
    refine (step i (by omega) _ _).trans ?_
    rw [if_neg (fun h=>by have:=hmin i (Nat.zero_le _) (by omega) h;omega),zl (x:=(i:Int)+1) (by omega) (by omega)]
    exact hn'
  |none =>
   have lp:=zvV ok two hodd
   have G:=lp.rg
   refine zG (fun i=>((n:Int),L,dgs L n,(i:Int))) n (fun _=>some (zV L n n,0,0)) ?_ ?_ (m+1000) 0 (Nat.zero_le _) (by omega)
   ·intro next
    dsimp only
    rw [zg (by omega)]
    refine zG (fun i=>((n:Int),L,dgs L n,zV L n i,(zV L n i).flatten,(i:Int))) n (fun _=>some (zV L n n,0,0)) ?_ ?_ (m+1000) 0 (Nat.zero_le _) (by omega)
    ·intro next
     dsimp only
     rw [zg (by omega)]
    ·intro i hi next hn'
     have hfl:=zmg lp i (by omega)
     have hmul:i*n≤350*350:=Nat.mul_le_mul (by omega) hn
     dsimp only at hn' ⊢
     simp only [zx]
     rw [zk (by omega),zP (zA ⟨by omega,by rw [Z0];omega⟩),zc4 L n hi]
     rw [Xb] at hn'
     have hsk:(dgr L (i:Int)=0∨(i:Int)∈(zV L n i).flatten)→next ((n:Int),L,dgs L n,zV L n i,(zV L n i).flatten,(i:Int)+1)=some (zV L n n,0,0):=by
      intro h
      unfold zeM at hn'
      rw [if_pos h] at hn'
      exact hn'
     have ed:decide ((dgr L (i:Int):Int)=0)=decide (dgr L (i:Int)=0∨(i:Int)∈(zV L n i).flatten.take 0):=decide_eq_decide.2 (by simp)
     rw [ed]
     refine zG (fun k=>((n:Int),L,dgs L n,zV L n i,(zV L n i).flatten,(i:Int),decide (dgr L (i:Int)=0∨(i:Int)∈(zV L n i).flatten.take k),(k:Int))) (zV L n i).flatten.length (fun _=>some (zV L n n,0,0)) ?_ ?_ (m+1000) 0 (Nat.zero_le _) (by omega)
     ·intro next2
      dsimp only
      rw [zg (by omega),List.take_length,zl (x:=(i:Int)+1) (by omega) (by omega)]
      by_cases hs:dgr L (i:Int)=0∨(i:Int)∈(zV L n i).flatten
      ·rw [decide_eq_true hs,cT]
       exact hsk hs
      rw [decide_eq_false hs,cF]
      unfold zeM at hn'
      rw [if_neg hs] at hn'
      have hdi:dgr L (i:Int)=2:=(lp.deg i hi).resolve_left (fun h=>hs (.inl h))
      have hD:Dg L n (i:Int):=⟨⟨by omega,by omega⟩,hdi⟩
      obtain ⟨fr0,r0,hr0,w0,hi0⟩:=zaA G hD
      refine Ql (fun c s v=>∃(fr:Int) (r:List Int) (a:Int),Wk (Dg L n) (nbr L) (i:Int) fr r a∧(r=[]→a=mnI (nbr L fr).1 (nbr L fr).2)∧c=n-(fr::r).length∧zjy (nbr L) (i:Int) (n+1-(fr::r).length+1) fr r a=fr0::r0 ∧
        s=((n:Int),L,dgs L n,zV L n i,(zV L n i).flatten,(i:Int),(fr::r).reverse)∧v=some (zV L n n,0,0)) ?_ (m+1000) (n-1) _ _ ⟨(i:Int),[],mnI (nbr L (i:Int)).1 (nbr L (i:Int)).2,Wk.first hD (zp1 _ _),fun _=>rfl,by simp,?_,rfl,rfl⟩ (by omega)
      ·rintro c s v ⟨fr,r,a,w,hmin,rfl,hw,rfl,rfl⟩ next3 hn3
       have hlen:=w.len G
       have hl1:((fr::r).reverse).length=r.length+1:=by simp
       have hlast:rdD 0 (fr::r).reverse ((r.length:Nat):Int)=fr:=by
        rw [zY _ _ r.length (by simp)];simp
       have el:w64 ((((fr::r).reverse).length:Int)-1)=((r.length:Nat):Int):=by
        simp only [List.length_cons] at hlen
        rw [hl1,zl (by omega) (by omega)];omega
       dsimp only
       simp only [List.length_cons] at hlen
       rw [el,zP (zA ⟨by omega,by rw [hl1];omega⟩),hlast,zvw m n L fr _ hL (by rw [hl1];omega) ok,zr,zvA lp w hmin]
       by_cases e:a=(i:Int)
       ·rw [if_pos e,zk (by omega)]
        subst e
        rw [zjy,if_pos rfl] at hw
        have hol:=zfg L n i
        rw [zP (jG (by omega)),zP (jG (by rw [hl1];omega)),zl (x:=(i:Int)+1) (by omega) (by omega)]
        rw [hw,←hr0]
        have ef:(zV L n i++[ring (nbr L) n (i:Int)]).flatten=(zV L n i).flatten++ring (nbr L) n (i:Int):=by simp
        rw [ef] at hn'
        exact hn'
       ·have w':=w.step G e
        have ha:=(w'.d a List.mem_cons_self).1
        have hlen':=w'.len G
        rw [if_neg e,zg (by omega),zP (jG (by rw [hl1];omega))]
        refine hn3 (n-(a::fr::r).length) _ _ (by simp only [List.length_cons] at hlen' ⊢;omega) ⟨a,fr::r,oth (nbr L a) fr,w',fun h=>(by cases h),rfl,?_,by simp,rfl⟩
        rw [zjy,if_neg e] at hw
        rw [show n+1-(a::fr::r).length+1=n+1-(fr::r).length from by simp only [List.length_cons] at hlen' ⊢;omega]
        exact hw
      ·have:ring (nbr L) n (i:Int)=(zjy (nbr L) (i:Int) (n+1) (i:Int) [] (mnI (nbr L (i:Int)).1 (nbr L (i:Int)).2)).reverse:=rfl
       rw [this] at hr0
       have:=List.reverse_inj.1 hr0
       rw [show n+1-[(i:Int)].length+1=n+1 from by simp]
       exact this
     ·intro k hk next2 hn2
      dsimp only at hn2 ⊢
      rw [zk (by omega),zY _ _ k hk,zl (x:=(k:Int)+1) (by omega) (by omega)]
      rw [List.take_succ_eq_append_getElem hk] at hn2
      by_cases c:dgr L (i:Int)=0∨(i:Int)∈(zV L n i).flatten.take k
      ·rw [decide_eq_true c,cT]
       rw [decide_eq_true (c.imp id fun h=>List.mem_append_left _ h)] at hn2
       exact hn2
      ·rw [decide_eq_false c,cF,zP (zA ⟨by omega,by omega⟩)]
       have:decide ((zV L n i).flatten[k]=(i:Int))=decide (dgr L (i:Int)=0∨(i:Int)∈(zV L n i).flatten.take k++[(zV L n i).flatten[k]]):=by
        rw [decide_eq_decide]
        constructor
        ·intro h;exact .inr (List.mem_append_right _ (by rw [h];simp))
        ·rintro (h|h)
         ·exact absurd (.inl h) c
         ·rcases List.mem_append.1 h with h|h
          ·exact absurd (.inr h) c
          ·exact (List.mem_singleton.1 h).symm
       rw [this]
       exact hn2
   ·intro i hi next hn'
    dsimp only at hn' ⊢
    simp only [zx]
    rw [bifT i (by omega)]
    refine (step i (by omega) _ _).trans ?_
    rw [if_neg (by rw [r1 hodd i (Nat.zero_le _) hi];simp),zl (x:=(i:Int)+1) (by omega) (by omega)]
    exact hn'
 ·intro i hi next hn'
  dsimp only at hn' ⊢
  rw [zk (by omega)]
  refine zG (fun k=>((n:Int),L,dgs L n,(i:Int),(k:Int))) i (fun _=>some (zdb L n)) ?_ ?_ (m+1000) 0 (Nat.zero_le _) (by omega)
  ·intro next2
   dsimp only
   rw [zg (by omega),zl (x:=(i:Int)+1) (by omega) (by omega)]
   exact hn'
  ·intro k hk next2 hn2
   dsimp only at hn2 ⊢
   rw [zk (by omega),zP (zA ⟨by omega,by omega⟩),zP (zA ⟨by omega,by omega⟩),zY _ L i hi,zY _ L k (by omega),zl (x:=(k:Int)+1) (by omega) (by omega)]
   simp only [Ye]
   rw [zzB,zr,zg (fun e=>List.pairwise_iff_getElem.1 two k i (by omega) hi hk e.symm)]
   exact hn2
end Go.Proofs.YtpkkcjmblocjdaaGreat.Pure
end
section
namespace Go.Proofs.YtpkkcjmblocjdaaGreat.Pure
open Go.RowKit Go.Proofs.YtpkkcjmblocjdaaGreat.AM PL
theorem zky {n:Nat} {L:List Pt} (lp:Lp n L):∀i,i≤n→∀r∈zV L n i,∃v:Int,Dg L n v∧r=ring (nbr L) n v
 |0,_,r,hr=>by simp [zV] at hr
 |i+1,hi,r,hr=>by
  rw [Xb] at hr
  unfold zeM at hr
  split at hr
  ·exact zky lp i (by omega) r hr
  ·rename_i c
   rcases List.mem_append.1 hr with hr|hr
   ·exact zky lp i (by omega) r hr
   ·have hd:dgr L (i:Int)=2:=(lp.deg i (by omega)).resolve_left (fun h=>c (.inl h))
    exact ⟨(i:Int),⟨⟨by omega,by omega⟩,hd⟩,List.mem_singleton.1 hr⟩
theorem zkR {n:Nat} {D:Int→Prop} {nb:Int→Pt} (G:Rg n D nb) {i fr:Int} {r:List Int} (w:Wk D nb i fr r i):3≤(fr::r).length:=by
 match r,w with
 |[],w =>
  have hl:=w.last
  have hfi:fr=i:=by simpa using hl
  have hnv:=G.nv fr (w.d fr List.mem_cons_self)
  rcases w.to with h|h
  ·exact absurd (h.symm.trans hfi.symm) hnv.1
  ·exact absurd (h.symm.trans hfi.symm) hnv.2
 |[p],w =>
  have hl:=w.last
  have hpi:p=i:=by simpa using hl
  exact absurd hpi.symm (w.pr p rfl).2
 |p::q::r,w=>simp
theorem zqF {n:Nat} {L:List Pt} (lp:Lp n L) {v:Int} (h:Dg L n v):3≤(ring (nbr L) n v).length:=by
 obtain ⟨fr,r,e,w,_⟩:=zaA lp.rg h
 rw [e,List.length_reverse]
 exact zkR lp.rg w
theorem zrY {nb:Int→Pt} {O:Int→Prop} (cl:∀x,O x→O (nb x).1∧O (nb x).2):∀(l:List Int) (a:Int),Ch nb (a::l)→∀x∈l,O x→∀z,(a::l).getLast?=some z→O z
 |[],a,_,x,hx,_,z,_=>by cases hx
 |[b],a,_,x,hx,ho,z,hz=>by
  obtain rfl:x=b:=by simpa using hx
  have:x=z:=by simpa using hz
  rw [←this];exact ho
 |b::c::l,a,h,x,hx,ho,z,hz=>by
  have ht:Ch nb (b::c::l):=h.2
  have hz':(b::c::l).getLast?=some z:=by rw [List.getLast?_cons_cons] at hz;exact hz
  rcases List.mem_cons.1 hx with rfl|hx
  ·have hc:O c:=by
    rcases h.1 with ⟨_,e⟩|⟨e,_⟩<;>rw [←e]
    ·exact (cl _ ho).2
    ·exact (cl _ ho).1
   exact zrY cl (c::l) x ht c List.mem_cons_self hc z hz'
  ·exact zrY cl (c::l) b ht x hx ho z hz'
theorem zrI {nb:Int→Pt}:∀(l:List Int) (a b c:Int),Ch nb (a::b::c::l)→∀z,(a::b::c::l).getLast?=some z→∃y∈b::c::l,(z=(nb y).1∨z=(nb y).2)
 |[],a,b,c,h,z,hz=>by
  have:c=z:=by simpa using hz
  subst this
  refine ⟨b,by simp,?_⟩
  rcases h.1 with ⟨_,e⟩|⟨e,_⟩
  ·exact .inr e.symm
  ·exact .inl e.symm
 |d::l,a,b,c,h,z,hz=>by
  have hz':(b::c::d::l).getLast?=some z:=by rw [List.getLast?_cons_cons] at hz;exact hz
  obtain ⟨y,hy,e⟩:=zrI l b c d h.2 z hz'
  exact ⟨y,List.mem_cons_of_mem _ hy,e⟩
section
variable {n:Nat} {D:Int→Prop} {nb:Int→Pt} (G:Rg n D nb) {i fr:Int} {r:List Int}
include G
theorem zsZ (w:Wk D nb i fr r i):∀x∈fr::r,(nb x).1∈fr::r∧(nb x).2∈fr::r:=by
 have h3:=zkR G w
 intro x hx
 match r,w,h3,hx with
 |p::q::r,w,h3,hx =>
 have him:i∈fr::p::q::r:=List.mem_of_getLast? w.last
 have two:∀(x a b:Int),(a=(nb x).1∨a=(nb x).2)→(b=(nb x).1∨b=(nb x).2)→a≠b→a∈fr::p::q::r→b∈fr::p::q::r→(nb x).1∈fr::p::q::r∧(nb x).2∈fr::p::q::r:=by
  intro x a b ha hb hne h1 h2
  rcases ha with ha|ha<;>rcases hb with hb|hb
  ·exact absurd (ha.trans hb.symm) hne
  ·rw [←ha,←hb];exact ⟨h1,h2⟩
  ·rw [←ha,←hb];exact ⟨h2,h1⟩
  ·exact absurd (ha.trans hb.symm) hne
 rcases List.mem_cons.1 hx with rfl|hx'
 ·exact two x i p w.to (w.pr p rfl).1 (w.pr p rfl).2 him (by simp)
 ·by_cases e:x=i
  ·subst e
   obtain ⟨y,hy,hyx⟩:=zrI r fr p q w.ch x w.last
   have hfr:=w.d fr List.mem_cons_self
   have hyD:=w.d y (List.mem_cons_of_mem _ hy)
   refine two x fr y (G.sym fr hfr x w.to) (G.sym y hyD x hyx) (fun e=>?_) List.mem_cons_self (List.mem_cons_of_mem _ hy)
   exact (List.nodup_cons.1 w.nd).1 (e ▸ hy)
  ·have hin:=zvY (p::q::r) fr w.ch x hx' (by rw [w.last];intro h;injection h with h;exact e h.symm)
   exact hin
theorem zuv {O:Int→Prop} (cl:∀x,O x→O (nb x).1∧O (nb x).2) (w:Wk D nb i fr r i) {x:Int} (hx:x∈fr::r) (ho:O x):O i:=by
 have h3:=zkR G w
 match r,w,h3,hx with
 |p::q::r,w,h3,hx =>
 rcases List.mem_cons.1 hx with rfl|hx
 ·have:O p:=by
   rcases (w.pr p rfl).1 with e|e<;>rw [e]
   ·exact (cl _ ho).1
   ·exact (cl _ ho).2
  exact zrY cl (p::q::r) x w.ch p (by simp) this i w.last
 ·exact zrY cl (p::q::r) fr w.ch x hx ho i w.last
end
structure Oi (L:List Pt) (n i:Nat):Prop where
 nd:(zV L n i).flatten.Nodup
 d:∀x∈(zV L n i).flatten,Dg L n x
 cl:∀x∈(zV L n i).flatten,(nbr L x).1∈(zV L n i).flatten∧(nbr L x).2∈(zV L n i).flatten
 al:∀v:Nat,v<i→Dg L n (v:Int)→(v:Int)∈(zV L n i).flatten
theorem oi {n:Nat} {L:List Pt} (lp:Lp n L):∀i,i≤n→Oi L n i
 |0,_=>⟨by simp [zV],fun x hx=>by simp [zV] at hx,fun x hx=>by simp [zV] at hx,fun v hv=>by omega⟩
 |i+1,hi=>by
  have I:=oi lp i (by omega)
  have G:=lp.rg
  by_cases c:dgr L (i:Int)=0∨(i:Int)∈(zV L n i).flatten
  ·have e:zV L n (i+1)=zV L n i:=by rw [Xb];unfold zeM;rw [if_pos c]
   refine ⟨by rw [e];exact I.nd,by rw [e];exact I.d,by rw [e];exact I.cl,fun v hv hd=>?_⟩
   rw [e]
   by_cases hvi:v=i
   ·subst hvi
    rcases c with c|c
    ·have:=hd.2;omega
    ·exact c
   ·exact I.al v (by omega) hd
  ·have hd:dgr L (i:Int)=2:=(lp.deg i (by omega)).resolve_left (fun h=>c (.inl h))
   have hD:Dg L n (i:Int):=⟨⟨by omega,by omega⟩,hd⟩
   obtain ⟨fr,r,hr,w,him⟩:=zaA G hD
   have e:(zV L n (i+1)).flatten=(zV L n i).flatten++(fr::r).reverse:=by
    rw [Xb];unfold zeM;rw [if_neg c,hr];simp
   have mem:∀x,x∈(zV L n (i+1)).flatten↔(x∈(zV L n i).flatten∨x∈fr::r):=by
    intro x;rw [e,List.mem_append,List.mem_reverse]
   refine ⟨?_,fun x hx=>?_,fun x hx=>?_,fun v hv hd=>?_⟩
   ·rw [e,List.nodup_append]
    refine ⟨I.nd,(by unfold List.Nodup;rw [List.pairwise_reverse];exact w.nd.imp (fun h=>h.symm)),fun a ha b hb hab=>?_⟩
    subst hab
    exact c (.inr (zuv G (O:=fun x=>x∈(zV L n i).flatten) (fun x hx=>I.cl x hx) w (List.mem_reverse.1 hb) ha))
   ·exact ((mem x).1 hx).elim (I.d x) (w.d x)
   ·rcases (mem x).1 hx with hx|hx
    ·exact ⟨(mem _).2 (.inl (I.cl x hx).1),(mem _).2 (.inl (I.cl x hx).2)⟩
    ·have:=zsZ G w x hx
     exact ⟨(mem _).2 (.inr this.1),(mem _).2 (.inr this.2)⟩
   ·by_cases hvi:v=i
    ·subst hvi;exact (mem _).2 (.inr him)
    ·exact (mem _).2 (.inl (I.al v (by omega) hd))
theorem zrg (L:List Pt):∀n,(∀v:Nat,v<n→dgr L (v:Int)=0∨dgr L (v:Int)=2)→smN (fun v=>dgr L (v:Int)) n=2*((List.range n).filter fun v=>decide (dgr L ((v:Nat):Int)=2)).length
 |0,_=>rfl
 |n+1,h=>by
  rw [smN,zrg L n (fun v hv=>h v (by omega)),List.range_succ,List.filter_append,List.length_append]
  rcases h n (by omega) with e|e
  ·rw [e,List.filter_cons_of_neg (by rw [e];decide)];simp
  ·rw [e,List.filter_cons_of_pos (by rw [e];decide)];simp;omega
theorem zks {n:Nat} {L:List Pt} (lp:Lp n L):(zV L n n).flatten.length=L.length:=by
 have I:=oi lp n (Nat.le_refl _)
 have hs:=zrB (fun s hs=>(lp.ok s hs).1)
 rw [zrg L n lp.deg] at hs
 generalize hF:(List.range n).filter (fun v=>decide (dgr L ((v:Nat):Int)=2))=F at hs
 have memF:∀v:Nat,v∈F↔Dg L n (v:Int):=by
  intro v
  rw [←hF,List.mem_filter,List.mem_range,decide_eq_true_eq]
  exact ⟨fun h=>⟨⟨by omega,by omega⟩,h.2⟩,fun h=>⟨by have:=h.1;omega,h.2⟩⟩
 have ndF:F.Nodup:=by rw [←hF];exact List.Nodup.sublist List.filter_sublist List.nodup_range
 have h1:((zV L n n).flatten.map Int.toNat).Nodup:=by
  unfold List.Nodup
  rw [List.pairwise_map]
  refine List.Pairwise.imp_of_mem (fun {a b} ha hb h=>?_) I.nd
  have:=(I.d a ha).1;have:=(I.d b hb).1
  omega
 have l1:(zV L n n).flatten.length≤F.length:=by
  have:=h1.length_le_of_subset (l₂:=F) (fun x hx=>by
   obtain ⟨y,hy,rfl⟩:=List.mem_map.1 hx
   have hd:=I.d y hy
   rw [memF,show ((y.toNat:Nat):Int)=y from by have:=hd.1;omega]
   exact hd)
  rw [List.length_map] at this;exact this
 have l2:F.length≤(zV L n n).flatten.length:=by
  have:=ndF.length_le_of_subset (l₂:=(zV L n n).flatten.map Int.toNat) (fun v hv=>by
   have hd:=(memF v).1 hv
   exact List.mem_map.2 ⟨(v:Int),I.al v (by have:=hd.1;omega) hd,by simp⟩)
  rw [List.length_map] at this;exact this
 omega
end Go.Proofs.YtpkkcjmblocjdaaGreat.Pure
end
section
namespace Go.Proofs.YtpkkcjmblocjdaaGreat.Pure
open Go.RowKit Go.Proofs.YtpkkcjmblocjdaaGreat.AM PL
def ix (r:List Int) (i:Nat):Int:=rdD 0 r (i:Int)
def wsg (r:List Int):List Pt:=(List.range r.length).map fun i=>(ix r i,ix r ((i+1) % r.length))
theorem zrA (r:List Int):(wsg r).length=r.length:=by unfold wsg;simp
theorem zww (m:Nat) (r:List Int) (hl:r.length≤350):jT (m+400) r=some (wsg r):=by
 unfold jT
 refine zG (fun i=>(r,(List.range i).map fun i=>(ix r i,ix r ((i+1) % r.length)),(i:Int))) r.length (fun _=>some (wsg r)) ?_ ?_ (m+400) 0 (Nat.zero_le _) (by omega)
 ·intro next
  dsimp only
  rw [zg (by omega)];rfl
 ·intro i hi next hn
  dsimp only at hn ⊢
  simp only [zx]
  have hm:(i+1) % r.length<r.length:=Nat.mod_lt _ (by omega)
  rw [List.range_succ,List.map_append] at hn
  have hin:inb (i:Int) r.length=true:=zA ⟨by omega,by omega⟩
  have hfew:few (((List.range i).map fun i=>(ix r i,ix r ((i+1) % r.length))).length+1)=true:=by unfold few;simp;omega
  rw [zk (by omega),zl (x:=(i:Int)+1) (by omega) (by omega)]
  simp only [hin,gT,hfew]
  by_cases e:(i:Int)+1=(r.length:Int)
  ·rw [zk e,zP (zA ⟨by omega,by omega⟩)]
   have e2:(i+1) % r.length=0:=by rw [show i+1=r.length by omega];exact Nat.mod_self _
   simp only [List.map_cons,List.map_nil,e2] at hn
   exact hn
  ·rw [zg e,zP (zA ⟨by omega,by omega⟩)]
   have e2:(i+1) % r.length=i+1:=Nat.mod_eq_of_lt (by omega)
   simp only [List.map_cons,List.map_nil,e2] at hn
   exact hn
def rg (R:List (List Int)) (i:Nat):List Int:=rdD [] R (i:Int)
def okr (p:List Pt) (r:List Int):Bool:=okl p 1 (wsg r)&&!decide (r.length=0)
def dnn (p:List Pt) (R:List (List Int)) (i k:Nat):Bool:=!decide (k=i)&&decide ((atv p (wsg (rg R k)) 1 (pt p (ix (rg R i) 0))).1=1)
def dcn (p:List Pt) (R:List (List Int)) (i:Nat):Nat→Nat
 |0=>0
 |k+1=>dcn p R i k+if dnn p R i k=true then 1 else 0
theorem zoZ (p:List Pt) (R:List (List Int)) (i k:Nat):dcn p R i (k+1)=dcn p R i k+if dnn p R i k=true then 1 else 0:=rfl
theorem zwf (p:List Pt) (R:List (List Int)) (i:Nat):∀k,dcn p R i k≤k
 |0=>Nat.le_refl _
 |k+1=>by
  have:=zwf p R i k
  unfold dcn;split<;>omega
def zhf (p:List Pt) (R:List (List Int)):List Int×Int:=if (R.all fun r=>okr p r)=true then ((List.range R.length).map fun i=>(dcn p R i R.length:Int),0) else ([],2)
theorem zml {p:List Pt} {r:List Int} (h:okr p r=true):r.length≠0∧okl p 1 (wsg r)=true∧inr (ix r 0) p.length∧Fit (pt p (ix r 0)):=by
 unfold okr at h
 simp only [Bool.and_eq_true,Bool.not_eq_true',decide_eq_false_iff_not] at h
 refine ⟨h.2,h.1,?_⟩
 have hm:(ix r 0,ix r ((0+1) % r.length))∈wsg r:=by
  unfold wsg
  exact List.mem_map.2 ⟨0,List.mem_range.2 (by omega),rfl⟩
 have:=of_decide_eq_true (List.all_eq_true.1 h.1 _ hm)
 exact ⟨this.1.1,this.2.2.1.1⟩
section
variable (m:Nat) (p:List Pt) (R:List (List Int)) (hR:R.length≤350) (hr:∀r∈R,r.length≤350)
include hR hr
theorem zuL {i:Nat} (hi:i<R.length):rg R i∈R:=by unfold rg;rw [zY _ R i hi];exact List.getElem_mem _
theorem zBf {r:List Int} (h:r.length≠0):inb 0 r.length=true:=zA ⟨by omega,by omega⟩
theorem zx2:jR (m+400) p R=some (zhf p R):=by
 unfold jR Km
 refine Ql (fun n s v=>∃i:Nat,i≤R.length∧(∀r∈R.take i,okr p r=true)∧n=R.length-i∧s=(p,R,(i:Int))∧v=some (zhf p R)) ?_ (m+400) R.length _ _ ⟨0,by omega,by simp,rfl,rfl,rfl⟩ (by omega)
 rintro n s v ⟨i,hi,hok,rfl,rfl,rfl⟩ next hn
 by_cases e:i=R.length
 ·subst e
  rw [List.take_length] at hok
  have hd:zhf p R=((List.range R.length).map fun i=>(dcn p R i R.length:Int),0):=by
   unfold zhf;rw [if_pos (List.all_eq_true.2 hok)]
  dsimp only
  rw [zg (by omega),hd]
  refine zG (fun i=>(p,R,(List.range i).map fun i=>(dcn p R i R.length:Int),(i:Int))) R.length (fun _=>some ((List.range R.length).map fun i=>(dcn p R i R.length:Int),0)) ?_ ?_ (m+400) 0 (Nat.zero_le _) (by omega)
  ·intro next
   dsimp only
   rw [zg (by omega)]
  ·intro i hi next hn
   dsimp only at hn ⊢
   rw [zk (by omega)]
   have hme:=zuL R hR hr hi
   obtain ⟨q1,q2,q3,q4⟩:=zml (hok _ hme)
   refine zG (fun k=>(p,R,(List.range i).map fun i=>(dcn p R i R.length:Int),(i:Int),(dcn p R i k:Int),(k:Int))) R.length (fun _=>some ((List.range R.length).map fun i=>(dcn p R i R.length:Int),0)) ?_ ?_ (m+400) 0 (Nat.zero_le _) (by omega)
   ·intro next2
    dsimp only
    rw [zg (by omega),zP (by unfold few;simp;omega),zl (x:=(i:Int)+1) (by omega) (by omega)]
    rw [List.range_succ,List.map_append] at hn
    exact hn
   ·intro k hk next2 hn2
    dsimp only at hn2 ⊢
    simp only [zx]
    have hmk:=zuL R hR hr hk
    have hc:=zwf p R i k
    obtain ⟨_,z2,_,_⟩:=zml (hok _ hmk)
    have es:rdD [] R (k:Int)=rg R k:=rfl
    have es2:rdD [] R (i:Int)=rg R i:=rfl
    have e0:rdD 0 (rg R i) 0=ix (rg R i) 0:=rfl
    have e1:rdD (0,0) p (ix (rg R i) 0)=pt p (ix (rg R i) 0):=rfl
    have i1:inb (k:Int) R.length=true:=zA ⟨by omega,by omega⟩
    have i2:inb (i:Int) R.length=true:=zA ⟨by omega,by omega⟩
    rw [zk (by omega),zl (x:=(k:Int)+1) (by omega) (by omega),zl (x:=(dcn p R i k:Int)+1) (by omega) (by omega)]
    simp only [i1,i2,gT,es,es2,e0,e1,zBf R hR hr q1,Jw q3,Ye]
    rw [zww m _ (hr _ hmk),zr,zny m p _ 1 _ (by omega) (by omega) (by rw [zrA];exact hr _ hmk) z2 q4,zr]
    have ea:atv p (wsg (rg R k)) 1 (pt p (ix (rg R i) 0))=(whr ((wsg (rg R k)).map (sgm p 1)) (pt p (ix (rg R i) 0)),0):=by
     unfold atv;rw [if_pos ⟨z2,q4⟩]
    have ek:decide ((k:Int)=(i:Int))=decide (k=i):=by rw [decide_eq_decide];omega
    rw [ek]
    have hz0:dnn p R i k=(!decide (k=i)&&decide ((atv p (wsg (rg R k)) 1 (pt p (ix (rg R i) 0))).1=1)):=rfl
    rw [zoZ,hz0] at hn2
    rw [ea] at hn2
    cases hk0:decide (k=i)
    ·cases hz:decide (whr ((wsg (rg R k)).map (sgm p 1)) (pt p (ix (rg R i) 0))=1)
     ·rw [hk0,hz] at hn2;exact hn2
     ·rw [hk0,hz] at hn2;exact hn2
    ·rw [hk0] at hn2;exact hn2
 ·have hi':i<R.length:=by omega
  dsimp only
  simp only [zx]
  have hin:inb (i:Int) R.length=true:=zA ⟨by omega,by omega⟩
  rw [zk (by omega),zl (x:=(i:Int)+1) (by omega) (by omega),zY _ R i hi']
  simp only [hin,gT]
  have hmem:R[i]∈R:=List.getElem_mem _
  have hl:=hr R[i] hmem
  have htake:R.take (i+1)=R.take i++[R[i]]:=by rw [List.take_succ_eq_append_getElem hi']
  have hn':okr p R[i]=true→next (p,R,(i:Int)+1)=some (zhf p R):=fun h=>hn (R.length-(i+1)) _ _ (by omega) ⟨i+1,by omega,by
   rw [htake];intro r hx
   rcases List.mem_append.1 hx with hx|hx
   ·exact hok r hx
   ·rw [List.mem_singleton] at hx;rw [hx];exact h,rfl,rfl,rfl⟩
  have hbad:¬okr p R[i]=true→zhf p R=([],2):=by
   intro h;unfold zhf;rw [if_neg];intro ha;exact h (List.all_eq_true.1 ha _ hmem)
  rw [zww m _ hl,zr,zrr m p _ 1 (by omega) (by omega) (by rw [zrA];exact hl),zr]
  by_cases h0:R[i].length=0
  ·rw [decide_eq_true (show (R[i].length:Int)=0 by omega),hbad (by unfold okr;simp [h0])];rfl
  ·rw [decide_eq_false (show ¬(R[i].length:Int)=0 by omega)]
   by_cases h:okl p 1 (wsg R[i])=true
   ·rw [h]
    exact hn' (by unfold okr;simp [h0,h])
   ·rw [hbad (by unfold okr;simp [h])]
    rw [Bool.not_eq_true] at h
    rw [h];rfl
end
end Go.Proofs.YtpkkcjmblocjdaaGreat.Pure
end
section
namespace Go.Proofs.YtpkkcjmblocjdaaGreat.Pure
open Go.RowKit Go.Proofs.YtpkkcjmblocjdaaGreat.AM PL
def Ad (nb:Int→Pt) (x y:Int):Prop:=(y=(nb x).1∨y=(nb x).2)∨(x=(nb y).1∨x=(nb y).2)
theorem Ad.symm {nb:Int→Pt} {x y:Int} (h:Ad nb x y):Ad nb y x:=Or.symm h
theorem zuX {nb:Int→Pt}:∀(l:List Int) (a b c:Int),Ch nb (a::b::c::l)→∀j (h:j+1<(a::b::c::l).length),Ad nb (a::b::c::l)[j] (a::b::c::l)[j+1]
 |[],a,b,c,h,j,hj=>by
  match j,hj with
  |0,_=>exact .inr (by rcases h.1 with ⟨e,_⟩|⟨_,e⟩<;>simp [e])
  |1,_=>exact .inl (by rcases h.1 with ⟨_,e⟩|⟨e,_⟩<;>simp [e])
 |d::l,a,b,c,h,0,hj=>.inr (by rcases h.1 with ⟨e,_⟩|⟨_,e⟩<;>simp [e])
 |d::l,a,b,c,h,j+1,hj=>zuX l b c d h.2 j (by simp only [List.length_cons] at hj ⊢;omega)
theorem zzS {n:Nat} {L:List Pt} (lp:Lp n L) {x y:Int} (hx:dgr L x=2) (hy:dgr L y=2) (h:Ad (nbr L) x y):∃s∈L,(s.1=x∧s.2=y)∨(s.1=y∧s.2=x):=by
 have one:∀{x y:Int},dgr L x=2→(y=(nbr L x).1∨y=(nbr L x).2)→∃s∈L,(s.1=x∧s.2=y)∨(s.1=y∧s.2=x):=by
  intro x y hd h
  obtain ⟨a,b,e1,e2,_⟩:=lp.two_nl hd
  have:y∈nl L x:=by
   rw [e1]
   rw [e2] at h
   rcases h with h|h<;>rw [h]<;>simp
  obtain ⟨s,hs,⟨h1,h2⟩|⟨h1,h2⟩⟩:=JT.1 this
  ·exact ⟨s,hs,.inl ⟨h1,h2⟩⟩
  ·exact ⟨s,hs,.inr ⟨h2,h1⟩⟩
 rcases h with h|h
 ·exact one hx h
 ·obtain ⟨s,hs,e⟩:=one hy h
  exact ⟨s,hs,Or.symm e⟩
theorem ze8 {n:Nat} {L:List Pt} (lp:Lp n L) {r:List Int} (hr:r∈zV L n n):Rng L r:=by
 obtain ⟨v,hv,rfl⟩:=zky lp n (Nat.le_refl _) r hr
 have h3:=zqF lp hv
 obtain ⟨fr,rr,e,w,_⟩:=zaA lp.rg hv
 rw [e] at h3 ⊢
 rw [List.length_reverse] at h3
 have hd:∀x∈(fr::rr).reverse,dgr L x=2:=fun x hx=>(w.d x (List.mem_reverse.1 hx)).2
 have nd:((fr::rr).reverse).Nodup:=by
  unfold List.Nodup
  rw [List.pairwise_reverse]
  exact w.nd.imp fun h=>h.symm
 refine ⟨nd,by rw [List.length_reverse];exact h3,fun i=>?_,hd⟩
 have h0:((fr::rr).reverse).length≠0:=by rw [List.length_reverse];omega
 refine zzS lp (hd _ (Zs _ h0)) (hd _ (Zs _ h0)) ?_
 obtain ⟨g1,e1⟩:=zcX (r:=(fr::rr).reverse) i h0
 obtain ⟨g2,e2⟩:=zcX (r:=(fr::rr).reverse) (i+1) h0
 rw [e1,e2,List.getElem_reverse,List.getElem_reverse]
 have hk:((fr::rr).reverse).length=(fr::rr).length:=List.length_reverse
 have hm:(i+1) % (fr::rr).length=if i % (fr::rr).length+1=(fr::rr).length then 0 else i % (fr::rr).length+1:=by
  have hlt:i % (fr::rr).length<(fr::rr).length:=Nat.mod_lt _ (by omega)
  rw [←Nat.mod_add_mod]
  split
  ·rename_i h;rw [h,Nat.mod_self]
  ·exact Nat.mod_eq_of_lt (by omega)
 have hlt:i % (fr::rr).length<(fr::rr).length:=Nat.mod_lt _ (by omega)
 simp only [hk] at g1 g2 ⊢
 match rr,w,h3 with
 |p::q::rr,w,h3 =>
  by_cases c:i % (fr::p::q::rr).length+1=(fr::p::q::rr).length
  ·rw [if_pos c] at hm
   have a1:(fr::p::q::rr)[(fr::p::q::rr).length-1-i % (fr::p::q::rr).length]'(by omega)=fr:=by
    have:(fr::p::q::rr).length-1-i % (fr::p::q::rr).length=0:=by omega
    simp only [this]
    rfl
   have a2:(fr::p::q::rr)[(fr::p::q::rr).length-1-(i+1) % (fr::p::q::rr).length]'(by omega)=v:=by
    have hl:=w.last
    rw [List.getLast?_eq_getElem?] at hl
    have:(fr::p::q::rr).length-1-(i+1) % (fr::p::q::rr).length=(fr::p::q::rr).length-1:=by omega
    simp only [this]
    rw [List.getElem?_eq_getElem (by omega)] at hl
    injection hl
   rw [a1,a2]
   exact .inl w.to
  ·rw [if_neg c] at hm
   have:=zuX rr fr p q w.ch ((fr::p::q::rr).length-1-(i+1) % (fr::p::q::rr).length) (by omega)
   have e3:(fr::p::q::rr).length-1-(i+1) % (fr::p::q::rr).length+1=(fr::p::q::rr).length-1-i % (fr::p::q::rr).length:=by omega
   simp only [e3] at this
   exact this.symm
theorem zrp (r:List Int):(cyc r).length=r.length:=by unfold cyc;simp
theorem znD {r:List Int} {i j:Nat} (h:i % r.length=j % r.length):at' r (i+1)=at' r (j+1):=by
 unfold at'
 rw [←Nat.mod_add_mod,h,Nat.mod_add_mod]
theorem zvL {L:List Pt} {r:List Int} (G:Rng L r):((cyc r).map nrm).Nodup:=by
 rw [List.nodup_iff_pairwise_ne,List.pairwise_map]
 unfold cyc
 rw [List.pairwise_map]
 have h0:r.length≠0:=by have:=G.three;omega
 refine (List.nodup_iff_pairwise_ne.1 (List.nodup_range (n:=r.length))).imp_of_mem fun {i j} hi hj hne e=>?_
 have hi:=List.mem_range.1 hi
 have hj:=List.mem_range.1 hj
 rcases zjP e with ⟨e1,e2⟩|⟨e1,e2⟩
 ·have:=zlv G.nd h0 e1
  rw [Nat.mod_eq_of_lt hi,Nat.mod_eq_of_lt hj] at this
  exact hne this
 ·have:=zlv G.nd h0 e2
  have:=znD this
  exact (zjZ G.nd G.three i).2 (e1.trans this.symm)
theorem zzw (s:Pt):nrm s=s∨nrm s=rv s:=zcm s
theorem zqY {n:Nat} {L:List Pt} (lp:Lp n L):(((zV L n n).flatMap cyc).map nrm).Perm (L.map nrm):=by
 have nA:(L.map nrm).Nodup:=by
  rw [List.nodup_iff_pairwise_ne,List.pairwise_map]
  exact lp.two
 have nB:(((zV L n n).flatMap cyc).map nrm).Nodup:=by
  rw [List.map_flatMap,List.nodup_iff_pairwise_ne,List.pairwise_flatMap]
  refine ⟨fun r hr=>List.nodup_iff_pairwise_ne.1 (zvL (ze8 lp hr)),?_⟩
  have hf:=(List.pairwise_flatten.1 (List.nodup_iff_pairwise_ne.1 (oi lp n (Nat.le_refl _)).nd)).2
  refine hf.imp_of_mem fun {r r'} hr hr' h x hx y hy e=>?_
  obtain ⟨s,hs,rfl⟩:=List.mem_map.1 hx
  obtain ⟨t,ht,rfl⟩:=List.mem_map.1 hy
  obtain ⟨i,hi,rfl⟩:=Q0.1 hs
  obtain ⟨j,hj,rfl⟩:=Q0.1 ht
  have m1:=Zs (r:=r) i (by omega)
  rcases zjP e with ⟨e1,e2⟩|⟨e1,e2⟩
  ·exact h _ m1 _ (Zs j (by omega)) e1
  ·exact h _ m1 _ (Zs (j+1) (by omega)) e1
 have sub:∀x∈((zV L n n).flatMap cyc).map nrm,x∈L.map nrm:=by
  intro x hx
  obtain ⟨s,hs,rfl⟩:=List.mem_map.1 hx
  obtain ⟨r,hr,hs⟩:=List.mem_flatMap.1 hs
  obtain ⟨i,hi,rfl⟩:=Q0.1 hs
  obtain ⟨t,ht,h⟩:=(ze8 lp hr).on i
  exact List.mem_map.2 ⟨t,ht,zeI h⟩
 have hlen:(((zV L n n).flatMap cyc).map nrm).length=(L.map nrm).length:=by
  rw [List.length_map,List.length_map,←zks lp,List.length_flatMap,List.length_flatten]
  congr 1
  exact List.map_congr_left fun r _=>zrp r
 refine zbh nB nA fun x=>⟨sub x,fun hx=>?_⟩
 apply Decidable.byContradiction
 intro hn
 have:=zpQ nB (r:=(L.map nrm).erase x) fun y hy=>(List.mem_erase_of_ne (fun e=>hn (by rw [←e];exact hy))).2 (sub y hy)
 rw [List.length_erase_of_mem hx,hlen] at this
 have:=List.length_pos_of_mem hx
 omega
end Go.Proofs.YtpkkcjmblocjdaaGreat.Pure
end
section
namespace Go.Proofs.YtpkkcjmblocjdaaGreat.Pure
open Go.RowKit Go.Proofs.YtpkkcjmblocjdaaGreat.AM PL
def add (a b:Pt):Pt:=(a.1+b.1,a.2+b.2)
theorem zmN {a b v u:Pt} (hab:a≠b) (hvu:v≠u) (fa:Fit a) (fb:Fit b) (fv:Fit v) (fu:Fit u) (nc:¬Cro a b v u) (i1:¬Ins a b v) (i3:¬Ins v u a) (i4:¬Ins v u b) (na:v≠a) (nb':v≠b):Q3 (sc 2 v) (add v u) (sc 2 a) (sc 2 b):=by
 have e1:crs (sc 2 a) (sc 2 b) (sc 2 v)=4*crs a b v:=by unfold crs sc;dsimp only;grind
 have e2:crs (sc 2 a) (sc 2 b) (add v u)=2*(crs a b v+crs a b u):=by unfold crs sc add;dsimp only;grind
 have e3:crs (sc 2 v) (add v u) (sc 2 a)=2*crs v u a:=by unfold crs sc add;dsimp only;grind
 have e4:crs (sc 2 v) (add v u) (sc 2 b)=2*crs v u b:=by unfold crs sc add;dsimp only;grind
 unfold Q3
 rw [e1,e2,e3,e4]
 by_cases hz:crs a b v=0∧crs a b u=0
 ·
  have l1:=zak hab hz.1 hz.2
  exact .inl ⟨by omega,by omega,by rw [l1.2.1];rfl,by rw [l1.2.2.1];rfl⟩
 ·refine .inr fun ⟨h1,h2⟩=>?_
  have nz:¬(crs v u a=0∧crs v u b=0):=by
   intro h
   have l2:=zak hvu h.1 h.2
   exact hz ⟨l2.2.1,l2.2.2.1⟩
  have ss:∀{x y:Int},sg x=sg y→(0<x↔0<y)∧(x<0↔y<0):=by
   intro x y h;unfold sg at h;(repeat' split at h)<;>omega
  have c0:crs a b v≠0:=by
   intro h0
   by_cases hB:Btw a.1 b.1 v.1∧Btw a.2 b.2 v.2
   ·exact i1 ⟨⟨hab,⟨fa,fb,fv⟩,h0,hB⟩,na,nb'⟩
   ·have:=ss (za0 (d:=u) hab h0 hB)
    unfold Opp at h2
    omega
  have d0:(0<crs a b v∧crs a b u<0)∨(crs a b v<0∧0<crs a b u):=by
   unfold Opp at h1
   omega
  have key:∀w,(w=a∨w=b)→crs v u w≠0:=by
   intro w hw h0
   have fw:Fit w:=by rcases hw with rfl|rfl<;>assumption
   have nw:¬Ins v u w:=by rcases hw with rfl|rfl<;>assumption
   have vw:w≠v:=by rcases hw with rfl|rfl;exact fun e=>na e.symm;exact fun e=>nb' e.symm
   by_cases hB:Btw v.1 u.1 w.1∧Btw v.2 u.2 w.2
   ·by_cases hwu:w=u
    ·have:crs a b u=0:=by
      rw [←hwu]
      rcases hw with rfl|rfl
      ·unfold crs;simp
      ·unfold crs;grind
     omega
    ·exact nw ⟨⟨hvu,⟨fv,fu,fw⟩,h0,hB⟩,vw,hwu⟩
   ·rcases hw with rfl|rfl
    ·have:=ss (za0 (d:=b) hvu h0 hB)
     omega
    ·have:=ss (za0 (d:=a) hvu h0 hB)
     have r1:crs w a v=-crs a w v:=Jc a w v
     have r2:crs w a u=-crs a w u:=Jc a w u
     omega
  have ka:=key a (.inl rfl)
  have kb:=key b (.inr rfl)
  refine nc ?_
  unfold Cro ori
  rw [if_pos ⟨fa,fb,fv⟩,if_pos ⟨fa,fb,fu⟩,if_pos ⟨fv,fu,fa⟩,if_pos ⟨fv,fu,fb⟩,zsn,zsn]
  refine ⟨d0,?_⟩
  unfold Opp at h2
  omega
theorem zkX {f:Nat→Nat→Bool} {n a:Nat}:row f n a 0=none↔∀k,k<n→f a k=false:=by
 obtain ⟨h1,h2⟩:=Yo f (n:=n) (a:=a) _ 0 rfl (Nat.zero_le _)
 refine ⟨fun h k hk=>h1 h k (Nat.zero_le _) hk,fun h=>?_⟩
 cases hr:row f n a 0 with
 |none=>rfl
 |some k=>obtain ⟨_,g2,g3,_⟩:=h2 k hr;rw [h k g2] at g3;cases g3
theorem zs3 {f:Nat→Nat→Bool} {n:Nat}:K7 f n 0=none↔∀i k,i<k→k<n→f i k=false:=by
 obtain ⟨h1,h2⟩:=YY f (n:=n) _ 0 rfl (Nat.zero_le _)
 refine ⟨fun h i k hi hk=>h1 h i k (Nat.zero_le _) hi hk,fun h=>?_⟩
 cases hr:K7 f n 0 with
 |none=>rfl
 |some q=>obtain ⟨_,g1,g2,g3,_⟩:=h2 q.1 q.2 hr;rw [h _ _ g1 g2] at g3;cases g3
theorem s2n {p:zy}:s2 p=none↔∀s∈sgs p,s.1≠s.2:=by
 unfold s2
 rw [zkX]
 constructor
 ·intro h s hs
  obtain ⟨k,hk,rfl⟩:=List.mem_iff_getElem.1 hs
  have:=h k hk
  unfold pnt at this
  rw [Qz hk] at this
  exact of_decide_eq_false this
 ·intro h k hk
  unfold pnt
  rw [Qz hk]
  exact decide_eq_false (h _ (List.getElem_mem _))
def Mt (P:List Pt) (s t:Pt):Prop:=¬(QF (en P s).1 (en P s).2 (en P t).1 (en P t).2).1>1
theorem s3n {p:zy}:s3 p=none↔(sgs p).Pairwise (Mt p.1):=by
 unfold s3
 rw [zs3,List.pairwise_iff_getElem,zde]
 constructor
 ·intro h i k hi hk hik
  have:=h i k hik hk
  unfold qQ at this
  rw [Xf p hi,Xf p hk,Qz hi,Qz hk] at this
  exact of_decide_eq_false this
 ·intro h i k hik hk
  unfold qQ
  have hi:i<(sgs p).length:=by omega
  rw [Xf p hi,Xf p hk,Qz hi,Qz hk]
  exact decide_eq_false (h i k hi hk hik)
theorem zr4 {k:Int} (hk:0<k) {q q' a b:Pt} (h:Q3 q q' a b):Q3 (sc k q) (sc k q') (sc k a) (sc k b):=by
 have kk:=zZ hk hk
 have z:∀x:Int,k*k*x=0↔x=0:=fun x=>⟨Qj kk,fun h=>by rw [h,Int.mul_zero]⟩
 have le:∀x:Int,k*k*x≤0↔x≤0:=fun x=>⟨zfs kk,fun h=>jo (Int.le_of_lt kk) h⟩
 have ge:∀x:Int,0≤k*k*x↔0≤x:=fun x=>⟨JL kk,fun h=>q5 (Int.le_of_lt kk) h⟩
 unfold Q3 Opp at *
 rw [Y7,Y7,Y7,Y7]
 simp only [z,le,ge]
 exact h
def ps (p:zy) (r:List Int):zy:=(p.1,cyc r,[])
theorem zuR (r:List Int):(cyc r).map (·.1)=r:=by
 unfold cyc
 rw [List.map_map]
 refine List.ext_getElem (by simp) fun i h1 h2=>?_
 rw [List.getElem_map,List.getElem_range]
 obtain ⟨h',e⟩:=zcX (r:=r) i (by omega)
 show at' r i=_
 rw [e]
 simp only [Nat.mod_eq_of_lt h2]
theorem zpf {L:List Pt} {r:List Int} (G:Rng L r):((cyc r).map (·.2)).Perm r:=by
 have h0:r.length≠0:=by have:=G.three;omega
 refine zbh ?_ G.nd fun x=>⟨fun hx=>?_,fun hx=>?_⟩
 ·unfold cyc
  rw [List.map_map,List.nodup_iff_pairwise_ne,List.pairwise_map]
  refine (List.nodup_iff_pairwise_ne.1 (List.nodup_range (n:=r.length))).imp_of_mem fun {i j} hi hj hne e=>?_
  have hi:=List.mem_range.1 hi
  have hj:=List.mem_range.1 hj
  have h1:=zlv G.nd h0 (i:=i+1) (j:=j+1) e
  have h2:(i+1+(r.length-1)) % r.length=(j+1+(r.length-1)) % r.length:=by rw [←Nat.mod_add_mod,h1,Nat.mod_add_mod]
  rw [show i+1+(r.length-1)=i+r.length by omega,show j+1+(r.length-1)=j+r.length by omega,Nat.add_mod_right,Nat.add_mod_right,Nat.mod_eq_of_lt hi,Nat.mod_eq_of_lt hj] at h2
  exact hne h2
 ·obtain ⟨s,hs,rfl⟩:=List.mem_map.1 hx
  obtain ⟨i,hi,rfl⟩:=Q0.1 hs
  exact Zs _ h0
 ·obtain ⟨i,hi,rfl⟩:=List.mem_iff_getElem.1 hx
  refine List.mem_map.2 ⟨(at' r (i+(r.length-1)),at' r (i+(r.length-1)+1)),Q0.2 ⟨(i+(r.length-1)) % r.length,Nat.mod_lt _ (by omega),?_⟩,?_⟩
  ·refine Prod.ext ?_ ?_
   ·unfold at';rw [Nat.mod_mod]
   ·exact znD (Nat.mod_mod _ _).symm
  ·show at' r (i+(r.length-1)+1)=r[i]
   obtain ⟨h',e⟩:=zcX (r:=r) (i+(r.length-1)+1) h0
   rw [e]
   simp only [show i+(r.length-1)+1=i+r.length by omega,Nat.add_mod_right,Nat.mod_eq_of_lt hi]
theorem zrw {L:List Pt} {r:List Int} (G:Rng L r) (v:Int):dgr (cyc r) v=if v∈r then 2 else 0:=by
 have c1:((cyc r).countP fun s=>decide (s.1=v))=r.count v:=by
  have:=congrArg (List.count v) (zuR r)
  rw [←this,List.count,List.countP_map]
  refine List.countP_congr fun s _=>?_
  simp
 have c2:((cyc r).countP fun s=>decide (s.2=v))=r.count v:=by
  rw [←(zpf G).count_eq v,List.count,List.countP_map]
  refine List.countP_congr fun s _=>?_
  simp
 unfold dgr
 rw [c1,c2]
 by_cases h:v∈r
 ·rw [if_pos h,G.nd.count,if_pos h]
 ·rw [if_neg h,List.count_eq_zero.2 h]
theorem znk (r:List Int) (h0:r.length≠0) (i:Nat):(at' r i,at' r (i+1))∈cyc r:=by
 refine Q0.2 ⟨i % r.length,Nat.mod_lt _ (by omega),Prod.ext ?_ ?_⟩
 ·unfold at';rw [Nat.mod_mod]
 ·exact znD (Nat.mod_mod _ _).symm
theorem Rng.own {L:List Pt} {r:List Int} (G:Rng L r):Rng (cyc r) r where
 nd:=G.nd
 three:=G.three
 on i:=⟨_,znk r (by have:=G.three;omega) i,.inl ⟨rfl,rfl⟩⟩
 deg x hx:=by rw [zrw G,if_pos hx]
theorem Rng.lp {n:Nat} {L:List Pt} {r:List Int} (G:Rng L r) (lp:Lp n L):Lp n (cyc r) where
 ok s hs:=by
  obtain ⟨i,hi,rfl⟩:=Q0.1 hs
  obtain ⟨t,ht,h⟩:=G.on i
  obtain ⟨⟨r1,r2⟩,ne⟩:=lp.ok t ht
  rcases h with ⟨e1,e2⟩|⟨e1,e2⟩
  ·rw [←e1,←e2];exact ⟨⟨r1,r2⟩,ne⟩
  ·rw [←e1,←e2];exact ⟨⟨r2,r1⟩,fun e=>ne e.symm⟩
 two:=by
  have:=zvL G
  rw [List.nodup_iff_pairwise_ne,List.pairwise_map] at this
  exact this
 deg v _:=by
  rw [zrw G]
  split
  ·exact .inr rfl
  ·exact .inl rfl
theorem Rng.len {n:Nat} {L:List Pt} {r:List Int} (G:Rng L r) (lp:Lp n L):r.length≤n:=by
 refine zl9 G.nd fun x hx=>?_
 have hd:=G.deg x hx
 have:0<(nl L x).length:=by rw [ziL,hd];decide
 obtain ⟨u,hu⟩:=List.exists_mem_of_length_pos this
 obtain ⟨s,hs,⟨e1,_⟩|⟨e1,_⟩⟩:=JT.1 hu
 ·rw [←e1];exact (lp.ok s hs).1.1
 ·rw [←e1];exact (lp.ok s hs).1.2
theorem Rt.ring {p:zy} (R:Rt p) {r:List Int} (G:Rng p.2.1 r):Rt (ps p r):=by
 have lp:=G.lp R.lp
 have sg:sgs (ps p r)=cyc r:=List.append_nil _
 have sm:=R.fine.sm
 have hlen:(cyc r).length≤p.1.length:=by rw [zrp];exact G.len R.lp
 have hP:=sm.P
 have hc:=sm.chk
 unfold chk at hc
 rw [Bool.and_eq_true,Bool.and_eq_true,decide_eq_true_eq] at hc
 have ci:∀i,∃t∈p.2.1,(t.1=at' r i∧t.2=at' r (i+1))∨(t.1=at' r (i+1)∧t.2=at' r i):=G.on
 have sm':Sm (ps p r):=by
  refine ⟨?_,hP,by show (cyc r).length≤150;omega,by show ([]:List Pt).length≤150;decide⟩
  unfold chk
  rw [Bool.and_eq_true,Bool.and_eq_true,Bool.and_eq_true]
  refine ⟨decide_eq_true ⟨hc.1.1,by show (cyc r).length≤400;omega,by show ([]:List Pt).length≤400;decide⟩,hc.2.1,?_,rfl⟩
  unfold Y2
  rw [List.all_eq_true]
  exact fun s hs=>decide_eq_true (lp.ok s hs).1
 refine ⟨⟨sm',R.fine.n1,s2n.2 fun s hs=>?_,s3n.2 ?_⟩,fun k hk s hs=>?_,lp,fun s hs=>by cases hs⟩
 ·rw [sg] at hs
  exact (lp.ok s hs).2
 ·rw [sg]
  refine lp.two.imp_of_mem fun {s t} hs ht hne=>?_
  obtain ⟨i,hi,rfl⟩:=Q0.1 hs
  obtain ⟨j,hj,rfl⟩:=Q0.1 ht
  obtain ⟨a,ha,ea⟩:=ci i
  obtain ⟨b,hb,eb⟩:=ci j
  have hab:a≠b:=by
   intro e
   subst e
   exact hne ((zeI ea).symm.trans (zeI eb))
  have:=znC (r:=fun s q:Pt=>(QF (pt p.1 q.1) (pt p.1 q.2) (pt p.1 s.1) (pt p.1 s.2)).1≤1) (fun {x y} h=>by rw [Je];exact h) (zmp R.fine) a (List.mem_append_left _ ha) b (List.mem_append_left _ hb) hab
  unfold Mt en
  show ¬(QF (pt p.1 (at' r i)) (pt p.1 (at' r (i+1))) (pt p.1 (at' r j)) (pt p.1 (at' r (j+1)))).1>1
  rcases ea with ⟨a1,a2⟩|⟨a1,a2⟩<;>rcases eb with ⟨b1,b2⟩|⟨b1,b2⟩<;>rw [a1,a2,b1,b2,Je] at this
  ·omega
  ·rw [zic] at this;omega
  ·rw [zcN] at this;omega
  ·rw [zcN,zic] at this;omega
 ·rw [sg] at hs
  obtain ⟨i,hi,rfl⟩:=Q0.1 hs
  obtain ⟨a,ha,⟨a1,a2⟩|⟨a1,a2⟩⟩:=ci i
  ·have:=R.s4 k hk a (List.mem_append_left _ ha)
   rw [a1,a2] at this
   exact this
  ·have:=R.s4 k hk a (List.mem_append_left _ ha)
   rw [a1,a2] at this
   exact fun h=>this (zeA.1 h)
end Go.Proofs.YtpkkcjmblocjdaaGreat.Pure
end
section
namespace Go.Proofs.YtpkkcjmblocjdaaGreat.Pure
open Go.RowKit Go.Proofs.YtpkkcjmblocjdaaGreat.AM PL
theorem zdl {α:Type} (h:α→Bool):∀l r:List α,xs (l++r) h=xor (xs l h) (xs r h)
 |[],r=>by rw [List.nil_append];show _=xor false _;rw [Bool.false_xor]
 |a::l,r=>by rw [List.cons_append,jF,jF,zdl h l r,Bool.xor_assoc]
theorem znm {α β:Type} (g:α→β) (h:β→Bool):∀l:List α,xs (l.map g) h=xs l fun x=>h (g x)
 |[]=>rfl
 |a::l=>by rw [List.map_cons,jF,jF,znm g h l]
theorem zri {α β:Type} (g:α→List β) (h:β→Bool):∀l:List α,xs (l.flatMap g) h=xs l fun x=>xs (g x) h
 |[]=>rfl
 |a::l=>by rw [List.flatMap_cons,zdl,jF,zri g h l]
theorem zw3 {α:Type} (h:α→Bool) {l r:List α} (p:l.Perm r):xs l h=xs r h:=by
 induction p with
 |nil=>rfl
 |cons a _ ih=>rw [jF,jF,ih]
 |swap a b l=>rw [jF,jF,jF,jF,Bool.xor_left_comm]
 |trans _ _ h1 h2=>rw [h1,h2]
theorem zs2 {p:zy} (R:Rt p) (q:Pt):Za p q=xs (zV p.2.1 p.1.length p.1.length) fun r=>Za (ps p r) q:=by
 have e0:∀L:List Pt,par (L.map (sgm p.1 6)) q=xs L fun s=>decide (Rgt (U6 p s.1) (U6 p s.2) q):=fun L=>zar p.1 6 q L
 have hn:∀s:Pt,decide (Rgt (U6 p (nrm s).1) (U6 p (nrm s).2) q)=decide (Rgt (U6 p s.1) (U6 p s.2) q):=by
  intro s
  rcases zzw s with e|e
  ·rw [e]
  ·rw [e,decide_eq_decide];exact zke
 show par (p.2.1.map (sgm p.1 6)) q=xs _ fun r=>par ((cyc r).map (sgm p.1 6)) q
 rw [e0,show (fun r=>par ((cyc r).map (sgm p.1 6)) q)=fun r=>xs (cyc r) fun s=>decide (Rgt (U6 p s.1) (U6 p s.2) q) from funext fun r=>e0 _,←zri]
 have:=zw3 (fun s=>decide (Rgt (U6 p s.1) (U6 p s.2) q)) (zqY R.lp)
 rw [znm,znm] at this
 rw [←Kn p.2.1 (fun s _=>hn s),←this]
 exact Kn _ fun s _=>hn s
section
variable {p:zy} (R:Rt p) {r r':List Int} (G:Rng p.2.1 r) (G':Rng p.2.1 r')
include R G
theorem zdz (i:Nat):GE p (at' r i) (at' r (i+1)):=by
 obtain ⟨s,hs,⟨e1,e2⟩|⟨e1,e2⟩⟩:=G.on i
 ·rw [←e1,←e2];exact qV R hs
 ·rw [←e1,←e2];exact (qV R hs).symm
include G'
theorem zqL (hd:∀x∈r,∀y∈r',x≠y) {x y c:Int} (hxy:(x=at' r 0∧y=at' r 1)∨(x=at' r 1∧y=at' r 0)) (T:zcu (U6 p) p.1.length (GE p) x y c):Za (ps p r') (c6 p x y c)=Za (ps p r') (U6 p (at' r 0)):=by
 have h0:r.length≠0:=by have:=G.three;omega
 have h0':r'.length≠0:=by have:=G'.three;omega
 have lp':=G'.lp R.lp
 have em:m6 p x y=m6 p (at' r 0) (at' r 1):=by
  rcases hxy with ⟨e1,e2⟩|⟨e1,e2⟩
  ·rw [e1,e2]
  ·rw [e1,e2,zfE]
 have hx:x∈r:=by rcases hxy with ⟨e1,_⟩|⟨e1,_⟩<;>rw [e1]<;>exact Zs _ h0
 have s1:Za (ps p r') (c6 p x y c)=Za (ps p r') (m6 p x y):=by
  refine zpK (P:=p.1) lp' fun s hs=>?_
  obtain ⟨i,hi,rfl⟩:=Q0.1 hs
  obtain ⟨t,ht,h⟩:=G'.on i
  have d1:=hd x hx _ (Zs (r:=r') i h0')
  have d2:=hd x hx _ (Zs (r:=r') (i+1) h0')
  have fr:=zcs R T ht (by omega)
  rcases h with ⟨e1,e2⟩|⟨e1,e2⟩
  ·rw [e1,e2] at fr;exact fr
  ·rw [e1,e2] at fr;exact ziw fr
 have s2:Za (ps p r') (U6 p (at' r 0))=Za (ps p r') (m6 p (at' r 0) (at' r 1)):=by
  refine zpK (P:=p.1) lp' fun s hs=>?_
  obtain ⟨i,hi,rfl⟩:=Q0.1 hs
  have g1:=zdz R G 0
  have g2:=zdz R G' i
  obtain ⟨⟨r1,r2⟩,ne1⟩:=g1.ok R
  obtain ⟨⟨r3,r4⟩,ne2⟩:=g2.ok R
  have f1:=R.fine.sm.fit r1
  have f2:=R.fine.sm.fit r2
  have f3:=R.fine.sm.fit r3
  have f4:=R.fine.sm.fit r4
  have:=zmN (a:=pt p.1 (at' r' i)) (b:=pt p.1 (at' r' (i+1))) (v:=pt p.1 (at' r 0)) (u:=pt p.1 (at' r 1)) (fun e=>ne2 (R.fine.distI r3 r4 e)) (fun e=>ne1 (R.fine.distI r1 r2 e)) f3 f4 f1 f2 (fun hc=>g2.npc R g1 ((ziN f3 f4 f1 f2).1 hc)) (g2.out R r1) (g1.out R r3) (g1.out R r4) (fun e=>hd _ (Zs 0 h0) _ (Zs i h0') (R.fine.distI r1 r3 e)) (fun e=>hd _ (Zs 0 h0) _ (Zs (i+1) h0') (R.fine.distI r1 r4 e))
  have:=zr4 (k:=3) (by decide) this
  rw [zdD,zdD,zdD] at this
  exact this
 rw [s1,em,s2]
end
def zbH (p:zy) (l:List (List Int)) (v:Int):Bool:=xs l fun r'=>Za (ps p r') (U6 p v)
section
variable {p:zy} (R:Rt p) {l1 l2:List (List Int)} {r:List Int} (ho:zV p.2.1 p.1.length p.1.length=l1++r::l2)
include R ho
theorem zfA:Rng p.2.1 r:=ze8 R.lp (by rw [ho];simp)
theorem ze2 {r':List Int} (h:r'∈l1++l2):Rng p.2.1 r'∧∀x∈r,∀y∈r',x≠y:=by
 refine ⟨ze8 R.lp (by rw [ho];rcases List.mem_append.1 h with h|h<;>simp [h]),?_⟩
 have hf:=(List.pairwise_flatten.1 (List.nodup_iff_pairwise_ne.1 (oi R.lp p.1.length (Nat.le_refl _)).nd)).2
 rw [ho,List.pairwise_append] at hf
 intro x hx y hy e
 rcases List.mem_append.1 h with h|h
 ·exact hf.2.2 r' h r List.mem_cons_self y hy x hx e.symm
 ·exact (List.pairwise_cons.1 hf.2.1).1 r' h x hx y hy e
theorem zsV {x y c:Int} (hxy:(x=at' r 0∧y=at' r 1)∨(x=at' r 1∧y=at' r 0)) (g:ZV p x y c):Za (ps p r) (c6 p x y c)=!(zbH p (l1++l2) (at' r 0)):=by
 have G:=zfA R ho
 have e:=zs2 R (c6 p x y c)
 rw [g.mid,ho,zdl,jF,Bool.xor_left_comm,←zdl,Kn (l1++l2) (fun r' h'=>zqL R G (ze2 R ho h').1 (ze2 R ho h').2 hxy g.T)] at e
 unfold zbH
 revert e
 generalize Za (ps p r) (c6 p x y c)=a
 generalize xs (l1++l2) (fun r'=>Za (ps p r') (U6 p (at' r 0)))=b
 cases a<;>cases b<;>decide
theorem zwm:(isG p (at' r 0) (at' r 1)↔isG (ps p r) (at' r 0) (at' r 1))↔zbH p (l1++l2) (at' r 0)=false:=by
 have G:=zfA R ho
 have h0:r.length≠0:=by have:=G.three;omega
 have R':=R.ring G
 have hs:(at' r 0,at' r 1)∈(ps p r).2.1:=znk r h0 0
 have key:∀(P:Prop) (x y c:Int),((x=at' r 0∧y=at' r 1∧P)∨(x=at' r 1∧y=at' r 0∧¬P))→0<crs (U6 p x) (U6 p y) (U6 p c)→(∀t∈cyc r,¬((t.1=x∧t.2=y)∨(t.1=y∧t.2=x))→Q3 (c6 p x y c) (m6 p x y) (U6 p t.1) (U6 p t.2))→∀b:Bool,(b=true↔P)→xor (Za (ps p r) (c6 p x y c)) (Za (ps p r) (m6 p (at' r 0) (at' r 1)))=xor b (kap (U6 p (at' r 0)) (U6 p (at' r 1))):=by
  intro P x y c hxy pos fr b hb
  have cen:=(zaS p x y c).three (U6 p x) (U6 p y)
  rw [qk,qq] at cen
  rcases hxy with ⟨rfl,rfl,hP⟩|⟨rfl,rfl,hP⟩
  ·have:=Y1 R' hs (q:=c6 p (at' r 0) (at' r 1) c) (fun t ht hn=>fr t ht hn) (show crs (U6 p (at' r 0)) (U6 p (at' r 1)) _≠0 by omega)
   refine this.trans ?_
   rw [show decide (0<crs (U6 (ps p r) (at' r 0,at' r 1).1) (U6 (ps p r) (at' r 0,at' r 1).2) (c6 p (at' r 0) (at' r 1) c))=b by
    rw [hb.2 hP]
    exact decide_eq_true (show 0<crs (U6 p (at' r 0)) (U6 p (at' r 1)) _ by omega)]
   rfl
  ·have sw:=qf (U6 p (at' r 0)) (U6 p (at' r 1)) (c6 p (at' r 1) (at' r 0) c)
   have:=Y1 R' hs (q:=c6 p (at' r 1) (at' r 0) c) (fun t ht hn=>by
    have:=fr t ht fun e=>hn (Or.symm e)
    rw [zfE] at this
    exact this) (show crs (U6 p (at' r 0)) (U6 p (at' r 1)) _≠0 by omega)
   refine this.trans ?_
   rw [show decide (0<crs (U6 (ps p r) (at' r 0,at' r 1).1) (U6 (ps p r) (at' r 0,at' r 1).2) (c6 p (at' r 1) (at' r 0) c))=b by
    rw [Bool.eq_false_iff.2 fun h=>hP (hb.1 h)]
    exact decide_eq_false (show ¬0<crs (U6 p (at' r 0)) (U6 p (at' r 1)) _ by omega)]
   rfl
 have some1:∀q:zy,Rt q→onL q (at' r 0) (at' r 1)→∃x y c,((x=at' r 0∧y=at' r 1∧isG q (at' r 0) (at' r 1))∨(x=at' r 1∧y=at' r 0∧¬isG q (at' r 0) (at' r 1)))∧ZV q x y c:=by
  intro q Rq hq
  obtain ⟨h1,h2⟩:=zhN Rq hq
  by_cases h:isG q (at' r 0) (at' r 1)
  ·obtain ⟨c,g⟩:=h
   exact ⟨_,_,c,.inl ⟨rfl,rfl,⟨c,g⟩⟩,g⟩
  ·obtain ⟨c,g⟩:=h1.resolve_left h
   exact ⟨_,_,c,.inr ⟨rfl,rfl,h⟩,g⟩
 obtain ⟨x,y,c,hxy,g⟩:=some1 p R (G.on 0)
 obtain ⟨x',y',c',hxy',g'⟩:=some1 (ps p r) R' (G.own.on 0)
 have hxy1:(x=at' r 0∧y=at' r 1)∨(x=at' r 1∧y=at' r 0):=hxy.imp (fun h=>⟨h.1,h.2.1⟩) fun h=>⟨h.1,h.2.1⟩
 have fp:=zsV R ho hxy1 g
 have fr1:∀t∈cyc r,¬((t.1=x∧t.2=y)∨(t.1=y∧t.2=x))→Q3 (c6 p x y c) (m6 p x y) (U6 p t.1) (U6 p t.2):=by
  intro t ht hn
  obtain ⟨i,hi,rfl⟩:=Q0.1 ht
  obtain ⟨s,hs,h⟩:=G.on i
  have fr:=zcs R g.T hs (by dsimp only at hn;omega)
  rcases h with ⟨e1,e2⟩|⟨e1,e2⟩
  ·rw [e1,e2] at fr;exact fr
  ·rw [e1,e2] at fr;exact ziw fr
 classical
 have k1:=key _ x y c hxy g.T.pos fr1 (decide (isG p (at' r 0) (at' r 1))) decide_eq_true_iff
 have k2:=key _ x' y' c' hxy' g'.T.pos (fun t ht hn=>zcs R' g'.T ht hn) (decide (isG (ps p r) (at' r 0) (at' r 1))) decide_eq_true_iff
 rw [fp] at k1
 rw [show Za (ps p r) (c6 p x' y' c')=true from g'.mid] at k2
 have fin:decide (isG p (at' r 0) (at' r 1))=decide (isG (ps p r) (at' r 0) (at' r 1))↔zbH p (l1++l2) (at' r 0)=false:=by
  revert k1 k2
  generalize zbH p (l1++l2) (at' r 0)=a1
  generalize decide (isG p (at' r 0) (at' r 1))=a2
  generalize decide (isG (ps p r) (at' r 0) (at' r 1))=a3
  generalize Za (ps p r) (m6 p (at' r 0) (at' r 1))=a4
  generalize kap (U6 p (at' r 0)) (U6 p (at' r 1))=a5
  cases a1<;>cases a2<;>cases a3<;>cases a4<;>cases a5<;>decide
 rw [←fin,decide_eq_decide]
end
end Go.Proofs.YtpkkcjmblocjdaaGreat.Pure
end
section
namespace Go.Proofs.YtpkkcjmblocjdaaGreat.Pure
open Go.RowKit Go.Proofs.YtpkkcjmblocjdaaGreat.AM PL
theorem zwl {α:Type} (d:α) (h:α→Bool) (L:List α):xs L h=xs (List.range L.length) fun k=>h (rdD d L (k:Int)):=by
 have e:L=(List.range L.length).map fun k:Nat=>rdD d L (k:Int):=by
  refine List.ext_getElem (by simp) fun i h1 h2=>?_
  rw [List.getElem_map,List.getElem_range,zY d L i h1]
 have:=congrArg (fun l=>xs l h) e
 rw [znm] at this
 exact this
theorem zuA (f:Nat→Bool) (i:Nat):∀n,xs (List.range n) f=xor (if i<n then f i else false) (xs (List.range n) fun k=>!(decide (k=i))&&f k)
 |0=>by simp [xs]
 |n+1=>by
  have ih:=zuA f i n
  rw [List.range_succ,zdl,zdl,ih]
  have e1:∀g:Nat→Bool,xs [n] g=g n:=fun g=>by rw [jF];show xor _ false=_;rw [Bool.xor_false]
  rw [e1,e1]
  by_cases c:n=i
  ·subst c
   rw [if_neg (by omega),if_pos (by omega),decide_eq_true rfl,Bool.not_true,Bool.false_and,Bool.xor_false,Bool.false_xor,Bool.xor_comm]
  ·rw [decide_eq_false c,Bool.not_false,Bool.true_and]
   by_cases c2:i<n
   ·rw [if_pos c2,if_pos (by omega),Bool.xor_assoc]
   ·rw [if_neg c2,if_neg (by omega),Bool.xor_assoc]
theorem zrm (P:List Pt) (O:List (List Int)) (i:Nat):∀K,decide (dcn P O i K % 2=1)=xs (List.range K) fun k=>dnn P O i k
 |0=>rfl
 |K+1=>by
  rw [List.range_succ,zdl,←zrm P O i K,zoZ,jF]
  show _=xor _ (xor _ false)
  rw [Bool.xor_false]
  cases dnn P O i K with
  |true =>
   rw [if_pos rfl,Bool.xor_true,←decide_not,decide_eq_decide]
   omega
  |false=>rw [if_neg (by decide),Bool.xor_false];rfl
theorem zrO (r:List Int):wsg r=cyc r:=by
 unfold wsg cyc
 refine List.map_congr_left fun i hi=>?_
 have hi:=List.mem_range.1 hi
 unfold ix at'
 rw [Nat.mod_eq_of_lt hi]
section
variable {p:zy} (R:Rt p)
include R
theorem zyq {r:List Int} (G:Rng p.2.1 r) {v:Int} (hv:inr v p.1.length) (hn:v∉r):(atv p.1 (cyc r) 1 (pt p.1 v)).1=1↔Za (ps p r) (U6 p v)=true:=by
 have R':=R.ring G
 have h0:r.length≠0:=by have:=G.three;omega
 have hr:rim ((cyc r).map (sgm p.1 1)) (pt p.1 v)=false:=by
  refine ziD fun s hs ho=>?_
  rw [zgs,zgs] at ho
  obtain ⟨i,hi,rfl⟩:=Q0.1 hs
  have g:=zdz R G i
  obtain ⟨⟨r1,r2⟩,_⟩:=g.ok R
  refine g.out R hv ⟨ho,fun e=>hn ?_,fun e=>hn ?_⟩
  ·rw [R.fine.distI hv r1 e];exact Zs _ h0
  ·rw [R.fine.distI hv r2 e];exact Zs _ h0
 have ep:Za (ps p r) (U6 p v)=par ((cyc r).map (sgm p.1 1)) (pt p.1 v):=by
  unfold Za U6
  rw [show (6:Int)=6*1 from rfl]
  exact ziP (k:=6*1) (by decide) p.1 (cyc r) 1 (pt p.1 v) |> fun h=>by rwa [show (6:Int)*1*1=6*1 from rfl] at h
 unfold atv
 rw [if_pos ⟨R'.okl (by decide) (by decide),R.fine.sm.fit hv⟩,ep]
 unfold whr
 rw [hr,if_neg (by decide)]
 cases par ((cyc r).map (sgm p.1 1)) (pt p.1 v)<;>simp
theorem zrC {i:Nat} (hi:i<(zV p.2.1 p.1.length p.1.length).length):zV p.2.1 p.1.length p.1.length=(zV p.2.1 p.1.length p.1.length).take i++rg (zV p.2.1 p.1.length p.1.length) i::(zV p.2.1 p.1.length p.1.length).drop (i+1):=by
 unfold rg
 rw [zY _ _ i hi,←List.drop_eq_getElem_cons hi,List.take_append_drop]
theorem zjI {r:List Int} (G:Rng p.2.1 r) {x:Int} (hx:x∈r):inr x p.1.length:=by
 obtain ⟨i,hi,rfl⟩:=List.mem_iff_getElem.1 hx
 have:=((zdz R G i).ok R).1.1
 obtain ⟨h',e⟩:=zcX (r:=r) i (by omega)
 rw [e] at this
 simp only [Nat.mod_eq_of_lt hi] at this
 exact this
theorem zsP {i:Nat} (hi:i<(zV p.2.1 p.1.length p.1.length).length):decide (dcn p.1 (zV p.2.1 p.1.length p.1.length) i (zV p.2.1 p.1.length p.1.length).length % 2=1)=zbH p ((zV p.2.1 p.1.length p.1.length).take i++(zV p.2.1 p.1.length p.1.length).drop (i+1)) (at' (rg (zV p.2.1 p.1.length p.1.length) i) 0):=by
 have ho:=zrC R hi
 have G:=zfA R ho
 have h0:(rg (zV p.2.1 p.1.length p.1.length) i).length≠0:=by have:=G.three;omega
 have hx:=Zs (r:=rg (zV p.2.1 p.1.length p.1.length) i) 0 h0
 have apart:=fun {r':List Int}=>ze2 R ho (r':=r')
 have e1:=zwl [] (fun r'=>Za (ps p r') (U6 p (at' (rg (zV p.2.1 p.1.length p.1.length) i) 0))) (zV p.2.1 p.1.length p.1.length)
 rw [zuA _ i,if_pos hi] at e1
 have e2:xs (zV p.2.1 p.1.length p.1.length) (fun r'=>Za (ps p r') (U6 p (at' (rg (zV p.2.1 p.1.length p.1.length) i) 0)))=xor (Za (ps p (rg (zV p.2.1 p.1.length p.1.length) i)) (U6 p (at' (rg (zV p.2.1 p.1.length p.1.length) i) 0))) (zbH p ((zV p.2.1 p.1.length p.1.length).take i++(zV p.2.1 p.1.length p.1.length).drop (i+1)) (at' (rg (zV p.2.1 p.1.length p.1.length) i) 0)):=by
  have:=congrArg (fun l=>xs l (fun r'=>Za (ps p r') (U6 p (at' (rg (zV p.2.1 p.1.length p.1.length) i) 0)))) ho
  rw [zdl,jF,Bool.xor_left_comm,←zdl] at this
  exact this
 have e3:xs (List.range (zV p.2.1 p.1.length p.1.length).length) (fun k=>dnn p.1 (zV p.2.1 p.1.length p.1.length) i k)=xs (List.range (zV p.2.1 p.1.length p.1.length).length) fun k=>!(decide (k=i))&&Za (ps p (rdD [] (zV p.2.1 p.1.length p.1.length) (k:Int))) (U6 p (at' (rg (zV p.2.1 p.1.length p.1.length) i) 0)):=by
  refine Kn _ fun k hk=>?_
  have hk:=List.mem_range.1 hk
  unfold dnn
  by_cases c:k=i
  ·rw [decide_eq_true c];rfl
  ·rw [decide_eq_false c,Bool.not_false,Bool.true_and,Bool.true_and,zrO]
   have hm:rg (zV p.2.1 p.1.length p.1.length) k∈(zV p.2.1 p.1.length p.1.length).take i++(zV p.2.1 p.1.length p.1.length).drop (i+1):=by
    unfold rg
    rw [zY _ _ k hk,List.mem_append]
    rcases Nat.lt_or_gt_of_ne c with h|h
    ·exact .inl (List.mem_take_iff_getElem.2 ⟨k,by omega,rfl⟩)
    ·refine .inr (List.mem_drop_iff_getElem.2 ⟨k-(i+1),by omega,?_⟩)
     simp only [show i+1+(k-(i+1))=k by omega]
   obtain ⟨G',hd⟩:=apart hm
   have eix:ix (rg (zV p.2.1 p.1.length p.1.length) i) 0=at' (rg (zV p.2.1 p.1.length p.1.length) i) 0:=by unfold ix at';rw [Nat.zero_mod]
   rw [eix]
   show decide _=Za (ps p (rg (zV p.2.1 p.1.length p.1.length) k)) _
   rw [Bool.eq_iff_iff,decide_eq_true_eq]
   exact zyq R G' (zjI R G hx) fun h=>hd _ hx _ h rfl
 rw [zrm,e3]
 rw [e1] at e2
 revert e2
 generalize (xs (List.range (zV p.2.1 p.1.length p.1.length).length) fun k=>!(decide (k=i))&&Za (ps p (rdD [] (zV p.2.1 p.1.length p.1.length) (k:Int))) (U6 p (at' (rg (zV p.2.1 p.1.length p.1.length) i) 0)))=a
 generalize zbH p _ _=b
 show xor (Za (ps p (rg (zV p.2.1 p.1.length p.1.length) i)) (U6 p (at' (rg (zV p.2.1 p.1.length p.1.length) i) 0))) a=_→_
 generalize Za (ps p (rg (zV p.2.1 p.1.length p.1.length) i)) (U6 p (at' (rg (zV p.2.1 p.1.length p.1.length) i) 0))=c
 cases a<;>cases b<;>cases c<;>decide
theorem zph {α:Type} (d:α) (f:α→Int) (L:List α):sI f L=sI (fun k:Nat=>f (rdD d L (k:Int))) (List.range L.length):=by
 have e:L=(List.range L.length).map fun k:Nat=>rdD d L (k:Int):=by
  refine List.ext_getElem (by simp) fun i h1 h2=>?_
  rw [List.getElem_map,List.getElem_range,zY d L i h1]
 have:=congrArg (fun l=>sI f l) e
 rw [ziH] at this
 exact this
end
end Go.Proofs.YtpkkcjmblocjdaaGreat.Pure
end
section
namespace Go.Proofs.YtpkkcjmblocjdaaGreat.Pure
open Go.RowKit Go.Proofs.YtpkkcjmblocjdaaGreat.AM PL
theorem YX.s8 {p:zy} (R:YX p) {v:Int} (hv:inr v p.1.length) (hd:dgr (sgs p) v=0):(atv p.1 p.2.1 1 (pt p.1 v)).1=1:=by
 have h:=R.n8
 unfold Pure.s8 at h
 have:=(zkX.1 h) v.toNat (by have:=hv.1;have:=hv.2;omega)
 unfold zeb at this
 rw [Int.toNat_of_nonneg hv.1] at this
 simpa [hd] using this
theorem zzz {L:List Pt} {v:Int} (h:dgr L v≠0):∃s∈L,s.1=v∨s.2=v:=by
 have:0<(nl L v).length:=by rw [ziL];omega
 obtain ⟨u,hu⟩:=List.exists_mem_of_length_pos this
 obtain ⟨s,hs,⟨e1,_⟩|⟨e1,_⟩⟩:=JT.1 hu
 ·exact ⟨s,hs,.inl e1⟩
 ·exact ⟨s,hs,.inr e1⟩
theorem ztM {L:List Pt} {v:Int} (h:dgr L v=0):∀s∈L,s.1≠v∧s.2≠v:=by
 have h0:(nl L v).length=0:=by rw [ziL];exact h
 have:nl L v=[]:=List.eq_nil_of_length_eq_zero h0
 intro s hs
 refine ⟨fun e=>?_,fun e=>?_⟩
 ·have:=JT.2 ⟨s,hs,.inl ⟨e,rfl⟩⟩
  rename_i h1
  rw [h1] at this;cases this
 ·have:=JT.2 ⟨s,hs,.inr ⟨e,rfl⟩⟩
  rename_i h1
  rw [h1] at this;cases this
theorem zyv {U:Int→Pt} {n:Nat} {G:Int→Int→Prop} (N:Net U n G) {v d:Int} (rv:inr v n) (rd:inr d n) (S:zd3 U n G (U v) (U d)):Net U n (fun i j=>G i j∨(i=v∧j=d)∨(i=d∧j=v)) where
 ok i j h:=by
  rcases h with h|⟨rfl,rfl⟩|⟨rfl,rfl⟩
  ·exact N.ok i j h
  ·exact ⟨rv,rd⟩
  ·exact ⟨rd,rv⟩
 sym i j h:=by
  rcases h with h|⟨rfl,rfl⟩|⟨rfl,rfl⟩
  ·exact .inl (N.sym i j h)
  ·exact .inr (.inr ⟨rfl,rfl⟩)
  ·exact .inr (.inl ⟨rfl,rfl⟩)
 inj:=N.inj
 out i j h k hk:=by
  rcases h with h|⟨rfl,rfl⟩|⟨rfl,rfl⟩
  ·exact N.out i j h k hk
  ·exact S.1 k hk
  ·exact fun hb=>S.1 k hk (zcS hb)
 npc i j h k l h':=by
  have sw:∀{a b c d:Pt},PC a b c d→PC c d a b:=fun h=>⟨h.2,h.1⟩
  have own:∀{a b:Pt},¬PC a b a b:=fun h=>by have:=h.1;rw [qk,Int.zero_mul] at this;omega
  have own2:∀{a b:Pt},¬PC a b b a:=fun h=>own (zhj h)
  rcases h with h|⟨rfl,rfl⟩|⟨rfl,rfl⟩<;>rcases h' with h'|⟨rfl,rfl⟩|⟨rfl,rfl⟩
  ·exact N.npc i j h k l h'
  ·exact fun hp=>S.2 i j h (sw hp)
  ·exact fun hp=>S.2 i j h (ziB.1 (sw hp))
  ·exact S.2 k l h'
  ·exact own
  ·exact own2
  ·exact fun hp=>S.2 k l h' (ziB.1 hp)
  ·exact own2
  ·exact own
theorem zxu {U:Int→Pt} {n:Nat} {G:Int→Int→Prop} (N:Net U n G) {a b:Int} (g:G a b) (hab:U a≠U b) {m:Pt} (hm:Mid (U a) (U b) m) (hth:∀c,∃q,Cen (U a) (U b) (U c) q) {i j:Int} (gij:G i j) (hij:i≠j) (hne:¬((i=a∧j=b)∨(i=b∧j=a))):¬On (U i) (U j) m:=by
 obtain ⟨ri,rj⟩:=N.ok i j gij
 obtain ⟨ra,rb⟩:=N.ok a b g
 rcases zsb N g hm with ⟨c,T⟩|hall
 ·obtain ⟨q,hq⟩:=hth c
  exact znU N gij hij (T.tri3 N g) hm hq hne
 ·obtain ⟨d,h1,_⟩:=zrk (x:=(U b).1-(U a).1) (y:=(U b).2-(U a).2) (by
   apply Decidable.byContradiction
   intro hn
   exact hab (Prod.ext (by omega) (by omega)))
  have e0:crs (U a) (U b) m=0:=by have:=hm.two (U a) (U b);rw [qk,qq] at this;omega
  have hp:0<crs (U a) (U b) (m.1+d.1,m.2+d.2):=by
   have:crs (U a) (U b) (m.1+d.1,m.2+d.2)=crs (U a) (U b) m+(((U b).1-(U a).1)*d.2-((U b).2-(U a).2)*d.1):=by unfold crs;grind
   omega
  generalize ((m.1+d.1,m.2+d.2):Pt)=q at hp
  have cen:Cen (U a) (U b) (3*q.1-(U a).1-(U b).1,3*q.2-(U a).2-(U b).2) q:=⟨by dsimp only;omega,by dsimp only;omega⟩
  have hC:=cen.three (U a) (U b)
  rw [qk,qq] at hC
  generalize ((3*q.1-(U a).1-(U b).1,3*q.2-(U a).2-(U b).2):Pt)=C at cen hC
  have hC':0<crs (U a) (U b) C:=by omega
  have N':=zn9 N g hall hC'
  have T':=zq8 N g hall hC'
  have:=znU N' gij hij T' (q:=q) (m:=m) (by rw [je ra,je rb];exact hm) (by rw [je ra,je rb,zja];exact cen) hne
  rw [je ri,je rj] at this
  exact this
theorem zvS {p:zy} (R:Rt p) {v d:Int} (rv:inr v p.1.length) (rd:inr d p.1.length) (hvd:v≠d) (S:zd3 (U6 p) p.1.length (GE p) (U6 p v) (U6 p d)) {s:Pt} (hs:s∈p.2.1) (h1:s.1≠v) (h2:s.2≠v):Q3 (U6 p v) (m6 p v d) (U6 p s.1) (U6 p s.2):=by
 have g:=qV R hs
 obtain ⟨⟨r3,r4⟩,ne2⟩:=g.ok R
 have f1:=R.fine.sm.fit rv
 have f2:=R.fine.sm.fit rd
 have f3:=R.fine.sm.fit r3
 have f4:=R.fine.sm.fit r4
 have:=zmN (a:=pt p.1 s.1) (b:=pt p.1 s.2) (v:=pt p.1 v) (u:=pt p.1 d) (fun e=>ne2 (R.fine.distI r3 r4 e)) (fun e=>hvd (R.fine.distI rv rd e)) f3 f4 f1 f2 (fun hc=>S.2 _ _ g ((zr2 (by decide)).2 ⟨((ziN f3 f4 f1 f2).1 hc).2,((ziN f3 f4 f1 f2).1 hc).1⟩)) (g.out R rv) (fun hi=>S.1 _ r3 ((zlA (by decide)).2 (zdf hi))) (fun hi=>S.1 _ r4 ((zlA (by decide)).2 (zdf hi))) (fun e=>h1 (R.fine.distI rv r3 e).symm) (fun e=>h2 (R.fine.distI rv r4 e).symm)
 have:=zr4 (k:=3) (by decide) this
 rw [zdD,zdD,zdD] at this
 exact this
theorem zs6 {p:zy} (R:Rt p) {v d:Int} (rv:inr v p.1.length) (rd:inr d p.1.length) (hvd:v≠d) (S:zd3 (U6 p) p.1.length (GE p) (U6 p v) (U6 p d)) (hv:∀s∈p.2.1,s.1≠v∧s.2≠v) (hp:Za p (U6 p v)=true):GE p v d:=by
 have N:=zhx R
 have pvd:pt p.1 v≠pt p.1 d:=fun e=>hvd (R.fine.distI rv rd e)
 apply Classical.byContradiction
 intro hn
 have noin:∀k,inr k p.1.length→¬Ins (pt p.1 v) (pt p.1 d) (pt p.1 k):=fun k hk hi=>S.1 k hk ((zlA (by decide)).2 (zdf hi))
 refine hn (zpd R rv rd hvd noin (fun s hs=>?_) (zq7 R rv rd ?_ fun s hs=>?_))
 ·have gs:GE p s.1 s.2:=.inl hs
  obtain ⟨⟨r1,r2⟩,ne⟩:=gs.ok R
  refine zsv pvd (fun e=>ne (R.fine.distI r1 r2 e)) (fun hc=>?_) (noin _ r1) (noin _ r2) (gs.out R rv) (gs.out R rd) (fun e=>?_) (fun e=>?_)
  ·exact S.2 _ _ gs ((zr2 (by decide)).2 ((ziN (R.fine.sm.fit rv) (R.fine.sm.fit rd) (R.fine.sm.fit r1) (R.fine.sm.fit r2)).1 hc))
  ·exact hn (by rw [R.fine.distI rv r1 e.1,R.fine.distI rd r2 e.2];exact gs)
  ·exact hn (by rw [R.fine.distI rv r2 e.1,R.fine.distI rd r1 e.2];exact gs.symm)
 ·rw [←hp]
  exact (zpK (P:=p.1) R.lp fun s hs=>zvS R rv rd hvd S hs (hv s hs).1 (hv s hs).2).symm
 ·have N':=zyv N rv rd S
  have hh:=hv s hs
  exact zxu N' (a:=v) (b:=d) (.inr (.inl ⟨rfl,rfl⟩)) (fun e=>hvd (N.inj v d rv rd e)) (zgD p v d) (fun c=>⟨_,zaS p v d c⟩) (.inl (qV R hs)) ((qV R hs).ok R).2 (by omega)
theorem zkW {p:zy} (R:YX p) {v:Int} (hv:inr v p.1.length):∃w,GE p v w:=by
 have R':=R.rt
 by_cases hd:dgr (sgs p) v=0
 ·have h8:=R.s8 hv hd
  have hL:∀s∈p.2.1,s.1≠v∧s.2≠v:=fun s hs=>ztM hd s (List.mem_append_left _ hs)
  have hp:Za p (U6 p v)=true:=by
   unfold atv at h8
   split at h8
   ·unfold whr at h8
    dsimp only at h8
    split at h8
    ·cases h8
    ·split at h8
     ·rename_i h
      unfold Za U6
      have e:=ziP (k:=6) (by decide) p.1 p.2.1 1 (pt p.1 v)
      rw [show (6:Int)*1=6 from rfl] at e
      rw [e]
      exact h
     ·cases h8
   ·cases h8
  obtain ⟨s,hs⟩:=List.exists_mem_of_length_pos (show 0<p.2.1.length by have:=R.n6;omega)
  obtain ⟨⟨rs,_⟩,_⟩:=(qV R' hs).ok R'
  have hne:U6 p s.1≠U6 p v:=fun e=>(hL s hs).1 ((zhx R').inj _ _ rs hv e)
  have h0:0<crs (U6 p v) ((U6 p v).1+((U6 p s.1).2-(U6 p v).2),(U6 p v).2-((U6 p s.1).1-(U6 p v).1)) (U6 p s.1):=by
   have e:crs (U6 p v) ((U6 p v).1+((U6 p s.1).2-(U6 p v).2),(U6 p v).2-((U6 p s.1).1-(U6 p v).1)) (U6 p s.1)=((U6 p s.1).1-(U6 p v).1)*((U6 p s.1).1-(U6 p v).1)+((U6 p s.1).2-(U6 p v).2)*((U6 p s.1).2-(U6 p v).2):=by unfold crs;grind
   rw [e]
   have s1:=YF ((U6 p s.1).1-(U6 p v).1)
   have s2:=YF ((U6 p s.1).2-(U6 p v).2)
   apply Decidable.byContradiction
   intro hn
   refine hne (Prod.ext ?_ ?_)
   ·apply Decidable.byContradiction
    intro hx
    have:=zb4 (show (U6 p s.1).1-(U6 p v).1≠0 by omega)
    omega
   ·apply Decidable.byContradiction
    intro hx
    have:=zb4 (show (U6 p s.1).2-(U6 p v).2≠0 by omega)
    omega
  obtain ⟨d,rd,hd',S⟩:=zly (zhx R') (m:=U6 p v) rs h0
  refine ⟨d,zs6 R' hv rd (fun e=>?_) S hL hp⟩
  rw [←e,qk] at hd'
  omega
 ·obtain ⟨s,hs,h⟩:=zzz hd
  have he:up s∈edg p:=(X9 R.fine).old _ ((zco p _).2 ⟨s,hs,rfl⟩)
  have g:GE p s.1 s.2:=by
   rcases zcm s with e|e
   ·rw [e] at he;exact .inl he
   ·rw [e] at he;exact .inr he
  rcases h with h|h
  ·exact ⟨s.2,by rw [←h];exact g⟩
  ·exact ⟨s.1,by rw [←h];exact g.symm⟩
theorem zty {p:zy} (R:YX p) {v:Int} (hv:inr v p.1.length):∃t∈ji p,t.1=v∨t.2.1=v∨t.2.2=v:=by
 obtain ⟨w,g⟩:=zkW R hv
 have key:∀{a b c:Int},ZV p a b c→(a=v∨b=v)→∃t∈ji p,t.1=v∨t.2.1=v∨t.2.2=v:=by
  intro a b c g h
  refine ⟨_,(zh2 R.rt g).1,?_⟩
  unfold zc7
  (repeat' split)<;>(dsimp only;omega)
 rcases zpk R.rt g with ⟨c,h⟩|⟨c,h⟩
 ·exact key h (.inl rfl)
 ·exact key h (.inr rfl)
end Go.Proofs.YtpkkcjmblocjdaaGreat.Pure
end
section
namespace Go.Proofs.YtpkkcjmblocjdaaGreat.Pure
open Go.RowKit Go.Proofs.YtpkkcjmblocjdaaGreat.AM PL
def ht (k:Pt) (p:zy) (v:Int):Int:=k.1*(U6 p v).1+k.2*(U6 p v).2
def ng (k:Pt):Pt:=(-k.1,-k.2)
theorem zyG (k:Pt):ng (ng k)=k:=by unfold ng;simp
theorem YW (k:Pt) (p:zy) (v:Int):ht (ng k) p v=-ht k p v:=by unfold ht ng;grind
def Gen (k:Pt) (p:zy):Prop:=∀i j,inr i p.1.length→inr j p.1.length→i≠j→ht k p i≠ht k p j
theorem Gen.ng {k:Pt} {p:zy} (h:Gen k p):Gen (ng k) p:=fun i j hi hj ne e=>h i j hi hj ne (by rw [YW,YW] at e;omega)
def ey (k v:Pt):Pt:=(v.1+k.2,v.2-k.1)
theorem zbq (k:Pt) (p:zy) (v x:Int):crs (U6 p v) (ey k (U6 p v)) (U6 p x)=ht k p x-ht k p v:=by unfold ht ey crs;grind
theorem zvN (v e x y z:Pt):crs v x y*crs v e z+crs v y z*crs v e x+crs v z x*crs v e y=0:=by unfold crs;grind
theorem zyC (k:Pt) (p:zy) (v x y z:Int):crs (U6 p v) (U6 p x) (U6 p y)*(ht k p z-ht k p v)+crs (U6 p v) (U6 p y) (U6 p z)*(ht k p x-ht k p v)+crs (U6 p v) (U6 p z) (U6 p x)*(ht k p y-ht k p v)=0:=by
 rw [←zbq,←zbq,←zbq]
 exact zvN _ _ _ _ _
theorem zAB {v e:Pt} (U:Int→Pt):∀l:List Int,l≠[]→(∀x∈l,0<crs v e (U x))→∃x∈l,∀y∈l,crs v (U x) (U y)≤0
 |[],h,_=>absurd rfl h
 |[x],_,_=>⟨x,List.mem_cons_self,fun y hy=>by rw [List.mem_singleton.1 hy,qq];exact Int.le_refl _⟩
 |x::z::l,_,hd=>by
  obtain ⟨w,hw,hl⟩:=zAB U (z::l) (by simp) fun y hy=>hd y (List.mem_cons_of_mem _ hy)
  have dx:=hd x List.mem_cons_self
  have dw:=hd w (List.mem_cons_of_mem _ hw)
  by_cases c:crs v (U x) (U w)≤0
  ·refine ⟨x,List.mem_cons_self,fun y hy=>?_⟩
   rcases List.mem_cons.1 hy with rfl|hy
   ·rw [qq];exact Int.le_refl _
   ·have dy:=hd y (List.mem_cons_of_mem _ hy)
    have id:=zvN v e (U x) (U w) (U y)
    have a1:=zbY c (Int.le_of_lt dy)
    have a2:=zbY (hl y hy) (Int.le_of_lt dx)
    have o:=qA v (U x) (U y)
    rw [o] at id
    have:0≤crs v e (U w)*(-crs v (U x) (U y)):=by rw [Int.mul_comm];omega
    have:=JL dw this
    omega
  ·refine ⟨w,List.mem_cons_of_mem _ hw,fun y hy=>?_⟩
   rcases List.mem_cons.1 hy with rfl|hy
   ·have:=qA v (U y) (U w);omega
   ·exact hl y hy
section
variable {p:zy} (R:Rt p) {v:Int}
include R
theorem zx3 {S:Int→Prop} {e:Pt} (hr:∀x,S x→inr x p.1.length) (hne:∃x,S x) (hs:∀x,S x→0<crs (U6 p v) e (U6 p x)):∃x,S x∧∀y,S y→crs (U6 p v) (U6 p x) (U6 p y)≤0:=by
 classical
 obtain ⟨x0,h0⟩:=hne
 have hm:∀x,x∈((List.range p.1.length).map fun i:Nat=>(i:Int)).filter (fun x=>decide (S x))↔S x:=by
  intro x
  rw [List.mem_filter,decide_eq_true_eq]
  refine ⟨fun h=>h.2,fun h=>⟨?_,h⟩⟩
  have:=hr x h
  rw [List.mem_map]
  obtain ⟨q1,q2⟩:=this
  exact ⟨x.toNat,List.mem_range.2 (by omega),Int.toNat_of_nonneg q1⟩
 obtain ⟨x,hx,h⟩:=zAB (v:=U6 p v) (e:=e) (U6 p) _ (List.ne_nil_of_mem ((hm x0).2 h0)) fun x hx=>hs x ((hm x).1 hx)
 exact ⟨x,(hm x).1 hx,fun y hy=>h y ((hm y).2 hy)⟩
theorem zpF {b c x:Int} (g:ZV p v b c) (e:GE p v x) (h1:0<crs (U6 p v) (U6 p b) (U6 p x)) (h2:0<crs (U6 p v) (U6 p x) (U6 p c)):False:=by
 have h:=sep (zhx R) e g.T
 unfold Sep at h
 have z1:crs (U6 p v) (U6 p x) (U6 p v)=0:=qk _ _
 have z2:=qA (U6 p v) (U6 p b) (U6 p x)
 have z3:=qS (U6 p v) (U6 p b) (U6 p c)
 have z4:=qS (U6 p c) (U6 p v) (U6 p x)
 have pos:=g.T.pos
 omega
theorem zeU {x y:Int} {e:Pt} (ex:GE p v x) (ey':GE p v y) (hne:x≠y) (h0:crs (U6 p v) (U6 p x) (U6 p y)=0) (hx:0<crs (U6 p v) e (U6 p x)) (hy:0<crs (U6 p v) e (U6 p y)):False:=by
 have N:=zhx R
 obtain ⟨⟨rv',rx⟩,_⟩:=ex.ok R
 obtain ⟨⟨_,ry⟩,_⟩:=ey'.ok R
 have h0':=qA (U6 p v) (U6 p x) (U6 p y)
 rcases Int.lt_trichotomy (crs (U6 p v) e (U6 p x)) (crs (U6 p v) e (U6 p y)) with h|h|h
 ·exact N.out v y ey' x rx (JX (by omega) hx h)
 ·exact hne (N.inj x y rx ry (zbo (by omega) h hy))
 ·exact N.out v x ex y ry (JX h0 hy h)
theorem zpM {e:Pt} (hx:∃x,GE p v x∧0<crs (U6 p v) e (U6 p x)):∃x,GE p v x∧0<crs (U6 p v) e (U6 p x)∧(∀y,GE p v y→0<crs (U6 p v) e (U6 p y)→crs (U6 p v) (U6 p x) (U6 p y)≤0)∧∀c,ZV p v x c→crs (U6 p v) e (U6 p c)≤0:=by
 obtain ⟨x,⟨h1,h2⟩,h3⟩:=zx3 R (S:=fun x=>GE p v x∧0<crs (U6 p v) e (U6 p x)) (fun x h=>(h.1.ok R).1.2) hx fun x h=>h.2
 refine ⟨x,h1,h2,fun y a b=>h3 y ⟨a,b⟩,fun c g=>?_⟩
 apply Decidable.byContradiction
 intro hc
 have:=h3 c ⟨g.ca.symm,by omega⟩
 have:=g.T.pos
 omega
def rt (k:Pt) (p:zy) (v b c:Int):Prop:=ZV p v b c∧ht k p b<ht k p v∧ht k p v<ht k p c
theorem zAa {k:Pt} {b c b' c':Int} (h:rt k p v b c) (h':rt k p v b' c'):b=b'∧c=c':=by
 have main:∀{b c b' c':Int},rt k p v b c→rt k p v b' c'→¬0<crs (U6 p v) (U6 p b) (U6 p b'):=by
  rintro b c b' c' ⟨g,h1,h2⟩ ⟨g',h1',h2'⟩ hp
  have id:=zyC k p v b' c b
  have pos:=g.T.pos
  have o:=qA (U6 p v) (U6 p b) (U6 p c)
  rw [o] at id
  have a1:=zZ pos (show 0<ht k p v-ht k p b' by omega)
  have a2:=zZ hp (show 0<ht k p c-ht k p v by omega)
  have e1 :-crs (U6 p v) (U6 p b) (U6 p c)*(ht k p b'-ht k p v)=crs (U6 p v) (U6 p b) (U6 p c)*(ht k p v-ht k p b'):=by grind
  have e2:crs (U6 p v) (U6 p b') (U6 p c)*(ht k p b-ht k p v)=-((ht k p v-ht k p b)*crs (U6 p v) (U6 p b') (U6 p c)):=by grind
  rw [e1,e2] at id
  have:=ql (show 0<ht k p v-ht k p b by omega) (by omega:0<(ht k p v-ht k p b)*crs (U6 p v) (U6 p b') (U6 p c))
  exact zpF R g g'.ab hp this
 have n1:=main h h'
 have n2:=main h' h
 have o:=qA (U6 p v) (U6 p b) (U6 p b')
 obtain ⟨g,h1,h2⟩:=h
 obtain ⟨g',h1',h2'⟩:=h'
 have e:b=b':=by
  apply Decidable.byContradiction
  intro hne
  refine zeU R (e:=ey (ng k) (U6 p v)) g.ab g'.ab hne (by omega) ?_ ?_<;>(rw [zbq,YW,YW];omega)
 subst e
 exact ⟨rfl,(g.one R g').symm⟩
theorem znV {k:Pt} (hk:Gen k p) {x:Int} (e:GE p v x) (hx:ht k p v<ht k p x) (hall:∀x,GE p v x→ht k p v<ht k p x→(∀y,GE p v y→ht k p v<ht k p y→crs (U6 p v) (U6 p x) (U6 p y)≤0)→isG p v x):∃b c,rt (ng k) p v b c:=by
 obtain ⟨z,h1,h2,h3,h4⟩:=zpM R (v:=v) (e:=ey k (U6 p v)) ⟨x,e,by rw [zbq];omega⟩
 rw [zbq] at h2
 obtain ⟨c,g⟩:=hall z h1 (by omega) fun y hy hh=>h3 y hy (by rw [zbq];omega)
 have:=h4 c g
 rw [zbq] at this
 have ne:=hk c v g.T.r.2.2 g.T.r.1 (g.ne R).2.2
 exact ⟨z,c,g,by rw [YW,YW];omega,by rw [YW,YW];omega⟩
theorem zz5 {k:Pt} (hk:Gen k p) (hv:∀x,¬onL p v x) {x:Int} (e:GE p v x):(∃b c,rt k p v b c)∨∃b c,rt (ng k) p v b c:=by
 have ne:=hk x v (e.ok R).1.2 (e.ok R).1.1 (e.ok R).2.symm
 by_cases h:ht k p v<ht k p x
 ·exact .inr (znV R hk e h fun y hy _ _=>zbj R hy (hv y))
 ·have:=znV R hk.ng e (by rw [YW,YW];omega) fun y hy _ _=>zbj R hy (hv y)
  rw [zyG] at this
  exact .inl this
theorem zoe {k:Pt} (hk:Gen k p) {u w:Int} (hw:onL p v w) (ho:∀x,onL p v x→x=u∨x=w) (gw:isG p v w) (hh:ht k p v<ht k p w) (eu:GE p v u) (hu:ht k p v<ht k p u) (ht':crs (U6 p v) (U6 p w) (U6 p u)<0):∃b c,rt (ng k) p v b c:=by
 have ew:GE p v w:=by obtain ⟨c,g⟩:=gw;exact g.ab
 refine znV R hk ew hh fun x hx h1 h2=>?_
 by_cases h:onL p v x
 ·rcases ho x h with rfl|rfl
  ·have:=h2 w ew hh
   have:=qA (U6 p v) (U6 p w) (U6 p x)
   omega
  ·exact gw
 ·exact zbj R hx h
theorem zrf {k:Pt} {u w:Int} (hw:onL p v w) (ho:∀x,onL p v x→x=u∨x=w) (gw:isG p v w) (hh:ht k p v<ht k p w) (ht':0<crs (U6 p v) (U6 p w) (U6 p u)):¬∃b c,rt k p v b c:=by
 have ew:GE p v w:=by obtain ⟨c,g⟩:=gw;exact g.ab
 have claim:∀x,GE p v x→¬0<crs (U6 p v) (U6 p x) (U6 p w):=by
  intro x hx hp
  have r:∀q:Pt,crs (U6 p v) (2*(U6 p v).1-(U6 p w).1,2*(U6 p v).2-(U6 p w).2) q=crs (U6 p v) q (U6 p w):=by intro q;unfold crs;grind
  obtain ⟨z,h1,h2,h3,h4⟩:=zpM R (v:=v) (e:=(2*(U6 p v).1-(U6 p w).1,2*(U6 p v).2-(U6 p w).2)) ⟨x,hx,by rw [r];exact hp⟩
  rw [r] at h2
  have nz:¬onL p v z:=fun h=>by
   rcases ho z h with rfl|rfl
   ·have:=qA (U6 p v) (U6 p w) (U6 p z);omega
   ·rw [qq] at h2;omega
  obtain ⟨y,g⟩:=zbj R h1 nz
  have h5:=h4 y g
  rw [r] at h5
  have o:=qA (U6 p v) (U6 p y) (U6 p w)
  have pos:=g.T.pos
  by_cases hy:y=w
  ·subst hy
   exact (zhN R hw).2 ⟨gw,z,g.rot.rot⟩
  ·rcases Int.lt_trichotomy (crs (U6 p v) (U6 p w) (U6 p y)) 0 with h|h|h
   ·omega
   ·exact zeU R ew g.ca.symm (fun e=>hy e.symm) h (e:=U6 p z) h2 pos
   ·exact zpF R g ew h2 h
 rintro ⟨b,c,g,h1,h2⟩
 have c1:=claim b g.ab
 have c2:=claim c g.ca.symm
 have id:=zyC k p v b c w
 have pos:=g.T.pos
 have o:=qA (U6 p v) (U6 p b) (U6 p w)
 rw [o] at id
 have a1:=zZ pos (show 0<ht k p w-ht k p v by omega)
 have a2:=qL (show crs (U6 p v) (U6 p c) (U6 p w)≤0 by omega) (show ht k p b-ht k p v≤0 by omega)
 have a3:=q5 (show 0≤- crs (U6 p v) (U6 p b) (U6 p w) by omega) (show 0≤ht k p c-ht k p v by omega)
 omega
omit R
def cnr (k:Pt) (p:zy) (v a b c:Int):Int:=if a=v∧ht k p b<ht k p v∧ht k p v<ht k p c then 1 else 0
def rf (k:Pt) (p:zy) (v:Int) (t:Tr):Int:=cnr k p v t.1 t.2.1 t.2.2+cnr k p v t.2.1 t.2.2 t.1+cnr k p v t.2.2 t.1 t.2.1
def rc (k:Pt) (p:zy) (v:Int):Int:=sI (rf k p v) (ji p)
theorem zmW {k:Pt} {p:zy} {v a b c:Int} (h:¬(a=v∧ht k p b<ht k p v∧ht k p v<ht k p c)):cnr k p v a b c=0:=if_neg h
theorem zuy (k:Pt) (p:zy) (v a b c:Int):rf k p v (b,c,a)=rf k p v (a,b,c):=by unfold rf;dsimp only;omega
theorem zqA {α:Type} [DecidableEq α] {f:α→Int}:∀{l:List α},l.Nodup→∀{a:α},a∈l→(∀x∈l,x≠a→f x=0)→sI f l=f a
 |b::l,hn,a,ha,h=>by
  obtain ⟨h1,h2⟩:=List.nodup_cons.1 hn
  rw [qy]
  by_cases e:b=a
  ·subst e
   rw [zc1 l fun x hx=>h x (List.mem_cons_of_mem _ hx) fun e=>h1 (by rw [←e];exact hx)]
   omega
  ·rw [h b List.mem_cons_self e,zqA h2 (by rcases List.mem_cons.1 ha with h|h;exact absurd h.symm e;exact h) fun x hx=>h x (List.mem_cons_of_mem _ hx)]
   omega
include R
theorem zwj:(ji p).Nodup:=(zse R).imp fun {a b} h e=>by rw [e] at h;exact zt0.irr _ h
theorem zyS {k:Pt} {t:Tr} (ht':t∈ji p) (h:rf k p v t≠0):∃b c,rt k p v b c∧(v,b)∈qT t:=by
 obtain ⟨_,g⟩:=(zdk R t).1 ht'
 unfold rf at h
 by_cases c1:t.1=v∧ht k p t.2.1<ht k p v∧ht k p v<ht k p t.2.2
 ·obtain ⟨e,h1,h2⟩:=c1
  subst e
  exact ⟨t.2.1,t.2.2,⟨g,h1,h2⟩,by unfold qT;simp⟩
 ·by_cases c2:t.2.1=v∧ht k p t.2.2<ht k p v∧ht k p v<ht k p t.1
  ·obtain ⟨e,h1,h2⟩:=c2
   subst e
   exact ⟨t.2.2,t.1,⟨g.rot,h1,h2⟩,by unfold qT;simp⟩
  ·by_cases c3:t.2.2=v∧ht k p t.1<ht k p v∧ht k p v<ht k p t.2.1
   ·obtain ⟨e,h1,h2⟩:=c3
    subst e
    exact ⟨t.1,t.2.1,⟨g.rot.rot,h1,h2⟩,by unfold qT;simp⟩
   ·rw [zmW c1,zmW c2,zmW c3] at h
    exact absurd rfl h
theorem zkb {k:Pt} {b c:Int} (h:rt k p v b c):rc k p v=1:=by
 obtain ⟨g,h1,h2⟩:=id h
 obtain ⟨m1,m2⟩:=zh2 R g
 obtain ⟨n1,n2,n3⟩:=g.ne R
 unfold rc
 rw [zqA (zwj R) m1 fun t ht' hne=>?_]
 ·have e:rf k p v (v,b,c)=1:=by
   unfold rf
   dsimp only
   rw [zmW (a:=b) fun e=>n1 e.1.symm,zmW (a:=c) fun e=>n3 e.1]
   unfold cnr
   rw [if_pos ⟨rfl,h1,h2⟩]
   rfl
  unfold zc7
  split
  ·exact e
  ·split
   ·rw [zuy];exact e
   ·rw [←zuy];exact e
 ·apply Decidable.byContradiction
  intro h0
  obtain ⟨b',c',h',hs⟩:=zyS R ht' h0
  obtain ⟨rfl,rfl⟩:=zAa R h h'
  exact hne (zoy R ht' m1 hs m2)
theorem zjJ {k:Pt} (h:¬∃b c,rt k p v b c):rc k p v=0:=by
 unfold rc
 refine zc1 _ fun t ht'=>?_
 apply Decidable.byContradiction
 intro h0
 obtain ⟨b,c,h',_⟩:=zyS R ht' h0
 exact h ⟨b,c,h'⟩
theorem zyV (k:Pt) (v:Int):rc k p v=0∨rc k p v=1:=by
 by_cases h:∃b c,rt k p v b c
 ·obtain ⟨b,c,h⟩:=h;exact .inr (zkb R h)
 ·exact .inl (zjJ R h)
omit R
def fv (k:Pt) (p:zy) (v:Int) (s:Pt):Int:=(if s.1=v∧ht k p s.2<ht k p v then 1 else 0)-(if s.2=v∧ht k p s.1<ht k p v then 1 else 0)
theorem zAu (k:Pt) (p:zy) (v:Int) (s:Pt):fv k p v (rv s)=-fv k p v s:=by unfold fv rv;dsimp only;omega
theorem zpX {k:Pt} {p:zy} {v:Int} (s:Pt) (h1:s.1≠v) (h2:s.2≠v):fv k p v s=0:=by
 unfold fv
 rw [if_neg fun h=>h1 h.1,if_neg fun h=>h2 h.1]
 rfl
include R
theorem zrn {k:Pt} (hk:Gen k p) (v:Int):rc k p v-rc (ng k) p v=sI (fun s=>fv k p v (XU p s)) p.2.1:=by
 rw [←zmV R (zAu k p v)]
 unfold rc
 have:sI (rf k p v) (ji p)-sI (rf (ng k) p v) (ji p)=sI (fun t=>rf k p v t-rf (ng k) p v t) (ji p):=by
  generalize ji p=T
  induction T with
  |nil=>rfl
  |cons t T ih=>rw [qy,qy,qy];omega
 rw [this]
 refine Xw _ fun t ht'=>?_
 obtain ⟨_,g⟩:=(zdk R t).1 ht'
 obtain ⟨n1,n2,n3⟩:=g.ne R
 obtain ⟨r1,r2,r3⟩:=g.T.r
 have k1:=hk _ _ r1 r2 n1
 have k2:=hk _ _ r2 r3 n2
 have k3:=hk _ _ r3 r1 n3
 unfold rf rdT fv cnr
 simp only [YW]
 by_cases e1:t.1=v
 ·have e2:t.2.1≠v:=fun e=>n1 (e1.trans e.symm)
  have e3:t.2.2≠v:=fun e=>n3 (e.trans e1.symm)
  subst e1
  simp only [e2,e3,false_and,if_false,true_and,eq_self_iff_true]
  split<;>split<;>split<;>split<;>omega
 ·by_cases e2:t.2.1=v
  ·have e3:t.2.2≠v:=fun e=>n2 (e2.trans e.symm)
   subst e2
   simp only [e1,e3,false_and,if_false,true_and]
   split<;>split<;>split<;>split<;>omega
  ·by_cases e3:t.2.2=v
   ·subst e3
    simp only [e1,e2,false_and,if_false,true_and]
    split<;>split<;>split<;>split<;>omega
   ·simp only [e1,e2,e3,false_and,if_false]
    rfl
theorem zsj {k:Pt} (hk:Gen k p) (hv:∀x,¬onL p v x) {x:Int} (e:GE p v x):rc k p v=1∧rc (ng k) p v=1:=by
 have d:=zrn R hk v
 rw [zc1 _ fun s hs=>?_] at d
 ·rcases zz5 R hk hv e with ⟨b,c,h⟩|⟨b,c,h⟩
  ·have:=zkb R h;omega
  ·have:=zkb R h;omega
 ·have h1:s.1≠v:=fun e=>hv s.2 ⟨s,hs,.inl ⟨e,rfl⟩⟩
  have h2:s.2≠v:=fun e=>hv s.1 ⟨s,hs,.inr ⟨rfl,e⟩⟩
  rcases zig R s with e|e
  ·rw [e];exact zpX s h1 h2
  ·rw [e];exact zpX (rv s) h2 h1
def tau (k:Pt) (p:zy) (u v w:Int):Int:=if (ht k p u<ht k p v↔ht k p w<ht k p v) then sg (crs (U6 p u) (U6 p v) (U6 p w)) else 0
theorem zuY {u v w:Int} (hu:onL p u v) (hw:onL p v w) (huw:u≠w) (hd:dgr p.2.1 v=2):∀x,onL p v x→x=u∨x=w:=by
 obtain ⟨a,b,hn,-,hab,-,-⟩:=R.lp.two_nl hd
 have key:∀x,onL p v x→x∈nl p.2.1 v:=by
  rintro x ⟨s,hs,⟨e1,e2⟩|⟨e1,e2⟩⟩
  ·exact JT.2 ⟨s,hs,.inl ⟨e1,e2⟩⟩
  ·exact JT.2 ⟨s,hs,.inr ⟨e2,e1⟩⟩
 have sw:∀{a b:Int},onL p a b→onL p b a:=fun ⟨s,hs,h⟩=>⟨s,hs,Or.symm h⟩
 have mu:=key u (sw hu)
 have mw:=key w hw
 intro x hx
 have mx:=key x hx
 rw [hn] at mu mw mx
 simp only [List.mem_cons,List.not_mem_nil,or_false] at mu mw mx
 omega
theorem zu1 {k:Pt} (hk:Gen k p) {u w:Int} (hu:onL p u v) (hw:onL p v w) (huw:u≠w) (hd:dgr p.2.1 v=2) (gu:isG p u v) (gw:isG p v w):rc k p v+rc (ng k) p v=1-tau k p u v w:=by
 have d:=zrn R hk v
 rw [zpj R hu hw huw hd (f:=fv k p v) zpX,zbz (s:=(u,v)) gu,zbz (s:=(v,w)) gw] at d
 have ho:=zuY R hu hw huw hd
 have eu:GE p v u:=by obtain ⟨c,g⟩:=gu;exact g.ab.symm
 have ew:GE p v w:=by obtain ⟨c,g⟩:=gw;exact g.ab
 have nu:=hk u v (eu.ok R).1.2 (eu.ok R).1.1 (eu.ok R).2.symm
 have nw:=hk w v (ew.ok R).1.2 (ew.ok R).1.1 (ew.ok R).2.symm
 have nvw:=(ew.ok R).2
 have nuv:=(eu.ok R).2
 have o1:=zyV R k v
 have o2:=zyV R (ng k) v
 have cy:=qS (U6 p u) (U6 p v) (U6 p w)
 unfold fv at d
 dsimp only at d
 rw [if_neg (fun h=>nuv h.1.symm),if_neg (c:=w=v∧_) (fun h=>nvw h.1.symm)] at d
 simp only [true_and] at d
 unfold tau
 by_cases c1:ht k p u<ht k p v<;>by_cases c2:ht k p w<ht k p v
 ·rw [if_pos (by simp [c1,c2])]
  rw [if_pos c1,if_pos c2] at d
  have u':ht (ng k) p v<ht (ng k) p u:=by rw [YW,YW];omega
  have w':ht (ng k) p v<ht (ng k) p w:=by rw [YW,YW];omega
  rcases Int.lt_trichotomy (crs (U6 p v) (U6 p w) (U6 p u)) 0 with h|h|h
  ·obtain ⟨b,c,h'⟩:=zoe R hk.ng hw ho gw w' eu u' h
   rw [zyG] at h'
   have:=zkb R h'
   have:sg (crs (U6 p u) (U6 p v) (U6 p w))=-1:=by unfold sg;rw [if_neg (by omega),if_pos (by omega)]
   omega
  ·exact (zeU R (e:=ey (ng k) (U6 p v)) ew eu huw.symm h (by rw [zbq];omega) (by rw [zbq];omega)).elim
  ·have:=zjJ R (zrf R hw ho gw w' h)
   have:sg (crs (U6 p u) (U6 p v) (U6 p w))=1:=by unfold sg;rw [if_pos (by omega)]
   omega
 ·rw [if_neg (by simp [c1,c2])]
  rw [if_pos c1,if_neg c2] at d
  omega
 ·rw [if_neg (by simp [c1,c2])]
  rw [if_neg c1,if_pos c2] at d
  omega
 ·rw [if_pos (by simp [c1,c2])]
  rw [if_neg c1,if_neg c2] at d
  rcases Int.lt_trichotomy (crs (U6 p v) (U6 p w) (U6 p u)) 0 with h|h|h
  ·obtain ⟨b,c,h'⟩:=zoe R hk hw ho gw (by omega) eu (by omega) h
   have:=zkb R h'
   have:sg (crs (U6 p u) (U6 p v) (U6 p w))=-1:=by unfold sg;rw [if_neg (by omega),if_pos (by omega)]
   omega
  ·exact (zeU R (e:=ey k (U6 p v)) ew eu huw.symm h (by rw [zbq];omega) (by rw [zbq];omega)).elim
  ·have:=zjJ R (zrf R (k:=k) hw ho gw (by omega) h)
   have:sg (crs (U6 p u) (U6 p v) (U6 p w))=1:=by unfold sg;rw [if_pos (by omega)]
   omega
end
end Go.Proofs.YtpkkcjmblocjdaaGreat.Pure
end
section
namespace Go.Proofs.YtpkkcjmblocjdaaGreat.Pure
open Go.RowKit Go.Proofs.YtpkkcjmblocjdaaGreat.AM PL
def hq (k q:Pt):Int:=k.1*q.1+k.2*q.2
def wq (k x a b:Pt):Int:=if (hq k x<hq k a↔hq k x<hq k b) then 0 else sg (crs x a b)
def dq (k a b c:Pt):Int:=if (hq k a<hq k b↔hq k c<hq k b) then sg (crs a b c) else 0
theorem zvi (x:Int):sg (-x)=-sg x:=by unfold sg;split<;>split<;>(try split)<;>omega
theorem zjQ (k x a b:Pt):wq k x b a=-wq k x a b:=by
 unfold wq
 rw [qA x a b,zvi]
 by_cases h:(hq k x<hq k a↔hq k x<hq k b)
 ·rw [if_pos h,if_pos h.symm];rfl
 ·rw [if_neg h,if_neg fun h'=>h h'.symm]
theorem zyh (k a b c:Pt):dq k c b a=-dq k a b c:=by
 unfold dq
 rw [zoE a b c,zvi]
 by_cases h:(hq k a<hq k b↔hq k c<hq k b)
 ·rw [if_pos h,if_pos h.symm]
 ·rw [if_neg h,if_neg fun h'=>h h'.symm];rfl
theorem zlU {k x a b:Pt} (h:(hq k x<hq k a↔hq k x<hq k b)):wq k x a b=0:=if_pos h
theorem zvo {k x a b:Pt} (h:¬(hq k x<hq k a↔hq k x<hq k b)):wq k x a b=sg (crs x a b):=if_neg h
theorem zt5 {k a b c:Pt} (ab:hq k a≠hq k b) (bc:hq k b≠hq k c) (ca:hq k c≠hq k a):wq k a b c+wq k c a b=dq k a b c:=by
 unfold wq dq
 rw [jf a b c]
 split<;>split<;>split<;>omega
theorem zAz (a b c d:Pt):crs b c d-crs a c d+crs a b d-crs a b c=0:=by unfold crs;grind
theorem zAQ (k a b c d:Pt):crs b c d*hq k a-crs a c d*hq k b+crs a b d*hq k c-crs a b c*hq k d=0:=by unfold crs hq;grind
theorem zvj (k v x:Pt):crs v (ey k v) x=hq k x-hq k v:=by unfold hq ey crs;grind
structure Apt (k a b c d:Pt):Prop where
 ab:hq k a≠hq k b
 ac:hq k a≠hq k c
 ad:hq k a≠hq k d
 bc:hq k b≠hq k c
 bd:hq k b≠hq k d
 cd:hq k c≠hq k d
 pc:¬PC a b c d
 oc:¬Bet a b c
 od:¬Bet a b d
 oa:¬Bet c d a
 ob:¬Bet c d b
theorem Apt.s1 {k a b c d:Pt} (h:Apt k a b c d):Apt k b a c d:=⟨h.ab.symm,h.bc,h.bd,h.ac,h.ad,h.cd,fun h'=>h.pc (by have:=zhj (a:=c) (b:=d) (c:=b) (d:=a) ⟨h'.2,h'.1⟩;exact ⟨this.2,this.1⟩),fun h'=>h.oc (zcS h'),fun h'=>h.od (zcS h'),h.ob,h.oa⟩
theorem Apt.s2 {k a b c d:Pt} (h:Apt k a b c d):Apt k a b d c:=⟨h.ab,h.ad,h.ac,h.bd,h.bc,h.cd.symm,fun h'=>h.pc (zhj h'),h.od,h.oc,fun h'=>h.oa (zcS h'),fun h'=>h.ob (zcS h')⟩
theorem Apt.s3 {k a b c d:Pt} (h:Apt k a b c d):Apt k c d a b:=⟨h.cd,h.ac.symm,h.bc.symm,h.ad.symm,h.bd.symm,h.ab,fun h'=>h.pc ⟨h'.2,h'.1⟩,h.oa,h.ob,h.oc,h.od⟩
theorem zqp {k a b c:Pt} (h0:crs a b c=0) (h1:hq k a<hq k c) (h2:hq k c<hq k b):Bet a b c :=
 JX (e:=ey k a) h0 (by rw [zvj];omega) (by rw [zvj,zvj];omega)
theorem zmz {k a b c d:Pt} (h:Apt k a b c d) (h1:hq k a<hq k b) (h2:hq k c<hq k d) (h3:hq k a<hq k c):wq k a c d+wq k d a b=wq k c a b+wq k b c d:=by
 have ad:=h.ad;have bc:=h.bc;have bd:=h.bd
 rw [zlU (x:=a) (by omega)]
 by_cases c1:hq k b<hq k c
 ·rw [zlU (by omega),zlU (by omega),zlU (by omega)]
 have f1:=zAz a b c d
 have f2:=zAQ k a b c d
 have nt:crs a b c≠0:=fun e=>h.oc (zqp (k:=k) e (by omega) (by omega))
 rw [zvo (x:=c) (by omega),jf a b c]
 by_cases c2:hq k d<hq k b
 ·have ns:crs a b d≠0:=fun e=>h.od (zqp (k:=k) e (by omega) (by omega))
  rw [zvo (x:=d) (by omega),zlU (x:=b) (by omega),jf a b d]
  have pc:=h.pc
  unfold PC at pc
  rw [qS a c d,qS b c d] at pc
  generalize hq k a=x at *
  generalize hq k b=y at *
  generalize hq k c=z at *
  generalize hq k d=w at *
  generalize crs b c d=P at *
  generalize crs a c d=Q at *
  generalize crs a b d=S at *
  generalize crs a b c=T at *
  have e1:(y-x)*P=T*(y-w)-S*(y-z):=by
   have:Q=P+S-T:=by omega
   subst this
   grind
  have e2:(y-x)*Q=S*(z-x)-T*(w-x):=by
   have:P=Q-S+T:=by omega
   subst this
   grind
  rcases Int.lt_or_gt_of_ne nt with ht'|ht'<;>rcases Int.lt_or_gt_of_ne ns with hs'|hs'
  ·have:sg T=-1:=by unfold sg;rw [if_neg (by omega),if_pos (by omega)]
   have:sg S=-1:=by unfold sg;rw [if_neg (by omega),if_pos (by omega)]
   omega
  ·exfalso
   have a1:=qr ht' (show 0<y-w by omega)
   have a2:=zZ hs' (show 0<y-z by omega)
   have p1:=Zr (show 0<y-x by omega) (by omega:(y-x)*P<0)
   have a3:=zZ hs' (show 0<z-x by omega)
   have a4:=qr ht' (show 0<w-x by omega)
   have p2:=ql (show 0<y-x by omega) (by omega:0<(y-x)*Q)
   exact pc ⟨qr ht' hs',qt p2 p1⟩
  ·exfalso
   have a1:=zZ ht' (show 0<y-w by omega)
   have a2:=qr hs' (show 0<y-z by omega)
   have p1:=ql (show 0<y-x by omega) (by omega:0<(y-x)*P)
   have a3:=qr hs' (show 0<z-x by omega)
   have a4:=zZ ht' (show 0<w-x by omega)
   have p2:=Zr (show 0<y-x by omega) (by omega:(y-x)*Q<0)
   exact pc ⟨qt ht' hs',qr p2 p1⟩
  ·have:sg T=1:=by unfold sg;rw [if_pos (by omega)]
   have:sg S=1:=by unfold sg;rw [if_pos (by omega)]
   omega
 ·have np:crs b c d≠0:=fun e=>h.ob (zqp (k:=k) (by rw [qS];exact e) (by omega) (by omega))
  rw [zlU (x:=d) (by omega),zvo (x:=b) (by omega)]
  have pc:=h.pc
  unfold PC at pc
  rw [qS a c d,qS b c d] at pc
  generalize hq k a=x at *
  generalize hq k b=y at *
  generalize hq k c=z at *
  generalize hq k d=w at *
  generalize crs b c d=P at *
  generalize crs a c d=Q at *
  generalize crs a b d=S at *
  generalize crs a b c=T at *
  have e1:(y-z)*Q=-(P*(z-x))-T*(w-z):=by
   have:S=Q-P+T:=by omega
   subst this
   grind
  have e2:(y-z)*S=-(P*(y-x))-T*(w-y):=by
   have:Q=P+S-T:=by omega
   subst this
   grind
  rcases Int.lt_or_gt_of_ne nt with ht'|ht'<;>rcases Int.lt_or_gt_of_ne np with hs'|hs'
  ·exfalso
   have a1:=qr hs' (show 0<z-x by omega)
   have a2:=qr ht' (show 0<w-z by omega)
   have p1:=ql (show 0<y-z by omega) (by omega:0<(y-z)*Q)
   have a3:=qr hs' (show 0<y-x by omega)
   have a4:=qr ht' (show 0<w-y by omega)
   have p2:=ql (show 0<y-z by omega) (by omega:0<(y-z)*S)
   exact pc ⟨qr ht' p2,qt p1 hs'⟩
  ·have:sg T=-1:=by unfold sg;rw [if_neg (by omega),if_pos (by omega)]
   have:sg P=1:=by unfold sg;rw [if_pos (by omega)]
   omega
  ·have:sg T=1:=by unfold sg;rw [if_pos (by omega)]
   have:sg P=-1:=by unfold sg;rw [if_neg (by omega),if_pos (by omega)]
   omega
  ·exfalso
   have a1:=zZ hs' (show 0<z-x by omega)
   have a2:=zZ ht' (show 0<w-z by omega)
   have p1:=Zr (show 0<y-z by omega) (by omega:(y-z)*Q<0)
   have a3:=zZ hs' (show 0<y-x by omega)
   have a4:=zZ ht' (show 0<w-y by omega)
   have p2:=Zr (show 0<y-z by omega) (by omega:(y-z)*S<0)
   exact pc ⟨qt ht' p2,qr p1 hs'⟩
theorem zyQ {k a b c d:Pt} (h:Apt k a b c d) (h1:hq k a<hq k b) (h2:hq k c<hq k d):wq k a c d+wq k d a b=wq k c a b+wq k b c d:=by
 by_cases h3:hq k a<hq k c
 ·exact zmz h h1 h2 h3
 ·exact (zmz h.s3 h2 h1 (by have:=h.ac;omega)).symm
theorem zyN {k a b c d:Pt} (h:Apt k a b c d) (h1:hq k a<hq k b):wq k a c d+wq k d a b=wq k c a b+wq k b c d:=by
 by_cases h2:hq k c<hq k d
 ·exact zyQ h h1 h2
 ·have:=zyQ h.s2 h1 (by have:=h.cd;omega)
  rw [zjQ k a c d,zjQ k b c d] at this
  omega
theorem cell {k a b c d:Pt} (h:Apt k a b c d):wq k a c d+wq k d a b=wq k c a b+wq k b c d:=by
 by_cases h1:hq k a<hq k b
 ·exact zyN h h1
 ·have:=zyN h.s1 (by have:=h.ab;omega)
  rw [zjQ k d a b,zjQ k c a b] at this
  omega
def sN (f:Nat→Int):Nat→Int
 |0=>0
 |n+1=>sN f n+f n
theorem zkC (f:Nat→Int):∀n,sI f (List.range n)=sN f n
 |0=>rfl
 |n+1=>by
  rw [List.range_succ,znz,zkC f n,qy]
  show _+(_+0)=_+_
  omega
theorem zrZ {f:Nat→Int}:∀n,(∀i,i<n→f i=0)→sN f n=0
 |0,_=>rfl
 |n+1,h=>by show sN f n+f n=0;rw [zrZ n fun i hi=>h i (by omega),h n (by omega)];rfl
theorem zob (f:Nat→Int):∀n,sN f (n+1)=f 0+sN (fun i=>f (i+1)) n
 |0=>by show 0+f 0=f 0+0;omega
 |n+1=>by
  show sN f (n+1)+f (n+1)=f 0+(sN (fun i=>f (i+1)) n+f (n+1))
  rw [zob f n];omega
section
variable {k:Pt} {X:Nat→Pt} {n:Nat} (h3:3≤n) (per:X n=X 0) (gen:∀i j,i<j→j≤n→¬(i=0∧j=n)→hq k (X i)≠hq k (X j)) (low:∀i,0<i→i<n→hq k (X 0)<hq k (X i))
 (apt:∀i j,i+2≤j→j+1≤n→¬(i=0∧j+1=n)→Apt k (X i) (X (i+1)) (X j) (X (j+1)))
include h3 per gen low apt
theorem zkO (i:Nat):∀m,i+2+m≤n→¬(i=0∧i+2+m=n)→sN (fun j=>wq k (X i) (X (i+1+j)) (X (i+1+j+1))) (m+1)+wq k (X (i+2+m)) (X i) (X (i+1))=dq k (X i) (X (i+1)) (X (i+2))+sN (fun j=>wq k (X (i+1)) (X (i+2+j)) (X (i+2+j+1))) m
 |0,h,h'=>by
  have:=zt5 (gen i (i+1) (by omega) (by omega) (by omega)) (gen (i+1) (i+2) (by omega) (by omega) (by omega)) (gen i (i+2) (by omega) (by omega) (by omega)).symm
  show 0+wq k (X i) (X (i+1+0)) (X (i+1+0+1))+wq k (X (i+2+0)) (X i) (X (i+1))=_+0
  show 0+wq k (X i) (X (i+1)) (X (i+2))+wq k (X (i+2)) (X i) (X (i+1))=_+0
  omega
 |m+1,h,h'=>by
  have ih:=zkO i m (by omega) (by omega)
  have c:=cell (apt i (i+2+m) (by omega) (by omega) (by omega))
  show (sN (fun j=>wq k (X i) (X (i+1+j)) (X (i+1+j+1))) (m+1)+wq k (X i) (X (i+1+(m+1))) (X (i+1+(m+1)+1)))+wq k (X (i+2+(m+1))) (X i) (X (i+1))=dq k (X i) (X (i+1)) (X (i+2))+(sN (fun j=>wq k (X (i+1)) (X (i+2+j)) (X (i+2+j+1))) m+wq k (X (i+1)) (X (i+2+m)) (X (i+2+m+1)))
  rw [show i+1+(m+1)=i+2+m by omega,show i+2+(m+1)=i+2+m+1 by omega]
  omega
theorem zpr:∀m,m+2≤n→sN (fun j=>wq k (X 1) (X (1+1+j)) (X (1+1+j+1))) (n-2)=sN (fun i=>dq k (X (1+i)) (X (1+i+1)) (X (1+i+2))) m+sN (fun j=>wq k (X (1+m)) (X (1+m+1+j)) (X (1+m+1+j+1))) (n-2-m)
 |0,h=>by
  show _=0+_
  rw [Int.zero_add]
  rfl
 |m+1,h=>by
  have ih:=zpr m (by omega)
  have rw':=zkO h3 per gen low apt (1+m) (n-2-m-1) (by omega) (by omega)
  rw [show n-2-m-1+1=n-2-m by omega,show 1+m+2+(n-2-m-1)=n by omega,per] at rw'
  have l1:=low (1+m) (by omega) (by omega)
  have l2:=low (1+m+1) (by omega) (by omega)
  rw [zlU (x:=X 0) (by omega)] at rw'
  show _=(sN (fun i=>dq k (X (1+i)) (X (1+i+1)) (X (1+i+2))) m+dq k (X (1+m)) (X (1+m+1)) (X (1+m+2)))+sN (fun j=>wq k (X (1+(m+1))) (X (1+(m+1)+1+j)) (X (1+(m+1)+1+j+1))) (n-2-(m+1))
  rw [show n-2-(m+1)=n-2-m-1 by omega,show 1+(m+1)=1+m+1 by omega]
  have e:(fun j=>wq k (X (1+m+1)) (X (1+m+1+1+j)) (X (1+m+1+1+j+1)))=fun j=>wq k (X (1+m+1)) (X (1+m+2+j)) (X (1+m+2+j+1)):=rfl
  rw [e]
  omega
theorem zA6 (per1:X (n+1)=X 1):sN (fun i=>dq k (X i) (X (i+1)) (X (i+2))) n=2*sg (crs (X (n-1)) (X 0) (X 1)):=by
 have c:=zpr h3 per gen low apt (n-2) (by omega)
 have r0:=zkO h3 per gen low apt 0 (n-3) (by omega) (by omega)
 rw [Nat.sub_self] at c
 have z0:sN (fun j=>wq k (X 0) (X (0+1+j)) (X (0+1+j+1))) (n-3+1)=0:=zrZ _ fun j hj=>by
  have l1:=low (0+1+j) (by omega) (by omega)
  have l2:=low (0+1+j+1) (by omega) (by omega)
  exact zlU (by omega)
 rw [z0,show 0+2+(n-3)=n-1 by omega] at r0
 have c':sN (fun j=>wq k (X 1) (X (1+1+j)) (X (1+1+j+1))) (n-2)=sN (fun i=>dq k (X (1+i)) (X (1+i+1)) (X (1+i+2))) (n-2)+0:=c
 have e1:sN (fun j=>wq k (X 1) (X (1+1+j)) (X (1+1+j+1))) (n-2)=sN (fun j=>wq k (X 1) (X (1+1+j)) (X (1+1+j+1))) (n-3)+wq k (X 1) (X (n-1)) (X 0):=by
  rw [show n-2=(n-3)+1 by omega]
  show _+wq k (X 1) (X (1+1+(n-3))) (X (1+1+(n-3)+1))=_
  rw [show 1+1+(n-3)=n-1 by omega,show n-1+1=n by omega,per]
 have r0':(0:Int)+wq k (X (n-1)) (X 0) (X 1)=dq k (X 0) (X 1) (X 2)+sN (fun j=>wq k (X 1) (X (1+1+j)) (X (1+1+j+1))) (n-3):=r0
 have t:sN (fun i=>dq k (X i) (X (i+1)) (X (i+2))) n=dq k (X 0) (X 1) (X 2)+sN (fun i=>dq k (X (1+i)) (X (1+i+1)) (X (1+i+2))) (n-2)+dq k (X (n-1)) (X 0) (X 1):=by
  rw [show n=(n-2+1)+1 by omega]
  show sN _ (n-2+1)+dq k (X (n-2+1)) (X (n-2+1+1)) (X (n-2+1+2))=_
  rw [zob,show n-2+1+1=n by omega,show n-2+1+2=n+1 by omega,per,per1,show n-2+1=n-1 by omega]
  have:(fun i=>dq k (X (i+1)) (X (i+1+1)) (X (i+1+2)))=fun i=>dq k (X (1+i)) (X (1+i+1)) (X (1+i+2)):=by
   funext i
   rw [show i+1=1+i by omega]
  rw [this]
 have l1:=low 1 (by omega) (by omega)
 have l2:=low (n-1) (by omega) (by omega)
 have d0:dq k (X (n-1)) (X 0) (X 1)=sg (crs (X (n-1)) (X 0) (X 1)):=if_pos (by omega)
 have g:=gen 1 (n-1)
 have two:wq k (X (n-1)) (X 0) (X 1)+wq k (X 1) (X (n-1)) (X 0)=sg (crs (X (n-1)) (X 0) (X 1)):=by
  by_cases e:hq k (X (n-1))<hq k (X 1)
  ·rw [zvo (by omega),zlU (by omega)];omega
  ·have ne:hq k (X 1)≠hq k (X (n-1)):=by
    by_cases e:1=n-1
    ·omega
    ·exact gen 1 (n-1) (by omega) (by omega) (by omega)
   rw [zlU (by omega),zvo (by omega),jf (X (n-1)) (X 0) (X 1)];omega
 omega
end
end Go.Proofs.YtpkkcjmblocjdaaGreat.Pure
end
section
namespace Go.Proofs.YtpkkcjmblocjdaaGreat.Pure
open Go.RowKit Go.Proofs.YtpkkcjmblocjdaaGreat.AM PL
theorem zxW {p:zy} (R:Rt p):Gen (1,1099511627776) p:=by
 intro i j hi hj ne e
 have f1:=R.fine.sm.fit hi
 have f2:=R.fine.sm.fit hj
 unfold ht U6 sc at e
 unfold Fit at f1 f2
 dsimp only at e
 exact ne (R.fine.distI hi hj (Prod.ext (by omega) (by omega)))
theorem zpv {g:Nat→Int} {n:Nat} (h:∀i,g (i+n)=g i):∀s,sN (fun i=>g (s+i)) n=sN g n
 |0=>by
  have:(fun i=>g (0+i))=g:=by funext i;rw [Nat.zero_add]
  rw [this]
 |s+1=>by
  rw [←zpv h s]
  have h1:sN (fun i=>g (s+i)) (n+1)=g s+sN (fun i=>g (s+(i+1))) n:=zob _ n
  have h2:sN (fun i=>g (s+i)) (n+1)=sN (fun i=>g (s+i)) n+g s:=by
   show _+g (s+n)=_
   rw [h]
  have e:(fun i=>g (s+1+i))=fun i=>g (s+(i+1)):=by funext i;rw [show s+1+i=s+(i+1) by omega]
  rw [e]
  have:=h1.symm.trans h2
  omega
section
variable {p:zy} (R:Rt p) {k:Pt} (hk:Gen k p) {r:List Int} (G:Rng p.2.1 r)
include R hk G
theorem XI {i j:Nat} (hij:i<j) (hj:j<i+r.length):ht k p (at' r i)≠ht k p (at' r j):=by
 have h0:r.length≠0:=by have:=G.three;omega
 refine hk _ _ (zjI R G (Zs i h0)) (zjI R G (Zs j h0)) fun e=>?_
 have e:=zlv G.nd h0 e
 have:(j-i) % r.length=0:=by
  have:=Nat.sub_mod_eq_zero_of_mod_eq e.symm
  exact this
 rw [Nat.mod_eq_of_lt (by omega)] at this
 omega
theorem ztz {s:Nat} (low:∀x∈r,ht k p (at' r s)≤ht k p x):sN (fun i=>tau k p (at' r i) (at' r (i+1)) (at' r (i+2))) r.length=2*sg (crs (U6 p (at' r (s+r.length-1))) (U6 p (at' r s)) (U6 p (at' r (s+1)))):=by
 have h3:=G.three
 have h0:r.length≠0:=by omega
 have N:=zhx R
 have ge:=zdz R G
 have rin:∀i,inr (at' r i) p.1.length:=fun i=>zjI R G (Zs i h0)
 have per:∀i,at' r (i+r.length)=at' r i:=zkh r
 have hh:=zA6 (k:=k) (X:=fun i=>U6 p (at' r (s+i))) (n:=r.length) h3 (by rw [per,Nat.add_zero])
  (fun i j hij hj hn=>XI R hk G (by omega) (by omega))
  (fun i h1 h2=>by
   have a:=low _ (Zs (s+i) h0)
   have b:=XI R hk G (i:=s) (j:=s+i) (by omega) (by omega)
   show ht k p (at' r (s+0))<ht k p (at' r (s+i))
   rw [Nat.add_zero]
   omega)
  (fun i j hij hj hn=>⟨XI R hk G (by omega) (by omega),XI R hk G (by omega) (by omega),XI R hk G (by omega) (by omega),XI R hk G (by omega) (by omega),XI R hk G (by omega) (by omega),XI R hk G (by omega) (by omega),N.npc _ _ (ge _) _ _ (ge _),N.out _ _ (ge _) _ (rin _),N.out _ _ (ge _) _ (rin _),N.out _ _ (ge _) _ (rin _),N.out _ _ (ge _) _ (rin _)⟩)
  (by rw [show s+(r.length+1)=s+1+r.length by omega,per])
 have e:=zpv (g:=fun i=>tau k p (at' r i) (at' r (i+1)) (at' r (i+2))) (n:=r.length) (fun i=>by
  rw [show i+r.length+1=i+1+r.length by omega,show i+r.length+2=i+2+r.length by omega,per,per,per]) s
 rw [←e,show s+r.length-1=s+(r.length-1) by omega]
 exact hh
theorem zwx {s:Nat} (low:∀x∈r,ht k p (at' r s)≤ht k p x) {x:Int} (e:GE (ps p r) (at' r s) x):ht k p (at' r s)<ht k p x:=by
 classical
 have R':=R.ring G
 have hk':Gen k (ps p r):=hk
 apply Decidable.byContradiction
 intro hx
 have ne:=hk' _ _ (e.ok R').1.1 (e.ok R').1.2 (e.ok R').2
 have hne:ht k p x<ht k p (at' r s):=by
  have:ht k p (at' r s)≠ht k p x:=ne
  omega
 obtain ⟨y,hy,hl⟩:=zaB (fun y=>ht k p y) (((List.range p.1.length).map fun i:Nat=>(i:Int)).filter fun y=>decide ((∃z,GE (ps p r) y z)∧ht k p y<ht k p (at' r s))) (by
  have:=(e.ok R').1.2
  refine List.ne_nil_of_mem (a:=x) (List.mem_filter.2 ⟨List.mem_map.2 ⟨x.toNat,List.mem_range.2 ?_,Int.toNat_of_nonneg this.1⟩,decide_eq_true ⟨⟨_,e.symm⟩,hne⟩⟩)
  have h2:x<(p.1.length:Int):=this.2
  have h1:0≤x:=this.1
  omega)
 rw [List.mem_filter,decide_eq_true_eq] at hy
 obtain ⟨_,⟨z,hz⟩,hlt⟩:=hy
 have off:∀w,¬onL (ps p r) y w:=by
  rintro w ⟨q,hq,h⟩
  have hq':q∈cyc r:=hq
  obtain ⟨i,hi,rfl⟩:=Q0.1 hq'
  have h0:r.length≠0:=by omega
  have m:y∈r:=by
   rcases h with ⟨h,_⟩|⟨_,h⟩
   ·rw [←h];exact Zs _ h0
   ·rw [←h];exact Zs _ h0
  have:=low y m
  omega
 obtain ⟨o1,_⟩:=zsj R' hk' off hz
 have:∃b c,rt k (ps p r) y b c:=by
  apply Decidable.byContradiction
  intro h
  rw [zjJ R' h] at o1
  omega
 obtain ⟨b,c,g,h1,h2⟩:=this
 have h1':ht k p b<ht k p y:=h1
 have rb:inr b p.1.length:=(g.ab.ok R').1.2
 have:=hl b (List.mem_filter.2 ⟨List.mem_map.2 ⟨b.toNat,List.mem_range.2 (by obtain ⟨q1,q2⟩:=rb;omega),Int.toNat_of_nonneg rb.1⟩,decide_eq_true ⟨⟨y,g.ab.symm⟩,by omega⟩⟩)
 omega
theorem zox:(isG (ps p r) (at' r 0) (at' r 1)∧sN (fun i=>tau k p (at' r i) (at' r (i+1)) (at' r (i+2))) r.length=2)∨(¬isG (ps p r) (at' r 0) (at' r 1)∧sN (fun i=>tau k p (at' r i) (at' r (i+1)) (at' r (i+2))) r.length=-2):=by
 have h3:=G.three
 have h0:r.length≠0:=by omega
 obtain ⟨x,hx,low⟩:=zaB (fun y=>ht k p y) r (fun h=>h0 (by rw [h];rfl))
 obtain ⟨s,hs,rfl⟩:=List.mem_iff_getElem.1 hx
 have es:r[s]=at' r s:=by
  obtain ⟨h',e⟩:=zcX (r:=r) s h0
  rw [e]
  simp only [Nat.mod_eq_of_lt hs]
 rw [es] at low
 have R':=R.ring G
 have hk':Gen k (ps p r):=hk
 have lo:=fun {x:Int}=>zwx R hk G (s:=s) low (x:=x)
 rw [ztz R hk G low]
 have ex:s+r.length-1+1=s+r.length:=by omega
 have eq0:at' r (s+r.length-1+1)=at' r s:=by rw [ex,zkh]
 have on1:onL (ps p r) (at' r s) (at' r (s+1)):=⟨_,znk r h0 s,.inl ⟨rfl,rfl⟩⟩
 have on2:onL (ps p r) (at' r (s+r.length-1)) (at' r s):=⟨_,znk r h0 (s+r.length-1),.inl ⟨rfl,by rw [eq0]⟩⟩
 have w1:=zh5 R' G.own s
 have w2:=zh5 R' G.own (s+r.length-1)
 rw [eq0] at w2
 have sw:∀{a b:Int},onL (ps p r) a b→onL (ps p r) b a:=fun ⟨s,hs,h⟩=>⟨s,hs,Or.symm h⟩
 have hne:at' r (s+r.length-1)≠at' r (s+1):=by
  have:=(zjZ G.nd h3 (s+r.length-1)).2
  rw [show s+r.length-1+2=s+1+r.length by omega,zkh] at this
  exact this
 have hd:dgr (ps p r).2.1 (at' r s)=2:=G.own.deg _ (Zs s h0)
 have g1:GE (ps p r) (at' r s) (at' r (s+1)):=zdz R' G.own s
 have g2:GE (ps p r) (at' r s) (at' r (s+r.length-1)):=by
  have:=zdz R' G.own (s+r.length-1)
  rw [eq0] at this
  exact this.symm
 have ho:=zuY R' on2 on1 hne hd
 have key:∀{u w:Int},GE (ps p r) (at' r s) u→GE (ps p r) (at' r s) w→u≠w→onL (ps p r) (at' r s) w→(∀x,onL (ps p r) (at' r s) x→x=u∨x=w)→isG (ps p r) (at' r s) w→0<crs (U6 p (at' r s)) (U6 p w) (U6 p u):=by
  intro u w gu gw huw hw ho gg
  rcases Int.lt_trichotomy (crs (U6 p (at' r s)) (U6 p w) (U6 p u)) 0 with h|h|h
  ·obtain ⟨b,c,g,h1,h2⟩:=zoe R' hk' hw ho gg (lo gw) gu (lo gu) h
   have:=lo g.ca.symm
   have h2':ht (ng k) p (at' r s)<ht (ng k) p c:=h2
   rw [YW,YW] at h2'
   omega
  ·refine (zeU R' (e:=ey k (U6 p (at' r s))) gw gu huw.symm h ?_ ?_).elim
   ·have:=lo gw
    show 0<crs (U6 p (at' r s)) (ey k (U6 p (at' r s))) (U6 p w)
    rw [zbq];omega
   ·have:=lo gu
    show 0<crs (U6 p (at' r s)) (ey k (U6 p (at' r s))) (U6 p u)
    rw [zbq];omega
  ·exact h
 have cy:=qS (U6 p (at' r (s+r.length-1))) (U6 p (at' r s)) (U6 p (at' r (s+1)))
 have co:=qA (U6 p (at' r s)) (U6 p (at' r (s+1))) (U6 p (at' r (s+r.length-1)))
 by_cases c:isG (ps p r) (at' r 0) (at' r 1)
 ·refine .inl ⟨c,?_⟩
  have:=key g2 g1 hne on1 ho (w1.2 c)
  rw [show sg (crs (U6 p (at' r (s+r.length-1))) (U6 p (at' r s)) (U6 p (at' r (s+1))))=1 by unfold sg;rw [if_pos (by omega)]]
  rfl
 ·refine .inr ⟨c,?_⟩
  have gg:isG (ps p r) (at' r s) (at' r (s+r.length-1)):=by
   rcases (zhN R' on2).1 with h|h
   ·exact absurd (w2.1 h) c
   ·exact h
  have:=key g1 g2 hne.symm (sw on2) (fun x hx=>(ho x hx).symm) gg
  rw [show sg (crs (U6 p (at' r (s+r.length-1))) (U6 p (at' r s)) (U6 p (at' r (s+1))))=-1 by unfold sg;rw [if_neg (by omega),if_pos (by omega)]]
  rfl
end
theorem zwb (k:Pt) (p:zy) (u v w:Int):tau k p w v u=-tau k p u v w:=zyh k (U6 p u) (U6 p v) (U6 p w)
theorem zvZ (f:Nat→Int):∀n,sN (fun i=>- f i) n=-sN f n
 |0=>rfl
 |n+1=>by show sN (fun i=>- f i) n+- f n=-(sN f n+f n);rw [zvZ f n];omega
theorem zkL {f g:Nat→Int}:∀n,(∀i,i<n→f i=g i)→sN f n=sN g n
 |0,_=>rfl
 |n+1,h=>by show sN f n+f n=sN g n+g n;rw [zkL n fun i hi=>h i (by omega),h n (by omega)]
theorem zqW (f:Nat→Int):∀n,sN (fun i=>1-f i) n=(n:Int)-sN f n
 |0=>rfl
 |n+1=>by show sN (fun i=>1-f i) n+(1-f n)=_-(sN f n+f n);rw [zqW f n];omega
def rcs (k:Pt) (p:zy) (v:Int):Int:=rc k p v+rc (ng k) p v
section
variable {p:zy} (R:Rt p) {k:Pt} (hk:Gen k p)
include R hk
theorem zuW {l1 l2:List (List Int)} {r:List Int} (ho:zV p.2.1 p.1.length p.1.length=l1++r::l2):sI (rcs k p) r=(r.length:Int)-(if zbH p (l1++l2) (at' r 0)=true then -2 else 2):=by
 have G:=zfA R ho
 have h3:=G.three
 have h0:r.length≠0:=by omega
 have e1:sI (rcs k p) r=sN (fun i=>rcs k p (at' r (i+1))) r.length:=by
  rw [←zfw _ (zpf G),ziH]
  unfold cyc
  rw [ziH,zkC]
 have ons:∀i,onL p (at' r i) (at' r (i+1)):=fun i=>G.on i
 have sw:∀{a b:Int},onL p a b→onL p b a:=fun ⟨s,hs,h⟩=>⟨s,hs,Or.symm h⟩
 have st:=fun i=>(zjZ G.nd h3 i).2
 have dg:=fun i=>G.deg _ (Zs (r:=r) i h0)
 have hw:=zh5 R G
 have dh:=zwm R ho
 rw [e1]
 by_cases c:isG p (at' r 0) (at' r 1)
 ·rw [zkL (f:=fun i=>rcs k p (at' r (i+1))) (g:=fun i=>1-tau k p (at' r i) (at' r (i+1)) (at' r (i+2))) _ fun i _=>zu1 R hk (ons i) (ons (i+1)) (st i) (dg (i+1)) ((hw i).2 c) ((hw (i+1)).2 c),zqW]
  rcases zox R hk G with ⟨a,t⟩|⟨a,t⟩
  ·rw [t,if_neg (by rw [dh.1 ⟨fun _=>a,fun _=>c⟩];decide)]
  ·rw [t,if_pos (by rw [←Bool.not_eq_false];exact fun h=>a ((dh.2 h).1 c))]
 ·have back:∀i,isG p (at' r (i+1)) (at' r i):=fun i=>by
   rcases (zhN R (ons i)).1 with h|h
   ·exact absurd ((hw i).1 h) c
   ·exact h
  rw [zkL (f:=fun i=>rcs k p (at' r (i+1))) (g:=fun i=>1-(-tau k p (at' r i) (at' r (i+1)) (at' r (i+2)))) _ fun i _=>show rcs k p _=_ by
   rw [←zwb]
   exact zu1 R hk (sw (ons (i+1))) (sw (ons i)) (st i).symm (dg (i+1)) (back (i+1)) (back i),zqW (fun i=>- tau k p (at' r i) (at' r (i+1)) (at' r (i+2))),zvZ]
  rcases zox R hk G with ⟨a,t⟩|⟨a,t⟩
  ·rw [t,if_pos (by rw [←Bool.not_eq_false];exact fun h=>c ((dh.2 h).2 a))]
  ·rw [t,if_neg (by rw [dh.1 ⟨fun h=>(c h).elim,fun h=>(a h).elim⟩];decide)]
   rfl
end
theorem zel {α:Type} (f g:α→Int):∀l:List α,sI (fun x=>f x+g x) l=sI f l+sI g l
 |[]=>rfl
 |a::l=>by rw [qy,qy,qy,zel f g l];omega
theorem zq9 {α β:Type} (f:α→β→Int) (V:List β):∀T:List α,sI (fun t=>sI (fun v=>f t v) V) T=sI (fun v=>sI (fun t=>f t v) T) V
 |[]=>(zc1 V fun _ _=>rfl).symm
 |t::T=>by
  rw [qy,zq9 f V T,←zel]
  rfl
theorem zeT {α:Type} (c:Int):∀l:List α,sI (fun _=>c) l=(l.length:Int)*c
 |[]=>by show (0:Int)=((0:Nat):Int)*c;simp
 |a::l=>by rw [qy,zeT c l,List.length_cons,Int.natCast_add,Int.add_mul];omega
def zfl (n:Nat):List Int:=(List.range n).map fun i:Nat=>(i:Int)
theorem zhm {n:Nat} {x:Int}:x∈zfl n↔inr x n:=by
 unfold zfl
 rw [List.mem_map]
 constructor
 ·rintro ⟨i,hi,rfl⟩
  have:=List.mem_range.1 hi
  exact ⟨by omega,by omega⟩
 ·rintro ⟨h1,h2⟩
  exact ⟨x.toNat,List.mem_range.2 (by omega),Int.toNat_of_nonneg h1⟩
theorem zjO (n:Nat):(zfl n).Nodup:=by
 unfold zfl
 exact List.Pairwise.map _ (fun a b h e=>h (by omega)) List.nodup_range
theorem zfu {k:Pt} {p:zy} {a b c:Int} (ha:inr a p.1.length):sI (fun v=>cnr k p v a b c) (zfl p.1.length)=if ht k p b<ht k p a∧ht k p a<ht k p c then 1 else 0:=by
 rw [zqA (zjO _) (zhm.2 ha) fun x _ hx=>zmW fun h=>hx h.1.symm]
 unfold cnr
 simp only [true_and]
section
variable {p:zy} (R:Rt p) {k:Pt} (hk:Gen k p)
include R hk
theorem zy1:((ji p).length:Int)=sI (rcs k p) (zfl p.1.length):=by
 have e:=zq9 (fun (t:Tr) (v:Int)=>rf k p v t+rf (ng k) p v t) (zfl p.1.length) (ji p)
 have e2:sI (fun v=>sI (fun t=>rf k p v t+rf (ng k) p v t) (ji p)) (zfl p.1.length)=sI (rcs k p) (zfl p.1.length):=Xw _ fun v _=>by
  rw [zel];rfl
 rw [e2] at e
 rw [←e]
 rw [Xw (g:=fun _=>1) _ fun t ht'=>?_,zeT]
 ·omega
 ·obtain ⟨_,g⟩:=(zdk R t).1 ht'
  obtain ⟨n1,n2,n3⟩:=g.ne R
  obtain ⟨r1,r2,r3⟩:=g.T.r
  have k1:=hk _ _ r1 r2 n1
  have k2:=hk _ _ r2 r3 n2
  have k3:=hk _ _ r3 r1 n3
  unfold rf
  rw [zel,zel,zel,zel,zel,zfu r1,zfu r2,zfu r3,zfu r1,zfu r2,zfu r3]
  simp only [YW]
  (repeat' split)<;>omega
end
def kay (p:zy):Int:=sI (fun i:Nat=>if dcn p.1 (zV p.2.1 p.1.length p.1.length) i (zV p.2.1 p.1.length p.1.length).length % 2=1 then (-1:Int) else 1) (List.range (zV p.2.1 p.1.length p.1.length).length)
theorem zmZ {p:zy} (RR:YX p):((ji p).length:Int)=2*(p.1.length:Int)-(p.2.1.length:Int)-2*kay p:=by
 have R:=RR.rt
 have hk:=zxW R
 rw [zy1 R hk]
 generalize ((1,1099511627776):Pt)=k at *
 have I:=oi R.lp p.1.length (Nat.le_refl _)
 have fc:=zks R.lp
 have perm:(zfl p.1.length).Perm ((zV p.2.1 p.1.length p.1.length).flatten++(zfl p.1.length).filter fun v=>decide (dgr p.2.1 v=0)):=by
  refine zbh (zjO _) (List.nodup_append.2 ⟨I.nd,(zjO _).filter _,fun x hx y hy e=>?_⟩) fun x=>?_
  ·subst e
   have:=(I.d x hx).2
   rw [List.mem_filter,decide_eq_true_eq] at hy
   omega
  ·rw [List.mem_append,List.mem_filter,decide_eq_true_eq,zhm]
   constructor
   ·intro hx
    by_cases h:dgr p.2.1 x=0
    ·exact .inr ⟨hx,h⟩
    ·left
     obtain ⟨h1,h2⟩:=hx
     have:=I.al x.toNat (by omega) (by
      rw [Int.toNat_of_nonneg h1]
      refine ⟨⟨h1,h2⟩,?_⟩
      have:=R.lp.deg x.toNat (by omega)
      rw [Int.toNat_of_nonneg h1] at this
      omega)
     rw [Int.toNat_of_nonneg h1] at this
     exact this
   ·rintro (h|h)
    ·exact (I.d x h).1
    ·exact h.1
 have hl:=perm.length_eq
 rw [List.length_append,fc] at hl
 have pl:(zfl p.1.length).length=p.1.length:=by unfold zfl;simp
 rw [zfw _ perm,znz]
 have zh3:sI (rcs k p) ((zfl p.1.length).filter fun v=>decide (dgr p.2.1 v=0))=(((zfl p.1.length).filter fun v=>decide (dgr p.2.1 v=0)).length:Int)*2:=by
  rw [←zeT]
  refine Xw _ fun v hv=>?_
  rw [List.mem_filter,decide_eq_true_eq,zhm] at hv
  obtain ⟨w,e⟩:=zkW RR hv.1
  have no:=ztM hv.2
  obtain ⟨a,b⟩:=zsj R hk (v:=v) (fun x ⟨s,hs,h⟩=>by
   have:=no s hs
   rcases h with h|h
   ·exact this.1 h.1
   ·exact this.2 h.2) e
  unfold rcs
  omega
 have main:sI (rcs k p) (zV p.2.1 p.1.length p.1.length).flatten=(p.2.1.length:Int)-2*kay p:=by
  have e0:(zV p.2.1 p.1.length p.1.length).flatten=(zV p.2.1 p.1.length p.1.length).flatMap id:=by rw [List.flatMap_id]
  have el:((zV p.2.1 p.1.length p.1.length).flatten.length:Int)=sI (fun i:Nat=>((rg (zV p.2.1 p.1.length p.1.length) i).length:Int)) (List.range (zV p.2.1 p.1.length p.1.length).length):=by
   rw [e0]
   have:=zeT (α:=Int) 1 ((zV p.2.1 p.1.length p.1.length).flatMap id)
   rw [zjX,zph R []] at this
   rw [show (((zV p.2.1 p.1.length p.1.length).flatMap id).length:Int)=(((zV p.2.1 p.1.length p.1.length).flatMap id).length:Int)*1 by omega,←this]
   refine Xw _ fun i _=>?_
   rw [zeT]
   show ((rg (zV p.2.1 p.1.length p.1.length) i).length:Int)*1=_
   omega
  rw [fc] at el
  rw [el,e0,zjX,zph R []]
  unfold kay
  have e2:∀l:List Nat,(∀i∈l,i<(zV p.2.1 p.1.length p.1.length).length)→sI (fun i:Nat=>sI (rcs k p) (id (rdD [] (zV p.2.1 p.1.length p.1.length) (i:Int)))) l=sI (fun i:Nat=>((rg (zV p.2.1 p.1.length p.1.length) i).length:Int)) l-2*sI (fun i:Nat=>if dcn p.1 (zV p.2.1 p.1.length p.1.length) i (zV p.2.1 p.1.length p.1.length).length % 2=1 then (-1:Int) else 1) l:=by
   intro l
   induction l with
   |nil=>intro _;rfl
   |cons i l ih =>
    intro hl
    have hi:=hl i List.mem_cons_self
    rw [qy,qy,qy,ih fun j hj=>hl j (List.mem_cons_of_mem _ hj)]
    have h2:=zuW R hk (zrC R hi)
    rw [←zsP R hi] at h2
    simp only [decide_eq_true_eq] at h2
    have:sI (rcs k p) (id (rdD [] (zV p.2.1 p.1.length p.1.length) (i:Int)))=sI (rcs k p) (rg (zV p.2.1 p.1.length p.1.length) i):=rfl
    rw [this,h2]
    split<;>omega
  exact e2 _ fun i hi=>List.mem_range.1 hi
 rw [zh3,main]
 omega
end Go.Proofs.YtpkkcjmblocjdaaGreat.Pure
end
section
namespace Go.Proofs.YtpkkcjmblocjdaaGreat.Pure
open Go.RowKit Go.Proofs.YtpkkcjmblocjdaaGreat.AM PL
theorem zyM {s t:Pt} (h:rv s=rv t):s=t:=by
 have:=congrArg rv h
 exact this
theorem zpV {p:zy} (R:Rt p):2*((j3 p).length:Int)=3*((ji p).length:Int)+(p.2.1.length:Int):=by
 have J:=X9 R.fine
 have en:(j3 p).Nodup:=(zaZ R.fine).imp fun {a b} h e=>by rw [e] at h;exact zjr.irr _ h
 have lt:∀s∈j3 p,s.1<s.2:=fun s hs=>(J.ok s ((jK p s).1 hs)).2
 have ge:∀s:Pt,s∈j3 p++(j3 p).map rv↔GE p s.1 s.2:=by
  intro s
  rw [List.mem_append,List.mem_map,jK]
  constructor
  ·rintro (h|⟨t,ht,rfl⟩)
   ·exact .inl h
   ·exact .inr ((jK p t).1 ht)
  ·rintro (h|h)
   ·exact .inl h
   ·exact .inr ⟨rv s,(jK p _).2 h,rfl⟩
 have perm:(j3 p++(j3 p).map rv).Perm ((ji p).flatMap qT++p.2.1.map fun s=>rv (XU p s)):=by
  refine zbh (List.nodup_append.2 ⟨en,List.Pairwise.map _ (fun a b h e=>h (zyM e)) en,fun x hx y hy e=>?_⟩) (List.nodup_append.2 ⟨zj0 R,List.Pairwise.map _ (fun a b (h:a≠b∧a∈p.2.1∧b∈p.2.1) e=>?_) ((List.Pairwise.and_mem.1 R.lp.nd).imp fun {a b} h=>⟨h.2.2,h.1,h.2.1⟩),fun x hx y hy e=>?_⟩) fun s=>?_
  ·subst e
   obtain ⟨t,ht,e⟩:=List.mem_map.1 hy
   have h1:=lt x hx
   have h2:=lt t ht
   rw [←e] at h1
   unfold rv at h1
   dsimp only at h1
   omega
  ·have e:=zyM e
   refine h.1 (Y9 R h.2.2 h.2.1 ?_)
   rcases zig R a with e1|e1<;>rcases zig R b with e2|e2
   ·exact .inl (by rw [e1,e2] at e;exact ⟨congrArg Prod.fst e,congrArg Prod.snd e⟩)
   ·exact .inr (by rw [e1,e2] at e;exact ⟨congrArg Prod.fst e,congrArg Prod.snd e⟩)
   ·exact .inr (by rw [e1,e2] at e;exact ⟨congrArg Prod.snd e,congrArg Prod.fst e⟩)
   ·exact .inl (by rw [e1,e2] at e;exact ⟨congrArg Prod.snd e,congrArg Prod.fst e⟩)
  ·subst e
   obtain ⟨t,ht,e⟩:=List.mem_map.1 hy
   have:=(zcz R x).1 hx
   rw [←e] at this
   exact (zp7 R ht).2 this
  ·rw [ge,List.mem_append,zcz R,List.mem_map]
   constructor
   ·intro g
    by_cases h:onL p s.1 s.2
    ·by_cases h':∃c,ZV p s.1 s.2 c
     ·exact .inl h'
     ·right
      obtain ⟨t,ht,e⟩:=h
      refine ⟨t,ht,?_⟩
      rcases e with ⟨e1,e2⟩|⟨e1,e2⟩
      ·have:t=s:=Prod.ext e1 e2
       rw [this,zeh h']
       rfl
      ·have:t=rv s:=Prod.ext e1 e2
       have h2:∃c,ZV p (rv s).1 (rv s).2 c:=by
        rcases zcw R ht with h|h
        ·rw [this] at h;exact h
        ·rw [this] at h;exact absurd h h'
       rw [this,zbz h2]
       rfl
    ·exact .inl (zbj R g h)
   ·rintro (⟨c,g⟩|⟨t,ht,e⟩)
    ·exact g.ab
    ·obtain ⟨⟨c,g⟩,_⟩:=zp7 R ht
     rw [←e]
     exact g.ab.symm
 have:=perm.length_eq
 rw [List.length_append,List.length_append,List.length_map,List.length_map,zgM] at this
 omega
theorem ztE {p:zy} (RR:YX p):((j3 p).length:Int)=3*(p.1.length:Int)-(p.2.1.length:Int)-3*kay p:=by
 have:=zpV RR.rt
 have:=zmZ RR
 omega
end Go.Proofs.YtpkkcjmblocjdaaGreat.Pure
end
section
namespace Go.Proofs.YtpkkcjmblocjdaaGreat.Pure
open Go.RowKit Go.Proofs.YtpkkcjmblocjdaaGreat.AM PL
def zlw (l:List Pt) (i:Nat):Bool:=(List.range i).all fun k=>!(decide ((rdD (0,0) l (k:Int)).1=(rdD (0,0) l (i:Int)).1))
def zjt (l:List Pt) (n:Nat):Nat:=((List.range n).filter (zlw l)).length
theorem zxe (l:List Pt) (n:Nat):zjt l n≤n:=by
 unfold zjt
 have:=List.length_filter_le (zlw l) (List.range n)
 simpa using this
theorem ztq (l:List Pt) (n:Nat):zjt l (n+1)=if zlw l n=true then zjt l n+1 else zjt l n:=by
 unfold zjt
 rw [List.range_succ,List.filter_append,List.length_append]
 cases h:zlw l n<;>simp [h]
theorem ztT (m:Nat) (f:List (List Int)) (hl:f.length≤900) (hc:∀c∈f,c.length≤900) (ht:(Zw f).length≤900) (hch:zn7 1048576 f=0):jz (m+1000) f=some (((zjt (Zw f) (Zw f).length:Nat):Int),((zeo (Zw f)).length:Int),(f.length:Int)):=by
 unfold jz Jy
 simp only [zx]
 rw [zkx m _ f hl hc ht,zr,za5 hch,zkj m f hl hc ht,zr]
 refine Z6 (fun i=>(f,Zw f,((zjt (Zw f) i:Nat):Int),(i:Int))) (Zw f).length rfl ?_ ?_ (m+1000) (by omega)
 ·intro next
  dsimp only
  rw [zg (by omega),zqf m f hl hc ht hch,zr]
 ·intro i hi next hn
  dsimp only
  have h9:=zxe (Zw f) i
  rw [zk (by omega)]
  refine Z6 (fun k=>(f,Zw f,((zjt (Zw f) i:Nat):Int),(i:Int),(List.range k).all (fun k=>!(decide ((rdD (0,0) (Zw f) (k:Int)).1=(rdD (0,0) (Zw f) (i:Int)).1))),(k:Int))) i rfl ?_ ?_ (m+1000) (by omega)
  ·intro next'
   dsimp only
   rw [zg (by omega),zl (by omega) (by omega),zl (by omega) (by omega),←hn,ztq]
   show (bif zlw (Zw f) i then _ else _)=_
   cases zlw (Zw f) i<;>rfl
  ·intro k hk next' hn'
   dsimp only
   rw [zk (by omega),zP (zA ⟨by omega,by omega⟩),zP (zA ⟨by omega,by omega⟩),zl (by omega) (by omega),←hn',List.range_succ,List.all_append]
   cases (List.range k).all (fun k=>!(decide ((rdD (0,0) (Zw f) (k:Int)).1=(rdD (0,0) (Zw f) (i:Int)).1)))<;>simp
theorem zxx {l:List Pt}:∀{i:Nat},i<l.length→∃j,j≤i∧zlw l j=true∧(rdD (0,0) l (j:Int)).1=(rdD (0,0) l (i:Int)).1:=by
 intro i
 induction i using Nat.strongRecOn with
 |_ i ih =>
  intro hi
  cases h:zlw l i with
  |true=>exact ⟨i,Nat.le_refl _,h,rfl⟩
  |false =>
   unfold zlw at h
   rw [List.all_eq_false] at h
   obtain ⟨k,hk,e⟩:=h
   have hk:=List.mem_range.1 hk
   simp only [Bool.not_eq_true',decide_eq_false_iff_not,Decidable.not_not] at e
   obtain ⟨j,h1,h2,h3⟩:=ih k hk (by omega)
   exact ⟨j,by omega,h2,h3.trans e⟩
theorem zxQ {l:List Pt} {n:Nat} (h:∀x:Int,(∃s∈l,s.1=x)↔inr x n):zjt l l.length=n:=by
 have e:((List.range l.length).filter (zlw l)).map (fun i:Nat=>(rdD (0,0) l (i:Int)).1) |>.Perm (zfl n):=by
  refine zbh ?_ (zjO n) fun x=>?_
  ·rw [List.nodup_iff_pairwise_ne,List.pairwise_map]
   refine (List.pairwise_lt_range.filter _).imp_of_mem fun {a b} ha hb hlt e=>?_
   have hb:=(List.mem_filter.1 hb).2
   unfold zlw at hb
   have:=List.all_eq_true.1 hb a (List.mem_range.2 hlt)
   rw [e] at this
   simp at this
  ·rw [zhm,←h,List.mem_map]
   constructor
   ·rintro ⟨i,hi,rfl⟩
    have hi:=List.mem_range.1 (List.mem_filter.1 hi).1
    exact ⟨_,by rw [zY _ l i hi];exact List.getElem_mem hi,rfl⟩
   ·rintro ⟨s,hs,rfl⟩
    obtain ⟨i,hi,rfl⟩:=List.mem_iff_getElem.1 hs
    obtain ⟨j,h1,h2,h3⟩:=zxx hi
    exact ⟨j,List.mem_filter.2 ⟨List.mem_range.2 (by omega),h2⟩,h3.trans (by rw [zY _ l i hi])⟩
 have:=e.length_eq
 rw [List.length_map] at this
 unfold zjt
 rw [this]
 unfold zfl
 simp
theorem zqu {p:zy} (RR:YX p):zjt ((ji p).flatMap qT) ((ji p).flatMap qT).length=p.1.length:=by
 have R:=RR.rt
 refine zxQ fun x=>?_
 constructor
 ·rintro ⟨s,hs,rfl⟩
  obtain ⟨c,g⟩:=(zcz R s).1 hs
  exact g.T.r.1
 ·intro hx
  obtain ⟨t,ht',h⟩:=zty RR hx
  rcases h with h|h|h
  ·exact ⟨(t.1,t.2.1),List.mem_flatMap.2 ⟨t,ht',by unfold qT;simp⟩,h⟩
  ·exact ⟨(t.2.1,t.2.2),List.mem_flatMap.2 ⟨t,ht',by unfold qT;simp⟩,h⟩
  ·exact ⟨(t.2.2,t.1),List.mem_flatMap.2 ⟨t,ht',by unfold qT;simp⟩,h⟩
end Go.Proofs.YtpkkcjmblocjdaaGreat.Pure
end
section
namespace Go.Proofs.YtpkkcjmblocjdaaGreat.Pure
open Go.RowKit Go.Proofs.YtpkkcjmblocjdaaGreat.AM PL
def XN (p:zy):List Int:=(List.range (zV p.2.1 p.1.length p.1.length).length).map fun i=>(dcn p.1 (zV p.2.1 p.1.length p.1.length) i (zV p.2.1 p.1.length p.1.length).length:Int)
theorem ztN (m:Nat) (hm:130000≤m) {p:zy} (R:Rt p) (hn:p.1.length≤350) (hL:p.2.1.length≤350):jA (m+1000) (p.1.length:Int) p.2.1=some (zV p.2.1 p.1.length p.1.length,0,0):=by
 have hrg:=zvl m p.1.length p.2.1 hm hn hL R.fine.okL R.fine.twoL
 have hod:row (odd p.2.1) p.1.length 0 0=none:=zkX.2 fun k hk=>by
  unfold odd
  rcases R.lp.deg k hk with h|h<;>simp [h]
 have hrv:zdb p.2.1 p.1.length=(zV p.2.1 p.1.length p.1.length,0,0):=by unfold zdb;rw [hod]
 rw [hrv] at hrg
 exact hrg
theorem zxB (m:Nat) {p:zy} (R:Rt p) (hn:p.1.length≤350):Zx (m+1000) (p.1,p.2.1,p.2.2) (zV p.2.1 p.1.length p.1.length)=some (XN p):=by
 have hol:=zfg p.2.1 p.1.length p.1.length
 have rng:∀r∈zV p.2.1 p.1.length p.1.length,Rng p.2.1 r:=fun r hr=>ze8 R.lp hr
 have rle:∀r∈zV p.2.1 p.1.length p.1.length,r.length≤350:=fun r hr=>by have:=(rng r hr).len R.lp;omega
 have hdp:zhf p.1 (zV p.2.1 p.1.length p.1.length)=(XN p,0):=by
  unfold zhf XN
  rw [if_pos (List.all_eq_true.2 fun r hr=>?_)]
  have G:=rng r hr
  have:=(R.ring G).okl (g:=1) (by decide) (by decide)
  unfold okr
  rw [zrO]
  have h3:=G.three
  rw [show okl p.1 1 (cyc r)=true from this,decide_eq_false (by omega)]
  rfl
 have hdd:=zx2 (m+600) p.1 (zV p.2.1 p.1.length p.1.length) (by omega) rle
 unfold Zx Kj
 dsimp only
 rw [show jR (m+1000) p.1 _=_ from hdd,zr,hdp]
def kf (p:zy) (i:Nat):Int:=if dcn p.1 (zV p.2.1 p.1.length p.1.length) i (zV p.2.1 p.1.length p.1.length).length % 2=1 then (-1:Int) else 1
theorem zAH (p:zy):kay p=sN (kf p) (XN p).length:=by
 unfold kay XN
 rw [List.length_map,List.length_range,←zkC]
 rfl
theorem zzf (p:zy):∀n:Nat,-(n:Int)≤sN (kf p) n∧sN (kf p) n≤n
 |0=>by show -((0:Nat):Int)≤0∧(0:Int)≤((0:Nat):Int);omega
 |n+1=>by
  have:=zzf p n
  show -(((n+1:Nat)):Int)≤sN (kf p) n+kf p n∧sN (kf p) n+kf p n≤((n+1:Nat):Int)
  unfold kf at *
  split<;>omega
theorem ztJ (p:zy):(XN p).length≤p.1.length:=by
 unfold XN
 rw [List.length_map,List.length_range]
 exact zfg _ _ _
theorem zvQ {p:zy} {i:Nat} (hi:i<(XN p).length):(rdD 0 (XN p) (i:Int)).tmod 2=if kf p i=1 then 0 else 1:=by
 have hi':i<(zV p.2.1 p.1.length p.1.length).length:=by unfold XN at hi;rw [List.length_map,List.length_range] at hi;exact hi
 have:rdD 0 (XN p) (i:Int)=(dcn p.1 (zV p.2.1 p.1.length p.1.length) i (zV p.2.1 p.1.length p.1.length).length:Int):=by
  unfold XN
  rw [zY _ _ i (by rw [List.length_map,List.length_range];exact hi'),List.getElem_map,List.getElem_range]
 rw [this,Int.tmod_eq_emod_of_nonneg (by omega)]
 unfold kf
 split<;>split<;>omega
theorem zAC (p:zy) (i:Nat):kf p i=1∨kf p i=-1:=by unfold kf;split<;>simp
end Go.Proofs.YtpkkcjmblocjdaaGreat.Pure
end
