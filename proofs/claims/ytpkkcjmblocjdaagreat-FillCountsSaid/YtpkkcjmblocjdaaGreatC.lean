/- The abstract machine, 1: kinds of data, abstract values, what a value of the model says. -/
import Derived.Below
import Derived.KernelRfl
set_option linter.unusedVariables false
set_option linter.unusedSimpArgs false
set_option linter.unusedSectionVars false
section
namespace Go.Proofs.YtpkkcjmblocjdaaGreat.AM
open Go.RowKit
inductive Kd where
 |int (k:IntKind)
 |bool
 |str
 |pair (a b:Kd)
 |sl (e:Kd)
  |mp (k v:Kd)
def Kd.T:Kd→Type
 |.int _=>Int
 |.bool=>Bool
 |.str=>ByteArray
 |.pair a b=>a.T×b.T
 |.sl e=>List e.T
 |.mp k v=>List (k.T×v.T)
def Kd.dflt:(κ:Kd)→κ.T
 |.int _=>(0:Int)
 |.bool=>false
 |.str=>ByteArray.empty
 |.pair a b=>(a.dflt,b.dflt)
 |.sl _=>[]
 |.mp _ _=>[]
def Kd.size:Kd→Nat
 |.pair a b=>a.size+b.size
 |_=>1
def kb:IntKind→IntKind→Bool
 |.i64,.i64=>true
 |.u64,.u64=>true
 |.i32,.i32=>true
 |.u32,.u32=>true
 |.i16,.i16=>true
 |.u16,.u16=>true
 |.i8,.i8=>true
 |.u8,.u8=>true
 |_,_=>false
theorem zat {a b:IntKind} (h:kb a b=true):a=b:=by cases a<;>cases b<;>first|rfl|(simp [kb] at h)
theorem zwl (a:IntKind):kb a a=true:=by cases a<;>rfl
def Kd.beq:Kd→Kd→Bool
 |.int j,.int k=>kb j k
 |.bool,.bool=>true
 |.str,.str=>true
 |.pair a b,.pair c d=>Kd.beq a c&&Kd.beq b d
 |.sl a,.sl b=>Kd.beq a b
 |.mp a b,.mp c d=>Kd.beq a c&&Kd.beq b d
 |_,_=>false
theorem Kd.eq_of_beq:∀{a b:Kd},Kd.beq a b=true→a=b
 |.int j,.int k,h=>by rw [zat (a:=j) (b:=k) (by simpa [Kd.beq] using h)]
 |.bool,.bool,_=>rfl
 |.str,.str,_=>rfl
 |.pair a b,.pair c d,h=>by
  have h':Kd.beq a c=true∧Kd.beq b d=true:=by simpa [Kd.beq] using h
  rw [Kd.eq_of_beq h'.1,Kd.eq_of_beq h'.2]
 |.sl a,.sl b,h=>by rw [Kd.eq_of_beq (a:=a) (b:=b) (by simpa [Kd.beq] using h)]
 |.mp a b,.mp c d,h=>by
  have h':Kd.beq a c=true∧Kd.beq b d=true:=by simpa [Kd.beq] using h
  rw [Kd.eq_of_beq h'.1,Kd.eq_of_beq h'.2]
 |.mp _ _,.int _,h=>by simp [Kd.beq] at h
 |.mp _ _,.bool,h=>by simp [Kd.beq] at h
 |.mp _ _,.str,h=>by simp [Kd.beq] at h
 |.mp _ _,.pair _ _,h=>by simp [Kd.beq] at h
 |.mp _ _,.sl _,h=>by simp [Kd.beq] at h
 |.int _,.mp _ _,h=>by simp [Kd.beq] at h
 |.bool,.mp _ _,h=>by simp [Kd.beq] at h
 |.str,.mp _ _,h=>by simp [Kd.beq] at h
 |.pair _ _,.mp _ _,h=>by simp [Kd.beq] at h
 |.sl _,.mp _ _,h=>by simp [Kd.beq] at h
 |.int _,.bool,h=>by simp [Kd.beq] at h
 |.int _,.str,h=>by simp [Kd.beq] at h
 |.int _,.pair _ _,h=>by simp [Kd.beq] at h
 |.int _,.sl _,h=>by simp [Kd.beq] at h
 |.bool,.int _,h=>by simp [Kd.beq] at h
 |.bool,.str,h=>by simp [Kd.beq] at h
 |.bool,.pair _ _,h=>by simp [Kd.beq] at h
 |.bool,.sl _,h=>by simp [Kd.beq] at h
 |.str,.int _,h=>by simp [Kd.beq] at h
 |.str,.bool,h=>by simp [Kd.beq] at h
 |.str,.pair _ _,h=>by simp [Kd.beq] at h
 |.str,.sl _,h=>by simp [Kd.beq] at h
 |.pair _ _,.int _,h=>by simp [Kd.beq] at h
 |.pair _ _,.bool,h=>by simp [Kd.beq] at h
 |.pair _ _,.str,h=>by simp [Kd.beq] at h
 |.pair _ _,.sl _,h=>by simp [Kd.beq] at h
 |.sl _,.int _,h=>by simp [Kd.beq] at h
 |.sl _,.bool,h=>by simp [Kd.beq] at h
 |.sl _,.str,h=>by simp [Kd.beq] at h
 |.sl _,.pair _ _,h=>by simp [Kd.beq] at h
def zgj (a b:Kd) (xs:List a.T):Option (List b.T) :=
 if h:Kd.beq a b=true then some ((Kd.eq_of_beq h) ▸ xs) else none
theorem YM {a b:Kd} {xs:List a.T} {ys:List b.T} (h:zgj a b xs=some ys):∃e:a=b,ys=e ▸ xs:=by
 unfold zgj at h
 split at h
 ·rename_i hb
  exact ⟨Kd.eq_of_beq hb,by injection h with h;exact h.symm⟩
 ·cases h
def Kd.lfs:Kd→List Kd
 |.pair a b=>Kd.lfs a++Kd.lfs b
 |k=>[k]
def lfB:List Kd→List Kd→Bool
 |[],[]=>true
 |.int j::r,.int k::q=>kb j k&&lfB r q
 |.bool::r,.bool::q=>lfB r q
 |_,_=>false
def Kd.isPair:Kd→Bool
 |.pair _ _=>true
 |_=>false
def Kd.isOne:Kd→Bool
 |.int _=>true
 |.bool=>true
 |_=>false
def zn8 (x y:Int):Bool:=decide (x=y)
def zsU (x y:Bool):Bool:=x==y
def Kd.eqT:(κ:Kd)→κ.T→κ.T→Bool
 |.int _,x,y=>zn8 x y
 |.bool,x,y=>zsU x y
 |.pair a b,x,y=>Kd.eqT a x.1 y.1&&Kd.eqT b x.2 y.2
 |.str,_,_=>false
 |.sl _,_,_=>false
 |.mp _ _,_,_=>false
def Kd.vs:(κ:Kd)→κ.T→List Value
 |.int k,x=>[.int k x]
 |.bool,x=>[.bool x]
 |.pair a b,x=>Kd.vs a x.1++Kd.vs b x.2
 |.str,x=>[.string x]
 |.sl _,_=>[undef]
 |.mp _ _,_=>[undef]
def Jn (κ ν:Kd):List (κ.T×ν.T)→List MapEntry→Prop
 |[],es=>es=[]
 |p::ps,es=>∃e r,es=e::r∧e.key=.agg (κ.vs p.1).toArray∧ν.vs p.2=[e.val]∧Jn κ ν ps r
def zqC (es:Array MapEntry) (clock:Nat):Prop:=(∀x∈es.toList,x.born<clock)∧(es.toList.map (·.born)).Nodup
def zfD (a b c d:Kd) (xs:List (a.T×b.T)):Option (List (c.T×d.T)) :=
 if h:Kd.beq a c=true then (if k:Kd.beq b d=true then some ((Kd.eq_of_beq h) ▸ (Kd.eq_of_beq k) ▸ xs) else none) else none
theorem zaA {a b c d:Kd} {xs:List (a.T×b.T)} {ys:List (c.T×d.T)} (h:zfD a b c d xs=some ys):∃(e:a=c) (f:b=d),ys=e ▸ f ▸ xs:=by
 unfold zfD at h
 split at h
 ·rename_i hb
  split at h
  ·rename_i hd
   exact ⟨Kd.eq_of_beq hb,Kd.eq_of_beq hd,by injection h with h;exact h.symm⟩
  ·cases h
 ·cases h
inductive AV where
 |int (k:IntKind) (n:Int)
 |bool (b:Bool)
 |str (s:ByteArray)
  |nil
  |sl (e:Kd) (xs:List e.T)
  |row (id:Nat) (e:Kd) (n:Nat)
 |agg (cs:List AV)
 |tup (vs:List AV)
  |ptr (id off:Nat)
  |kptr (cs:List AV)
  |elem (id:Nat) (e:Kd) (i:Int) (off:Nat)
 |fn (f:Nat) (fst caps:List AV)
 |mp (id:Nat) (k v:Kd)
  |fmp (k v:Kd) (es:List (k.T×v.T))
  |nmp
  |it (id:Nat) (k v:Kd)
 |dead
def AV.pure:AV→Bool
 |.int _ _=>true
 |.bool _=>true
 |.str _=>true
 |.nil=>true
 |.sl _ _=>true
 |.fmp _ _ _=>true
 |.nmp=>true
 |.dead=>true
 |_=>false
def Kd.cells:(κ:Kd)→κ.T→List AV
 |.int k,x=>[.int k x]
 |.bool,x=>[.bool x]
 |.str,x=>[.str x]
 |.pair a b,x=>a.cells x.1++b.cells x.2
 |.sl e,x=>[.sl e x]
 |.mp k v,x=>[.fmp k v x]
def Kd.av:(κ:Kd)→κ.T→AV
 |.int k,x=>.int k x
 |.bool,x=>.bool x
 |.str,x=>.str x
 |.pair a b,x=>.agg (Kd.cells (.pair a b) x)
 |.sl e,x=>.sl e x
 |.mp k v,x=>.fmp k v x
def Kd.dec:(κ:Kd)→List AV→Option (κ.T×List AV)
 |.int k,.int j n::r=>if kb j k=true then some (n,r) else none
 |.bool,.bool b::r=>some (b,r)
 |.str,.str s::r=>some (s,r)
 |.pair a b,cs=>match Kd.dec a cs with
  |some (x,r)=>match Kd.dec b r with
   |some (y,r')=>some ((x,y),r')
   |none=>none
  |none=>none
 |.sl _,.nil::r=>some ([],r)
 |.sl e,.sl e' xs::r=>match zgj e' e xs with
  |some ys=>some (ys,r)
  |none=>none
 |.mp _ _,.nmp::r=>some ([],r)
 |.mp k v,.fmp k' v' xs::r=>match zfD k' v' k v xs with
  |some ys=>some (ys,r)
  |none=>none
 |_,_=>none
def AV.cells:AV→List AV
 |.agg cs=>cs
 |v=>[v]
def zzp {α:Type} (w:World) (R:Nat→Prop) (size:Nat) (P:α→List Value→Prop) (xs:List α) (A:Option Addr):Prop :=
 xs=[]∨∃ad:Addr,A=some ad∧R ad.block∧∀(i:Nat) (x:α),xs[i]?=some x→∃us,P x us∧∀(j:Nat) (u:Value),us[j]?=some u→w.cell? (ad.add (i*size+j))=some u
def z8 (w:World) (R:Nat→Prop):(κ:Kd)→κ.T→List Value→Prop
 |.int k,x,vs=>vs=[.int k x]
 |.bool,x,vs=>vs=[.bool x]
 |.str,x,vs=>vs=[.string x]
 |.pair a b,x,vs=>∃v1 v2,vs=v1++v2∧z8 w R a x.1 v1∧z8 w R b x.2 v2
 |.sl e,xs,vs=>∃A c,vs=[.slice A (List.length (α:=e.T) xs) c]∧List.length (α:=e.T) xs≤c∧zzp (α:=e.T) w R e.size (z8 w R e) xs A
 |.mp k v,xs,vs=>(vs=[.map none]∧List.length (α:=k.T×v.T) xs=0)∨∃b es clock,vs=[.map (some b)]∧R b∧w.heap[b]?=some (.map es clock)∧zqC es clock∧Jn k v xs es.toList
theorem z8.len {w:World} {R:Nat→Prop}:∀{κ:Kd} {x:κ.T} {vs:List Value},z8 w R κ x vs→vs.length=κ.size
 |.int _,_,_,h=>by simp only [z8] at h;rw [h];rfl
 |.bool,_,_,h=>by simp only [z8] at h;rw [h];rfl
 |.str,_,_,h=>by simp only [z8] at h;rw [h];rfl
 |.pair a b,_,_,h=>by
  simp only [z8] at h
  obtain ⟨v1,v2,rfl,h1,h2⟩:=h
  rw [List.length_append,h1.len,h2.len];rfl
 |.sl _,_,_,h=>by simp only [z8] at h;obtain ⟨A,c,rfl,_⟩:=h;rfl
 |.mp _ _,_,_,h=>by
  simp only [z8] at h
  rcases h with ⟨rfl,_⟩|⟨b,es,cl,rfl,_⟩<;>rfl
theorem z8.one {w:World} {R:Nat→Prop}:∀{κ:Kd} {x:κ.T} {vs:List Value},z8 w R κ x vs→∀u∈vs,u.oneCell'=true
 |.int _,_,_,h=>by simp only [z8] at h;rw [h];simp [Value.oneCell']
 |.bool,_,_,h=>by simp only [z8] at h;rw [h];simp [Value.oneCell']
 |.str,_,_,h=>by simp only [z8] at h;rw [h];simp [Value.oneCell']
 |.pair a b,_,_,h=>by
  simp only [z8] at h
  obtain ⟨v1,v2,rfl,h1,h2⟩:=h
  intro u hu
  rcases List.mem_append.1 hu with hu|hu
  ·exact h1.one u hu
  ·exact h2.one u hu
 |.sl _,_,_,h=>by simp only [z8] at h;obtain ⟨A,c,rfl,_⟩:=h;simp [Value.oneCell']
 |.mp _ _,_,_,h=>by
  simp only [z8] at h
  rcases h with ⟨rfl,_⟩|⟨b,es,cl,rfl,_⟩<;>simp [Value.oneCell']
theorem JH (a:Addr) (n:Nat):(a.add n).block=a.block:=by unfold Addr.add;split<;>rfl
theorem zgW (a:Addr) (m n:Nat):(a.add m).add n=a.add (m+n):=by
 unfold Addr.add
 by_cases h1:m=0<;>by_cases h2:n=0<;>simp [h1,h2,Nat.add_assoc]
theorem jR (g o j:Nat):(⟨g,o,none⟩:Addr).add j=⟨g,o+j,none⟩:=by unfold Addr.add;split<;>simp_all
theorem z8.mono {w w':World} {R R':Nat→Prop} (hw:∀b,R b→w'.heap[b]?=w.heap[b]?) (hR:∀b,R b→R' b) :
  ∀{κ:Kd} {x:κ.T} {vs:List Value},z8 w R κ x vs→z8 w' R' κ x vs
 |.int _,_,_,h=>by simpa only [z8] using h
 |.bool,_,_,h=>by simpa only [z8] using h
 |.str,_,_,h=>by simpa only [z8] using h
 |.pair a b,_,_,h=>by
  simp only [z8] at h ⊢
  obtain ⟨v1,v2,rfl,h1,h2⟩:=h
  exact ⟨v1,v2,rfl,h1.mono hw hR,h2.mono hw hR⟩
 |.sl e,_,_,h=>by
  simp only [z8] at h ⊢
  obtain ⟨A,c,rfl,hc,h⟩:=h
  refine ⟨A,c,rfl,hc,?_⟩
  rcases h with h|⟨ad,rfl,hr,h⟩
  ·exact .inl h
  ·refine .inr ⟨ad,rfl,hR _ hr,fun i x hx=>?_⟩
   obtain ⟨us,hu,hcell⟩:=h i x hx
   refine ⟨us,z8.mono hw hR hu,fun j u hj=>?_⟩
   rw [World.cell?_of_block (w:=w) (by rw [JH];exact hw _ hr)]
   exact hcell j u hj
 |.mp k v,_,_,h=>by
  simp only [z8] at h ⊢
  rcases h with h|⟨b,es,cl,h1,h2,h3,h4⟩
  ·exact .inl h
  ·exact .inr ⟨b,es,cl,h1,hR _ h2,(hw _ h2).trans h3,h4⟩
structure Gh where
 w:World
 R:Nat→Prop
 μ:Nat→Option Nat
 ν:Nat→Option Value
 η:Nat→Option Nat
mutual
def zf (Γ:Gh):AV→Value→Prop
 |.int k n,v=>v=.int k n
 |.bool b,v=>v=.bool b
 |.str s,v=>v=.string s
 |.nil,v=>v=.slice none 0 0
 |.sl e xs,v=>z8 Γ.w Γ.R (.sl e) xs [v]
 |.row id _ n,v=>Γ.ν id=some v∧((n=0∧v=.slice none 0 0)∨∃g c,v=.slice (some ⟨g,0,none⟩) n c)
 |.agg cs,v=>∃vs:List Value,v=.agg vs.toArray∧zq Γ cs vs
 |.tup cs,v=>∃vs:List Value,v=.tuple vs.toArray∧zq Γ cs vs
 |.ptr id off,v=>∃b,Γ.μ id=some b∧v=.pointer (some ⟨b,off,none⟩)
 |.kptr cs,v=>∃(ad:Addr) (us:List Value),v=.pointer (some ad)∧Γ.R ad.block∧cs.all AV.pure=true∧zq Γ cs us∧∀j u,us[j]?=some u→Γ.w.cell? (ad.add j)=some u
 |.elem id e i off,v=>∃g n c,Γ.ν id=some (.slice (some ⟨g,0,none⟩) n c)∧i.toNat<n∧v=.pointer (some ⟨g,i.toNat*e.size+off,none⟩)
 |.fn f fst caps,v=>∃us vs:List Value,v=.func (.func f) us.toArray vs.toArray∧zq Γ fst us∧zq Γ caps vs
 |.mp id _ _,v=>∃b,Γ.η id=some b∧v=.map (some b)
 |.fmp k v' xs,v=>z8 Γ.w Γ.R (.mp k v') xs [v]
 |.nmp,v=>v=.map none
 |.it id _ _,v=>∃b,Γ.η id=some b∧v=.pointer (some ⟨b,0,none⟩)
 |.dead,_=>True
def zq (Γ:Gh):List AV→List Value→Prop
 |[],vs=>vs=[]
 |c::cs,vs=>∃v vs',vs=v::vs'∧zf Γ c v∧zq Γ cs vs'
end
structure Ext (B:Nat) (Γ Γ':Gh):Prop where
 R:∀b,Γ.R b→Γ'.R b
 heap:∀b,Γ.R b→Γ'.w.heap[b]?=Γ.w.heap[b]?
 μ:∀i b,Γ.μ i=some b→Γ'.μ i=some b
 ν:∀i v,Γ.ν i=some v→Γ'.ν i=some v
 η:∀i b,Γ.η i=some b→Γ'.η i=some b
 new:∀b,Γ'.R b→Γ.R b∨B≤b
 drn:Γ.w.drawn≤Γ'.w.drawn
theorem Ext.refl (B:Nat) (Γ:Gh):Ext B Γ Γ:=⟨fun _ h=>h,fun _ _=>rfl,fun _ _ h=>h,fun _ _ h=>h,fun _ _ h=>h,fun _ h=>.inl h,Nat.le_refl _⟩
theorem Ext.trans {B : Nat} {Γ Γ' Γ'' : Gh} (h : Ext B Γ Γ') (k : Ext B Γ' Γ'') : Ext B Γ Γ'' :=
  ⟨fun b hb => k.R b (h.R b hb), fun b hb => (k.heap b (h.R b hb)).trans (h.heap b hb), fun i b hb => k.μ i b (h.μ i b hb), fun i v hv => k.ν i v (h.ν i v hv), fun i b hb => k.η i b (h.η i b hb),
   fun b hb => by
    rcases k.new b hb with hb | hb
    · exact h.new b hb
    · exact .inr hb, Nat.le_trans h.drn k.drn⟩
mutual
theorem zf.ext {B:Nat} {Γ Γ':Gh} (E:Ext B Γ Γ'):∀{a:AV} {v:Value},zf Γ a v→zf Γ' a v
 |.int _ _,_,h=>by simpa only [zf] using h
 |.bool _,_,h=>by simpa only [zf] using h
 |.str _,_,h=>by simpa only [zf] using h
 |.nil,_,h=>by simpa only [zf] using h
 |.sl e xs,_,h=>by
  simp only [zf] at h ⊢
  exact h.mono E.heap E.R
 |.row id e n,_,h=>by
  simp only [zf] at h ⊢
  exact ⟨E.ν _ _ h.1,h.2⟩
 |.agg cs,_,h=>by
  simp only [zf] at h ⊢
  obtain ⟨vs,rfl,h⟩:=h
  exact ⟨vs,rfl,zq.ext E h⟩
 |.tup cs,_,h=>by
  simp only [zf] at h ⊢
  obtain ⟨vs,rfl,h⟩:=h
  exact ⟨vs,rfl,zq.ext E h⟩
 |.ptr id off,_,h=>by
  simp only [zf] at h ⊢
  obtain ⟨b,h,rfl⟩:=h
  exact ⟨b,E.μ _ _ h,rfl⟩
 |.kptr cs,_,h=>by
  simp only [zf] at h ⊢
  obtain ⟨ad,us,rfl,hr,hp,hl,hc⟩:=h
  refine ⟨ad,us,rfl,E.R _ hr,hp,zq.ext E hl,fun j u hj=>?_⟩
  rw [World.cell?_of_block (w:=Γ.w) (by rw [JH];exact E.heap _ hr)]
  exact hc j u hj
 |.elem id e i off,_,h=>by
  simp only [zf] at h ⊢
  obtain ⟨g,n,c,h,hi,rfl⟩:=h
  exact ⟨g,n,c,E.ν _ _ h,hi,rfl⟩
 |.fn f fst caps,_,h=>by
  simp only [zf] at h ⊢
  obtain ⟨us,vs,rfl,h1,h2⟩:=h
  exact ⟨us,vs,rfl,zq.ext E h1,zq.ext E h2⟩
 |.mp id _ _,_,h=>by
  simp only [zf] at h ⊢
  obtain ⟨b,h,rfl⟩:=h
  exact ⟨b,E.η _ _ h,rfl⟩
 |.fmp k v xs,_,h=>by
  simp only [zf] at h ⊢
  exact h.mono E.heap E.R
 |.nmp,_,h=>by simpa only [zf] using h
 |.it id _ _,_,h=>by
  simp only [zf] at h ⊢
  obtain ⟨b,h,rfl⟩:=h
  exact ⟨b,E.η _ _ h,rfl⟩
 |.dead,_,_=>by simp only [zf]
theorem zq.ext {B:Nat} {Γ Γ':Gh} (E:Ext B Γ Γ'):∀{a:List AV} {v:List Value},zq Γ a v→zq Γ' a v
 |[],_,h=>by simpa only [zq] using h
 |c::cs,_,h=>by
  simp only [zq] at h ⊢
  obtain ⟨v,vs,rfl,h1,h2⟩:=h
  exact ⟨v,vs,rfl,zf.ext E h1,zq.ext E h2⟩
end
end Go.Proofs.YtpkkcjmblocjdaaGreat.AM
end
section
namespace Go.Proofs.YtpkkcjmblocjdaaGreat.AM
open Go.RowKit
def br {α:Type} (b:Bool) (x y:α):α:=cond b x y
def bnd {α ρ:Type} (x:Option α) (k:α→Option ρ):Option ρ:=x.bind k
def gd {ρ:Type} (b:Bool) (x:Option ρ):Option ρ:=cond b x none
def zz {α ρ:Type} (cont:α→Option ρ) (k:(α→Option ρ)→Option ρ):Option ρ:=k cont
def zA {α ρ:Type} (zqw:α→(α→Option ρ)→Option ρ):Nat→α→Option ρ
 |0,_=>none
 |n+1,x=>zqw x (zA zqw n)
def K1 {α:Type} (xs:List α):Nat:=xs.length
def ofN (n:Nat):Int:=n
def zzm (m n:Nat):Nat:=m+n
def inb (i:Int) (n:Nat):Bool:=decide (0≤i)&&decide (i<(n:Int))
def rdD {α:Type} (d:α) (xs:List α) (i:Int):α:=xs.getD i.toNat d
def few (n:Nat):Bool:=decide (n<4294967296)
def zff (n:Int):Bool:=few n.toNat
def w64 (n:Int):Int:=IntKind.wrap .i64 n
def wrK (k:IntKind) (n:Int):Int:=k.wrap n
def zfh (op:BinOp) (k:IntKind) (x y:Int):Int :=
 match op with
 |.and=>k.wrap (BitVec.ofInt k.bits x &&& BitVec.ofInt k.bits y).toNat
 |.or=>k.wrap (BitVec.ofInt k.bits x ||| BitVec.ofInt k.bits y).toNat
 |.xor=>k.wrap (BitVec.ofInt k.bits x ^^^ BitVec.ofInt k.bits y).toNat
 |_=>k.wrap (BitVec.ofInt k.bits x &&& ~~~ BitVec.ofInt k.bits y).toNat
def zyS (k:IntKind) (x y:Int):Int:=x*2^(min y.toNat k.bits)
def zid (k:IntKind) (x y:Int):Int:=x.fdiv (2^(min y.toNat k.bits))
def zzu (a b:Int):Int:=a+b
def zyW (a b:Int):Int:=a-b
def zza (a b:Int):Int:=a*b
def zzs (a b:Int):Int:=a.tdiv b
def zzn (a b:Int):Int:=a.tmod b
def eqI (a b:Int):Bool:=decide (a=b)
def ltI (a b:Int):Bool:=decide (a<b)
def leI (a b:Int):Bool:=decide (a≤b)
def gtI (a b:Int):Bool:=decide (a>b)
def geI (a b:Int):Bool:=decide (a≥b)
def eqB (a b:Bool):Bool:=a==b
def ziD (a:Bool):Bool:=!a
def zzE (a b:Bool):Bool:=a&&b
def zy0 (c:Bool) (a b:Int):Int:=cond c a b
def zzy (c:Bool) (a b:Bool):Bool:=cond c a b
def mxI (x y:Int):Int:=if y>x then y else x
def mnI (x y:Int):Int:=if y<x then y else x
def apL {α:Type} (xs ys:List α):List α:=xs++ys
def stL {α:Type} (xs:List α) (i:Int) (x:α):List α:=xs.set i.toNat x
def tkL {α:Type} (xs:List α) (i:Int):List α:=xs.take i.toNat
def dpL {α:Type} (xs:List α) (i:Int):List α:=xs.drop i.toNat
def rpL {α:Type} (n:Int) (x:α):List α:=List.replicate n.toNat x
def lkM (κ ν:Kd) (es:List (κ.T×ν.T)) (k:κ.T):ν.T:=match es.find? fun p=>Kd.eqT κ k p.1 with
 |some p=>p.2
 |none=>ν.dflt
def hsM (κ ν:Kd) (es:List (κ.T×ν.T)) (k:κ.T):Bool:=es.any fun p=>Kd.eqT κ k p.1
def adM (κ ν:Kd) (es:List (κ.T×ν.T)) (k:κ.T) (v:ν.T):List (κ.T×ν.T):=es++[(k,v)]
noncomputable def nxt {α ρ:Type} (es:List α) (k0:Option ρ) (k1:α→List α→Option ρ):Option ρ:=open Classical in
 match es with
 |[]=>k0
 |_::_=>if h:∃y,∀(j:Nat) (e:α),es[j]?=some e→k1 e (es.eraseIdx j)=some y then some h.choose else none
def YA {α:Type} (cf:α→α→Int) (xs:List α):List α:=xs.mergeSort fun x y=>!(decide (cf y x<0))
@[reducible] def toT (α:Type) (x:α):α:=x
def wr (k:IntKind) (n:Int):Int :=
 match k with
 |.i64=>w64 n
 |.i32=>wrK .i32 n
 |.i16=>wrK .i16 n
 |.i8=>wrK .i8 n
 |.u64=>wrK .u64 n
 |.u32=>wrK .u32 n
 |.u16=>wrK .u16 n
 |.u8=>wrK .u8 n
theorem zoR (k:IntKind) (n:Int):wr k n=k.wrap n:=by cases k<;>rfl
inductive TD where
 |int (k:IntKind)
 |bool
 |str
 |sl (e:Nat)
 |arr (n:Nat) (e:Nat)
 |st (fs:List (Nat×Nat))
 |fn
 |mp (k v:Nat)
 |ptr (e:Nat)
 |other
structure TI where
 d:TD
 size:Nat
 bytes:Nat
 zero:List AV
 kd:Option Kd
 eq:Option (List Kd)
def Tb:Type:=List (Nat×TI)
def XA:TI:=⟨.other,0,0,[],none,none⟩
def Tb.at:Tb→Nat→TI
 |[],_=>XA
 |(t,i)::r,u=>cond (Nat.beq t u) i (Tb.at r u)
def Tb.inl:Tb→Nat→Bool
 |[],_=>false
 |(t,_)::r,f=>Nat.beq t (f+1000000000)||Tb.inl r f
def zsj (tb:Tb):Operand→Bool
 |.func f=>tb.inl f
 |_=>false
def Tb.cln:Tb→Nat→Option Nat
 |[],_=>none
 |(t,_)::r,f=>cond (Nat.ble 2000000000 t&&Nat.beq ((t-2000000000) / 1000) f) (some ((t-2000000000) % 1000)) (Tb.cln r f)
def ztq (tb:Tb):Operand→Option Nat
 |.func f=>tb.cln f
 |_=>none
def rf (f:Nat):Nat:=cond (Nat.blt f 1000000) f (f-1000000)
def TD.ok:TD→Bool
 |.other=>false
 |_=>true
def TD.agg:TD→Bool
 |.arr _ _=>true
 |.st _=>true
 |_=>false
def Kd.flat:Kd→Bool
 |.pair a b=>Kd.flat a&&Kd.flat b
 |.sl _=>false
 |.mp _ _=>false
 |_=>true
inductive zzg where
 |own
 |fixed
 |dead
structure Zt where
 e:Kd
 xs:List e.T
 t:Nat
 st:zzg
structure YI where
 cs:List AV
 fixed:Bool
inductive MK where
 |own
 |froz
 |iter
structure zek where
 k:Kd
 v:Kd
 es:List (k.T×v.T)
 kd:MK
 cur:Option (k.T×v.T)
structure Mem where
 ep:Nat
 box:Nat→Option YI
 row:Nat→Option Zt
 map:Nat→Option zek
def upd {α:Type} (f:Nat→α) (i:Nat) (v:α):Nat→α:=fun j=>cond (Nat.beq j i) v (f j)
structure St where
 tm:Nat→AV
 m:Mem
def Mem.new (m:Mem) (id:Nat):Bool :=
 match m.box id,m.row id,m.map id with
 |none,none,none=>true
 |_,_,_=>false
def Mem.clear:Mem:=⟨0,fun _=>Option.none,fun _=>Option.none,fun _=>Option.none⟩
def Mem.id (m:Mem) (d:Nat):Nat:=m.ep*4096+d
def avC:Value→AV
 |.int k n=>.int k n
 |.bool b=>.bool b
 |.string s=>.str s
 |.slice .none 0 0=>.nil
 |_=>.dead
def St.ev (s:St):Operand→AV
 |.tmp t=>s.tm t
 |.const v=>avC v
 |.func f=>.fn f [] []
 |.global _=>.dead
def Ja (m:Mem):AV→AV
 |.row id _ _=>match m.row id with
  |some ⟨_,_,_,.dead⟩=>.dead
  |some ⟨e,xs,_,_⟩=>.sl e xs
  |none=>.dead
 |.int k n=>.int k n
 |.bool b=>.bool b
 |.str s=>.str s
 |.nil=>.nil
 |.sl e xs=>.sl e xs
 |.fmp k v xs=>.fmp k v xs
 |.nmp=>.nmp
 |_=>.dead
def QI (m:Mem):AV→AV
 |.agg cs=>.agg (cs.map (Ja m))
 |.kptr cs=>.kptr cs
 |.ptr id 0=>match m.box id with
  |some b=>.kptr (b.cs.map (Ja m))
  |none=>.dead
 |v=>Ja m v
def Xv (m:Mem):AV→AV
 |.fn f a b=>.fn f (a.map (QI m)) (b.map (QI m))
 |v=>QI m v
def Jh:AV→List Nat
 |.row id _ _=>[id]
 |_=>[]
def K2 (m:Mem):AV→List AV
 |.agg cs=>cs
 |.ptr id _=>match m.box id with
  |some b=>b.cs
  |none=>[]
 |v=>[v]
def zgE:AV→Bool
 |.ptr _ _=>true
 |_=>false
def Zb (m:Mem) (v:AV):List Nat:=(K2 m v).flatMap Jh
def Zd (m:Mem):AV→List Nat
 |.fn _ a b=>a.flatMap (Zb m)++b.flatMap (Zb m)
 |v=>Zb m v
def zsH:AV→Bool
 |.fn _ a b=>a.any zgE||b.any zgE
 |v=>zgE v
def ZJ:Zt→Zt
 |⟨e,xs,t,.own⟩=>⟨e,xs,t,.fixed⟩
 |r=>r
def Mem.fix (m:Mem):List Nat→Mem
 |[]=>m
 |id::r=>(match m.row id with
  |some a=>({ m with row:=upd m.row id (some (ZJ a)) }:Mem)
  |none=>m).fix r
def Mem.kill (m:Mem) (id:Nat):Mem:=match m.row id with
 |some ⟨e,xs,t,_⟩=>{ m with row:=upd m.row id (some ⟨e,xs,t,.dead⟩) }
 |none=>m
def fixBox (m:Mem) (id:Nat):Mem:=match m.box id with
 |some b=>{ m with box:=upd m.box id (some ⟨b.cs,true⟩) }
 |none=>m
def fixBs (r:Nat→Option YI):List Nat→(Nat→Option YI)
 |[]=>r
 |id::G=>fixBs (match r id with
  |some b=>upd r id (some ⟨b.cs,true⟩)
  |none=>r) G
def Mem.fixB (m:Mem) (G:List Nat):Mem:={ m with box:=fixBs m.box G }
def KF:AV→List Nat
 |.ptr id _=>[id]
 |_=>[]
def Z9:AV→List Nat
 |.fn _ a b=>a.flatMap KF++b.flatMap KF
 |v=>KF v
def zaM (κ:Kd) (v:AV):Option κ.T:=match κ,v with
 |.pair a b,.agg cs=>match Kd.dec (.pair a b) cs with
  |some (x,[])=>some x
  |_=>none
 |.pair _ _,_=>none
 |_,.agg _=>none
 |κ,v=>match Kd.dec κ [v] with
  |some (x,[])=>some x
  |_=>none
def Xi (m:Mem) (o:Oper) (id:Nat):Bool :=
 Nat.blt id (m.ep*4096)||o.op.operands.toList.any fun x=>match x with
  |.tmp d=>Nat.beq id (m.ep*4096+d)
  |_=>false
def QB (m:Mem) (v:AV):List Nat:=(match v with
 |.ptr id _=>[id]
 |_=>[])++Zb m v
def Zj (m:Mem):AV→List Nat
 |.fn _ a b=>a.flatMap (QB m)++b.flatMap (QB m)
 |v=>QB m v
end Go.Proofs.YtpkkcjmblocjdaaGreat.AM
end
section
namespace Go.Proofs.YtpkkcjmblocjdaaGreat.AM
open Go.RowKit
abbrev KX (ρ:Type):Type:=AV→Mem→Option ρ
def zr9:AV→Bool
 |.dead=>false
 |.agg _=>false
 |.tup _=>false
 |_=>true
def zgd:AV→Option (List AV)
 |.agg cs=>cond (cs.all zr9) (some cs) none
 |v=>cond (zr9 v) (some [v]) none
def XT (ti:TI) (off:Nat) (cs:List AV):Option AV :=
 cond ti.d.agg (cond (Nat.ble (off+ti.size) cs.length) (some (.agg ((cs.drop off).take ti.size))) none) (cond (Nat.beq ti.size 1) cs[off]? none)
def zgQ (off:Nat) (vs cs:List AV):Option (List AV) :=
 cond (Nat.ble (off+vs.length) cs.length) (some (cs.take off++vs++cs.drop (off+vs.length))) none
section
variable {ρ:Type} (tb:Tb) (o:Oper) (m:Mem) (k:KX ρ)
def zb2 (cs:List AV):Option ρ:=match o.dst with
 |some d=>cond (m.new (m.id d)) (k (.ptr (m.id d) 0) { m with box:=upd m.box (m.id d) (some ⟨cs,false⟩) }) none
 |none=>none
def KE (e:Kd) (t:Nat) (xs:List e.T) (M:Mem):Option ρ:=match o.dst with
 |some d=>cond (M.new (M.id d)) (k (.row (M.id d) e (K1 xs)) { M with row:=upd M.row (M.id d) (some ⟨e,xs,t,.own⟩) }) none
 |none=>none
def zlV (c x y:AV):Option ρ:=match c with
 |.bool c=>match x,y with
  |.bool a,.bool b=>k (.bool (zzy c a b)) m
  |.int i a,.int j b=>cond (kb i j) (k (.int i (zy0 c a b)) m) none
  |_,_=>br c (k x m) (k y m)
 |_=>none
def zoJ (t:Nat) (x:AV):Option ρ:=match zgd x with
 |some cs=>zb2 o m k cs
 |none=>none
def zir (ti:TI) (i:Nat):Option (Nat×Nat):=match ti.d with
 |.st fs=>match fs[i]? with
  |some (off,t)=>cond (Nat.blt 0 (tb.at t).size) (some (off,(tb.at t).size)) none
  |none=>none
 |.arr _ e=>cond (Nat.blt 0 (tb.at e).size) (some (i*(tb.at e).size,(tb.at e).size)) none
 |_=>none
def zoi (ti:TI):List (Nat×AV)→List AV→Option (List AV)
 |[],cs=>some cs
 |(i,v)::r,cs=>match zir tb ti i,zgd v with
  |some (off,n),some vs=>cond (Nat.beq vs.length n) (match zgQ off vs cs with
   |some cs'=>zoi ti r cs'
   |none=>none) none
  |_,_=>none
def zwv:TD→Bool
 |.st _=>true
 |.arr _ e=>Nat.blt 0 (tb.at e).size
 |_=>false
def zhA (t:Nat) (zim:List (Nat×AV)):Option ρ :=
 match zoi tb (tb.at t) zim (tb.at t).zero with
 |some cs=>cond (zwv tb (tb.at t).d) (k (.agg cs) m) none
 |none=>none
def zf6 (e:Kd) (f:AV→AV):List (Nat×AV)→List e.T→Option (List e.T)
 |[],xs=>some xs
 |(i,v)::r,xs=>match zaM e (f v) with
  |some x=>cond (Nat.ble (i+1) xs.length) (zf6 e f r (xs.set i x)) none
  |none=>none
def Z1 (t len:Nat) (zim:List (Nat×AV)):Option ρ :=
 match (tb.at t).d with
 |.sl e=>match (tb.at e).kd with
  |some κ=>cond (Nat.ble (len*κ.size) 16777216) (cond κ.flat (match zf6 κ (fun v=>v) zim (List.replicate len κ.dflt) with
    |some xs=>KE o k κ e xs m
    |none=>none)
   (match zf6 κ (Xv m) zim (List.replicate len κ.dflt) with
    |some xs=>cond (zim.any fun p=>zsH p.2) none (KE o k κ e xs (m.fix (zim.flatMap fun p=>Zd m p.2)))
    |none=>none)) none
  |none=>none
 |_=>none
def JW (t:Nat) (a:AV):Option ρ:=match a with
 |.ptr id off=>match m.box id with
  |some b=>match XT (tb.at t) off b.cs with
   |some v=>cond (Xi m o id) (k v m) none
   |none=>none
  |none=>none
 |.kptr cs=>match XT (tb.at t) 0 cs with
  |some v=>k v m
  |none=>none
 |.elem id e0 i off=>match m.row id with
  |some ⟨_,_,_,.dead⟩=>none
  |some ⟨e,xs,_,_⟩=>match XT (tb.at t) off (e.cells (rdD e.dflt xs i)) with
   |some v=>cond (Nat.beq e0.size e.size&&Xi m o id) (k v m) none
   |none=>none
  |none=>none
 |_=>none
def zcU (t:Nat) (a x:AV):Option ρ:=match a with
 |.ptr id off=>match m.box id with
  |some ⟨cs,false⟩=>match zgd x with
   |some vs=>cond (Nat.beq vs.length (tb.at t).size&&Nat.blt 0 (tb.at t).size) (match zgQ off vs cs with
    |some cs'=>k (.tup []) { m with box:=upd m.box id (some ⟨cs',false⟩) }
    |none=>none) none
   |none=>none
  |_=>none
 |.elem id e0 i off=>match m.row id with
  |some ⟨e,xs,et,.own⟩=>match zgd (Xv m x) with
   |some vs=>cond (Nat.beq vs.length (tb.at t).size&&Nat.beq e0.size e.size&&Nat.blt 0 (tb.at t).size) (match zgQ off vs (e.cells (rdD e.dflt xs i)) with
    |some cs'=>match Kd.dec e cs' with
     |some (y,[])=>cond (((Zd m x).all fun j=>!(Nat.beq j id))&&!(zsH x)) (k (.tup []) { m.fix (Zd m x) with row:=upd (m.fix (Zd m x)).row id (some ⟨e,stL xs i y,et,.own⟩) }) none
     |_=>none
    |none=>none) none
   |none=>none
  |_=>none
 |_=>none
def zvi (x:AV):Option ρ:=match x with
 |.ptr id off=>k (.ptr id off) m
 |.kptr cs=>k (.kptr cs) m
 |.elem id e i off=>k (.elem id e i off) m
 |.fn f a b=>k (.fn f a b) m
 |_=>none
def eqL:List Kd→List AV→List AV→Option Bool
 |[.int l],[.int i a],[.int j b]=>cond (kb l i&&kb l j) (some (eqI a b)) none
 |[.bool],[.bool a],[.bool b]=>some (eqB a b)
 |.int l::ks,.int i a::r,.int j b::q=>cond (kb l i&&kb l j) (match eqL ks r q with
  |some c=>some (zzE (eqI a b) c)
  |none=>none) none
 |.bool::ks,.bool a::r,.bool b::q=>match eqL ks r q with
  |some c=>some (zzE (eqB a b) c)
  |none=>none
 |_,_,_=>none
def zgb (op:BinOp) (t:Nat) (x y:AV):Option ρ:=match x,y with
 |.int i a,.int j b=>match op with
  |.shl=>gd (leI 0 b) (k (.int i (wr i (zyS i a b))) m)
  |.shr=>gd (leI 0 b) (k (.int i (zid i a b)) m)
  |.add=>cond (kb i j) (k (.int i (wr i (zzu a b))) m) none
  |.sub=>cond (kb i j) (k (.int i (wr i (zyW a b))) m) none
  |.mul=>cond (kb i j) (k (.int i (wr i (zza a b))) m) none
  |.quo=>cond (kb i j) (gd (ziD (eqI b 0)) (k (.int i (wr i (zzs a b))) m)) none
  |.rem=>cond (kb i j) (gd (ziD (eqI b 0)) (k (.int i (zzn a b)) m)) none
  |.and=>cond (kb i j) (k (.int i (zfh .and i a b)) m) none
  |.or=>cond (kb i j) (k (.int i (zfh .or i a b)) m) none
  |.xor=>cond (kb i j) (k (.int i (zfh .xor i a b)) m) none
  |.eql=>cond (kb i j) (k (.bool (eqI a b)) m) none
  |.neq=>cond (kb i j) (k (.bool (ziD (eqI a b))) m) none
  |.lss=>cond (kb i j) (k (.bool (ltI a b)) m) none
  |.leq=>cond (kb i j) (k (.bool (leI a b)) m) none
  |.gtr=>cond (kb i j) (k (.bool (gtI a b)) m) none
  |.geq=>cond (kb i j) (k (.bool (geI a b)) m) none
  |_=>none
 |.bool a,.bool b=>match op,(tb.at t).d with
  |.eql,.bool=>k (.bool (eqB a b)) m
  |.neq,.bool=>k (.bool (ziD (eqB a b))) m
  |_,_=>none
 |.agg cs,.agg ds=>match (tb.at t).eq with
  |some ks=>match op,eqL ks cs ds with
   |.eql,some c=>k (.bool c) m
   |.neq,some c=>k (.bool (ziD c)) m
   |_,_=>none
  |none=>none
 |.sl e xs,.nil=>match op,(tb.at t).d with
  |.eql,.sl _=>gd (ltI 0 (ofN (K1 (α:=e.T) xs))) (k (.bool false) m)
  |_,_=>none
 |_,_=>none
def kUn (op:UnOp) (x:AV):Option ρ:=match op,x with
 |.not,.bool b=>k (.bool (ziD b)) m
 |.neg,.int i n=>k (.int i (wr i (zyW 0 n))) m
 |_,_=>none
def zlL (dst:Nat) (x:AV):Option ρ:=match (tb.at dst).d,x with
 |.int j,.int _ n=>k (.int j (wr j n)) m
 |_,_=>none
def zmX:Operand→Operand→Bool
 |.tmp a,.tmp b=>Nat.beq a b
 |.const (.int i a),.const (.int j b)=>kb i j&&(a==b)
 |_,_=>false
def zgC (t:Nat) (same:Bool) (n:AV):Option ρ:=match (tb.at t).d,n with
 |.sl e,.int .i64 n=>match (tb.at e).kd with
  |some κ=>cond same (gd (leI 0 n) (gd (zff n) (KE o k κ e (rpL n κ.dflt) m))) none
  |none=>none
 |_,_=>none
def zo8 {α:Type} (lo hi:Option Int) (xs:List α):List α:=match hi,lo with
 |none,none=>xs
 |some h,none=>tkL xs h
 |none,some l=>dpL xs l
 |some h,some l=>dpL (tkL xs h) l
def Xb (lo hi:Option Int) (n:Nat) (x:Option ρ):Option ρ:=match hi,lo with
 |none,none=>x
 |some h,none=>gd (leI 0 h) (gd (leI h (ofN n)) x)
 |none,some l=>gd (leI 0 l) (gd (leI l (ofN n)) x)
 |some h,some l=>gd (leI 0 h) (gd (leI h (ofN n)) (gd (leI 0 l) (gd (leI l h) x)))
def ztW:Option AV→Option (Option Int)
 |none=>some none
 |some (.int _ n)=>some (some n)
 |_=>none
def Ql (t:Nat) (x:AV) (lo hi:Option AV):Option ρ:=match ztW lo,ztW hi with
 |some lo,some hi=>match (tb.at t).d,x with
  |.sl et,.sl e xs=>cond (Nat.beq (tb.at et).size e.size) (Xb lo hi (K1 xs) (k (.sl e (zo8 lo hi xs)) m)) none
  |.sl et,.row id e n=>match m.row id with
   |some ⟨_,_,_,.dead⟩=>none
   |some ⟨e',xs,_,_⟩=>cond (Xi m o id&&Nat.beq (tb.at et).size e'.size) (Xb lo hi (K1 xs) (k (.sl e' (zo8 lo hi xs)) (m.fix [id]))) none
   |none=>none
  |.sl et,.nil=>cond (tb.at et).d.ok (Xb lo hi 0 (k .nil m)) none
  |.arr n e,.ptr id 0=>match lo,hi,(tb.at e).kd,m.box id with
   |none,none,some κ,some b=>match decAll κ n (b.cs.map (Ja m)) with
    |some xs=>cond (Nat.beq ((Zb m x).length) 0&&Xi m o id) (k (.sl κ xs) (fixBox m id)) none
    |none=>none
   |_,_,_,_=>none
  |_,_=>none
 |_,_=>none
where decAll (κ:Kd):Nat→List AV→Option (List κ.T)
 |0,[]=>some []
 |n+1,cs=>match Kd.dec κ cs with
  |some (x,r)=>match decAll κ n r with
   |some xs=>some (x::xs)
   |none=>none
  |none=>none
 |_,_=>none
def zvb (ti:TI) (f:Nat):Option Nat:=match ti.d with
 |.st fs=>match fs[f]? with
  |some (off,u)=>cond (Nat.blt 0 (tb.at u).size) (some off) none
  |none=>none
 |_=>none
def YK (t:Nat) (a:AV) (f:Nat):Option ρ:=match zvb tb (tb.at t) f with
 |some off=>match a with
  |.ptr id o=>k (.ptr id (o+off)) m
  |.kptr cs=>k (.kptr (cs.drop off)) m
  |.elem id e i o=>k (.elem id e i (o+off)) m
  |_=>none
 |none=>none
def zh6 (t:Nat) (x:AV) (f:Nat):Option ρ:=match (tb.at t).d,x with
 |.st fs,.agg cs=>match fs[f]? with
  |some (off,u)=>match XT (tb.at u) off cs with
   |some v=>k v m
   |none=>none
  |none=>none
 |_,_=>none
def jT (t:Nat) (x i:AV):Option ρ:=match i with
 |.int _ i=>match (tb.at t).d,x with
  |.sl et,.sl e xs=>cond (Nat.beq (tb.at et).size e.size) (gd (inb i (K1 xs)) (k (.kptr (e.cells (rdD e.dflt xs i))) m)) none
  |.sl et,.row id e n=>cond (Nat.beq (tb.at et).size e.size) (gd (inb i n) (k (.elem id e i 0) m)) none
  |.arr n e,.ptr id off=>cond (tb.at e).d.ok (ways n 0 i fun j=>k (.ptr id (off+j*(tb.at e).size)) m) none
  |.arr n e,.kptr cs=>cond (tb.at e).d.ok (ways n 0 i fun j=>k (.kptr (cs.drop (j*(tb.at e).size))) m) none
  |.arr n e,.elem id ek ei off=>cond (tb.at e).d.ok (ways n 0 i fun j=>k (.elem id ek ei (off+j*(tb.at e).size)) m) none
  |_,_=>none
 |_=>none
where ways:Nat→Nat→Int→(Nat→Option ρ)→Option ρ
 |0,_,_,_=>none
 |n+1,j,i,k=>br (eqI i (ofN j)) (k j) (ways n (j+1) i k)
def zbY (x:AV) (i:Nat):Option ρ:=match x with
 |.tup vs=>match vs[i]? with
  |some v=>k v m
  |none=>none
 |_=>none
def zx6 (t:Nat) (x:AV):Option Int:=match (tb.at t).d,x with
 |.sl _,.sl e xs=>some (ofN (K1 (α:=e.T) xs))
 |.sl _,.row _ _ n=>some (ofN n)
 |.sl _,.nil=>some 0
 |.arr n _,_=>some (n:Int)
 |.str,.str b=>some (b.size:Int)
 |_,_=>none
def mxL:List AV→Option (IntKind×Int)
 |[.int i a]=>some (i,a)
 |[.int i a,.int j b]=>cond (kb i j) (some (i,mxI a b)) none
 |_=>none
def mnL:List AV→Option (IntKind×Int)
 |[.int i a]=>some (i,a)
 |[.int i a,.int j b]=>cond (kb i j) (some (i,mnI a b)) none
 |_=>none
def zfE (kt vt:Nat):Option (Kd×Kd):=match (tb.at kt).kd,(tb.at kt).eq,(tb.at vt).kd with
 |some κ,some ks,some ν=>cond (lfB ks κ.lfs&&κ.isPair&&ν.isOne&&!((tb.at vt).d.agg)) (some (κ,ν)) none
 |_,_,_=>none
def zcf (t:Nat):Option ρ:=match (tb.at t).d with
 |.mp kt vt=>match zfE tb kt vt,o.dst with
  |some (κ,ν),some d=>cond (m.new (m.id d)) (k (.mp (m.id d) κ ν) { m with map:=upd m.map (m.id d) (some ⟨κ,ν,[],.own,none⟩) }) none
  |_,_=>none
 |_=>none
def lkK (κ ν:Kd) (es:List (κ.T×ν.T)) (key:κ.T) (ok:Bool):Option ρ :=
 cond ok (k (.tup [ν.av (lkM κ ν es key),.bool (hsM κ ν es key)]) m) (k (ν.av (lkM κ ν es key)) m)
def JL (t:Nat) (x i:AV) (ok:Bool):Option ρ:=match (tb.at t).d,x with
 |.mp kt vt,.mp id _ _=>match m.map id,zfE tb kt vt with
  |some ⟨_,_,_,.iter,_⟩,_=>none
  |some ⟨κ,ν,es,_,_⟩,some (κ',ν')=>match zaM κ i with
   |some key=>cond (Kd.beq κ κ'&&Kd.beq ν ν'&&Xi m o id) (lkK m k κ ν es key ok) none
   |none=>none
  |_,_=>none
 |.mp kt vt,.fmp κ ν es=>match zfE tb kt vt with
  |some (κ',ν')=>match zaM κ i with
   |some key=>cond (Kd.beq κ κ'&&Kd.beq ν ν') (lkK m k κ ν es key ok) none
   |none=>none
  |none=>none
 |_,_=>none
def zeV (t:Nat) (x i v:AV):Option ρ:=match (tb.at t).d,x with
 |.mp kt vt,.mp id _ _=>match m.map id,zfE tb kt vt with
  |some ⟨κ,ν,es,.own,_⟩,some (κ',ν')=>match zaM κ i,zaM ν v with
   |some key,some val=>cond (Kd.beq κ κ'&&Kd.beq ν ν') (gd (ziD (hsM κ ν es key)) (k (.tup []) { m with map:=upd m.map id (some ⟨κ,ν,adM κ ν es key val,.own,none⟩) })) none
   |_,_=>none
  |_,_=>none
 |_,_=>none
def zhL (t:Nat) (x:AV):Option ρ:=match (tb.at t).d,x with
 |.mp kt vt,.mp id _ _=>match m.map id,zfE tb kt vt,o.dst with
  |some ⟨_,_,_,.iter,_⟩,_,_=>none
  |some ⟨κ,ν,es,_,_⟩,some (κ',ν'),some d=>cond (Kd.beq κ κ'&&Kd.beq ν ν'&&Xi m o id&&m.new (m.id d))
   (k (.it (m.id d) κ ν) { m with map:=upd (upd m.map id (some ⟨κ,ν,es,.froz,none⟩)) (m.id d) (some ⟨κ,ν,es,.iter,none⟩) }) none
  |_,_,_=>none
 |.mp kt vt,.fmp κ ν es=>match zfE tb kt vt,o.dst with
  |some (κ',ν'),some d=>cond (Kd.beq κ κ'&&Kd.beq ν ν'&&m.new (m.id d))
   (k (.it (m.id d) κ ν) { m with map:=upd m.map (m.id d) (some ⟨κ,ν,es,.iter,none⟩) }) none
  |_,_=>none
 |_,_=>none
def zhD (x:AV):Option ρ:=match x with
 |.it id _ _=>match m.map id with
  |some ⟨κ,ν,_,.iter,some p⟩=>cond (Xi m o id) (k (.tup [κ.av p.1,ν.av p.2]) m) none
  |_=>none
 |_=>none
def zhJ (t:Nat) (x i:AV):Option ρ:=match i with
 |.int _ i=>match (tb.at t).d,x with
  |.arr n e,.agg cs=>jT.ways n 0 i fun j=>match XT (tb.at e) (j*(tb.at e).size) cs with
   |some v=>k v m
   |none=>none
  |_,_=>none
 |_=>none
def zv5 (e:Kd):AV→Option (List e.T)
 |.nil=>some []
 |.sl e' ys=>zgj e' e ys
 |.row id _ _=>match m.row id with
  |some ⟨_,_,_,.dead⟩=>none
  |some ⟨e',ys,_,_⟩=>zgj e' e ys
  |none=>none
 |_=>none
def zaU (t:Nat) (v x:AV):Option ρ:=match (tb.at t).d with
 |.sl et=>match v with
  |.nil=>match (tb.at et).kd with
   |some κ=>match zv5 m κ x with
    |some ys=>gd (few (K1 ys)) (KE o k κ et ys m)
    |none=>none
   |none=>none
  |.row id _ _=>match m.row id with
   |some ⟨e,xs,et',.own⟩=>match zv5 m e x with
    |some ys=>cond (Nat.beq et et'&&Nat.beq (tb.at et).size e.size&&Nat.ble (tb.at et).bytes 32768&&notRow id x) (gd (few (zzm (K1 xs) (K1 ys))) (KE o k e et (apL xs ys) (m.kill id))) none
    |none=>none
   |_=>none
  |_=>none
 |_=>none
where notRow (id:Nat):AV→Bool
 |.row j _ _=>!(Nat.beq j id)
 |_=>true
end
end Go.Proofs.YtpkkcjmblocjdaaGreat.AM
end
section
namespace Go.Proofs.YtpkkcjmblocjdaaGreat.AM
open Go.RowKit
abbrev JF (ρ:Type):Type:=Nat→List AV→Mem→KX ρ→Option ρ
def St.put (s:St) (d:Option Nat) (v:AV) (m:Mem):St:=match d with
 |some d=>⟨upd s.tm d v,m⟩
 |none=>⟨s.tm,m⟩
def St.lit (s:St) (d:Nat) (b:Bool):St:=⟨upd s.tm d (.bool b),s.m⟩
def St.litO (s:St) (x:Operand) (b:Bool):St:=match x with
 |.tmp d=>s.lit d b
 |_=>s
def St.tick (s:St):St:=⟨s.tm,{ s.m with ep:=s.m.ep+1 }⟩
section
variable {ρ:Type} (cl:JF ρ) (tb:Tb)
def zeD (o:Oper) (m:Mem) (k:KX ρ) (t:Nat) (args:List AV):Option ρ:=match (tb.at t).kd,args with
 |some e,[.sl e' xs]=>match zgj e' e xs with
  |some ys=>cond (e.lfs.all Kd.isOne) (gd (ltI 0 (ofN (K1 ys))) (gd (few (K1 ys)) (KE o k e t ys m))) none
  |none=>none
 |_,_=>none
def zbG (c:Call) (ev:Operand→AV) (m:Mem) (o:Oper) (k:KX ρ):Option ρ:=match c.callee with
 |.builtin .len=>match c.args.toList,c.argTypes.toList with
  |[x],t::_=>match zx6 tb t (ev x) with
   |some n=>k (.int .i64 n) m
   |none=>none
  |_,_=>none
 |.builtin .append=>match c.args.toList,c.argTypes.toList with
  |[v,x],[t,u]=>cond (Nat.beq t u) (zaU tb o m k t (ev v) (ev x)) none
  |_,_=>none
 |.builtin .max=>match mxL (c.args.toList.map ev) with
  |some (i,n)=>k (.int i n) m
  |none=>none
 |.builtin .min=>match mnL (c.args.toList.map ev) with
  |some (i,n)=>k (.int i n) m
  |none=>none
 |.value f=>match ztq tb f with
  |some t=>zeD tb o m k t (c.args.toList.map ev)
  |none=>cond (zsj tb f) (match f with
  |.func g=>cl (g+1000000) (c.args.toList.map ev) m k
  |_=>none) (match ev f with
  |.fn g a b=>cond (Nat.blt g 1000000&&((a++c.args.toList.map ev++b).flatMap (Zj m)).all (Xi m o)) (cl g (a++c.args.toList.map ev++b) m k) none
  |_=>none)
 |_=>none
def opK (o:Oper) (ev:Operand→AV) (m:Mem) (k:KX ρ):Option ρ:=match o.op with
 |.move x=>k (ev x) m
 |.assign x=>k (ev x) m
 |.pick c a b=>zlV m k (ev c) (ev a) (ev b)
 |.alloc t=>cond (tb.at t).d.ok (zb2 o m k (tb.at t).zero) none
 |.box t x=>zoJ o m k t (ev x)
 |.build t ps=>zhA tb m k t (ps.toList.map fun p=>(p.1,ev p.2))
 |.buildSlice t n ps=>Z1 tb o m k t n (ps.toList.map fun p=>(p.1,ev p.2))
 |.load t a=>JW tb o m k t (ev a)
 |.store t a x=>zcU tb m k t (ev a) (ev x)
 |.nilCheck x=>zvi m k (ev x)
 |.binOp op t x y _=>zgb tb m k op t (ev x) (ev y)
 |.unOp op _ x=>kUn m k op (ev x)
 |.convert r t x=>cond (tb.at r).d.ok (zlL tb m k t (ev x)) none
 |.makeFunc (.func f) a b=>k (.fn f (a.toList.map ev) (b.toList.map ev)) m
 |.makeSlice t l c=>zgC tb o m k t (zmX l c) (ev l)
 |.slice t x lo hi none=>Ql tb o m k t (ev x) (lo.map ev) (hi.map ev)
 |.fieldAddr t x f=>YK tb m k t (ev x) f
 |.field t x f=>zh6 tb m k t (ev x) f
 |.indexAddr t x i=>jT tb m k t (ev x) (ev i)
 |.extract x i=>zbY m k (ev x) i
 |.index t x i=>zhJ tb m k t (ev x) (ev i)
 |.makeMap t none=>zcf tb o m k t
 |.lookup t x i ok=>JL tb o m k t (ev x) (ev i) ok
 |.range t x=>zhL tb o m k t (ev x)
 |.entry x=>zhD o m k (ev x)
 |.mapUpdate t x i v=>zeV tb m k t (ev x) (ev i) (ev v)
 |.call c=>zbG cl tb c ev m o k
 |_=>none
def zmP (ops:Array Oper) (j:Nat):Option Nat:=match ops.toList[j]? with
 |some o=>o.dst
 |none=>none
def opG (ops:Array Oper) (o:Oper) (s:St) (k:St→Option ρ):Option ρ:=match o.guard with
 |none=>opK cl tb o s.ev s.m fun v m=>k (s.put o.dst v m)
 |some (j,want)=>match zmP ops j with
  |some d=>match s.tm d with
   |.bool b=>br b
    (cond want (opK cl tb o (s.lit d true).ev s.m fun v m=>k ((s.lit d true).put o.dst v m)) (k ((s.lit d true).put o.dst (.tup []) s.m)))
    (cond want (k ((s.lit d false).put o.dst (.tup []) s.m)) (opK cl tb o (s.lit d false).ev s.m fun v m=>k ((s.lit d false).put o.dst v m)))
   |.tup []=>k (s.put o.dst (.tup []) s.m)
   |_=>none
  |none=>none
def zol (ops:Array Oper):List Oper→St→(St→Option ρ)→Option ρ
 |[],s,k=>k s
 |o::r,s,k=>opG cl tb ops o s fun s'=>zol ops r s' k
end
inductive SP where
 |d (κ:Kd)
 |kp (κ:Kd)
inductive SC where
 |d (κ:Kd)
 |row (e:Kd) (t:Nat)
 |mp (κ ν:Kd)
inductive Sh where
 |d (κ:Kd)
 |kp (κ:Kd)
 |row (e:Kd) (t:Nat)
 |box (cs:List SC)
 |fn (f:Nat) (a b:List SP)
 |mp (κ ν:Kd)
 |it (κ ν:Kd)
 |mpf (κ ν:Kd)
 |con (l:List Nat)
def SP.T:SP→Type
 |.d κ=>κ.T
 |.kp κ=>κ.T
def SC.T:SC→Type
 |.d κ=>κ.T
 |.row e _=>List e.T
 |.mp κ ν=>List (κ.T×ν.T)
def jC:List Type→Type
 |[]=>Unit
 |[a]=>a
 |a::r=>a×jC r
def Sh.T:Sh→Type
 |.d κ=>κ.T
 |.kp κ=>κ.T
 |.row e _=>List e.T
 |.box cs=>jC (cs.map SC.T)
 |.fn _ a b=>jC (a.map SP.T)×jC (b.map SP.T)
 |.mp κ ν=>List (κ.T×ν.T)
 |.it κ ν=>List (κ.T×ν.T)
 |.mpf κ ν=>List (κ.T×ν.T)
 |.con _=>Unit
abbrev Cut:Type:=List (Nat×Sh)
def shT (l:List Sh):Type:=jC (l.map Sh.T)
def kdT (l:List Kd):Type:=jC (l.map Kd.T)
def Cut.T (c:Cut):Type:=shT (c.map (·.2))
def SP.dec:(p:SP)→AV→Option p.T
 |.d κ,v=>zaM κ v
 |.kp κ,.kptr cs=>match Kd.dec κ cs with
  |some (x,[])=>some x
  |_=>none
 |.kp _,_=>none
def zeh:(l:List SP)→List AV→Option (jC (l.map SP.T))
 |[],[]=>some ()
 |[p],[v]=>p.dec v
 |p::q::r,v::vs=>match p.dec v,zeh (q::r) vs with
  |some x,some y=>some (x,y)
  |_,_=>none
 |_,_=>none
def rowDec (m:Mem) (e:Kd) (t:Nat):AV→Option (List e.T)
 |.nil=>some []
 |.row id _ _=>match m.row id with
  |some ⟨e',xs,t',.own⟩=>cond (Nat.beq t t') (zgj e' e xs) none
  |_=>none
 |_=>none
def ziq (m:Mem) (κ ν:Kd):AV→Option (List (κ.T×ν.T))
 |.mp id _ _=>match m.map id with
  |some ⟨κ',ν',es,.own,_⟩=>zfD κ' ν' κ ν es
  |_=>none
 |_=>none
def zgw (m:Mem):(l:List SC)→List AV→Option (jC (l.map SC.T))
 |[],[]=>some ()
 |[.d κ],cs=>match Kd.dec κ (cs.map (Ja m)) with
  |some (x,[])=>some x
  |_=>none
 |[.row e t],[v]=>rowDec m e t v
 |[.mp κ ν],[v]=>ziq m κ ν v
 |.d κ::q::r,cs=>match Kd.dec κ ((cs.take κ.size).map (Ja m)),zgw m (q::r) (cs.drop κ.size) with
  |some (x,[]),some y=>some (x,y)
  |_,_=>none
 |.row e t::q::r,v::cs=>match rowDec m e t v,zgw m (q::r) cs with
  |some x,some y=>some (x,y)
  |_,_=>none
 |.mp κ ν::q::r,v::cs=>match ziq m κ ν v,zgw m (q::r) cs with
  |some x,some y=>some (x,y)
  |_,_=>none
 |_,_=>none
def zpl:List Nat→List AV→Bool
 |[],[]=>true
 |f::r,.fn g [] []::q=>Nat.beq f g&&zpl r q
 |_,_=>false
def Sh.dec (m:Mem):(h:Sh)→AV→Option h.T
 |.d κ,v=>zaM κ (QI m v)
 |.kp κ,.kptr cs=>match Kd.dec κ cs with
  |some (x,[])=>some x
  |_=>none
 |.row e t,v=>rowDec m e t v
 |.box l,.ptr id 0=>match m.box id with
  |some ⟨cs,false⟩=>zgw m l cs
  |_=>none
 |.fn f a b,.fn g us vs=>cond (Nat.beq f g) (match zeh a us,zeh b vs with
  |some x,some y=>some (x,y)
  |_,_=>none) none
 |.mp κ ν,v=>ziq m κ ν v
 |.it κ ν,.it id _ _=>match m.map id with
  |some ⟨κ',ν',es,.iter,_⟩=>zfD κ' ν' κ ν es
  |_=>none
 |.mpf κ ν,.mp id _ _=>match m.map id with
  |some ⟨κ',ν',es,.froz,_⟩=>zfD κ' ν' κ ν es
  |_=>none
 |.mpf κ ν,.fmp κ' ν' es=>zfD κ' ν' κ ν es
 |.con l,.agg cs=>cond (zpl l cs) (some ()) none
 |_,_=>none
def zns (s:St):(c:Cut)→Option c.T
 |[]=>some ()
 |[(i,h)]=>h.dec s.m (s.tm i)
 |(i,h)::q::r=>match h.dec s.m (s.tm i),zns s (q::r) with
  |some x,some y=>some (x,y)
  |_,_=>none
def mpC:AV→List Nat
 |.mp id _ _=>[id]
 |_=>[]
def zfT:List SC→List AV→List Nat
 |.d κ::r,cs=>zfT r (cs.drop κ.size)
 |.row _ _::r,v::cs=>Jh v++zfT r cs
 |.mp _ _::r,v::cs=>mpC v++zfT r cs
 |_,_=>[]
def Sh.own (m:Mem):Sh→AV→List Nat
 |.row _ _,v=>Jh v
 |.box l,.ptr id _=>id::(match m.box id with
  |some b=>zfT l b.cs
  |none=>[])
 |.mp _ _,v=>mpC v
 |.it _ _,.it id _ _=>[id]
 |_,_=>[]
def zrW:List SC→List AV→List Nat
 |.d κ::r,cs=>(cs.take κ.size).flatMap Jh++zrW r (cs.drop κ.size)
 |.row _ _::r,v::cs=>zrW r cs
 |.mp _ _::r,v::cs=>zrW r cs
 |_,_=>[]
def Sh.fix (m:Mem):Sh→AV→List Nat
 |.d _,v=>Zb m v
 |.box l,.ptr id _=>match m.box id with
  |some b=>zrW l b.cs
  |none=>[]
 |_,_=>[]
def zdc:List Nat→Bool
 |[]=>true
 |a::r=>(r.all fun b=>!(Nat.beq a b))&&zdc r
def zku (s:St) (c:Cut):Bool :=
 let own:=c.flatMap fun p=>p.2.own s.m (s.tm p.1)
 let fx:=c.flatMap fun p=>p.2.fix s.m (s.tm p.1)
 zdc own&&(fx.all fun a=>own.all fun b=>!(Nat.beq a b))&&(c.all fun p=>noPtrD p.2 (s.tm p.1))&&zdc (c.map (·.1))
where noPtrD:Sh→AV→Bool
 |.d _,v=>!(zgE v)
 |.box l,_=>Nat.ble l.length 60
 |_,_=>true
def zrX {ρ:Type} (c:Cut) (s:St) (k:c.T→Option ρ):Option ρ :=
 cond (zku s c) (match zns s c with
  |some x=>k x
  |none=>none) none
def SP.av:(p:SP)→p.T→AV
 |.d κ,x=>κ.av x
 |.kp κ,x=>.kptr (κ.cells x)
def zf3:(l:List SP)→jC (l.map SP.T)→List AV
 |[],_=>[]
 |[p],x=>[p.av x]
 |p::q::r,x=>p.av x.1::zf3 (q::r) x.2
def zk4 (b:Nat):(l:List SC)→jC (l.map SC.T)→List AV
 |[],_=>[]
 |[.d κ],x=>κ.cells x
 |[.row e _],x=>[.row b e (K1 (α:=e.T) x)]
 |[.mp κ ν],x=>[.mp b κ ν]
 |.d κ::q::r,x=>κ.cells x.1++zk4 (b+1) (q::r) x.2
 |.row e _::q::r,x=>.row b e (K1 (α:=e.T) x.1)::zk4 (b+1) (q::r) x.2
 |.mp κ ν::q::r,x=>.mp b κ ν::zk4 (b+1) (q::r) x.2
def zbE (b:Nat):(l:List SC)→jC (l.map SC.T)→Mem→Mem
 |[],_,m=>m
 |[.d _],_,m=>m
 |[.row e t],x,m=>{ m with row:=upd m.row b (some ⟨e,x,t,.own⟩) }
 |[.mp κ ν],x,m=>{ m with map:=upd m.map b (some ⟨κ,ν,x,.own,none⟩) }
 |.d _::q::r,x,m=>zbE (b+1) (q::r) x.2 m
 |.row e t::q::r,x,m=>zbE (b+1) (q::r) x.2 { m with row:=upd m.row b (some ⟨e,x.1,t,.own⟩) }
 |.mp κ ν::q::r,x,m=>zbE (b+1) (q::r) x.2 { m with map:=upd m.map b (some ⟨κ,ν,x.1,.own,none⟩) }
def Sh.av (b:Nat):(h:Sh)→h.T→AV
 |.d κ,x=>κ.av x
 |.kp κ,x=>.kptr (κ.cells x)
 |.row e _,x=>.row b e (K1 (α:=e.T) x)
 |.box _,_=>.ptr b 0
 |.fn f a c,x=>.fn f (zf3 a x.1) (zf3 c x.2)
 |.mp κ ν,_=>.mp b κ ν
 |.it κ ν,_=>.it b κ ν
 |.mpf κ ν,x=>.fmp κ ν x
 |.con l,_=>.agg (l.map fun f=>.fn f [] [])
def Sh.mem (b:Nat):(h:Sh)→h.T→Mem→Mem
 |.row e t,x,m=>{ m with row:=upd m.row b (some ⟨e,x,t,.own⟩) }
 |.box l,x,m=>zbE (b+1) l x { m with box:=upd m.box b (some ⟨zk4 (b+1) l x,false⟩) }
 |.mp κ ν,x,m=>{ m with map:=upd m.map b (some ⟨κ,ν,x,.own,none⟩) }
 |.it κ ν,x,m=>{ m with map:=upd m.map b (some ⟨κ,ν,x,.iter,none⟩) }
 |_,_,m=>m
def zmU (b:Nat):(c:Cut)→c.T→St→St
 |[],_,s=>s
 |[(i,h)],x,s=>⟨upd s.tm i (h.av b x),h.mem b x s.m⟩
 |(i,h)::q::r,x,s=>zmU (b+64) (q::r) x.2 ⟨upd s.tm i (h.av b x.1),h.mem b x.1 s.m⟩
def zvc (c:Cut) (x:c.T):St:=zmU 0 c x ⟨fun _=>.dead,{ Mem.clear with ep:=c.length+1 }⟩
inductive Ann where
 |leaf
 |node (j:Option Cut) (lp:Option Cut) (l r:Ann)
  |reg (j:Option Cut) (ps:List (Nat×Nat))
def Ann.l:Ann→Ann
 |.node _ _ l _=>l
 |_=>.leaf
def Ann.r:Ann→Ann
 |.node _ _ _ r=>r
 |_=>.leaf
def Ann.j:Ann→Option Cut
 |.leaf=>none
 |.node j _ _ _=>j
 |.reg j _=>j
def Ann.lp:Ann→Option Cut
 |.node _ lp _ _=>lp
 |_=>none
def Ann.ps:Ann→List (Nat×Nat)
 |.reg _ ps=>ps
 |_=>[]
def zjD (o:Oper) (ev:Operand→AV):Bool:=match o.op with
 |.load _ a=>(match ev a with
  |.kptr _=>true
  |_=>false)
 |.slice _ x _ _ none=>(match ev x with
  |.sl _ _=>true
  |.nil=>true
  |_=>false)
 |_=>false
def znj (o:Oper) (ev:Operand→AV):Option (Bool×Nat):=match o.op with
 |.load _ a=>(match ev a with
  |.ptr id _=>some (true,id)
  |.elem id _ _ _=>some (false,id)
  |_=>none)
 |_=>none
def zky (o:Oper) (ev:Operand→AV):Option (Bool×Option Nat):=match o.op with
 |.store _ a _=>(match ev a with
  |.ptr id _=>some (true,some id)
  |.elem id _ _ _=>some (false,some id)
  |_=>none)
 |.call c=>(match c.callee,c.args.toList with
  |.builtin .append,[v,_]=>(match ev v with
   |.row id _ _=>some (false,some id)
   |.nil=>some (false,none)
   |_=>none)
  |_,_=>none)
 |_=>none
def rwB:Option (Bool×Nat)→Option (Bool×Option Nat)→Bool
 |some (true,i),some (true,some j)=>!(Nat.beq i j)
 |some (true,_),some (false,_)=>true
 |some (false,_),some (true,some _)=>true
 |some (false,i),some (false,some j)=>!(Nat.beq i j)
 |some (false,_),some (false,none)=>true
 |_,_=>false
def zkR (x y:Oper) (ev:Operand→AV):Bool:=zjD x ev||zjD y ev||rwB (znj x ev) (zky y ev)||rwB (znj y ev) (zky x ev)
def zu4:List Oper→Nat→Option Oper
 |[],_=>none
 |a::_,0=>some a
 |_::r,i+1=>zu4 r i
def zd3 (ops:List Oper) (ev:Operand→AV):List (Nat×Nat)→Bool
 |[]=>true
 |(j,i)::r=>(match zu4 ops j,zu4 ops i with
  |some x,some y=>zkR x y ev
  |_,_=>false)&&zd3 ops ev r
def dyK {ρ:Type} (ops:Array Oper) (ps:List (Nat×Nat)) (k:St→Option ρ):St→Option ρ:=match ps with
 |[]=>k
 |ps=>fun s=>cond (zd3 ops.toList s.ev ps) (k s) none
structure KS (ρ:Type) where
 norm:St→Option ρ
 ex:Nat→St→Option ρ
 ret:St→Option ρ
def jn {ρ:Type} (j:Option Cut) (K:KS ρ) (f:KS ρ→Option ρ):Option ρ:=match j with
 |none=>f K
 |some c=>zz (fun x=>K.norm (zvc c x)) fun j=>f { K with norm:=fun s=>zrX c s j }
def zg5:List Oper→Bool→Option (Nat×Nat×Nat)
 |[⟨some a,.next (.tmp t) false,_,_,_,none⟩,⟨some b,.extract (.tmp a') 0,_,_,_,none⟩],false=>cond (Nat.beq a a'&&!(Nat.beq a b)&&!(Nat.beq a t)&&!(Nat.beq b t)) (some (t,a,b)) none
 |_,_=>none
def nnC:Code→Bool
 |.region _ ops dr=>match zg5 ops.toList dr with
  |none=>true
  |some _=>false
 |.seq a b=>nnC a&&nnC b
 |.cond _ a b=>nnC a&&nnC b
 |.block _ a=>nnC a
 |.loop a=>nnC a
 |_=>true
def nnF (f:Func):Bool:=match f.body with
 |some c=>nnC c
 |none=>true
noncomputable def znJ {ρ:Type} (t a b:Nat) (s:St) (k:St→Option ρ):Option ρ:=match s.tm t with
 |.it id _ _=>match s.m.map id with
  |some ⟨κ,ν,es,.iter,_⟩=>nxt es (k ⟨upd (upd s.tm a (.tup [.bool false])) b (.bool false),s.m⟩)
   fun p r=>k ⟨upd (upd s.tm a (.tup [.bool true,κ.av p.1,ν.av p.2])) b (.bool true),{ s.m with map:=upd s.m.map id (some ⟨κ,ν,r,.iter,some p⟩) }⟩
  |_=>none
 |_=>none
section
variable {ρ:Type} (cl:JF ρ) (tb:Tb) (N:Nat)
noncomputable def Zc:Code→Ann→St→KS ρ→Option ρ
 |.skip,an,s,K=>jn an.j K fun K=>K.norm s
 |.region _ ops dr,an,s,K=>jn an.j K fun K=>match zg5 ops.toList dr with
  |some (t,a,b)=>znJ t a b s.tick K.norm
  |none=>zol cl tb ops ops.toList s.tick (dyK ops an.ps K.norm)
 |.seq a b,an,s,K=>jn an.j K fun K=>Zc a an.l s { K with norm:=fun s'=>Zc b an.r s' K }
 |.cond c a b,an,s,K=>jn an.j K fun K=>match s.ev c with
  |.bool t=>br t (Zc a an.l (s.litO c true) K) (Zc b an.r (s.litO c false) K)
  |_=>none
 |.block id c,an,s,K=>jn an.j K fun K=>Zc c an.l s { K with ex:=fun j s'=>cond (Nat.beq j id) (K.norm s') (K.ex j s') }
 |.loop c,an,s,K=>jn an.j K fun K=>match an.lp with
  |some ct=>zrX ct s (zA (fun x next=>Zc c an.l (zvc ct x) { K with norm:=fun s'=>zrX ct s' next }) N)
  |none=>zA (fun s next=>Zc c an.l s { K with norm:=next }) 32 s
 |.exit id,an,s,K=>K.ex id s
 |.ret,an,s,K=>K.ret s
 |_,_,_,_=>none
def zm8 (s:St):ResultVar→Option AV
 |.tmp t=>some (s.tm t)
 |.cell a t=>match s.tm a with
  |.ptr id off=>match s.m.box id with
   |some b=>XT (tb.at t) off b.cs
   |none=>none
  |_=>none
def zkD (s:St):List ResultVar→Option (List AV)
 |[]=>some []
 |r::rs=>match zm8 tb s r,zkD s rs with
  |some v,some vs=>some (v::vs)
  |_,_=>none
def zkX (f:Func) (s:St) (k:KX ρ):Option ρ:=match zkD tb s f.results.toList with
 |some [v]=>k v s.m
 |some vs=>k (.tup vs) s.m
 |none=>none
def zfx (args:List AV):Nat→AV:=fun i=>match args[i]? with
 |some v=>v
 |none=>.tup []
noncomputable def zfp (f:Func) (an:Ann) (args:List AV) (m:Mem) (k:KX ρ):Option ρ:=match f.body with
 |some c=>Zc cl tb N c an ⟨zfx args,m⟩ ⟨fun s=>zkX tb f s k,fun _ _=>none,fun s=>zkX tb f s k⟩
 |none=>none
end
def zwP (m:Mem):AV→AV
 |.mp id _ _=>match m.map id with
  |some ⟨_,_,_,.iter,_⟩=>.dead
  |some ⟨κ,ν,es,_,_⟩=>.fmp κ ν es
  |none=>.dead
 |v=>Ja m v
def zsA (m:Mem):AV→AV
 |.agg cs=>.agg (cs.map (zwP m))
 |v=>QI m v
def zlm (m:Mem):AV→AV
 |.tup vs=>.tup (vs.map (zsA m))
 |v=>zsA m v
def zrk:(l:List Kd)→List AV→Option (kdT l)
 |[],[]=>some ()
 |[κ],[v]=>zaM κ v
 |κ::q::r,v::vs=>match zaM κ v,zrk (q::r) vs with
  |some x,some y=>some (x,y)
  |_,_=>none
 |_,_=>none
def zxW:(l:List Kd)→AV→Option (kdT l)
 |[κ],v=>zaM κ v
 |l,.tup vs=>zrk l vs
 |_,_=>none
def QT:(l:List Kd)→kdT l→List AV
 |[],_=>[]
 |[κ],x=>[κ.av x]
 |κ::q::r,x=>κ.av x.1::QT (q::r) x.2
def zgf:(l:List Kd)→kdT l→AV
 |[κ],x=>κ.av x
 |l,x=>.tup (QT l x)
def znU:(l:List Sh)→List AV→Option (shT l)
 |[],[]=>some ()
 |[h],[v]=>h.dec Mem.clear v
 |h::q::r,v::vs=>match h.dec Mem.clear v,znU (q::r) vs with
  |some x,some y=>some (x,y)
  |_,_=>none
 |_,_=>none
def zdo:(l:List Sh)→shT l→List AV
 |[],_=>[]
 |[h],x=>[h.av 0 x]
 |h::q::r,x=>h.av 0 x.1::zdo (q::r) x.2
inductive Inl where
 |code (tb:Tb) (f:Func)
 |srt (κ:Kd) (h:Nat) (cf:κ.T→κ.T→Int)
  |own (ps:List Sh) (e:Kd) (t:Nat) (F:shT ps→Option (List e.T))
  |grw (e:Kd) (t:Nat)
  |mix (ps:List Sh) (e:Kd) (t:Nat) (rk:List Kd) (F:shT ps→Option (List e.T×kdT rk))
structure Jx where
 fid:Nat
 ps:List Sh
 rk:List Kd
 f:shT ps→Option (kdT rk)
 inl:Option Inl
def zlF {ρ:Type} (κ:Kd) (h:Nat) (cf:κ.T→κ.T→Int) (args:List AV) (m:Mem) (k:KX ρ):Option ρ:=match args with
 |[.row id _ _,.fn g [] []]=>match m.row id with
  |some ⟨e,xs,t,.own⟩=>match zgj e κ xs with
   |some ys=>cond (Nat.beq g h) (gd (few (K1 ys)) (k (.tup []) { m with row:=upd m.row id (some ⟨κ,YA cf ys,t,.own⟩) })) none
   |none=>none
  |_=>none
 |[.nil,.fn g [] []]=>cond (Nat.beq g h) (k (.tup []) m) none
 |_=>none
def Mem.tick (m:Mem):Mem:={ m with ep:=m.ep+1 }
def zr8 {ρ:Type} (ps:List Sh) (e:Kd) (t:Nat) (F:shT ps→Option (List e.T)) (args:List AV) (m:Mem) (k:KX ρ):Option ρ:=match znU ps (args.map (Xv m)) with
 |some x=>bnd (F x) fun y=>cond (m.new (m.id 4095)) (k (.row (m.id 4095) e (K1 y)) (Mem.tick { m with row:=upd m.row (m.id 4095) (some ⟨e,y,t,.own⟩) })) none
 |none=>none
def Jx.mem (e:Jx) (args:List AV) (m:Mem):Option Mem :=
 cond (e.rk.all Kd.flat) (some m) (some ((m.fix (args.flatMap (Zd m))).fixB (args.flatMap Z9)))
def zmg {ρ:Type} (e:Kd) (t:Nat) (args:List AV) (m:Mem) (k:KX ρ):Option ρ:=match args with
 |[.nil,.int .i64 n]=>gd (leI 0 n) (gd (zff n) (cond (m.new (m.id 4095)) (k (.row (m.id 4095) e 0) (Mem.tick { m with row:=upd m.row (m.id 4095) (some ⟨e,[],t,.own⟩) })) none))
 |_=>none
def zxF (r:AV):AV→Option AV
 |.tup (.agg (_::cs)::vs)=>some (.tup (.agg (r::cs)::vs))
 |_=>none
def zse {ρ:Type} (ps:List Sh) (e:Kd) (t:Nat) (rk:List Kd) (F:shT ps→Option (List e.T×kdT rk)) (args:List AV) (m:Mem) (k:KX ρ):Option ρ:=match znU ps (args.map (Xv m)) with
 |some x=>bnd (F x) fun y=>cond (((m.fix (args.flatMap (Zd m))).fixB (args.flatMap Z9)).new (m.id 4095)) (match zxF (.row (m.id 4095) e (K1 y.1)) (zgf rk y.2) with
  |some v=>k v (Mem.tick { (m.fix (args.flatMap (Zd m))).fixB (args.flatMap Z9) with row:=upd ((m.fix (args.flatMap (Zd m))).fixB (args.flatMap Z9)).row (m.id 4095) (some ⟨e,y.1,t,.own⟩) })
  |none=>none) none
 |none=>none
noncomputable def Zw {ρ:Type}:List Jx→JF ρ
 |[],_,_,_,_=>none
 |e::r,fid,args,m,k=>match e.inl with
  |some (.srt κ h cf)=>cond (Nat.beq (e.fid+1000000) fid) (zlF κ h cf args m k) (Zw r fid args m k)
  |some (.own ps κ t F)=>cond (Nat.beq (e.fid+1000000) fid) (zr8 ps κ t F args m k) (Zw r fid args m k)
  |some (.mix ps κ t rk F)=>cond (Nat.beq (e.fid+1000000) fid) (zse ps κ t rk F args m k) (Zw r fid args m k)
  |some (.grw κ t)=>cond (Nat.beq (e.fid+1000000) fid) (zmg κ t args m k) (Zw r fid args m k)
  |some (.code tb f)=>cond (Nat.beq (e.fid+1000000) fid&&Nat.ble args.length f.ntmps) (cond (nnF f) (zfp (Zw r) tb 0 f .leaf args m fun v m=>k v m.tick) none) (Zw r fid args m k)
  |none=>cond (Nat.beq e.fid fid&&Nat.blt fid 1000000) (match znU e.ps (args.map (Xv m)) with
  |some x=>match e.mem args m with
   |some m'=>bnd (e.f x) fun y=>k (zgf e.rk y) m'
   |none=>none
  |none=>Zw r fid args m k) (Zw r fid args m k)
noncomputable def zN (es:List Jx) (tb:Tb) (N:Nat) (f:Func) (an:Ann) (ps:List Sh) (rk:List Kd) (x:shT ps):Option (kdT rk) :=
 zfp (Zw es) tb N f an (zdo ps x) Mem.clear fun v m=>zxW rk (zlm m v)
noncomputable def zqz (es:List Jx) (tb:Tb) (N:Nat) (f:Func) (an:Ann) (ps:List Sh) (e:Kd) (t:Nat) (x:shT ps):Option (List e.T) :=
 zfp (Zw es) tb N f an (zdo ps x) Mem.clear fun v m=>rowDec m e t v
end Go.Proofs.YtpkkcjmblocjdaaGreat.AM
end
