/- The abstract machine, 1: kinds of data, abstract values, what a value of the model says. -/
import Derived.Below
import Derived.KernelRfl
set_option linter.unusedVariables false
set_option linter.unusedSimpArgs false
set_option linter.unusedSectionVars false
section
namespace Go.Proofs.YtpkkcjmblocjdaaGreat.AM
open Go.RowKit
inductive Kd where
 |int (k:IntKind)
 |bool
 |str
 |pair (a b:Kd)
 |sl (e:Kd)
  |mp (k v:Kd)
def Kd.T:Kd→Type
 |.int _=>Int
 |.bool=>Bool
 |.str=>ByteArray
 |.pair a b=>a.T×b.T
 |.sl e=>List e.T
 |.mp k v=>List (k.T×v.T)
def Kd.dflt:(κ:Kd)→κ.T
 |.int _=>(0:Int)
 |.bool=>false
 |.str=>ByteArray.empty
 |.pair a b=>(a.dflt,b.dflt)
 |.sl _=>[]
 |.mp _ _=>[]
def Kd.size:Kd→Nat
 |.pair a b=>a.size+b.size
 |_=>1
def kb:IntKind→IntKind→Bool
 |.i64,.i64=>true
 |.u64,.u64=>true
 |.i32,.i32=>true
 |.u32,.u32=>true
 |.i16,.i16=>true
 |.u16,.u16=>true
 |.i8,.i8=>true
 |.u8,.u8=>true
 |_,_=>false
theorem zaY {a b:IntKind} (h:kb a b=true):a=b:=by cases a<;>cases b<;>first|rfl|(simp [kb] at h)
theorem zyA (a:IntKind):kb a a=true:=by cases a<;>rfl
def Kd.beq:Kd→Kd→Bool
 |.int j,.int k=>kb j k
 |.bool,.bool=>true
 |.str,.str=>true
 |.pair a b,.pair c d=>Kd.beq a c&&Kd.beq b d
 |.sl a,.sl b=>Kd.beq a b
 |.mp a b,.mp c d=>Kd.beq a c&&Kd.beq b d
 |_,_=>false
theorem Kd.eq_of_beq:∀{a b:Kd},Kd.beq a b=true→a=b
 |.int j,.int k,h=>by rw [zaY (a:=j) (b:=k) (by simpa [Kd.beq] using h)]
 |.bool,.bool,_=>rfl
 |.str,.str,_=>rfl
 |.pair a b,.pair c d,h=>by
  have h':Kd.beq a c=true∧Kd.beq b d=true:=by simpa [Kd.beq] using h
  rw [Kd.eq_of_beq h'.1,Kd.eq_of_beq h'.2]
 |.sl a,.sl b,h=>by rw [Kd.eq_of_beq (a:=a) (b:=b) (by simpa [Kd.beq] using h)]
 |.mp a b,.mp c d,h=>by
  have h':Kd.beq a c=true∧Kd.beq b d=true:=by simpa [Kd.beq] using h
  rw [Kd.eq_of_beq h'.1,Kd.eq_of_beq h'.2]
 |.mp _ _,.int _,h=>by simp [Kd.beq] at h
 |.mp _ _,.bool,h=>by simp [Kd.beq] at h
 |.mp _ _,.str,h=>by simp [Kd.beq] at h
 |.mp _ _,.pair _ _,h=>by simp [Kd.beq] at h
 |.mp _ _,.sl _,h=>by simp [Kd.beq] at h
 |.int _,.mp _ _,h=>by simp [Kd.beq] at h
 |.bool,.mp _ _,h=>by simp [Kd.beq] at h
 |.str,.mp _ _,h=>by simp [Kd.beq] at h
 |.pair _ _,.mp _ _,h=>by simp [Kd.beq] at h
 |.sl _,.mp _ _,h=>by simp [Kd.beq] at h
 |.int _,.bool,h=>by simp [Kd.beq] at h
 |.int _,.str,h=>by simp [Kd.beq] at h
 |.int _,.pair _ _,h=>by simp [Kd.beq] at h
 |.int _,.sl _,h=>by simp [Kd.beq] at h
 |.bool,.int _,h=>by simp [Kd.beq] at h
 |.bool,.str,h=>by simp [Kd.beq] at h
 |.bool,.pair _ _,h=>by simp [Kd.beq] at h
 |.bool,.sl _,h=>by simp [Kd.beq] at h
 |.str,.int _,h=>by simp [Kd.beq] at h
 |.str,.bool,h=>by simp [Kd.beq] at h
 |.str,.pair _ _,h=>by simp [Kd.beq] at h
 |.str,.sl _,h=>by simp [Kd.beq] at h
 |.pair _ _,.int _,h=>by simp [Kd.beq] at h
 |.pair _ _,.bool,h=>by simp [Kd.beq] at h
 |.pair _ _,.str,h=>by simp [Kd.beq] at h
 |.pair _ _,.sl _,h=>by simp [Kd.beq] at h
 |.sl _,.int _,h=>by simp [Kd.beq] at h
 |.sl _,.bool,h=>by simp [Kd.beq] at h
 |.sl _,.str,h=>by simp [Kd.beq] at h
 |.sl _,.pair _ _,h=>by simp [Kd.beq] at h
def zha (a b:Kd) (xs:List a.T):Option (List b.T) :=
 if h:Kd.beq a b=true then some ((Kd.eq_of_beq h) ▸ xs) else none
theorem Y3 {a b:Kd} {xs:List a.T} {ys:List b.T} (h:zha a b xs=some ys):∃e:a=b,ys=e ▸ xs:=by
 unfold zha at h
 split at h
 ·rename_i hb
  exact ⟨Kd.eq_of_beq hb,by injection h with h;exact h.symm⟩
 ·cases h
def Kd.lfs:Kd→List Kd
 |.pair a b=>Kd.lfs a++Kd.lfs b
 |k=>[k]
def lfB:List Kd→List Kd→Bool
 |[],[]=>true
 |.int j::r,.int k::q=>kb j k&&lfB r q
 |.bool::r,.bool::q=>lfB r q
 |_,_=>false
def Kd.isPair:Kd→Bool
 |.pair _ _=>true
 |_=>false
def Kd.isOne:Kd→Bool
 |.int _=>true
 |.bool=>true
 |_=>false
def zpg (x y:Int):Bool:=decide (x=y)
def zvD (x y:Bool):Bool:=x==y
def Kd.eqT:(κ:Kd)→κ.T→κ.T→Bool
 |.int _,x,y=>zpg x y
 |.bool,x,y=>zvD x y
 |.pair a b,x,y=>Kd.eqT a x.1 y.1&&Kd.eqT b x.2 y.2
 |.str,_,_=>false
 |.sl _,_,_=>false
 |.mp _ _,_,_=>false
def Kd.vs:(κ:Kd)→κ.T→List Value
 |.int k,x=>[.int k x]
 |.bool,x=>[.bool x]
 |.pair a b,x=>Kd.vs a x.1++Kd.vs b x.2
 |.str,x=>[.string x]
 |.sl _,_=>[undef]
 |.mp _ _,_=>[undef]
def JP (κ ν:Kd):List (κ.T×ν.T)→List MapEntry→Prop
 |[],es=>es=[]
 |p::ps,es=>∃e r,es=e::r∧e.key=.agg (κ.vs p.1).toArray∧ν.vs p.2=[e.val]∧JP κ ν ps r
def zrN (es:Array MapEntry) (clock:Nat):Prop:=(∀x∈es.toList,x.born<clock)∧(es.toList.map (·.born)).Nodup
def zgp (a b c d:Kd) (xs:List (a.T×b.T)):Option (List (c.T×d.T)) :=
 if h:Kd.beq a c=true then (if k:Kd.beq b d=true then some ((Kd.eq_of_beq h) ▸ (Kd.eq_of_beq k) ▸ xs) else none) else none
theorem zaU {a b c d:Kd} {xs:List (a.T×b.T)} {ys:List (c.T×d.T)} (h:zgp a b c d xs=some ys):∃(e:a=c) (f:b=d),ys=e ▸ f ▸ xs:=by
 unfold zgp at h
 split at h
 ·rename_i hb
  split at h
  ·rename_i hd
   exact ⟨Kd.eq_of_beq hb,Kd.eq_of_beq hd,by injection h with h;exact h.symm⟩
  ·cases h
 ·cases h
inductive AV where
 |int (k:IntKind) (n:Int)
 |bool (b:Bool)
 |str (s:ByteArray)
  |nil
  |sl (e:Kd) (xs:List e.T)
  |row (id:Nat) (e:Kd) (n:Nat)
 |agg (cs:List AV)
 |tup (vs:List AV)
  |ptr (id off:Nat)
  |kptr (cs:List AV)
  |elem (id:Nat) (e:Kd) (i:Int) (off:Nat)
 |fn (f:Nat) (fst caps:List AV)
 |mp (id:Nat) (k v:Kd)
  |fmp (k v:Kd) (es:List (k.T×v.T))
  |nmp
  |it (id:Nat) (k v:Kd)
 |dead
def AV.pure:AV→Bool
 |.int _ _=>true
 |.bool _=>true
 |.str _=>true
 |.nil=>true
 |.sl _ _=>true
 |.fmp _ _ _=>true
 |.nmp=>true
 |.dead=>true
 |_=>false
def Kd.cells:(κ:Kd)→κ.T→List AV
 |.int k,x=>[.int k x]
 |.bool,x=>[.bool x]
 |.str,x=>[.str x]
 |.pair a b,x=>a.cells x.1++b.cells x.2
 |.sl e,x=>[.sl e x]
 |.mp k v,x=>[.fmp k v x]
def Kd.av:(κ:Kd)→κ.T→AV
 |.int k,x=>.int k x
 |.bool,x=>.bool x
 |.str,x=>.str x
 |.pair a b,x=>.agg (Kd.cells (.pair a b) x)
 |.sl e,x=>.sl e x
 |.mp k v,x=>.fmp k v x
def Kd.dec:(κ:Kd)→List AV→Option (κ.T×List AV)
 |.int k,.int j n::r=>if kb j k=true then some (n,r) else none
 |.bool,.bool b::r=>some (b,r)
 |.str,.str s::r=>some (s,r)
 |.pair a b,cs=>match Kd.dec a cs with
  |some (x,r)=>match Kd.dec b r with
   |some (y,r')=>some ((x,y),r')
   |none=>none
  |none=>none
 |.sl _,.nil::r=>some ([],r)
 |.sl e,.sl e' xs::r=>match zha e' e xs with
  |some ys=>some (ys,r)
  |none=>none
 |.mp _ _,.nmp::r=>some ([],r)
 |.mp k v,.fmp k' v' xs::r=>match zgp k' v' k v xs with
  |some ys=>some (ys,r)
  |none=>none
 |_,_=>none
def AV.cells:AV→List AV
 |.agg cs=>cs
 |v=>[v]
def zAf {α:Type} (w:World) (R:Nat→Prop) (size:Nat) (P:α→List Value→Prop) (xs:List α) (A:Option Addr):Prop :=
 xs=[]∨∃ad:Addr,A=some ad∧R ad.block∧∀(i:Nat) (x:α),xs[i]?=some x→∃us,P x us∧∀(j:Nat) (u:Value),us[j]?=some u→w.cell? (ad.add (i*size+j))=some u
def qd (w:World) (R:Nat→Prop):(κ:Kd)→κ.T→List Value→Prop
 |.int k,x,vs=>vs=[.int k x]
 |.bool,x,vs=>vs=[.bool x]
 |.str,x,vs=>vs=[.string x]
 |.pair a b,x,vs=>∃v1 v2,vs=v1++v2∧qd w R a x.1 v1∧qd w R b x.2 v2
 |.sl e,xs,vs=>∃A c,vs=[.slice A (List.length (α:=e.T) xs) c]∧List.length (α:=e.T) xs≤c∧zAf (α:=e.T) w R e.size (qd w R e) xs A
 |.mp k v,xs,vs=>(vs=[.map none]∧List.length (α:=k.T×v.T) xs=0)∨∃b es clock,vs=[.map (some b)]∧R b∧w.heap[b]?=some (.map es clock)∧zrN es clock∧JP k v xs es.toList
theorem qd.len {w:World} {R:Nat→Prop}:∀{κ:Kd} {x:κ.T} {vs:List Value},qd w R κ x vs→vs.length=κ.size
 |.int _,_,_,h=>by simp only [qd] at h;rw [h];rfl
 |.bool,_,_,h=>by simp only [qd] at h;rw [h];rfl
 |.str,_,_,h=>by simp only [qd] at h;rw [h];rfl
 |.pair a b,_,_,h=>by
  simp only [qd] at h
  obtain ⟨v1,v2,rfl,h1,h2⟩:=h
  rw [List.length_append,h1.len,h2.len];rfl
 |.sl _,_,_,h=>by simp only [qd] at h;obtain ⟨A,c,rfl,_⟩:=h;rfl
 |.mp _ _,_,_,h=>by
  simp only [qd] at h
  rcases h with ⟨rfl,_⟩|⟨b,es,cl,rfl,_⟩<;>rfl
theorem qd.one {w:World} {R:Nat→Prop}:∀{κ:Kd} {x:κ.T} {vs:List Value},qd w R κ x vs→∀u∈vs,u.oneCell'=true
 |.int _,_,_,h=>by simp only [qd] at h;rw [h];simp [Value.oneCell']
 |.bool,_,_,h=>by simp only [qd] at h;rw [h];simp [Value.oneCell']
 |.str,_,_,h=>by simp only [qd] at h;rw [h];simp [Value.oneCell']
 |.pair a b,_,_,h=>by
  simp only [qd] at h
  obtain ⟨v1,v2,rfl,h1,h2⟩:=h
  intro u hu
  rcases List.mem_append.1 hu with hu|hu
  ·exact h1.one u hu
  ·exact h2.one u hu
 |.sl _,_,_,h=>by simp only [qd] at h;obtain ⟨A,c,rfl,_⟩:=h;simp [Value.oneCell']
 |.mp _ _,_,_,h=>by
  simp only [qd] at h
  rcases h with ⟨rfl,_⟩|⟨b,es,cl,rfl,_⟩<;>simp [Value.oneCell']
theorem J2 (a:Addr) (n:Nat):(a.add n).block=a.block:=by unfold Addr.add;split<;>rfl
theorem zhT (a:Addr) (m n:Nat):(a.add m).add n=a.add (m+n):=by
 unfold Addr.add
 by_cases h1:m=0<;>by_cases h2:n=0<;>simp [h1,h2,Nat.add_assoc]
theorem jZ (g o j:Nat):(⟨g,o,none⟩:Addr).add j=⟨g,o+j,none⟩:=by unfold Addr.add;split<;>simp_all
theorem qd.mono {w w':World} {R R':Nat→Prop} (hw:∀b,R b→w'.heap[b]?=w.heap[b]?) (hR:∀b,R b→R' b) :
  ∀{κ:Kd} {x:κ.T} {vs:List Value},qd w R κ x vs→qd w' R' κ x vs
 |.int _,_,_,h=>by simpa only [qd] using h
 |.bool,_,_,h=>by simpa only [qd] using h
 |.str,_,_,h=>by simpa only [qd] using h
 |.pair a b,_,_,h=>by
  simp only [qd] at h ⊢
  obtain ⟨v1,v2,rfl,h1,h2⟩:=h
  exact ⟨v1,v2,rfl,h1.mono hw hR,h2.mono hw hR⟩
 |.sl e,_,_,h=>by
  simp only [qd] at h ⊢
  obtain ⟨A,c,rfl,hc,h⟩:=h
  refine ⟨A,c,rfl,hc,?_⟩
  rcases h with h|⟨ad,rfl,hr,h⟩
  ·exact .inl h
  ·refine .inr ⟨ad,rfl,hR _ hr,fun i x hx=>?_⟩
   obtain ⟨us,hu,hcell⟩:=h i x hx
   refine ⟨us,qd.mono hw hR hu,fun j u hj=>?_⟩
   rw [World.cell?_of_block (w:=w) (by rw [J2];exact hw _ hr)]
   exact hcell j u hj
 |.mp k v,_,_,h=>by
  simp only [qd] at h ⊢
  rcases h with h|⟨b,es,cl,h1,h2,h3,h4⟩
  ·exact .inl h
  ·exact .inr ⟨b,es,cl,h1,hR _ h2,(hw _ h2).trans h3,h4⟩
structure Gh where
 w:World
 R:Nat→Prop
 μ:Nat→Option Nat
 ν:Nat→Option Value
 η:Nat→Option Nat
mutual
def zf (Γ:Gh):AV→Value→Prop
 |.int k n,v=>v=.int k n
 |.bool b,v=>v=.bool b
 |.str s,v=>v=.string s
 |.nil,v=>v=.slice none 0 0
 |.sl e xs,v=>qd Γ.w Γ.R (.sl e) xs [v]
 |.row id _ n,v=>Γ.ν id=some v∧((n=0∧v=.slice none 0 0)∨∃g c,v=.slice (some ⟨g,0,none⟩) n c)
 |.agg cs,v=>∃vs:List Value,v=.agg vs.toArray∧zq Γ cs vs
 |.tup cs,v=>∃vs:List Value,v=.tuple vs.toArray∧zq Γ cs vs
 |.ptr id off,v=>∃b,Γ.μ id=some b∧v=.pointer (some ⟨b,off,none⟩)
 |.kptr cs,v=>∃(ad:Addr) (us:List Value),v=.pointer (some ad)∧Γ.R ad.block∧cs.all AV.pure=true∧zq Γ cs us∧∀j u,us[j]?=some u→Γ.w.cell? (ad.add j)=some u
 |.elem id e i off,v=>∃g n c,Γ.ν id=some (.slice (some ⟨g,0,none⟩) n c)∧i.toNat<n∧v=.pointer (some ⟨g,i.toNat*e.size+off,none⟩)
 |.fn f fst caps,v=>∃us vs:List Value,v=.func (.func f) us.toArray vs.toArray∧zq Γ fst us∧zq Γ caps vs
 |.mp id _ _,v=>∃b,Γ.η id=some b∧v=.map (some b)
 |.fmp k v' xs,v=>qd Γ.w Γ.R (.mp k v') xs [v]
 |.nmp,v=>v=.map none
 |.it id _ _,v=>∃b,Γ.η id=some b∧v=.pointer (some ⟨b,0,none⟩)
 |.dead,_=>True
def zq (Γ:Gh):List AV→List Value→Prop
 |[],vs=>vs=[]
 |c::cs,vs=>∃v vs',vs=v::vs'∧zf Γ c v∧zq Γ cs vs'
end
structure Ext (B:Nat) (Γ Γ':Gh):Prop where
 R:∀b,Γ.R b→Γ'.R b
 heap:∀b,Γ.R b→Γ'.w.heap[b]?=Γ.w.heap[b]?
 μ:∀i b,Γ.μ i=some b→Γ'.μ i=some b
 ν:∀i v,Γ.ν i=some v→Γ'.ν i=some v
 η:∀i b,Γ.η i=some b→Γ'.η i=some b
 new:∀b,Γ'.R b→Γ.R b∨B≤b
 drn:Γ.w.drawn≤Γ'.w.drawn
theorem Ext.refl (B:Nat) (Γ:Gh):Ext B Γ Γ:=⟨fun _ h=>h,fun _ _=>rfl,fun _ _ h=>h,fun _ _ h=>h,fun _ _ h=>h,fun _ h=>.inl h,Nat.le_refl _⟩
theorem Ext.trans {B : Nat} {Γ Γ' Γ'' : Gh} (h : Ext B Γ Γ') (k : Ext B Γ' Γ'') : Ext B Γ Γ'' :=
  ⟨fun b hb => k.R b (h.R b hb), fun b hb => (k.heap b (h.R b hb)).trans (h.heap b hb), fun i b hb => k.μ i b (h.μ i b hb), fun i v hv => k.ν i v (h.ν i v hv), fun i b hb => k.η i b (h.η i b hb),
   fun b hb => by
    rcases k.new b hb with hb | hb
    · exact h.new b hb
    · exact .inr hb, Nat.le_trans h.drn k.drn⟩
mutual
theorem zf.ext {B:Nat} {Γ Γ':Gh} (E:Ext B Γ Γ'):∀{a:AV} {v:Value},zf Γ a v→zf Γ' a v
 |.int _ _,_,h=>by simpa only [zf] using h
 |.bool _,_,h=>by simpa only [zf] using h
 |.str _,_,h=>by simpa only [zf] using h
 |.nil,_,h=>by simpa only [zf] using h
 |.sl e xs,_,h=>by
  simp only [zf] at h ⊢
  exact h.mono E.heap E.R
 |.row id e n,_,h=>by
  simp only [zf] at h ⊢
  exact ⟨E.ν _ _ h.1,h.2⟩
 |.agg cs,_,h=>by
  simp only [zf] at h ⊢
  obtain ⟨vs,rfl,h⟩:=h
  exact ⟨vs,rfl,zq.ext E h⟩
 |.tup cs,_,h=>by
  simp only [zf] at h ⊢
  obtain ⟨vs,rfl,h⟩:=h
  exact ⟨vs,rfl,zq.ext E h⟩
 |.ptr id off,_,h=>by
  simp only [zf] at h ⊢
  obtain ⟨b,h,rfl⟩:=h
  exact ⟨b,E.μ _ _ h,rfl⟩
 |.kptr cs,_,h=>by
  simp only [zf] at h ⊢
  obtain ⟨ad,us,rfl,hr,hp,hl,hc⟩:=h
  refine ⟨ad,us,rfl,E.R _ hr,hp,zq.ext E hl,fun j u hj=>?_⟩
  rw [World.cell?_of_block (w:=Γ.w) (by rw [J2];exact E.heap _ hr)]
  exact hc j u hj
 |.elem id e i off,_,h=>by
  simp only [zf] at h ⊢
  obtain ⟨g,n,c,h,hi,rfl⟩:=h
  exact ⟨g,n,c,E.ν _ _ h,hi,rfl⟩
 |.fn f fst caps,_,h=>by
  simp only [zf] at h ⊢
  obtain ⟨us,vs,rfl,h1,h2⟩:=h
  exact ⟨us,vs,rfl,zq.ext E h1,zq.ext E h2⟩
 |.mp id _ _,_,h=>by
  simp only [zf] at h ⊢
  obtain ⟨b,h,rfl⟩:=h
  exact ⟨b,E.η _ _ h,rfl⟩
 |.fmp k v xs,_,h=>by
  simp only [zf] at h ⊢
  exact h.mono E.heap E.R
 |.nmp,_,h=>by simpa only [zf] using h
 |.it id _ _,_,h=>by
  simp only [zf] at h ⊢
  obtain ⟨b,h,rfl⟩:=h
  exact ⟨b,E.η _ _ h,rfl⟩
 |.dead,_,_=>by simp only [zf]
theorem zq.ext {B:Nat} {Γ Γ':Gh} (E:Ext B Γ Γ'):∀{a:List AV} {v:List Value},zq Γ a v→zq Γ' a v
 |[],_,h=>by simpa only [zq] using h
 |c::cs,_,h=>by
  simp only [zq] at h ⊢
  obtain ⟨v,vs,rfl,h1,h2⟩:=h
  exact ⟨v,vs,rfl,zf.ext E h1,zq.ext E h2⟩
end
end Go.Proofs.YtpkkcjmblocjdaaGreat.AM
end
section
namespace Go.Proofs.YtpkkcjmblocjdaaGreat.AM
open Go.RowKit
def br {α:Type} (b:Bool) (x y:α):α:=cond b x y
def bnd {α ρ:Type} (x:Option α) (k:α→Option ρ):Option ρ:=x.bind k
def gd {ρ:Type} (b:Bool) (x:Option ρ):Option ρ:=cond b x none
def zx {α ρ:Type} (cont:α→Option ρ) (k:(α→Option ρ)→Option ρ):Option ρ:=k cont
def zw {α ρ:Type} (zrb:α→(α→Option ρ)→Option ρ):Nat→α→Option ρ
 |0,_=>none
 |n+1,x=>zrb x (zw zrb n)
def Yc {α:Type} (xs:List α):Nat:=xs.length
def ofN (n:Nat):Int:=n
def zAt (m n:Nat):Nat:=m+n
def inb (i:Int) (n:Nat):Bool:=decide (0≤i)&&decide (i<(n:Int))
def rdD {α:Type} (d:α) (xs:List α) (i:Int):α:=xs.getD i.toNat d
def few (n:Nat):Bool:=decide (n<4294967296)
def zfY (n:Int):Bool:=few n.toNat
def w64 (n:Int):Int:=IntKind.wrap .i64 n
def wrK (k:IntKind) (n:Int):Int:=k.wrap n
def zfV (op:BinOp) (k:IntKind) (x y:Int):Int :=
 match op with
 |.and=>k.wrap (BitVec.ofInt k.bits x &&& BitVec.ofInt k.bits y).toNat
 |.or=>k.wrap (BitVec.ofInt k.bits x ||| BitVec.ofInt k.bits y).toNat
 |.xor=>k.wrap (BitVec.ofInt k.bits x ^^^ BitVec.ofInt k.bits y).toNat
 |_=>k.wrap (BitVec.ofInt k.bits x &&& ~~~ BitVec.ofInt k.bits y).toNat
def zzp (k:IntKind) (x y:Int):Int:=x*2^(min y.toNat k.bits)
def zir (k:IntKind) (x y:Int):Int:=x.fdiv (2^(min y.toNat k.bits))
def zAv (a b:Int):Int:=a+b
def zy8 (a b:Int):Int:=a-b
def zAn (a b:Int):Int:=a*b
def zAq (a b:Int):Int:=a.tdiv b
def zAs (a b:Int):Int:=a.tmod b
def eqI (a b:Int):Bool:=decide (a=b)
def ltI (a b:Int):Bool:=decide (a<b)
def leI (a b:Int):Bool:=decide (a≤b)
def gtI (a b:Int):Bool:=decide (a>b)
def geI (a b:Int):Bool:=decide (a≥b)
def eqB (a b:Bool):Bool:=a==b
def zjn (a:Bool):Bool:=!a
def zAw (a b:Bool):Bool:=a&&b
def zAZ (c:Bool) (a b:Int):Int:=cond c a b
def zAl (c:Bool) (a b:Bool):Bool:=cond c a b
def mxI (x y:Int):Int:=if y>x then y else x
def mnI (x y:Int):Int:=if y<x then y else x
def apL {α:Type} (xs ys:List α):List α:=xs++ys
def stL {α:Type} (xs:List α) (i:Int) (x:α):List α:=xs.set i.toNat x
def tkL {α:Type} (xs:List α) (i:Int):List α:=xs.take i.toNat
def dpL {α:Type} (xs:List α) (i:Int):List α:=xs.drop i.toNat
def rpL {α:Type} (n:Int) (x:α):List α:=List.replicate n.toNat x
def lkM (κ ν:Kd) (es:List (κ.T×ν.T)) (k:κ.T):ν.T:=match es.find? fun p=>Kd.eqT κ k p.1 with
 |some p=>p.2
 |none=>ν.dflt
def hsM (κ ν:Kd) (es:List (κ.T×ν.T)) (k:κ.T):Bool:=es.any fun p=>Kd.eqT κ k p.1
def adM (κ ν:Kd) (es:List (κ.T×ν.T)) (k:κ.T) (v:ν.T):List (κ.T×ν.T):=es++[(k,v)]
noncomputable def nxt {α ρ:Type} (es:List α) (k0:Option ρ) (k1:α→List α→Option ρ):Option ρ:=open Classical in
 match es with
 |[]=>k0
 |_::_=>if h:∃y,∀(j:Nat) (e:α),es[j]?=some e→k1 e (es.eraseIdx j)=some y then some h.choose else none
def Y0 {α:Type} (cf:α→α→Int) (xs:List α):List α:=xs.mergeSort fun x y=>!(decide (cf y x<0))
@[reducible] def toT (α:Type) (x:α):α:=x
def wr (k:IntKind) (n:Int):Int :=
 match k with
 |.i64=>w64 n
 |.i32=>wrK .i32 n
 |.i16=>wrK .i16 n
 |.i8=>wrK .i8 n
 |.u64=>wrK .u64 n
 |.u32=>wrK .u32 n
 |.u16=>wrK .u16 n
 |.u8=>wrK .u8 n
theorem zpE (k:IntKind) (n:Int):wr k n=k.wrap n:=by cases k<;>rfl
inductive TD where
 |int (k:IntKind)
 |bool
 |str
 |sl (e:Nat)
 |arr (n:Nat) (e:Nat)
 |st (fs:List (Nat×Nat))
 |fn
 |mp (k v:Nat)
 |ptr (e:Nat)
 |other
structure TI where
 d:TD
 size:Nat
 bytes:Nat
 zero:List AV
 kd:Option Kd
 eq:Option (List Kd)
def Tb:Type:=List (Nat×TI)
def XV:TI:=⟨.other,0,0,[],none,none⟩
def Tb.at:Tb→Nat→TI
 |[],_=>XV
 |(t,i)::r,u=>cond (Nat.beq t u) i (Tb.at r u)
def Tb.inl:Tb→Nat→Bool
 |[],_=>false
 |(t,_)::r,f=>Nat.beq t (f+1000000000)||Tb.inl r f
def zs7 (tb:Tb):Operand→Bool
 |.func f=>tb.inl f
 |_=>false
def Tb.cln:Tb→Nat→Option Nat
 |[],_=>none
 |(t,_)::r,f=>cond (Nat.ble 2000000000 t&&Nat.beq ((t-2000000000) / 1000) f) (some ((t-2000000000) % 1000)) (Tb.cln r f)
def zvg (tb:Tb):Operand→Option Nat
 |.func f=>tb.cln f
 |_=>none
def rf (f:Nat):Nat:=cond (Nat.blt f 1000000) f (f-1000000)
def TD.ok:TD→Bool
 |.other=>false
 |_=>true
def TD.agg:TD→Bool
 |.arr _ _=>true
 |.st _=>true
 |_=>false
def Kd.flat:Kd→Bool
 |.pair a b=>Kd.flat a&&Kd.flat b
 |.sl _=>false
 |.mp _ _=>false
 |_=>true
inductive zA4 where
 |own
 |fixed
 |dead
structure ZF where
 e:Kd
 xs:List e.T
 t:Nat
 st:zA4
structure YZ where
 cs:List AV
 fixed:Bool
inductive MK where
 |own
 |froz
 |iter
structure ze1 where
 k:Kd
 v:Kd
 es:List (k.T×v.T)
 kd:MK
 cur:Option (k.T×v.T)
structure Mem where
 ep:Nat
 box:Nat→Option YZ
 row:Nat→Option ZF
 map:Nat→Option ze1
def upd {α:Type} (f:Nat→α) (i:Nat) (v:α):Nat→α:=fun j=>cond (Nat.beq j i) v (f j)
structure St where
 tm:Nat→AV
 m:Mem
def Mem.new (m:Mem) (id:Nat):Bool :=
 match m.box id,m.row id,m.map id with
 |none,none,none=>true
 |_,_,_=>false
def Mem.clear:Mem:=⟨0,fun _=>Option.none,fun _=>Option.none,fun _=>Option.none⟩
def Mem.id (m:Mem) (d:Nat):Nat:=m.ep*4096+d
def avC:Value→AV
 |.int k n=>.int k n
 |.bool b=>.bool b
 |.string s=>.str s
 |.slice .none 0 0=>.nil
 |_=>.dead
def St.ev (s:St):Operand→AV
 |.tmp t=>s.tm t
 |.const v=>avC v
 |.func f=>.fn f [] []
 |.global _=>.dead
def Jq (m:Mem):AV→AV
 |.row id _ _=>match m.row id with
  |some ⟨_,_,_,.dead⟩=>.dead
  |some ⟨e,xs,_,_⟩=>.sl e xs
  |none=>.dead
 |.int k n=>.int k n
 |.bool b=>.bool b
 |.str s=>.str s
 |.nil=>.nil
 |.sl e xs=>.sl e xs
 |.fmp k v xs=>.fmp k v xs
 |.nmp=>.nmp
 |_=>.dead
def QY (m:Mem):AV→AV
 |.agg cs=>.agg (cs.map (Jq m))
 |.kptr cs=>.kptr cs
 |.ptr id 0=>match m.box id with
  |some b=>.kptr (b.cs.map (Jq m))
  |none=>.dead
 |v=>Jq m v
def XT (m:Mem):AV→AV
 |.fn f a b=>.fn f (a.map (QY m)) (b.map (QY m))
 |v=>QY m v
def Js:AV→List Nat
 |.row id _ _=>[id]
 |_=>[]
def Yi (m:Mem):AV→List AV
 |.agg cs=>cs
 |.ptr id _=>match m.box id with
  |some b=>b.cs
  |none=>[]
 |v=>[v]
def zhS:AV→Bool
 |.ptr _ _=>true
 |_=>false
def Zn (m:Mem) (v:AV):List Nat:=(Yi m v).flatMap Js
def Zo (m:Mem):AV→List Nat
 |.fn _ a b=>a.flatMap (Zn m)++b.flatMap (Zn m)
 |v=>Zn m v
def zsT:AV→Bool
 |.fn _ a b=>a.any zhS||b.any zhS
 |v=>zhS v
def ZQ:ZF→ZF
 |⟨e,xs,t,.own⟩=>⟨e,xs,t,.fixed⟩
 |r=>r
def Mem.fix (m:Mem):List Nat→Mem
 |[]=>m
 |id::r=>(match m.row id with
  |some a=>({ m with row:=upd m.row id (some (ZQ a)) }:Mem)
  |none=>m).fix r
def Mem.kill (m:Mem) (id:Nat):Mem:=match m.row id with
 |some ⟨e,xs,t,_⟩=>{ m with row:=upd m.row id (some ⟨e,xs,t,.dead⟩) }
 |none=>m
def fixBox (m:Mem) (id:Nat):Mem:=match m.box id with
 |some b=>{ m with box:=upd m.box id (some ⟨b.cs,true⟩) }
 |none=>m
def fixBs (r:Nat→Option YZ):List Nat→(Nat→Option YZ)
 |[]=>r
 |id::G=>fixBs (match r id with
  |some b=>upd r id (some ⟨b.cs,true⟩)
  |none=>r) G
def Mem.fixB (m:Mem) (G:List Nat):Mem:={ m with box:=fixBs m.box G }
def K2:AV→List Nat
 |.ptr id _=>[id]
 |_=>[]
def Z9:AV→List Nat
 |.fn _ a b=>a.flatMap K2++b.flatMap K2
 |v=>K2 v
def zbb (κ:Kd) (v:AV):Option κ.T:=match κ,v with
 |.pair a b,.agg cs=>match Kd.dec (.pair a b) cs with
  |some (x,[])=>some x
  |_=>none
 |.pair _ _,_=>none
 |_,.agg _=>none
 |κ,v=>match Kd.dec κ [v] with
  |some (x,[])=>some x
  |_=>none
def XD (m:Mem) (o:Oper) (id:Nat):Bool :=
 Nat.blt id (m.ep*4096)||o.op.operands.toList.any fun x=>match x with
  |.tmp d=>Nat.beq id (m.ep*4096+d)
  |_=>false
def QU (m:Mem) (v:AV):List Nat:=(match v with
 |.ptr id _=>[id]
 |_=>[])++Zn m v
def Zq (m:Mem):AV→List Nat
 |.fn _ a b=>a.flatMap (QU m)++b.flatMap (QU m)
 |v=>QU m v
end Go.Proofs.YtpkkcjmblocjdaaGreat.AM
end
section
namespace Go.Proofs.YtpkkcjmblocjdaaGreat.AM
open Go.RowKit
abbrev Yj (ρ:Type):Type:=AV→Mem→Option ρ
def ztI:AV→Bool
 |.dead=>false
 |.agg _=>false
 |.tup _=>false
 |_=>true
def zgw:AV→Option (List AV)
 |.agg cs=>cond (cs.all ztI) (some cs) none
 |v=>cond (ztI v) (some [v]) none
def zao (ti:TI) (off:Nat) (cs:List AV):Option AV :=
 cond ti.d.agg (cond (Nat.ble (off+ti.size) cs.length) (some (.agg ((cs.drop off).take ti.size))) none) (cond (Nat.beq ti.size 1) cs[off]? none)
def zhw (off:Nat) (vs cs:List AV):Option (List AV) :=
 cond (Nat.ble (off+vs.length) cs.length) (some (cs.take off++vs++cs.drop (off+vs.length))) none
section
variable {ρ:Type} (tb:Tb) (o:Oper) (m:Mem) (k:Yj ρ)
def zcr (cs:List AV):Option ρ:=match o.dst with
 |some d=>cond (m.new (m.id d)) (k (.ptr (m.id d) 0) { m with box:=upd m.box (m.id d) (some ⟨cs,false⟩) }) none
 |none=>none
def K5 (e:Kd) (t:Nat) (xs:List e.T) (M:Mem):Option ρ:=match o.dst with
 |some d=>cond (M.new (M.id d)) (k (.row (M.id d) e (Yc xs)) { M with row:=upd M.row (M.id d) (some ⟨e,xs,t,.own⟩) }) none
 |none=>none
def zmL (c x y:AV):Option ρ:=match c with
 |.bool c=>match x,y with
  |.bool a,.bool b=>k (.bool (zAl c a b)) m
  |.int i a,.int j b=>cond (kb i j) (k (.int i (zAZ c a b)) m) none
  |_,_=>br c (k x m) (k y m)
 |_=>none
def zoK (t:Nat) (x:AV):Option ρ:=match zgw x with
 |some cs=>zcr o m k cs
 |none=>none
def zje (ti:TI) (i:Nat):Option (Nat×Nat):=match ti.d with
 |.st fs=>match fs[i]? with
  |some (off,t)=>cond (Nat.blt 0 (tb.at t).size) (some (off,(tb.at t).size)) none
  |none=>none
 |.arr _ e=>cond (Nat.blt 0 (tb.at e).size) (some (i*(tb.at e).size,(tb.at e).size)) none
 |_=>none
def zoY (ti:TI):List (Nat×AV)→List AV→Option (List AV)
 |[],cs=>some cs
 |(i,v)::r,cs=>match zje tb ti i,zgw v with
  |some (off,n),some vs=>cond (Nat.beq vs.length n) (match zhw off vs cs with
   |some cs'=>zoY ti r cs'
   |none=>none) none
  |_,_=>none
def zyy:TD→Bool
 |.st _=>true
 |.arr _ e=>Nat.blt 0 (tb.at e).size
 |_=>false
def ziM (t:Nat) (zjj:List (Nat×AV)):Option ρ :=
 match zoY tb (tb.at t) zjj (tb.at t).zero with
 |some cs=>cond (zyy tb (tb.at t).d) (k (.agg cs) m) none
 |none=>none
def zgX (e:Kd) (f:AV→AV):List (Nat×AV)→List e.T→Option (List e.T)
 |[],xs=>some xs
 |(i,v)::r,xs=>match zbb e (f v) with
  |some x=>cond (Nat.ble (i+1) xs.length) (zgX e f r (xs.set i x)) none
  |none=>none
def Qy (t len:Nat) (zjj:List (Nat×AV)):Option ρ :=
 match (tb.at t).d with
 |.sl e=>match (tb.at e).kd with
  |some κ=>cond (Nat.ble (len*κ.size) 16777216) (cond κ.flat (match zgX κ (fun v=>v) zjj (List.replicate len κ.dflt) with
    |some xs=>K5 o k κ e xs m
    |none=>none)
   (match zgX κ (XT m) zjj (List.replicate len κ.dflt) with
    |some xs=>cond (zjj.any fun p=>zsT p.2) none (K5 o k κ e xs (m.fix (zjj.flatMap fun p=>Zo m p.2)))
    |none=>none)) none
  |none=>none
 |_=>none
def Kc (t:Nat) (a:AV):Option ρ:=match a with
 |.ptr id off=>match m.box id with
  |some b=>match zao (tb.at t) off b.cs with
   |some v=>cond (XD m o id) (k v m) none
   |none=>none
  |none=>none
 |.kptr cs=>match zao (tb.at t) 0 cs with
  |some v=>k v m
  |none=>none
 |.elem id e0 i off=>match m.row id with
  |some ⟨_,_,_,.dead⟩=>none
  |some ⟨e,xs,_,_⟩=>match zao (tb.at t) off (e.cells (rdD e.dflt xs i)) with
   |some v=>cond (Nat.beq e0.size e.size&&XD m o id) (k v m) none
   |none=>none
  |none=>none
 |_=>none
def zdt (t:Nat) (a x:AV):Option ρ:=match a with
 |.ptr id off=>match m.box id with
  |some ⟨cs,false⟩=>match zgw x with
   |some vs=>cond (Nat.beq vs.length (tb.at t).size&&Nat.blt 0 (tb.at t).size) (match zhw off vs cs with
    |some cs'=>k (.tup []) { m with box:=upd m.box id (some ⟨cs',false⟩) }
    |none=>none) none
   |none=>none
  |_=>none
 |.elem id e0 i off=>match m.row id with
  |some ⟨e,xs,et,.own⟩=>match zgw (XT m x) with
   |some vs=>cond (Nat.beq vs.length (tb.at t).size&&Nat.beq e0.size e.size&&Nat.blt 0 (tb.at t).size) (match zhw off vs (e.cells (rdD e.dflt xs i)) with
    |some cs'=>match Kd.dec e cs' with
     |some (y,[])=>cond (((Zo m x).all fun j=>!(Nat.beq j id))&&!(zsT x)) (k (.tup []) { m.fix (Zo m x) with row:=upd (m.fix (Zo m x)).row id (some ⟨e,stL xs i y,et,.own⟩) }) none
     |_=>none
    |none=>none) none
   |none=>none
  |_=>none
 |_=>none
def zum (x:AV):Option ρ:=match x with
 |.ptr id off=>k (.ptr id off) m
 |.kptr cs=>k (.kptr cs) m
 |.elem id e i off=>k (.elem id e i off) m
 |.fn f a b=>k (.fn f a b) m
 |_=>none
def eqL:List Kd→List AV→List AV→Option Bool
 |[.int l],[.int i a],[.int j b]=>cond (kb l i&&kb l j) (some (eqI a b)) none
 |[.bool],[.bool a],[.bool b]=>some (eqB a b)
 |.int l::ks,.int i a::r,.int j b::q=>cond (kb l i&&kb l j) (match eqL ks r q with
  |some c=>some (zAw (eqI a b) c)
  |none=>none) none
 |.bool::ks,.bool a::r,.bool b::q=>match eqL ks r q with
  |some c=>some (zAw (eqB a b) c)
  |none=>none
 |_,_,_=>none
def zgT (op:BinOp) (t:Nat) (x y:AV):Option ρ:=match x,y with
 |.int i a,.int j b=>match op with
  |.shl=>gd (leI 0 b) (k (.int i (wr i (zzp i a b))) m)
  |.shr=>gd (leI 0 b) (k (.int i (zir i a b)) m)
  |.add=>cond (kb i j) (k (.int i (wr i (zAv a b))) m) none
  |.sub=>cond (kb i j) (k (.int i (wr i (zy8 a b))) m) none
  |.mul=>cond (kb i j) (k (.int i (wr i (zAn a b))) m) none
  |.quo=>cond (kb i j) (gd (zjn (eqI b 0)) (k (.int i (wr i (zAq a b))) m)) none
  |.rem=>cond (kb i j) (gd (zjn (eqI b 0)) (k (.int i (zAs a b)) m)) none
  |.and=>cond (kb i j) (k (.int i (zfV .and i a b)) m) none
  |.or=>cond (kb i j) (k (.int i (zfV .or i a b)) m) none
  |.xor=>cond (kb i j) (k (.int i (zfV .xor i a b)) m) none
  |.eql=>cond (kb i j) (k (.bool (eqI a b)) m) none
  |.neq=>cond (kb i j) (k (.bool (zjn (eqI a b))) m) none
  |.lss=>cond (kb i j) (k (.bool (ltI a b)) m) none
  |.leq=>cond (kb i j) (k (.bool (leI a b)) m) none
  |.gtr=>cond (kb i j) (k (.bool (gtI a b)) m) none
  |.geq=>cond (kb i j) (k (.bool (geI a b)) m) none
  |_=>none
 |.bool a,.bool b=>match op,(tb.at t).d with
  |.eql,.bool=>k (.bool (eqB a b)) m
  |.neq,.bool=>k (.bool (zjn (eqB a b))) m
  |_,_=>none
 |.agg cs,.agg ds=>match (tb.at t).eq with
  |some ks=>match op,eqL ks cs ds with
   |.eql,some c=>k (.bool c) m
   |.neq,some c=>k (.bool (zjn c)) m
   |_,_=>none
  |none=>none
 |.sl e xs,.nil=>match op,(tb.at t).d with
  |.eql,.sl _=>gd (ltI 0 (ofN (Yc (α:=e.T) xs))) (k (.bool false) m)
  |_,_=>none
 |_,_=>none
def kUn (op:UnOp) (x:AV):Option ρ:=match op,x with
 |.not,.bool b=>k (.bool (zjn b)) m
 |.neg,.int i n=>k (.int i (wr i (zy8 0 n))) m
 |_,_=>none
def zmD (dst:Nat) (x:AV):Option ρ:=match (tb.at dst).d,x with
 |.int j,.int _ n=>k (.int j (wr j n)) m
 |_,_=>none
def znn:Operand→Operand→Bool
 |.tmp a,.tmp b=>Nat.beq a b
 |.const (.int i a),.const (.int j b)=>kb i j&&(a==b)
 |_,_=>false
def zhX (t:Nat) (same:Bool) (n:AV):Option ρ:=match (tb.at t).d,n with
 |.sl e,.int .i64 n=>match (tb.at e).kd with
  |some κ=>cond same (gd (leI 0 n) (gd (zfY n) (K5 o k κ e (rpL n κ.dflt) m))) none
  |none=>none
 |_,_=>none
def zqx {α:Type} (lo hi:Option Int) (xs:List α):List α:=match hi,lo with
 |none,none=>xs
 |some h,none=>tkL xs h
 |none,some l=>dpL xs l
 |some h,some l=>dpL (tkL xs h) l
def XE (lo hi:Option Int) (n:Nat) (x:Option ρ):Option ρ:=match hi,lo with
 |none,none=>x
 |some h,none=>gd (leI 0 h) (gd (leI h (ofN n)) x)
 |none,some l=>gd (leI 0 l) (gd (leI l (ofN n)) x)
 |some h,some l=>gd (leI 0 h) (gd (leI h (ofN n)) (gd (leI 0 l) (gd (leI l h) x)))
def zv2:Option AV→Option (Option Int)
 |none=>some none
 |some (.int _ n)=>some (some n)
 |_=>none
def QA (t:Nat) (x:AV) (lo hi:Option AV):Option ρ:=match zv2 lo,zv2 hi with
 |some lo,some hi=>match (tb.at t).d,x with
  |.sl et,.sl e xs=>cond (Nat.beq (tb.at et).size e.size) (XE lo hi (Yc xs) (k (.sl e (zqx lo hi xs)) m)) none
  |.sl et,.row id e n=>match m.row id with
   |some ⟨_,_,_,.dead⟩=>none
   |some ⟨e',xs,_,_⟩=>cond (XD m o id&&Nat.beq (tb.at et).size e'.size) (XE lo hi (Yc xs) (k (.sl e' (zqx lo hi xs)) (m.fix [id]))) none
   |none=>none
  |.sl et,.nil=>cond (tb.at et).d.ok (XE lo hi 0 (k .nil m)) none
  |.arr n e,.ptr id 0=>match lo,hi,(tb.at e).kd,m.box id with
   |none,none,some κ,some b=>match decAll κ n (b.cs.map (Jq m)) with
    |some xs=>cond (Nat.beq ((Zn m x).length) 0&&XD m o id) (k (.sl κ xs) (fixBox m id)) none
    |none=>none
   |_,_,_,_=>none
  |_,_=>none
 |_,_=>none
where decAll (κ:Kd):Nat→List AV→Option (List κ.T)
 |0,[]=>some []
 |n+1,cs=>match Kd.dec κ cs with
  |some (x,r)=>match decAll κ n r with
   |some xs=>some (x::xs)
   |none=>none
  |none=>none
 |_,_=>none
def zur (ti:TI) (f:Nat):Option Nat:=match ti.d with
 |.st fs=>match fs[f]? with
  |some (off,u)=>cond (Nat.blt 0 (tb.at u).size) (some off) none
  |none=>none
 |_=>none
def Xc (t:Nat) (a:AV) (f:Nat):Option ρ:=match zur tb (tb.at t) f with
 |some off=>match a with
  |.ptr id o=>k (.ptr id (o+off)) m
  |.kptr cs=>k (.kptr (cs.drop off)) m
  |.elem id e i o=>k (.elem id e i (o+off)) m
  |_=>none
 |none=>none
def zij (t:Nat) (x:AV) (f:Nat):Option ρ:=match (tb.at t).d,x with
 |.st fs,.agg cs=>match fs[f]? with
  |some (off,u)=>match zao (tb.at u) off cs with
   |some v=>k v m
   |none=>none
  |none=>none
 |_,_=>none
def j0 (t:Nat) (x i:AV):Option ρ:=match i with
 |.int _ i=>match (tb.at t).d,x with
  |.sl et,.sl e xs=>cond (Nat.beq (tb.at et).size e.size) (gd (inb i (Yc xs)) (k (.kptr (e.cells (rdD e.dflt xs i))) m)) none
  |.sl et,.row id e n=>cond (Nat.beq (tb.at et).size e.size) (gd (inb i n) (k (.elem id e i 0) m)) none
  |.arr n e,.ptr id off=>cond (tb.at e).d.ok (ways n 0 i fun j=>k (.ptr id (off+j*(tb.at e).size)) m) none
  |.arr n e,.kptr cs=>cond (tb.at e).d.ok (ways n 0 i fun j=>k (.kptr (cs.drop (j*(tb.at e).size))) m) none
  |.arr n e,.elem id ek ei off=>cond (tb.at e).d.ok (ways n 0 i fun j=>k (.elem id ek ei (off+j*(tb.at e).size)) m) none
  |_,_=>none
 |_=>none
where ways:Nat→Nat→Int→(Nat→Option ρ)→Option ρ
 |0,_,_,_=>none
 |n+1,j,i,k=>br (eqI i (ofN j)) (k j) (ways n (j+1) i k)
def zcB (x:AV) (i:Nat):Option ρ:=match x with
 |.tup vs=>match vs[i]? with
  |some v=>k v m
  |none=>none
 |_=>none
def zy4 (t:Nat) (x:AV):Option Int:=match (tb.at t).d,x with
 |.sl _,.sl e xs=>some (ofN (Yc (α:=e.T) xs))
 |.sl _,.row _ _ n=>some (ofN n)
 |.sl _,.nil=>some 0
 |.arr n _,_=>some (n:Int)
 |.str,.str b=>some (b.size:Int)
 |_,_=>none
def mxL:List AV→Option (IntKind×Int)
 |[.int i a]=>some (i,a)
 |[.int i a,.int j b]=>cond (kb i j) (some (i,mxI a b)) none
 |_=>none
def mnL:List AV→Option (IntKind×Int)
 |[.int i a]=>some (i,a)
 |[.int i a,.int j b]=>cond (kb i j) (some (i,mnI a b)) none
 |_=>none
def zgh (kt vt:Nat):Option (Kd×Kd):=match (tb.at kt).kd,(tb.at kt).eq,(tb.at vt).kd with
 |some κ,some ks,some ν=>cond (lfB ks κ.lfs&&κ.isPair&&ν.isOne&&!((tb.at vt).d.agg)) (some (κ,ν)) none
 |_,_,_=>none
def zcJ (t:Nat):Option ρ:=match (tb.at t).d with
 |.mp kt vt=>match zgh tb kt vt,o.dst with
  |some (κ,ν),some d=>cond (m.new (m.id d)) (k (.mp (m.id d) κ ν) { m with map:=upd m.map (m.id d) (some ⟨κ,ν,[],.own,none⟩) }) none
  |_,_=>none
 |_=>none
def lkK (κ ν:Kd) (es:List (κ.T×ν.T)) (key:κ.T) (ok:Bool):Option ρ :=
 cond ok (k (.tup [ν.av (lkM κ ν es key),.bool (hsM κ ν es key)]) m) (k (ν.av (lkM κ ν es key)) m)
def JZ (t:Nat) (x i:AV) (ok:Bool):Option ρ:=match (tb.at t).d,x with
 |.mp kt vt,.mp id _ _=>match m.map id,zgh tb kt vt with
  |some ⟨_,_,_,.iter,_⟩,_=>none
  |some ⟨κ,ν,es,_,_⟩,some (κ',ν')=>match zbb κ i with
   |some key=>cond (Kd.beq κ κ'&&Kd.beq ν ν'&&XD m o id) (lkK m k κ ν es key ok) none
   |none=>none
  |_,_=>none
 |.mp kt vt,.fmp κ ν es=>match zgh tb kt vt with
  |some (κ',ν')=>match zbb κ i with
   |some key=>cond (Kd.beq κ κ'&&Kd.beq ν ν') (lkK m k κ ν es key ok) none
   |none=>none
  |none=>none
 |_,_=>none
def zfI (t:Nat) (x i v:AV):Option ρ:=match (tb.at t).d,x with
 |.mp kt vt,.mp id _ _=>match m.map id,zgh tb kt vt with
  |some ⟨κ,ν,es,.own,_⟩,some (κ',ν')=>match zbb κ i,zbb ν v with
   |some key,some val=>cond (Kd.beq κ κ'&&Kd.beq ν ν') (gd (zjn (hsM κ ν es key)) (k (.tup []) { m with map:=upd m.map id (some ⟨κ,ν,adM κ ν es key val,.own,none⟩) })) none
   |_,_=>none
  |_,_=>none
 |_,_=>none
def ziZ (t:Nat) (x:AV):Option ρ:=match (tb.at t).d,x with
 |.mp kt vt,.mp id _ _=>match m.map id,zgh tb kt vt,o.dst with
  |some ⟨_,_,_,.iter,_⟩,_,_=>none
  |some ⟨κ,ν,es,_,_⟩,some (κ',ν'),some d=>cond (Kd.beq κ κ'&&Kd.beq ν ν'&&XD m o id&&m.new (m.id d))
   (k (.it (m.id d) κ ν) { m with map:=upd (upd m.map id (some ⟨κ,ν,es,.froz,none⟩)) (m.id d) (some ⟨κ,ν,es,.iter,none⟩) }) none
  |_,_,_=>none
 |.mp kt vt,.fmp κ ν es=>match zgh tb kt vt,o.dst with
  |some (κ',ν'),some d=>cond (Kd.beq κ κ'&&Kd.beq ν ν'&&m.new (m.id d))
   (k (.it (m.id d) κ ν) { m with map:=upd m.map (m.id d) (some ⟨κ,ν,es,.iter,none⟩) }) none
  |_,_=>none
 |_,_=>none
def zis (x:AV):Option ρ:=match x with
 |.it id _ _=>match m.map id with
  |some ⟨κ,ν,_,.iter,some p⟩=>cond (XD m o id) (k (.tup [κ.av p.1,ν.av p.2]) m) none
  |_=>none
 |_=>none
def ziT (t:Nat) (x i:AV):Option ρ:=match i with
 |.int _ i=>match (tb.at t).d,x with
  |.arr n e,.agg cs=>j0.ways n 0 i fun j=>match zao (tb.at e) (j*(tb.at e).size) cs with
   |some v=>k v m
   |none=>none
  |_,_=>none
 |_=>none
def zxF (e:Kd):AV→Option (List e.T)
 |.nil=>some []
 |.sl e' ys=>zha e' e ys
 |.row id _ _=>match m.row id with
  |some ⟨_,_,_,.dead⟩=>none
  |some ⟨e',ys,_,_⟩=>zha e' e ys
  |none=>none
 |_=>none
def zbl (t:Nat) (v x:AV):Option ρ:=match (tb.at t).d with
 |.sl et=>match v with
  |.nil=>match (tb.at et).kd with
   |some κ=>match zxF m κ x with
    |some ys=>gd (few (Yc ys)) (K5 o k κ et ys m)
    |none=>none
   |none=>none
  |.row id _ _=>match m.row id with
   |some ⟨e,xs,et',.own⟩=>match zxF m e x with
    |some ys=>cond (Nat.beq et et'&&Nat.beq (tb.at et).size e.size&&Nat.ble (tb.at et).bytes 32768&&notRow id x) (gd (few (zAt (Yc xs) (Yc ys))) (K5 o k e et (apL xs ys) (m.kill id))) none
    |none=>none
   |_=>none
  |_=>none
 |_=>none
where notRow (id:Nat):AV→Bool
 |.row j _ _=>!(Nat.beq j id)
 |_=>true
end
end Go.Proofs.YtpkkcjmblocjdaaGreat.AM
end
section
namespace Go.Proofs.YtpkkcjmblocjdaaGreat.AM
open Go.RowKit
abbrev Jz (ρ:Type):Type:=Nat→List AV→Mem→Yj ρ→Option ρ
def St.put (s:St) (d:Option Nat) (v:AV) (m:Mem):St:=match d with
 |some d=>⟨upd s.tm d v,m⟩
 |none=>⟨s.tm,m⟩
def St.lit (s:St) (d:Nat) (b:Bool):St:=⟨upd s.tm d (.bool b),s.m⟩
def St.litO (s:St) (x:Operand) (b:Bool):St:=match x with
 |.tmp d=>s.lit d b
 |_=>s
def St.tick (s:St):St:=⟨s.tm,{ s.m with ep:=s.m.ep+1 }⟩
section
variable {ρ:Type} (cl:Jz ρ) (tb:Tb)
def zfo (o:Oper) (m:Mem) (k:Yj ρ) (t:Nat) (args:List AV):Option ρ:=match (tb.at t).kd,args with
 |some e,[.sl e' xs]=>match zha e' e xs with
  |some ys=>cond (e.lfs.all Kd.isOne) (gd (ltI 0 (ofN (Yc ys))) (gd (few (Yc ys)) (K5 o k e t ys m))) none
  |none=>none
 |_,_=>none
def zcc (c:Call) (ev:Operand→AV) (m:Mem) (o:Oper) (k:Yj ρ):Option ρ:=match c.callee with
 |.builtin .len=>match c.args.toList,c.argTypes.toList with
  |[x],t::_=>match zy4 tb t (ev x) with
   |some n=>k (.int .i64 n) m
   |none=>none
  |_,_=>none
 |.builtin .append=>match c.args.toList,c.argTypes.toList with
  |[v,x],[t,u]=>cond (Nat.beq t u) (zbl tb o m k t (ev v) (ev x)) none
  |_,_=>none
 |.builtin .max=>match mxL (c.args.toList.map ev) with
  |some (i,n)=>k (.int i n) m
  |none=>none
 |.builtin .min=>match mnL (c.args.toList.map ev) with
  |some (i,n)=>k (.int i n) m
  |none=>none
 |.value f=>match zvg tb f with
  |some t=>zfo tb o m k t (c.args.toList.map ev)
  |none=>cond (zs7 tb f) (match f with
  |.func g=>cl (g+1000000) (c.args.toList.map ev) m k
  |_=>none) (match ev f with
  |.fn g a b=>cond (Nat.blt g 1000000&&((a++c.args.toList.map ev++b).flatMap (Zq m)).all (XD m o)) (cl g (a++c.args.toList.map ev++b) m k) none
  |_=>none)
 |_=>none
def opK (o:Oper) (ev:Operand→AV) (m:Mem) (k:Yj ρ):Option ρ:=match o.op with
 |.move x=>k (ev x) m
 |.assign x=>k (ev x) m
 |.pick c a b=>zmL m k (ev c) (ev a) (ev b)
 |.alloc t=>cond (tb.at t).d.ok (zcr o m k (tb.at t).zero) none
 |.box t x=>zoK o m k t (ev x)
 |.build t ps=>ziM tb m k t (ps.toList.map fun p=>(p.1,ev p.2))
 |.buildSlice t n ps=>Qy tb o m k t n (ps.toList.map fun p=>(p.1,ev p.2))
 |.load t a=>Kc tb o m k t (ev a)
 |.store t a x=>zdt tb m k t (ev a) (ev x)
 |.nilCheck x=>zum m k (ev x)
 |.binOp op t x y _=>zgT tb m k op t (ev x) (ev y)
 |.unOp op _ x=>kUn m k op (ev x)
 |.convert r t x=>cond (tb.at r).d.ok (zmD tb m k t (ev x)) none
 |.makeFunc (.func f) a b=>k (.fn f (a.toList.map ev) (b.toList.map ev)) m
 |.makeSlice t l c=>zhX tb o m k t (znn l c) (ev l)
 |.slice t x lo hi none=>QA tb o m k t (ev x) (lo.map ev) (hi.map ev)
 |.fieldAddr t x f=>Xc tb m k t (ev x) f
 |.field t x f=>zij tb m k t (ev x) f
 |.indexAddr t x i=>j0 tb m k t (ev x) (ev i)
 |.extract x i=>zcB m k (ev x) i
 |.index t x i=>ziT tb m k t (ev x) (ev i)
 |.makeMap t none=>zcJ tb o m k t
 |.lookup t x i ok=>JZ tb o m k t (ev x) (ev i) ok
 |.range t x=>ziZ tb o m k t (ev x)
 |.entry x=>zis o m k (ev x)
 |.mapUpdate t x i v=>zfI tb m k t (ev x) (ev i) (ev v)
 |.call c=>zcc cl tb c ev m o k
 |_=>none
def znI (ops:Array Oper) (j:Nat):Option Nat:=match ops.toList[j]? with
 |some o=>o.dst
 |none=>none
def opG (ops:Array Oper) (o:Oper) (s:St) (k:St→Option ρ):Option ρ:=match o.guard with
 |none=>opK cl tb o s.ev s.m fun v m=>k (s.put o.dst v m)
 |some (j,want)=>match znI ops j with
  |some d=>match s.tm d with
   |.bool b=>br b
    (cond want (opK cl tb o (s.lit d true).ev s.m fun v m=>k ((s.lit d true).put o.dst v m)) (k ((s.lit d true).put o.dst (.tup []) s.m)))
    (cond want (k ((s.lit d false).put o.dst (.tup []) s.m)) (opK cl tb o (s.lit d false).ev s.m fun v m=>k ((s.lit d false).put o.dst v m)))
   |.tup []=>k (s.put o.dst (.tup []) s.m)
   |_=>none
  |none=>none
def zoR (ops:Array Oper):List Oper→St→(St→Option ρ)→Option ρ
 |[],s,k=>k s
 |o::r,s,k=>opG cl tb ops o s fun s'=>zoR ops r s' k
end
inductive SP where
 |d (κ:Kd)
 |kp (κ:Kd)
inductive SC where
 |d (κ:Kd)
 |row (e:Kd) (t:Nat)
 |mp (κ ν:Kd)
inductive Sh where
 |d (κ:Kd)
 |kp (κ:Kd)
 |row (e:Kd) (t:Nat)
 |box (cs:List SC)
 |fn (f:Nat) (a b:List SP)
 |mp (κ ν:Kd)
 |it (κ ν:Kd)
 |mpf (κ ν:Kd)
 |con (l:List Nat)
def SP.T:SP→Type
 |.d κ=>κ.T
 |.kp κ=>κ.T
def SC.T:SC→Type
 |.d κ=>κ.T
 |.row e _=>List e.T
 |.mp κ ν=>List (κ.T×ν.T)
def jM:List Type→Type
 |[]=>Unit
 |[a]=>a
 |a::r=>a×jM r
def Sh.T:Sh→Type
 |.d κ=>κ.T
 |.kp κ=>κ.T
 |.row e _=>List e.T
 |.box cs=>jM (cs.map SC.T)
 |.fn _ a b=>jM (a.map SP.T)×jM (b.map SP.T)
 |.mp κ ν=>List (κ.T×ν.T)
 |.it κ ν=>List (κ.T×ν.T)
 |.mpf κ ν=>List (κ.T×ν.T)
 |.con _=>Unit
abbrev Cut:Type:=List (Nat×Sh)
def shT (l:List Sh):Type:=jM (l.map Sh.T)
def kdT (l:List Kd):Type:=jM (l.map Kd.T)
def Cut.T (c:Cut):Type:=shT (c.map (·.2))
def SP.dec:(p:SP)→AV→Option p.T
 |.d κ,v=>zbb κ v
 |.kp κ,.kptr cs=>match Kd.dec κ cs with
  |some (x,[])=>some x
  |_=>none
 |.kp _,_=>none
def zer:(l:List SP)→List AV→Option (jM (l.map SP.T))
 |[],[]=>some ()
 |[p],[v]=>p.dec v
 |p::q::r,v::vs=>match p.dec v,zer (q::r) vs with
  |some x,some y=>some (x,y)
  |_,_=>none
 |_,_=>none
def rowDec (m:Mem) (e:Kd) (t:Nat):AV→Option (List e.T)
 |.nil=>some []
 |.row id _ _=>match m.row id with
  |some ⟨e',xs,t',.own⟩=>cond (Nat.beq t t') (zha e' e xs) none
  |_=>none
 |_=>none
def zjg (m:Mem) (κ ν:Kd):AV→Option (List (κ.T×ν.T))
 |.mp id _ _=>match m.map id with
  |some ⟨κ',ν',es,.own,_⟩=>zgp κ' ν' κ ν es
  |_=>none
 |_=>none
def zh4 (m:Mem):(l:List SC)→List AV→Option (jM (l.map SC.T))
 |[],[]=>some ()
 |[.d κ],cs=>match Kd.dec κ (cs.map (Jq m)) with
  |some (x,[])=>some x
  |_=>none
 |[.row e t],[v]=>rowDec m e t v
 |[.mp κ ν],[v]=>zjg m κ ν v
 |.d κ::q::r,cs=>match Kd.dec κ ((cs.take κ.size).map (Jq m)),zh4 m (q::r) (cs.drop κ.size) with
  |some (x,[]),some y=>some (x,y)
  |_,_=>none
 |.row e t::q::r,v::cs=>match rowDec m e t v,zh4 m (q::r) cs with
  |some x,some y=>some (x,y)
  |_,_=>none
 |.mp κ ν::q::r,v::cs=>match zjg m κ ν v,zh4 m (q::r) cs with
  |some x,some y=>some (x,y)
  |_,_=>none
 |_,_=>none
def zp8:List Nat→List AV→Bool
 |[],[]=>true
 |f::r,.fn g [] []::q=>Nat.beq f g&&zp8 r q
 |_,_=>false
def Sh.dec (m:Mem):(h:Sh)→AV→Option h.T
 |.d κ,v=>zbb κ (QY m v)
 |.kp κ,.kptr cs=>match Kd.dec κ cs with
  |some (x,[])=>some x
  |_=>none
 |.row e t,v=>rowDec m e t v
 |.box l,.ptr id 0=>match m.box id with
  |some ⟨cs,false⟩=>zh4 m l cs
  |_=>none
 |.fn f a b,.fn g us vs=>cond (Nat.beq f g) (match zer a us,zer b vs with
  |some x,some y=>some (x,y)
  |_,_=>none) none
 |.mp κ ν,v=>zjg m κ ν v
 |.it κ ν,.it id _ _=>match m.map id with
  |some ⟨κ',ν',es,.iter,_⟩=>zgp κ' ν' κ ν es
  |_=>none
 |.mpf κ ν,.mp id _ _=>match m.map id with
  |some ⟨κ',ν',es,.froz,_⟩=>zgp κ' ν' κ ν es
  |_=>none
 |.mpf κ ν,.fmp κ' ν' es=>zgp κ' ν' κ ν es
 |.con l,.agg cs=>cond (zp8 l cs) (some ()) none
 |_,_=>none
def zog (s:St):(c:Cut)→Option c.T
 |[]=>some ()
 |[(i,h)]=>h.dec s.m (s.tm i)
 |(i,h)::q::r=>match h.dec s.m (s.tm i),zog s (q::r) with
  |some x,some y=>some (x,y)
  |_,_=>none
def mpC:AV→List Nat
 |.mp id _ _=>[id]
 |_=>[]
def zgt:List SC→List AV→List Nat
 |.d κ::r,cs=>zgt r (cs.drop κ.size)
 |.row _ _::r,v::cs=>Js v++zgt r cs
 |.mp _ _::r,v::cs=>mpC v++zgt r cs
 |_,_=>[]
def Sh.own (m:Mem):Sh→AV→List Nat
 |.row _ _,v=>Js v
 |.box l,.ptr id _=>id::(match m.box id with
  |some b=>zgt l b.cs
  |none=>[])
 |.mp _ _,v=>mpC v
 |.it _ _,.it id _ _=>[id]
 |_,_=>[]
def zsF:List SC→List AV→List Nat
 |.d κ::r,cs=>(cs.take κ.size).flatMap Js++zsF r (cs.drop κ.size)
 |.row _ _::r,v::cs=>zsF r cs
 |.mp _ _::r,v::cs=>zsF r cs
 |_,_=>[]
def Sh.fix (m:Mem):Sh→AV→List Nat
 |.d _,v=>Zn m v
 |.box l,.ptr id _=>match m.box id with
  |some b=>zsF l b.cs
  |none=>[]
 |_,_=>[]
def zdE:List Nat→Bool
 |[]=>true
 |a::r=>(r.all fun b=>!(Nat.beq a b))&&zdE r
def zld (s:St) (c:Cut):Bool :=
 let own:=c.flatMap fun p=>p.2.own s.m (s.tm p.1)
 let fx:=c.flatMap fun p=>p.2.fix s.m (s.tm p.1)
 zdE own&&(fx.all fun a=>own.all fun b=>!(Nat.beq a b))&&(c.all fun p=>noPtrD p.2 (s.tm p.1))&&zdE (c.map (·.1))
where noPtrD:Sh→AV→Bool
 |.d _,v=>!(zhS v)
 |.box l,_=>Nat.ble l.length 60
 |_,_=>true
def ztt {ρ:Type} (c:Cut) (s:St) (k:c.T→Option ρ):Option ρ :=
 cond (zld s c) (match zog s c with
  |some x=>k x
  |none=>none) none
def SP.av:(p:SP)→p.T→AV
 |.d κ,x=>κ.av x
 |.kp κ,x=>.kptr (κ.cells x)
def zgB:(l:List SP)→jM (l.map SP.T)→List AV
 |[],_=>[]
 |[p],x=>[p.av x]
 |p::q::r,x=>p.av x.1::zgB (q::r) x.2
def zlY (b:Nat):(l:List SC)→jM (l.map SC.T)→List AV
 |[],_=>[]
 |[.d κ],x=>κ.cells x
 |[.row e _],x=>[.row b e (Yc (α:=e.T) x)]
 |[.mp κ ν],x=>[.mp b κ ν]
 |.d κ::q::r,x=>κ.cells x.1++zlY (b+1) (q::r) x.2
 |.row e _::q::r,x=>.row b e (Yc (α:=e.T) x.1)::zlY (b+1) (q::r) x.2
 |.mp κ ν::q::r,x=>.mp b κ ν::zlY (b+1) (q::r) x.2
def zcn (b:Nat):(l:List SC)→jM (l.map SC.T)→Mem→Mem
 |[],_,m=>m
 |[.d _],_,m=>m
 |[.row e t],x,m=>{ m with row:=upd m.row b (some ⟨e,x,t,.own⟩) }
 |[.mp κ ν],x,m=>{ m with map:=upd m.map b (some ⟨κ,ν,x,.own,none⟩) }
 |.d _::q::r,x,m=>zcn (b+1) (q::r) x.2 m
 |.row e t::q::r,x,m=>zcn (b+1) (q::r) x.2 { m with row:=upd m.row b (some ⟨e,x.1,t,.own⟩) }
 |.mp κ ν::q::r,x,m=>zcn (b+1) (q::r) x.2 { m with map:=upd m.map b (some ⟨κ,ν,x.1,.own,none⟩) }
def Sh.av (b:Nat):(h:Sh)→h.T→AV
 |.d κ,x=>κ.av x
 |.kp κ,x=>.kptr (κ.cells x)
 |.row e _,x=>.row b e (Yc (α:=e.T) x)
 |.box _,_=>.ptr b 0
 |.fn f a c,x=>.fn f (zgB a x.1) (zgB c x.2)
 |.mp κ ν,_=>.mp b κ ν
 |.it κ ν,_=>.it b κ ν
 |.mpf κ ν,x=>.fmp κ ν x
 |.con l,_=>.agg (l.map fun f=>.fn f [] [])
def Sh.mem (b:Nat):(h:Sh)→h.T→Mem→Mem
 |.row e t,x,m=>{ m with row:=upd m.row b (some ⟨e,x,t,.own⟩) }
 |.box l,x,m=>zcn (b+1) l x { m with box:=upd m.box b (some ⟨zlY (b+1) l x,false⟩) }
 |.mp κ ν,x,m=>{ m with map:=upd m.map b (some ⟨κ,ν,x,.own,none⟩) }
 |.it κ ν,x,m=>{ m with map:=upd m.map b (some ⟨κ,ν,x,.iter,none⟩) }
 |_,_,m=>m
def znh (b:Nat):(c:Cut)→c.T→St→St
 |[],_,s=>s
 |[(i,h)],x,s=>⟨upd s.tm i (h.av b x),h.mem b x s.m⟩
 |(i,h)::q::r,x,s=>znh (b+64) (q::r) x.2 ⟨upd s.tm i (h.av b x.1),h.mem b x.1 s.m⟩
def zvF (c:Cut) (x:c.T):St:=znh 0 c x ⟨fun _=>.dead,{ Mem.clear with ep:=c.length+1 }⟩
inductive Ann where
 |leaf
 |node (j:Option Cut) (lp:Option Cut) (l r:Ann)
  |reg (j:Option Cut) (ps:List (Nat×Nat))
def Ann.l:Ann→Ann
 |.node _ _ l _=>l
 |_=>.leaf
def Ann.r:Ann→Ann
 |.node _ _ _ r=>r
 |_=>.leaf
def Ann.j:Ann→Option Cut
 |.leaf=>none
 |.node j _ _ _=>j
 |.reg j _=>j
def Ann.lp:Ann→Option Cut
 |.node _ lp _ _=>lp
 |_=>none
def Ann.ps:Ann→List (Nat×Nat)
 |.reg _ ps=>ps
 |_=>[]
def zkE (o:Oper) (ev:Operand→AV):Bool:=match o.op with
 |.load _ a=>(match ev a with
  |.kptr _=>true
  |_=>false)
 |.slice _ x _ _ none=>(match ev x with
  |.sl _ _=>true
  |.nil=>true
  |_=>false)
 |_=>false
def zos (o:Oper) (ev:Operand→AV):Option (Bool×Nat):=match o.op with
 |.load _ a=>(match ev a with
  |.ptr id _=>some (true,id)
  |.elem id _ _ _=>some (false,id)
  |_=>none)
 |_=>none
def zkV (o:Oper) (ev:Operand→AV):Option (Bool×Option Nat):=match o.op with
 |.store _ a _=>(match ev a with
  |.ptr id _=>some (true,some id)
  |.elem id _ _ _=>some (false,some id)
  |_=>none)
 |.call c=>(match c.callee,c.args.toList with
  |.builtin .append,[v,_]=>(match ev v with
   |.row id _ _=>some (false,some id)
   |.nil=>some (false,none)
   |_=>none)
  |_,_=>none)
 |_=>none
def rwB:Option (Bool×Nat)→Option (Bool×Option Nat)→Bool
 |some (true,i),some (true,some j)=>!(Nat.beq i j)
 |some (true,_),some (false,_)=>true
 |some (false,_),some (true,some _)=>true
 |some (false,i),some (false,some j)=>!(Nat.beq i j)
 |some (false,_),some (false,none)=>true
 |_,_=>false
def zlI (x y:Oper) (ev:Operand→AV):Bool:=zkE x ev||zkE y ev||rwB (zos x ev) (zkV y ev)||rwB (zos y ev) (zkV x ev)
def zwr:List Oper→Nat→Option Oper
 |[],_=>none
 |a::_,0=>some a
 |_::r,i+1=>zwr r i
def zeq (ops:List Oper) (ev:Operand→AV):List (Nat×Nat)→Bool
 |[]=>true
 |(j,i)::r=>(match zwr ops j,zwr ops i with
  |some x,some y=>zlI x y ev
  |_,_=>false)&&zeq ops ev r
def dyK {ρ:Type} (ops:Array Oper) (ps:List (Nat×Nat)) (k:St→Option ρ):St→Option ρ:=match ps with
 |[]=>k
 |ps=>fun s=>cond (zeq ops.toList s.ev ps) (k s) none
structure KS (ρ:Type) where
 norm:St→Option ρ
 ex:Nat→St→Option ρ
 ret:St→Option ρ
def jn {ρ:Type} (j:Option Cut) (K:KS ρ) (f:KS ρ→Option ρ):Option ρ:=match j with
 |none=>f K
 |some c=>zx (fun x=>K.norm (zvF c x)) fun j=>f { K with norm:=fun s=>ztt c s j }
def zhZ:List Oper→Bool→Option (Nat×Nat×Nat)
 |[⟨some a,.next (.tmp t) false,_,_,_,none⟩,⟨some b,.extract (.tmp a') 0,_,_,_,none⟩],false=>cond (Nat.beq a a'&&!(Nat.beq a b)&&!(Nat.beq a t)&&!(Nat.beq b t)) (some (t,a,b)) none
 |_,_=>none
def nnC:Code→Bool
 |.region _ ops dr=>match zhZ ops.toList dr with
  |none=>true
  |some _=>false
 |.seq a b=>nnC a&&nnC b
 |.cond _ a b=>nnC a&&nnC b
 |.block _ a=>nnC a
 |.loop a=>nnC a
 |_=>true
def nnF (f:Func):Bool:=match f.body with
 |some c=>nnC c
 |none=>true
noncomputable def zoH {ρ:Type} (t a b:Nat) (s:St) (k:St→Option ρ):Option ρ:=match s.tm t with
 |.it id _ _=>match s.m.map id with
  |some ⟨κ,ν,es,.iter,_⟩=>nxt es (k ⟨upd (upd s.tm a (.tup [.bool false])) b (.bool false),s.m⟩)
   fun p r=>k ⟨upd (upd s.tm a (.tup [.bool true,κ.av p.1,ν.av p.2])) b (.bool true),{ s.m with map:=upd s.m.map id (some ⟨κ,ν,r,.iter,some p⟩) }⟩
  |_=>none
 |_=>none
section
variable {ρ:Type} (cl:Jz ρ) (tb:Tb) (N:Nat)
noncomputable def Zm:Code→Ann→St→KS ρ→Option ρ
 |.skip,an,s,K=>jn an.j K fun K=>K.norm s
 |.region _ ops dr,an,s,K=>jn an.j K fun K=>match zhZ ops.toList dr with
  |some (t,a,b)=>zoH t a b s.tick K.norm
  |none=>zoR cl tb ops ops.toList s.tick (dyK ops an.ps K.norm)
 |.seq a b,an,s,K=>jn an.j K fun K=>Zm a an.l s { K with norm:=fun s'=>Zm b an.r s' K }
 |.cond c a b,an,s,K=>jn an.j K fun K=>match s.ev c with
  |.bool t=>br t (Zm a an.l (s.litO c true) K) (Zm b an.r (s.litO c false) K)
  |_=>none
 |.block id c,an,s,K=>jn an.j K fun K=>Zm c an.l s { K with ex:=fun j s'=>cond (Nat.beq j id) (K.norm s') (K.ex j s') }
 |.loop c,an,s,K=>jn an.j K fun K=>match an.lp with
  |some ct=>ztt ct s (zw (fun x next=>Zm c an.l (zvF ct x) { K with norm:=fun s'=>ztt ct s' next }) N)
  |none=>zw (fun s next=>Zm c an.l s { K with norm:=next }) 32 s
 |.exit id,an,s,K=>K.ex id s
 |.ret,an,s,K=>K.ret s
 |_,_,_,_=>none
def znv (s:St):ResultVar→Option AV
 |.tmp t=>some (s.tm t)
 |.cell a t=>match s.tm a with
  |.ptr id off=>match s.m.box id with
   |some b=>zao (tb.at t) off b.cs
   |none=>none
  |_=>none
def zkf (s:St):List ResultVar→Option (List AV)
 |[]=>some []
 |r::rs=>match znv tb s r,zkf s rs with
  |some v,some vs=>some (v::vs)
  |_,_=>none
def zlL (f:Func) (s:St) (k:Yj ρ):Option ρ:=match zkf tb s f.results.toList with
 |some [v]=>k v s.m
 |some vs=>k (.tup vs) s.m
 |none=>none
def zgf (args:List AV):Nat→AV:=fun i=>match args[i]? with
 |some v=>v
 |none=>.tup []
noncomputable def zgb (f:Func) (an:Ann) (args:List AV) (m:Mem) (k:Yj ρ):Option ρ:=match f.body with
 |some c=>Zm cl tb N c an ⟨zgf args,m⟩ ⟨fun s=>zlL tb f s k,fun _ _=>none,fun s=>zlL tb f s k⟩
 |none=>none
end
def zxa (m:Mem):AV→AV
 |.mp id _ _=>match m.map id with
  |some ⟨_,_,_,.iter,_⟩=>.dead
  |some ⟨κ,ν,es,_,_⟩=>.fmp κ ν es
  |none=>.dead
 |v=>Jq m v
def zs5 (m:Mem):AV→AV
 |.agg cs=>.agg (cs.map (zxa m))
 |v=>QY m v
def zmP (m:Mem):AV→AV
 |.tup vs=>.tup (vs.map (zs5 m))
 |v=>zs5 m v
def zsr:(l:List Kd)→List AV→Option (kdT l)
 |[],[]=>some ()
 |[κ],[v]=>zbb κ v
 |κ::q::r,v::vs=>match zbb κ v,zsr (q::r) vs with
  |some x,some y=>some (x,y)
  |_,_=>none
 |_,_=>none
def zzV:(l:List Kd)→AV→Option (kdT l)
 |[κ],v=>zbb κ v
 |l,.tup vs=>zsr l vs
 |_,_=>none
def Jb:(l:List Kd)→kdT l→List AV
 |[],_=>[]
 |[κ],x=>[κ.av x]
 |κ::q::r,x=>κ.av x.1::Jb (q::r) x.2
def zgQ:(l:List Kd)→kdT l→AV
 |[κ],x=>κ.av x
 |l,x=>.tup (Jb l x)
def zps:(l:List Sh)→List AV→Option (shT l)
 |[],[]=>some ()
 |[h],[v]=>h.dec Mem.clear v
 |h::q::r,v::vs=>match h.dec Mem.clear v,zps (q::r) vs with
  |some x,some y=>some (x,y)
  |_,_=>none
 |_,_=>none
def zdU:(l:List Sh)→shT l→List AV
 |[],_=>[]
 |[h],x=>[h.av 0 x]
 |h::q::r,x=>h.av 0 x.1::zdU (q::r) x.2
inductive Inl where
 |code (tb:Tb) (f:Func)
 |srt (κ:Kd) (h:Nat) (cf:κ.T→κ.T→Int)
  |own (ps:List Sh) (e:Kd) (t:Nat) (F:shT ps→Option (List e.T))
  |grw (e:Kd) (t:Nat)
  |mix (ps:List Sh) (e:Kd) (t:Nat) (rk:List Kd) (F:shT ps→Option (List e.T×kdT rk))
structure JJ where
 fid:Nat
 ps:List Sh
 rk:List Kd
 f:shT ps→Option (kdT rk)
 inl:Option Inl
def zmU {ρ:Type} (κ:Kd) (h:Nat) (cf:κ.T→κ.T→Int) (args:List AV) (m:Mem) (k:Yj ρ):Option ρ:=match args with
 |[.row id _ _,.fn g [] []]=>match m.row id with
  |some ⟨e,xs,t,.own⟩=>match zha e κ xs with
   |some ys=>cond (Nat.beq g h) (gd (few (Yc ys)) (k (.tup []) { m with row:=upd m.row id (some ⟨κ,Y0 cf ys,t,.own⟩) })) none
   |none=>none
  |_=>none
 |[.nil,.fn g [] []]=>cond (Nat.beq g h) (k (.tup []) m) none
 |_=>none
def Mem.tick (m:Mem):Mem:={ m with ep:=m.ep+1 }
def zsK {ρ:Type} (ps:List Sh) (e:Kd) (t:Nat) (F:shT ps→Option (List e.T)) (args:List AV) (m:Mem) (k:Yj ρ):Option ρ:=match zps ps (args.map (XT m)) with
 |some x=>bnd (F x) fun y=>cond (m.new (m.id 4095)) (k (.row (m.id 4095) e (Yc y)) (Mem.tick { m with row:=upd m.row (m.id 4095) (some ⟨e,y,t,.own⟩) })) none
 |none=>none
def JJ.mem (e:JJ) (args:List AV) (m:Mem):Option Mem :=
 cond (e.rk.all Kd.flat) (some m) (some ((m.fix (args.flatMap (Zo m))).fixB (args.flatMap Z9)))
def zmn {ρ:Type} (e:Kd) (t:Nat) (args:List AV) (m:Mem) (k:Yj ρ):Option ρ:=match args with
 |[.nil,.int .i64 n]=>gd (leI 0 n) (gd (zfY n) (cond (m.new (m.id 4095)) (k (.row (m.id 4095) e 0) (Mem.tick { m with row:=upd m.row (m.id 4095) (some ⟨e,[],t,.own⟩) })) none))
 |_=>none
def zyO (r:AV):AV→Option AV
 |.tup (.agg (_::cs)::vs)=>some (.tup (.agg (r::cs)::vs))
 |_=>none
def zs4 {ρ:Type} (ps:List Sh) (e:Kd) (t:Nat) (rk:List Kd) (F:shT ps→Option (List e.T×kdT rk)) (args:List AV) (m:Mem) (k:Yj ρ):Option ρ:=match zps ps (args.map (XT m)) with
 |some x=>bnd (F x) fun y=>cond (((m.fix (args.flatMap (Zo m))).fixB (args.flatMap Z9)).new (m.id 4095)) (match zyO (.row (m.id 4095) e (Yc y.1)) (zgQ rk y.2) with
  |some v=>k v (Mem.tick { (m.fix (args.flatMap (Zo m))).fixB (args.flatMap Z9) with row:=upd ((m.fix (args.flatMap (Zo m))).fixB (args.flatMap Z9)).row (m.id 4095) (some ⟨e,y.1,t,.own⟩) })
  |none=>none) none
 |none=>none
noncomputable def ZJ {ρ:Type}:List JJ→Jz ρ
 |[],_,_,_,_=>none
 |e::r,fid,args,m,k=>match e.inl with
  |some (.srt κ h cf)=>cond (Nat.beq (e.fid+1000000) fid) (zmU κ h cf args m k) (ZJ r fid args m k)
  |some (.own ps κ t F)=>cond (Nat.beq (e.fid+1000000) fid) (zsK ps κ t F args m k) (ZJ r fid args m k)
  |some (.mix ps κ t rk F)=>cond (Nat.beq (e.fid+1000000) fid) (zs4 ps κ t rk F args m k) (ZJ r fid args m k)
  |some (.grw κ t)=>cond (Nat.beq (e.fid+1000000) fid) (zmn κ t args m k) (ZJ r fid args m k)
  |some (.code tb f)=>cond (Nat.beq (e.fid+1000000) fid&&Nat.ble args.length f.ntmps) (cond (nnF f) (zgb (ZJ r) tb 0 f .leaf args m fun v m=>k v m.tick) none) (ZJ r fid args m k)
  |none=>cond (Nat.beq e.fid fid&&Nat.blt fid 1000000) (match zps e.ps (args.map (XT m)) with
  |some x=>match e.mem args m with
   |some m'=>bnd (e.f x) fun y=>k (zgQ e.rk y) m'
   |none=>none
  |none=>ZJ r fid args m k) (ZJ r fid args m k)
noncomputable def zN (es:List JJ) (tb:Tb) (N:Nat) (f:Func) (an:Ann) (ps:List Sh) (rk:List Kd) (x:shT ps):Option (kdT rk) :=
 zgb (ZJ es) tb N f an (zdU ps x) Mem.clear fun v m=>zzV rk (zmP m v)
noncomputable def zrh (es:List JJ) (tb:Tb) (N:Nat) (f:Func) (an:Ann) (ps:List Sh) (e:Kd) (t:Nat) (x:shT ps):Option (List e.T) :=
 zgb (ZJ es) tb N f an (zdU ps x) Mem.clear fun v m=>rowDec m e t v
end Go.Proofs.YtpkkcjmblocjdaaGreat.AM
end
