/- The abstract machine, 6: what the memory says in a world, and how it stays said. -/
import Derived.Test.YtpkkcjmblocjdaaGreatB
import Derived.WalkKit
import Derived.Laws.Rows
import Derived.Laws.Tables
import Derived.Laws.OwnMore
import Derived.Laws.MakeOwn
import Derived.Maps.AppendAt
import Derived.Laws.IdiomRangeMap
import Derived.Laws.StructEq
import Derived.ChangeKeysEq
import Derived.Great.BuildSlice
import Derived.Lib.SliceRun
set_option linter.unusedVariables false
set_option linter.unusedSimpArgs false
set_option linter.unusedSectionVars false
section
namespace Go.Proofs.YtpkkcjmblocjdaaGreat.AM
open Go.RowKit
theorem zq.len {Γ:Gh}:∀{cs:List AV} {vs:List Value},zq Γ cs vs→vs.length=cs.length
 |[],_,h=>by simp only [zq] at h;rw [h];rfl
 |c::cs,_,h=>by
  simp only [zq] at h
  obtain ⟨v,vs,rfl,_,h⟩:=h
  simp [zq.len h]
theorem zq.app {Γ:Gh}:∀{cs ds:List AV} {vs us:List Value},zq Γ cs vs→zq Γ ds us→zq Γ (cs++ds) (vs++us)
 |[],_,_,_,h,k=>by simp only [zq] at h;subst h;exact k
 |c::cs,_,_,_,h,k=>by
  simp only [zq,List.cons_append] at h ⊢
  obtain ⟨v,vs,rfl,hv,h⟩:=h
  exact ⟨v,_,rfl,hv,zq.app h k⟩
theorem zq.split {Γ:Gh}:∀{cs ds:List AV} {vs:List Value},zq Γ (cs++ds) vs→∃us ws,vs=us++ws∧zq Γ cs us∧zq Γ ds ws
 |[],ds,vs,h=>⟨[],vs,rfl,by simp only [zq],h⟩
 |c::cs,ds,vs,h=>by
  simp only [zq,List.cons_append] at h
  obtain ⟨v,vs',rfl,hv,h⟩:=h
  obtain ⟨us,ws,rfl,h1,h2⟩:=zq.split h
  exact ⟨v::us,ws,rfl,by simp only [zq];exact ⟨v,us,rfl,hv,h1⟩,h2⟩
theorem zq.take {Γ:Gh}:∀{cs:List AV} {vs:List Value} (n:Nat),zq Γ cs vs→zq Γ (cs.take n) (vs.take n)
 |[],_,n,h=>by simp only [zq] at h;subst h;simp [zq]
 |c::cs,_,0,h=>by simp [zq]
 |c::cs,_,n+1,h=>by
  simp only [zq] at h
  obtain ⟨v,vs',rfl,hv,h⟩:=h
  simp only [List.take_succ_cons,zq]
  exact ⟨v,_,rfl,hv,zq.take n h⟩
theorem zq.drop {Γ:Gh}:∀{cs:List AV} {vs:List Value} (n:Nat),zq Γ cs vs→zq Γ (cs.drop n) (vs.drop n)
 |[],_,n,h=>by simp only [zq] at h;subst h;simp [zq]
 |c::cs,_,0,h=>by simpa using h
 |c::cs,_,n+1,h=>by
  simp only [zq] at h
  obtain ⟨v,vs',rfl,hv,h⟩:=h
  simp only [List.drop_succ_cons]
  exact zq.drop n h
theorem zq.at {Γ:Gh}:∀{cs:List AV} {vs:List Value} {i:Nat} {c:AV},zq Γ cs vs→cs[i]?=some c→∃v,vs[i]?=some v∧zf Γ c v
 |[],_,i,c,h,hc=>by simp at hc
 |a::cs,_,0,c,h,hc=>by
  simp only [zq] at h
  obtain ⟨v,vs',rfl,hv,h⟩:=h
  obtain rfl:a=c:=by simpa using hc
  exact ⟨v,rfl,hv⟩
 |a::cs,_,i+1,c,h,hc=>by
  simp only [zq] at h
  obtain ⟨v,vs',rfl,hv,h⟩:=h
  exact zq.at (i:=i) h (by simpa using hc)
theorem zq.map {Γ:Gh} {f:Operand→AV} {g:Operand→Value} (h:∀x,zf Γ (f x) (g x)):∀l:List Operand,zq Γ (l.map f) (l.map g)
 |[]=>by simp [zq]
 |x::l=>by simp only [List.map_cons,zq];exact ⟨_,_,rfl,h x,zq.map h l⟩
theorem zq.one {Γ:Gh} {c:AV} {vs:List Value}:zq Γ [c] vs↔∃v,vs=[v]∧zf Γ c v:=by
 simp only [zq]
 constructor
 ·rintro ⟨v,vs',rfl,hv,rfl⟩
  exact ⟨v,rfl,hv⟩
 ·rintro ⟨v,rfl,hv⟩
  exact ⟨v,[],rfl,hv,rfl⟩
theorem qd.cells {Γ:Gh}:∀{κ:Kd} {x:κ.T} {vs:List Value},qd Γ.w Γ.R κ x vs→zq Γ (κ.cells x) vs
 |.int k,x,vs,h=>by simp only [qd] at h;subst h;simp [Kd.cells,zq,zf]
 |.bool,x,vs,h=>by simp only [qd] at h;subst h;simp [Kd.cells,zq,zf]
 |.str,x,vs,h=>by simp only [qd] at h;subst h;simp [Kd.cells,zq,zf]
 |.pair a b,x,vs,h=>by
  simp only [qd] at h
  obtain ⟨v1,v2,rfl,h1,h2⟩:=h
  simp only [Kd.cells]
  exact zq.app h1.cells h2.cells
 |.sl e,x,vs,h=>by
  have h':=h
  simp only [qd] at h'
  obtain ⟨A,c,rfl,_⟩:=h'
  simp only [Kd.cells,zq,zf]
  exact ⟨_,_,rfl,h,rfl⟩
 |.mp k v,x,vs,h=>by
  have h':=h
  simp only [qd] at h'
  rcases h' with ⟨rfl,_⟩|⟨b,es,cl,rfl,_⟩ <;>
  ·simp only [Kd.cells,zq,zf]
   exact ⟨_,_,rfl,h,rfl⟩
theorem KO:∀(κ:Kd) (x:κ.T),(κ.cells x).all AV.pure=true
 |.int k,x=>rfl
 |.bool,x=>rfl
 |.str,x=>rfl
 |.pair a b,x=>by simp only [Kd.cells,List.all_append,KO a x.1,KO b x.2,Bool.and_self]
 |.sl e,x=>rfl
 |.mp k v,x=>rfl
theorem qd.av {Γ:Gh}:∀{κ:Kd} {x:κ.T} {vs:List Value},qd Γ.w Γ.R κ x vs→∃v,zf Γ (κ.av x) v∧v.cells.toList=vs
 |.int k,x,vs,h=>by simp only [qd] at h;subst h;exact ⟨.int k x,by simp only [Kd.av,zf],rfl⟩
 |.bool,x,vs,h=>by simp only [qd] at h;subst h;exact ⟨.bool x,by simp only [Kd.av,zf],rfl⟩
 |.str,x,vs,h=>by simp only [qd] at h;subst h;exact ⟨.string x,by simp only [Kd.av,zf],rfl⟩
 |.pair a b,x,vs,h=>⟨.agg vs.toArray,by simp only [Kd.av,zf];exact ⟨vs,rfl,h.cells⟩,rfl⟩
 |.sl e,x,vs,h=>by
  have h':=h
  simp only [qd] at h'
  obtain ⟨A,c,rfl,_⟩:=h'
  exact ⟨_,by simp only [Kd.av,zf];exact h,rfl⟩
 |.mp k v,x,vs,h=>by
  have h':=h
  simp only [qd] at h'
  rcases h' with ⟨rfl,_⟩|⟨b,es,cl,rfl,_⟩<;>exact ⟨_,by simp only [Kd.av,zf];exact h,rfl⟩
theorem zf.pure {Γ Γ':Gh} (hw:∀b,Γ.R b→Γ'.w.heap[b]?=Γ.w.heap[b]?) (hR:∀b,Γ.R b→Γ'.R b):∀{c:AV} {v:Value},c.pure=true→zf Γ c v→zf Γ' c v
 |.int _ _,_,_,h=>by simpa only [zf] using h
 |.bool _,_,_,h=>by simpa only [zf] using h
 |.str _,_,_,h=>by simpa only [zf] using h
 |.nil,_,_,h=>by simpa only [zf] using h
 |.sl e xs,_,_,h=>by
  simp only [zf] at h ⊢
  exact h.mono hw hR
 |.fmp k v xs,_,_,h=>by
  simp only [zf] at h ⊢
  exact h.mono hw hR
 |.nmp,_,_,h=>by simpa only [zf] using h
 |.dead,_,_,_=>by simp only [zf]
theorem zq.pure {Γ Γ':Gh} (hw:∀b,Γ.R b→Γ'.w.heap[b]?=Γ.w.heap[b]?) (hR:∀b,Γ.R b→Γ'.R b):∀{cs:List AV} {vs:List Value},cs.all AV.pure=true→zq Γ cs vs→zq Γ' cs vs
 |[],_,_,h=>by simpa only [zq] using h
 |c::cs,_,hp,h=>by
  simp only [zq] at h ⊢
  obtain ⟨v,vs,rfl,h1,h2⟩:=h
  have hp':c.pure=true∧cs.all AV.pure=true:=by simpa using hp
  exact ⟨v,vs,rfl,h1.pure hw hR hp'.1,zq.pure hw hR hp'.2 h2⟩
theorem KL {Γ:Gh}:∀{κ:Kd} {cs r:List AV} {x:κ.T} {vs:List Value},Kd.dec κ cs=some (x,r)→zq Γ cs vs →
  ∃us ws,vs=us++ws∧qd Γ.w Γ.R κ x us∧zq Γ r ws
 |.int k,.int j n::r',r,x,vs,h,hv=>by
  simp only [Kd.dec] at h
  split at h
  ·rename_i hk
   simp only [Option.some.injEq,Prod.mk.injEq] at h
   obtain ⟨rfl,rfl⟩:=h
   simp only [zq,zf] at hv
   obtain ⟨v,vs',rfl,rfl,hv⟩:=hv
   refine ⟨[_],_,rfl,?_,hv⟩
   simp only [qd,zaY hk]
  ·cases h
 |.bool,.bool b::r',r,x,vs,h,hv=>by
  simp only [Kd.dec,Option.some.injEq,Prod.mk.injEq] at h
  obtain ⟨rfl,rfl⟩:=h
  simp only [zq,zf] at hv
  obtain ⟨v,vs',rfl,rfl,hv⟩:=hv
  exact ⟨[_],_,rfl,by simp only [qd],hv⟩
 |.str,.str b::r',r,x,vs,h,hv=>by
  simp only [Kd.dec,Option.some.injEq,Prod.mk.injEq] at h
  obtain ⟨rfl,rfl⟩:=h
  simp only [zq,zf] at hv
  obtain ⟨v,vs',rfl,rfl,hv⟩:=hv
  exact ⟨[_],_,rfl,by simp only [qd],hv⟩
 |.pair a b,cs,r,x,vs,h,hv=>by
  simp only [Kd.dec] at h
  split at h
  ·rename_i y r1 ha
   split at h
   ·rename_i z r2 hb
    simp only [Option.some.injEq,Prod.mk.injEq] at h
    obtain ⟨rfl,rfl⟩:=h
    obtain ⟨u1,w1,rfl,h1,hv1⟩:=KL ha hv
    obtain ⟨u2,w2,rfl,h2,hv2⟩:=KL hb hv1
    exact ⟨u1++u2,w2,by simp,by simp only [qd];exact ⟨u1,u2,rfl,h1,h2⟩,hv2⟩
   ·cases h
  ·cases h
 |.sl e,.nil::r',r,x,vs,h,hv=>by
  simp only [Kd.dec,Option.some.injEq,Prod.mk.injEq] at h
  obtain ⟨rfl,rfl⟩:=h
  simp only [zq,zf] at hv
  obtain ⟨v,vs',rfl,rfl,hv⟩:=hv
  refine ⟨[_],_,rfl,?_,hv⟩
  simp only [qd]
  exact ⟨none,0,rfl,Nat.zero_le _,.inl rfl⟩
 |.sl e,.sl e' xs::r',r,x,vs,h,hv=>by
  simp only [Kd.dec] at h
  split at h
  ·rename_i ys hc
   simp only [Option.some.injEq,Prod.mk.injEq] at h
   obtain ⟨rfl,rfl⟩:=h
   simp only [zq] at hv
   obtain ⟨v,vs',rfl,hv1,hv⟩:=hv
   obtain ⟨rfl,rfl⟩:=Y3 hc
   simp only [zf] at hv1
   exact ⟨[_],_,rfl,hv1,hv⟩
  ·cases h
 |.mp k v,.nmp::r',r,x,vs,h,hv=>by
  simp only [Kd.dec,Option.some.injEq,Prod.mk.injEq] at h
  obtain ⟨rfl,rfl⟩:=h
  simp only [zq,zf] at hv
  obtain ⟨v,vs',rfl,rfl,hv⟩:=hv
  refine ⟨[_],_,rfl,?_,hv⟩
  simp only [qd]
  exact .inl (by trivial)
 |.mp k v,.fmp k' v' xs::r',r,x,vs,h,hv=>by
  simp only [Kd.dec] at h
  split at h
  ·rename_i ys hc
   simp only [Option.some.injEq,Prod.mk.injEq] at h
   obtain ⟨rfl,rfl⟩:=h
   simp only [zq] at hv
   obtain ⟨u,vs',rfl,hv1,hv⟩:=hv
   obtain ⟨rfl,rfl,rfl⟩:=zaU hc
   simp only [zf] at hv1
   exact ⟨[_],_,rfl,hv1,hv⟩
  ·cases h
 |.mp _ _,[],_,_,_,h,_=>by simp [Kd.dec] at h
 |.mp _ _,.int _ _::_,_,_,_,h,_=>by simp [Kd.dec] at h
 |.mp _ _,.bool _::_,_,_,_,h,_=>by simp [Kd.dec] at h
 |.mp _ _,.str _::_,_,_,_,h,_=>by simp [Kd.dec] at h
 |.mp _ _,.nil::_,_,_,_,h,_=>by simp [Kd.dec] at h
 |.mp _ _,.sl _ _::_,_,_,_,h,_=>by simp [Kd.dec] at h
 |.mp _ _,.row _ _ _::_,_,_,_,h,_=>by simp [Kd.dec] at h
 |.mp _ _,.agg _::_,_,_,_,h,_=>by simp [Kd.dec] at h
 |.mp _ _,.tup _::_,_,_,_,h,_=>by simp [Kd.dec] at h
 |.mp _ _,.ptr _ _::_,_,_,_,h,_=>by simp [Kd.dec] at h
 |.mp _ _,.kptr _::_,_,_,_,h,_=>by simp [Kd.dec] at h
 |.mp _ _,.elem _ _ _ _::_,_,_,_,h,_=>by simp [Kd.dec] at h
 |.mp _ _,.fn _ _ _::_,_,_,_,h,_=>by simp [Kd.dec] at h
 |.mp _ _,.mp _ _ _::_,_,_,_,h,_=>by simp [Kd.dec] at h
 |.mp _ _,.it _ _ _::_,_,_,_,h,_=>by simp [Kd.dec] at h
 |.mp _ _,.dead::_,_,_,_,h,_=>by simp [Kd.dec] at h
 |.int _,[],_,_,_,h,_=>by simp [Kd.dec] at h
 |.bool,[],_,_,_,h,_=>by simp [Kd.dec] at h
 |.str,[],_,_,_,h,_=>by simp [Kd.dec] at h
 |.sl _,[],_,_,_,h,_=>by simp [Kd.dec] at h
 |.int _,.bool _::_,_,_,_,h,_=>by simp [Kd.dec] at h
 |.int _,.str _::_,_,_,_,h,_=>by simp [Kd.dec] at h
 |.int _,.nil::_,_,_,_,h,_=>by simp [Kd.dec] at h
 |.int _,.sl _ _::_,_,_,_,h,_=>by simp [Kd.dec] at h
 |.int _,.row _ _ _::_,_,_,_,h,_=>by simp [Kd.dec] at h
 |.int _,.agg _::_,_,_,_,h,_=>by simp [Kd.dec] at h
 |.int _,.tup _::_,_,_,_,h,_=>by simp [Kd.dec] at h
 |.int _,.ptr _ _::_,_,_,_,h,_=>by simp [Kd.dec] at h
 |.int _,.kptr _::_,_,_,_,h,_=>by simp [Kd.dec] at h
 |.int _,.elem _ _ _ _::_,_,_,_,h,_=>by simp [Kd.dec] at h
 |.int _,.fn _ _ _::_,_,_,_,h,_=>by simp [Kd.dec] at h
 |.int _,.mp _ _ _::_,_,_,_,h,_=>by simp [Kd.dec] at h
 |.int _,.fmp _ _ _::_,_,_,_,h,_=>by simp [Kd.dec] at h
 |.int _,.nmp::_,_,_,_,h,_=>by simp [Kd.dec] at h
 |.int _,.it _ _ _::_,_,_,_,h,_=>by simp [Kd.dec] at h
 |.int _,.dead::_,_,_,_,h,_=>by simp [Kd.dec] at h
 |.bool,.int _ _::_,_,_,_,h,_=>by simp [Kd.dec] at h
 |.bool,.str _::_,_,_,_,h,_=>by simp [Kd.dec] at h
 |.bool,.nil::_,_,_,_,h,_=>by simp [Kd.dec] at h
 |.bool,.sl _ _::_,_,_,_,h,_=>by simp [Kd.dec] at h
 |.bool,.row _ _ _::_,_,_,_,h,_=>by simp [Kd.dec] at h
 |.bool,.agg _::_,_,_,_,h,_=>by simp [Kd.dec] at h
 |.bool,.tup _::_,_,_,_,h,_=>by simp [Kd.dec] at h
 |.bool,.ptr _ _::_,_,_,_,h,_=>by simp [Kd.dec] at h
 |.bool,.kptr _::_,_,_,_,h,_=>by simp [Kd.dec] at h
 |.bool,.elem _ _ _ _::_,_,_,_,h,_=>by simp [Kd.dec] at h
 |.bool,.fn _ _ _::_,_,_,_,h,_=>by simp [Kd.dec] at h
 |.bool,.mp _ _ _::_,_,_,_,h,_=>by simp [Kd.dec] at h
 |.bool,.fmp _ _ _::_,_,_,_,h,_=>by simp [Kd.dec] at h
 |.bool,.nmp::_,_,_,_,h,_=>by simp [Kd.dec] at h
 |.bool,.it _ _ _::_,_,_,_,h,_=>by simp [Kd.dec] at h
 |.bool,.dead::_,_,_,_,h,_=>by simp [Kd.dec] at h
 |.str,.int _ _::_,_,_,_,h,_=>by simp [Kd.dec] at h
 |.str,.bool _::_,_,_,_,h,_=>by simp [Kd.dec] at h
 |.str,.nil::_,_,_,_,h,_=>by simp [Kd.dec] at h
 |.str,.sl _ _::_,_,_,_,h,_=>by simp [Kd.dec] at h
 |.str,.row _ _ _::_,_,_,_,h,_=>by simp [Kd.dec] at h
 |.str,.agg _::_,_,_,_,h,_=>by simp [Kd.dec] at h
 |.str,.tup _::_,_,_,_,h,_=>by simp [Kd.dec] at h
 |.str,.ptr _ _::_,_,_,_,h,_=>by simp [Kd.dec] at h
 |.str,.kptr _::_,_,_,_,h,_=>by simp [Kd.dec] at h
 |.str,.elem _ _ _ _::_,_,_,_,h,_=>by simp [Kd.dec] at h
 |.str,.fn _ _ _::_,_,_,_,h,_=>by simp [Kd.dec] at h
 |.str,.mp _ _ _::_,_,_,_,h,_=>by simp [Kd.dec] at h
 |.str,.fmp _ _ _::_,_,_,_,h,_=>by simp [Kd.dec] at h
 |.str,.nmp::_,_,_,_,h,_=>by simp [Kd.dec] at h
 |.str,.it _ _ _::_,_,_,_,h,_=>by simp [Kd.dec] at h
 |.str,.dead::_,_,_,_,h,_=>by simp [Kd.dec] at h
 |.sl _,.int _ _::_,_,_,_,h,_=>by simp [Kd.dec] at h
 |.sl _,.bool _::_,_,_,_,h,_=>by simp [Kd.dec] at h
 |.sl _,.str _::_,_,_,_,h,_=>by simp [Kd.dec] at h
 |.sl _,.row _ _ _::_,_,_,_,h,_=>by simp [Kd.dec] at h
 |.sl _,.agg _::_,_,_,_,h,_=>by simp [Kd.dec] at h
 |.sl _,.tup _::_,_,_,_,h,_=>by simp [Kd.dec] at h
 |.sl _,.ptr _ _::_,_,_,_,h,_=>by simp [Kd.dec] at h
 |.sl _,.kptr _::_,_,_,_,h,_=>by simp [Kd.dec] at h
 |.sl _,.elem _ _ _ _::_,_,_,_,h,_=>by simp [Kd.dec] at h
 |.sl _,.fn _ _ _::_,_,_,_,h,_=>by simp [Kd.dec] at h
 |.sl _,.mp _ _ _::_,_,_,_,h,_=>by simp [Kd.dec] at h
 |.sl _,.fmp _ _ _::_,_,_,_,h,_=>by simp [Kd.dec] at h
 |.sl _,.nmp::_,_,_,_,h,_=>by simp [Kd.dec] at h
 |.sl _,.it _ _ _::_,_,_,_,h,_=>by simp [Kd.dec] at h
 |.sl _,.dead::_,_,_,_,h,_=>by simp [Kd.dec] at h
end Go.Proofs.YtpkkcjmblocjdaaGreat.AM
end
section
namespace Go.Proofs.YtpkkcjmblocjdaaGreat.AM
theorem ziu {α:Type}:∀(x:Ask α) (w:World),w.drawn≤(w.ask x).2.drawn
 |.done a,w=>Nat.le_refl _
 |.ask what range k,w=>by
  unfold World.ask
  simp only
  split
  ·exact ziu (k 0) w
  ·exact Nat.le_trans (Nat.le_succ _) (ziu (k _) { w with drawn:=w.drawn+1 })
theorem ztg (w:World) (c:Sys):w.drawn≤(w.sys c).2.drawn:=by
 unfold World.sys
 have h:=ziu (Kernel.perform c w.os) w
 split
 ·exact Nat.le_refl _
 ·rename_i r os w' hne he
  rw [he] at h
  exact h
theorem zls {p:Program} {w w':World} {a:Addr} {v:Value} {b:Bool} {l:List Addr} (h:w.farStore p a v b=.ok (w',l)):w'.drawn=w.drawn:=by
 unfold World.farStore at h
 split at h
 ·rename_i at_ u _
  split at h
  ·rename_i r hr
   injection h with h
   subst h
   unfold World.viewStore at hr
   simp only [bind,Except.bind,pure,Except.pure,throw,throwThe,MonadExceptOf.throw] at hr
   repeat' split at hr
   all_goals first
    |(cases hr;done)
    |(injection hr with hr;injection hr with hr _;rw [←hr])
  ·cases h
 ·cases h
theorem zfJ {α:Type} (p:Program):∀(x:Sem α) {w w':World} {v:α},x.run p w=.ok v w'→w.drawn≤w'.drawn:=by
 intro x
 induction x with
 |pure a=>intro w w' v h;simp only [Sem.run] at h;injection h with _ h;rw [h];exact Nat.le_refl _
 |load m a k ih =>
  intro w w' v h
  simp only [Sem.run] at h
  split at h
  ·exact ih _ h
  ·split at h
   ·exact ih _ h
   ·cases h
 |store m a u k ih =>
  intro w w' v h
  cases u
  case agg cs=>simp only [Sem.run] at h;cases h
  case tuple cs=>simp only [Sem.run] at h;cases h
  all_goals
   simp only [Sem.run] at h
   split at h
   ·split at h
    ·cases h
    ·have t:=ih h
     exact t
   ·split at h
    ·rename_i w1 l hf
     have:=ih h
     rw [zls hf] at this
     exact this
    ·cases h
 |new o k ih=>intro w w' v h;simp only [Sem.run] at h;have t:=ih _ h;exact t
 |shape r k ih=>intro w w' v h;simp only [Sem.run] at h;exact ih _ h
 |freeze a n k ih =>
  intro w w' v h
  simp only [Sem.run] at h
  have:=ih h
  unfold World.freeze at this
  split at this<;>exact this
 |frozen a k ih=>intro w w' v h;simp only [Sem.run] at h;exact ih _ h
 |getObj r k ih =>
  intro w w' v h
  simp only [Sem.run] at h
  split at h
  ·cases h
  ·exact ih _ h
  ·cases h
 |setObj r o k ih =>
  intro w w' v h
  simp only [Sem.run] at h
  split at h
  ·cases h
  ·have t:=ih h
   exact t
  ·cases h
 |choose q k ih =>
  intro w w' v h
  simp only [Sem.run] at h
  split at h
  ·exact ih _ h
  ·have t:=ih _ h
   exact Nat.le_trans (Nat.le_succ _) t
 |sys c k ih =>
  intro w w' v h
  simp only [Sem.run] at h
  have t:=ih _ h
  exact Nat.le_trans (ztg w c) t
 |program k ih=>intro w w' v h;simp only [Sem.run] at h;exact ih _ h
 |mark m k ih=>intro w w' v h;simp only [Sem.run] at h;exact ih h
 |halt e=>intro w w' v h;simp only [Sem.run] at h;cases h
end Go.Proofs.YtpkkcjmblocjdaaGreat.AM
end
section
namespace Go.Proofs.YtpkkcjmblocjdaaGreat.AM
open Go.RowKit
theorem zU {α:Type} (f:Nat→α) (i:Nat) (v:α):upd f i v i=v:=by
 unfold upd
 rw [Nat.beq_refl]
 rfl
theorem zvf {i j:Nat} (h:j≠i):Nat.beq j i=false:=by
 cases hb:Nat.beq j i with
 |true=>exact absurd (Nat.eq_of_beq_eq_true hb) h
 |false=>rfl
theorem zC {α:Type} (f:Nat→α) {i j:Nat} (v:α) (h:j≠i):upd f i v j=f j:=by
 unfold upd
 rw [zvf h]
 rfl
theorem zgF {α:Type} (f:Nat→α) (i j:Nat) (v:α):upd f i v j=if j=i then v else f j:=by
 by_cases h:j=i
 ·subst h
  rw [zU,if_pos rfl]
 ·rw [zC f v h,if_neg h]
theorem zep {α:Type} (f:Nat→α) {i j:Nat} (u v:α) (h:i≠j):upd (upd f i u) j v=upd (upd f j v) i u:=by
 funext k
 simp only [zgF]
 by_cases h1:k=j
 ·have h2:¬k=i:=fun e=>h (e.symm.trans h1)
  rw [if_pos h1,if_neg h2,if_pos h1]
 ·rw [if_neg h1,if_neg h1]
def za9 (w:World) (R:Nat→Prop) (e:Kd) (xs:List e.T) (cs:List Value):Prop:=∀(i:Nat) (x:e.T),xs[i]?=some x→∃us,qd w R e x us∧∀(j:Nat) (u:Value),us[j]?=some u→cs[i*e.size+j]?=some u
structure zlr (B:Nat) (Γ:Gh) (a:YZ) (b:Nat):Prop where
 base:B≤b
 cells:∃us ty,Γ.w.heap[b]?=some (.cells us ty (0,0))∧zq Γ a.cs us.toList
 fix:(a.fixed=true∧Γ.R b)∨(a.fixed=false∧¬Γ.R b)
structure zbZ (B:Nat) (Γ:Gh) (a:ZF) (v:Value):Prop where
 own:∃cs,Γ.w.ownsRow B a.t a.e.size v a.xs.length cs∧za9 Γ.w Γ.R a.e a.xs cs
 fix:∀g,v.ownBlock=some g→(a.st=.fixed∧Γ.R g)∨(a.st=.own∧¬Γ.R g)
def Mem.live (m:Mem) (i:Nat):Prop:=∃a,m.row i=some a∧a.st≠.dead
def zjR (Γ : Gh) (a : ze1) (b : Nat) : Prop :=
  (a.k.isPair = true ∧ a.k.lfs.all Kd.isOne = true ∧ a.v.isOne = true) ∧
  ((Γ.w.heap[b]? = some (.mapIter none 0 #[] 0) ∧ List.length (α := a.k.T × a.v.T) a.es = 0 ∧ a.cur = none) ∨
   ∃ bm zaj es clock, Γ.w.heap[b]? = some (.mapIter (some bm) clock zaj clock) ∧ Γ.R bm ∧ Γ.w.heap[bm]? = some (.map es clock) ∧ zrN es clock ∧ JP a.k a.v a.es (leftOf es zaj).toList ∧
     ∀ p, a.cur = some p → ∃ (s0 : Array Nat) (e : MapEntry), zaj = s0.push e.born ∧ e ∈ es.toList ∧ e.key = .agg (a.k.vs p.1).toArray ∧ a.v.vs p.2 = [e.val])
structure QT (B:Nat) (Γ:Gh) (a:ze1) (b:Nat):Prop where
 base:B≤b
 obj:(a.kd≠.iter∧∃es clock,Γ.w.heap[b]?=some (.map es clock)∧zrN es clock∧JP a.k a.v a.es es.toList)∨(a.kd=.iter∧zjR Γ a b)
 fix:(a.kd=.froz∧Γ.R b)∨(a.kd≠.froz∧¬Γ.R b)
structure zt (B:Nat) (w0:World) (Γ:Gh) (m:Mem):Prop where
 below:Below B w0 Γ.w
 base:B≤Γ.w.heap.size
 rlt:∀b,Γ.R b→b<Γ.w.heap.size
 box:∀i b,Γ.μ i=some b→∃a,m.box i=some a∧zlr B Γ a b
 row:∀i v,Γ.ν i=some v→∃a,m.row i=some a∧(a.st≠.dead→zbZ B Γ a v)
 bb:∀i j b,Γ.μ i=some b→Γ.μ j=some b→i=j
 rr:∀i j u v g,Γ.ν i=some u→Γ.ν j=some v→u.ownBlock=some g→v.ownBlock=some g→m.live i→m.live j→i=j
 rb:∀i j u g,Γ.ν i=some u→u.ownBlock=some g→m.live i→Γ.μ j≠some g
 map:∀i b,Γ.η i=some b→∃a,m.map i=some a∧QT B Γ a b
 mm:∀i j b,Γ.η i=some b→Γ.η j=some b→i=j
theorem QT.keep {B:Nat} {Γ Γ':Gh} {a:ze1} {b:Nat} (E:Ext B Γ Γ') (h:QT B Γ a b) (hb:Γ'.w.heap[b]?=Γ.w.heap[b]?) (hR:Γ'.R b→Γ.R b):QT B Γ' a b:=by
 obtain ⟨h1,h2,h3⟩:=h
 refine ⟨h1,?_,h3.imp (fun ⟨k,r⟩=>⟨k,E.R _ r⟩) fun ⟨k,r⟩=>⟨k,fun h=>r (hR h)⟩⟩
 rcases h2 with ⟨k,es,cl,h4,h5⟩|⟨k,hi,h4|⟨bm,zaj,es,cl,h4,h5,h6,h7⟩⟩
 ·exact .inl ⟨k,es,cl,hb.trans h4,h5⟩
 ·exact .inr ⟨k,hi,.inl ⟨hb.trans h4.1,h4.2⟩⟩
 ·exact .inr ⟨k,hi,.inr ⟨bm,zaj,es,cl,hb.trans h4,E.R _ h5,(E.heap _ h5).trans h6,h7⟩⟩
theorem QT.at {B:Nat} {Γ:Gh} {a:ze1} {b:Nat} (h:QT B Γ a b):∃o,Γ.w.heap[b]?=some o∧∀us ty fz,o≠.cells us ty fz:=by
 rcases h.obj with ⟨_,es,cl,h4,_⟩|⟨_,_,h4|⟨bm,zaj,es,cl,h4,_⟩⟩
 ·exact ⟨_,h4,fun _ _ _ e=>by cases e⟩
 ·exact ⟨_,h4.1,fun _ _ _ e=>by cases e⟩
 ·exact ⟨_,h4,fun _ _ _ e=>by cases e⟩
theorem QT.map {B:Nat} {Γ:Gh} {a:ze1} {b:Nat} (h:QT B Γ a b) (hk:a.kd≠.iter):∃es clock,Γ.w.heap[b]?=some (.map es clock)∧zrN es clock∧JP a.k a.v a.es es.toList:=by
 rcases h.obj with ⟨_,h⟩|⟨k,_⟩
 ·exact h
 ·exact absurd k hk
theorem QT.iter {B:Nat} {Γ:Gh} {a:ze1} {b:Nat} (h:QT B Γ a b) (hk:a.kd=.iter):zjR Γ a b:=by
 rcases h.obj with ⟨k,_⟩|⟨_,h⟩
 ·exact absurd hk k
 ·exact h
theorem zns {w w':World} {B:Nat} {t:TypeId} {s:Nat} {v:Value} {n:Nat} {cs:List Value} (h:w.ownsRow B t s v n cs) (hh:∀g,v.ownBlock=some g→w'.heap[g]?=w.heap[g]?):w'.ownsRow B t s v n cs:=by
 refine ⟨h.1,?_⟩
 rcases h.2 with hn|⟨g,cap,cur,rfl,hb,hg,zh3⟩
 ·exact .inl hn
 ·exact .inr ⟨g,cap,cur,rfl,hb,(hh g rfl).trans hg,zh3⟩
theorem za9.mono {w w':World} {R R':Nat→Prop} (hw:∀b,R b→w'.heap[b]?=w.heap[b]?) (hR:∀b,R b→R' b) {e:Kd} {xs:List e.T} {cs:List Value} (h:za9 w R e xs cs):za9 w' R' e xs cs :=
 fun i x hx=>let ⟨us,hu,hc⟩:=h i x hx;⟨us,hu.mono hw hR,hc⟩
theorem zlr.keep {B:Nat} {Γ Γ':Gh} {a:YZ} {b:Nat} (E:Ext B Γ Γ') (h:zlr B Γ a b) (hb:Γ'.w.heap[b]?=Γ.w.heap[b]?) (hR:Γ'.R b→Γ.R b):zlr B Γ' a b:=by
 obtain ⟨h1,⟨us,ty,hc,hl⟩,h3⟩:=h
 refine ⟨h1,⟨us,ty,hb.trans hc,hl.ext E⟩,?_⟩
 rcases h3 with ⟨h3,h4⟩|⟨h3,h4⟩
 ·exact .inl ⟨h3,E.R _ h4⟩
 ·exact .inr ⟨h3,fun hh=>h4 (hR hh)⟩
theorem zbZ.keep {B:Nat} {Γ Γ':Gh} {a:ZF} {v:Value} (E:Ext B Γ Γ') (h:zbZ B Γ a v) (hb:∀g,v.ownBlock=some g→Γ'.w.heap[g]?=Γ.w.heap[g]?) (hR:∀g,v.ownBlock=some g→Γ'.R g→Γ.R g):zbZ B Γ' a v:=by
 obtain ⟨⟨cs,ho,hr⟩,h3⟩:=h
 refine ⟨⟨cs,zns ho hb,hr.mono E.heap E.R⟩,fun g hg=>?_⟩
 rcases h3 g hg with ⟨h3,h4⟩|⟨h3,h4⟩
 ·exact .inl ⟨h3,E.R _ h4⟩
 ·exact .inr ⟨h3,fun hh=>h4 (hR g hg hh)⟩
theorem zzA {w:World} {B:Nat} {t:TypeId} {s:Nat} {v:Value} {n:Nat} {cs:List Value} (h:w.ownsRow B t s v n cs) {g:Nat} (hg:v.ownBlock=some g):B≤g∧g<w.heap.size:=h.lt g hg
theorem zc3 {w:World} {b:Nat} {o:Obj} (h:w.heap[b]?=some o):b<w.heap.size:=(Array.getElem?_eq_some_iff.1 h).1
theorem zt.boxlt {B:Nat} {w0:World} {Γ:Gh} {m:Mem} (M:zt B w0 Γ m) {i b:Nat} (h:Γ.μ i=some b):B≤b∧b<Γ.w.heap.size:=by
 obtain ⟨a,_,hb⟩:=M.box i b h
 obtain ⟨us,ty,hc,_⟩:=hb.cells
 exact ⟨hb.base,zc3 hc⟩
theorem zt.rowlt {B:Nat} {w0:World} {Γ:Gh} {m:Mem} (M:zt B w0 Γ m) {i g:Nat} {v:Value} (h:Γ.ν i=some v) (hl:m.live i) (hg:v.ownBlock=some g):B≤g∧g<Γ.w.heap.size:=by
 obtain ⟨a,ha,hr⟩:=M.row i v h
 obtain ⟨a',ha',hd⟩:=hl
 rw [ha] at ha'
 injection ha' with ha'
 subst ha'
 obtain ⟨cs,ho,_⟩:=(hr hd).own
 exact zzA ho hg
theorem zt.rowAt {B:Nat} {w0:World} {Γ:Gh} {m:Mem} (M:zt B w0 Γ m) {i:Nat} {v:Value} {a:ZF} (h:Γ.ν i=some v) (ha:m.row i=some a) (hd:a.st≠.dead):zbZ B Γ a v:=by
 obtain ⟨a',ha',hr⟩:=M.row i v h
 rw [ha] at ha'
 injection ha' with ha'
 subst ha'
 exact hr hd
theorem zt.boxAt {B:Nat} {w0:World} {Γ:Gh} {m:Mem} (M:zt B w0 Γ m) {i b:Nat} {a:YZ} (h:Γ.μ i=some b) (ha:m.box i=some a):zlr B Γ a b:=by
 obtain ⟨a',ha',hr⟩:=M.box i b h
 rw [ha] at ha'
 injection ha' with ha'
 subst ha'
 exact hr
theorem zt.maplt {B:Nat} {w0:World} {Γ:Gh} {m:Mem} (M:zt B w0 Γ m) {i b:Nat} (h:Γ.η i=some b):B≤b∧b<Γ.w.heap.size:=by
 obtain ⟨a,_,hb⟩:=M.map i b h
 obtain ⟨o,hc,_⟩:=hb.at
 exact ⟨hb.base,zc3 hc⟩
theorem zt.mapAt {B:Nat} {w0:World} {Γ:Gh} {m:Mem} (M:zt B w0 Γ m) {i b:Nat} {a:ze1} (h:Γ.η i=some b) (ha:m.map i=some a):QT B Γ a b:=by
 obtain ⟨a',ha',hr⟩:=M.map i b h
 rw [ha] at ha'
 injection ha' with ha'
 subst ha'
 exact hr
theorem zt.bm {B:Nat} {w0:World} {Γ:Gh} {m:Mem} (M:zt B w0 Γ m) {i j b:Nat} (h:Γ.η i=some b):Γ.μ j≠some b:=by
 intro hj
 obtain ⟨a,_,hb⟩:=M.map i b h
 obtain ⟨o,hc,hno⟩:=hb.at
 obtain ⟨a',_,hb'⟩:=M.box j b hj
 obtain ⟨us,ty,hc',_⟩:=hb'.cells
 rw [hc] at hc'
 injection hc' with hc'
 exact hno _ _ _ hc'
theorem zbZ.cells {B:Nat} {Γ:Gh} {a:ZF} {v:Value} (h:zbZ B Γ a v) {g:Nat} (hg:v.ownBlock=some g):∃us ty fz,Γ.w.heap[g]?=some (.cells us ty fz):=by
 obtain ⟨cs,ho,_⟩:=h.own
 rcases ho.2 with ⟨rfl,_⟩|⟨g',cap,cur,rfl,_,hc,_⟩
 ·cases hg
 ·obtain rfl:g'=g:=by injection hg
  exact ⟨_,_,_,hc⟩
theorem zt.rm {B:Nat} {w0:World} {Γ:Gh} {m:Mem} (M:zt B w0 Γ m) {i j g:Nat} {v:Value} (h:Γ.ν i=some v) (hg:v.ownBlock=some g) (hl:m.live i):Γ.η j≠some g:=by
 intro hj
 obtain ⟨a,_,hb⟩:=M.map j g hj
 obtain ⟨o,hc,hno⟩:=hb.at
 obtain ⟨a',ha',hr⟩:=M.row i v h
 obtain ⟨a2,ha2,hd⟩:=hl
 rw [ha'] at ha2
 injection ha2 with ha2
 subst ha2
 obtain ⟨us,ty,fz,hc'⟩:=(hr hd).cells hg
 rw [hc] at hc'
 injection hc' with hc'
 exact hno _ _ _ hc'
theorem znO {m:Mem} {i:Nat} (h:m.new i=true):m.map i=none:=by
 unfold Mem.new at h
 split at h
 ·assumption
 ·cases h
theorem zhu {m:Mem} {i:Nat} (h:m.new i=true):m.box i=none:=by
 unfold Mem.new at h
 split at h
 ·assumption
 ·cases h
theorem zfC {m:Mem} {i:Nat} (h:m.new i=true):m.row i=none:=by
 unfold Mem.new at h
 split at h
 ·assumption
 ·cases h
theorem zt.newμ {B:Nat} {w0:World} {Γ:Gh} {m:Mem} (M:zt B w0 Γ m) {i:Nat} (h:m.new i=true):Γ.μ i=none:=by
 cases hμ:Γ.μ i with
 |none=>rfl
 |some b =>
  obtain ⟨a,ha,_⟩:=M.box i b hμ
  rw [zhu h] at ha
  cases ha
theorem zt.newν {B:Nat} {w0:World} {Γ:Gh} {m:Mem} (M:zt B w0 Γ m) {i:Nat} (h:m.new i=true):Γ.ν i=none:=by
 cases hμ:Γ.ν i with
 |none=>rfl
 |some b =>
  obtain ⟨a,ha,_⟩:=M.row i b hμ
  rw [zfC h] at ha
  cases ha
theorem zt.newη {B:Nat} {w0:World} {Γ:Gh} {m:Mem} (M:zt B w0 Γ m) {i:Nat} (h:m.new i=true):Γ.η i=none:=by
 cases hμ:Γ.η i with
 |none=>rfl
 |some b =>
  obtain ⟨a,ha,_⟩:=M.map i b hμ
  rw [znO h] at ha
  cases ha
def Q3 (Γ:Gh) (m:Mem) (g:Nat):Prop:=¬Γ.R g∧(∀i,Γ.μ i≠some g)∧(∀i v,Γ.ν i=some v→m.live i→v.ownBlock≠some g)∧∀i,Γ.η i≠some g
theorem zt.free_new {B:Nat} {w0:World} {Γ:Gh} {m:Mem} (M:zt B w0 Γ m) {g:Nat} (h:Γ.w.heap.size≤g):Q3 Γ m g :=
 ⟨fun hr=>by have:=M.rlt g hr;omega,fun i hi=>by have:=(M.boxlt hi).2;omega,fun i v hv hl hg=>by have:=(M.rowlt hv hl hg).2;omega,fun i hi=>by have:=(M.maplt hi).2;omega⟩
theorem zt.write {B:Nat} {w0:World} {Γ:Gh} {m:Mem} (M:zt B w0 Γ m) {w':World} {row:Option Nat} (hg:Γ.w.grownBy w' row) (hdr:Γ.w.drawn≤w'.drawn) (hf:∀g,row=some g→B≤g∧Q3 Γ m g) :
  zt B w0 { Γ with w:=w' } m∧Ext B Γ { Γ with w:=w' }:=by
 have hR:∀b,Γ.R b→w'.heap[b]?=Γ.w.heap[b]?:=fun b hb=>hg.block b (M.rlt b hb) fun e=>(hf b e.symm).2.1 hb
 have E:Ext B Γ { Γ with w:=w' }:=⟨fun _ h=>h,hR,fun _ _ h=>h,fun _ _ h=>h,fun _ _ h=>h,fun _ h=>.inl h,hdr⟩
 refine ⟨⟨M.below.grown hg M.base fun k hk=>(hf k hk).1,Nat.le_trans M.base hg.size,fun b hb=>Nat.lt_of_lt_of_le (M.rlt b hb) hg.size,fun i b hi=>?_,fun i v hv=>?_,M.bb,M.rr,M.rb,fun i b hi=>?_,M.mm⟩,E⟩
 ·obtain ⟨a,ha,hb⟩:=M.box i b hi
  exact ⟨a,ha,hb.keep E (hg.block b (M.boxlt hi).2 fun e=>(hf b e.symm).2.2.1 i hi) fun h=>h⟩
 ·obtain ⟨a,ha,hb⟩:=M.row i v hv
  exact ⟨a,ha,fun hd=>(hb hd).keep E (fun g hgb=>hg.block g (M.rowlt hv ⟨a,ha,hd⟩ hgb).2 fun e=>(hf g e.symm).2.2.2.1 i v hv ⟨a,ha,hd⟩ hgb) fun _ _ h=>h⟩
 ·obtain ⟨a,ha,hb⟩:=M.map i b hi
  exact ⟨a,ha,hb.keep E (hg.block b (M.maplt hi).2 fun e=>(hf b e.symm).2.2.2.2 i hi) fun h=>h⟩
theorem zt.grow {B:Nat} {w0:World} {Γ:Gh} {m:Mem} (M:zt B w0 Γ m) {w':World} (hg:Γ.w.grownBy w' none) (hdr:Γ.w.drawn≤w'.drawn) :
  zt B w0 { Γ with w:=w' } m∧Ext B Γ { Γ with w:=w' }:=M.write hg hdr fun _ h=>by cases h
theorem zt.addRow {B:Nat} {w0:World} {Γ:Gh} {m:Mem} (M:zt B w0 Γ m) {id:Nat} (hn:m.new id=true) {a:ZF} {v:Value} (ha:a.st=.own) (ho:∃cs,Γ.w.ownsRow B a.t a.e.size v a.xs.length cs∧za9 Γ.w Γ.R a.e a.xs cs)
  (hf:∀g,v.ownBlock=some g→Q3 Γ m g) :
  zt B w0 { Γ with ν:=upd Γ.ν id (some v) } { m with row:=upd m.row id (some a) }∧Ext B Γ { Γ with ν:=upd Γ.ν id (some v) }:=by
 have hν:=M.newν hn
 have hd:a.st≠.dead:=by rw [ha];exact fun h=>by cases h
 have E:Ext B Γ { Γ with ν:=upd Γ.ν id (some v) }:=⟨fun _ h=>h,fun _ _=>rfl,fun _ _ h=>h,fun i u h=>by
  show upd Γ.ν id (some v) i=some u
  by_cases hi:i=id
  ·subst hi;rw [hν] at h;cases h
  ·rw [zC _ _ hi];exact h,fun _ _ h=>h,fun _ h=>.inl h,Nat.le_refl _⟩
 have live:∀i,i≠id→({ m with row:=upd m.row id (some a) }:Mem).live i→m.live i:=by
  rintro i hi ⟨c,hc,hcd⟩
  refine ⟨c,?_,hcd⟩
  have hc':upd m.row id (some a) i=some c:=hc
  rwa [zC _ _ hi] at hc'
 refine ⟨⟨M.below,M.base,M.rlt,fun i b hi=>?_,fun i u hu=>?_,M.bb,fun i j u u' g hu hu' hg hg' hl hl'=>?_,fun i j u g hu hg hl hj=>?_,fun i b hi=>?_,M.mm⟩,E⟩
 ·obtain ⟨c,hc,hb⟩:=M.box i b hi
  exact ⟨c,hc,hb.keep E rfl fun h=>h⟩
 ·show ∃c,upd m.row id (some a) i=some c∧_
  by_cases hi:i=id
  ·subst hi
   have hu':upd Γ.ν i (some v) i=some u:=hu
   rw [zU] at hu'
   injection hu' with hu'
   subst hu'
   obtain ⟨cs,h1,h2⟩:=ho
   exact ⟨a,zU _ _ _,fun _=>⟨⟨cs,h1,h2⟩,fun g hg=>.inr ⟨ha,(hf g hg).1⟩⟩⟩
  ·have hu':upd Γ.ν id (some v) i=some u:=hu
   rw [zC _ _ hi] at hu' ⊢
   obtain ⟨c,hc,hb⟩:=M.row i u hu'
   exact ⟨c,hc,fun hcd=>(hb hcd).keep E (fun _ _=>rfl) fun _ _ h=>h⟩
 ·have h1:upd Γ.ν id (some v) i=some u:=hu
  have h2:upd Γ.ν id (some v) j=some u':=hu'
  by_cases hi:i=id<;>by_cases hj:j=id
  ·rw [hi,hj]
  ·subst hi
   rw [zU] at h1
   injection h1 with h1
   subst h1
   rw [zC _ _ hj] at h2
   exact absurd hg' ((hf g hg).2.2.1 j u' h2 (live j hj hl'))
  ·subst hj
   rw [zU] at h2
   injection h2 with h2
   subst h2
   rw [zC _ _ hi] at h1
   exact absurd hg ((hf g hg').2.2.1 i u h1 (live i hi hl))
  ·rw [zC _ _ hi] at h1
   rw [zC _ _ hj] at h2
   exact M.rr i j u u' g h1 h2 hg hg' (live i hi hl) (live j hj hl')
 ·have h1:upd Γ.ν id (some v) i=some u:=hu
  by_cases hi:i=id
  ·subst hi
   rw [zU] at h1
   injection h1 with h1
   subst h1
   exact (hf g hg).2.1 j hj
  ·rw [zC _ _ hi] at h1
   exact M.rb i j u g h1 hg (live i hi hl) hj
 ·obtain ⟨c,hc,hb⟩:=M.map i b hi
  exact ⟨c,hc,hb.keep E rfl fun h=>h⟩
theorem zt.addBox {B:Nat} {w0:World} {Γ:Gh} {m:Mem} (M:zt B w0 Γ m) {id:Nat} (hn:m.new id=true) {cs:List AV} {us:Array Value} (ty:TypeId) (hr:zq Γ cs us.toList) :
  zt B w0 { Γ with w:=Γ.w.alloc (.cells us ty),μ:=upd Γ.μ id (some Γ.w.heap.size) } { m with box:=upd m.box id (some ⟨cs,false⟩) } ∧
   Ext B Γ { Γ with w:=Γ.w.alloc (.cells us ty),μ:=upd Γ.μ id (some Γ.w.heap.size) }:=by
 obtain ⟨M1,E1⟩:=M.grow (World.grownBy_alloc Γ.w (.cells us ty) none) (Nat.le_refl _)
 have hμ:=M.newμ hn
 have hF:=M.free_new (Nat.le_refl Γ.w.heap.size)
 have E:Ext B Γ { Γ with w:=Γ.w.alloc (.cells us ty),μ:=upd Γ.μ id (some Γ.w.heap.size) }:=⟨E1.R,E1.heap,fun i b h=>by
  show upd Γ.μ id _ i=some b
  by_cases hi:i=id
  ·subst hi;rw [hμ] at h;cases h
  ·rw [zC _ _ hi];exact h,E1.ν,E1.η,E1.new,E1.drn⟩
 have E2:Ext B { Γ with w:=Γ.w.alloc (.cells us ty) } { Γ with w:=Γ.w.alloc (.cells us ty),μ:=upd Γ.μ id (some Γ.w.heap.size) }:=⟨fun _ h=>h,fun _ _=>rfl,E.μ,fun _ _ h=>h,fun _ _ h=>h,fun _ h=>.inl h,Nat.le_refl _⟩
 refine ⟨⟨M1.below,M1.base,M1.rlt,fun i b hi=>?_,fun i u hu=>?_,fun i j b hi hj=>?_,M1.rr,fun i j u g hu hg hl hj=>?_,fun i b hi=>?_,M1.mm⟩,E⟩
 ·have hi':upd Γ.μ id (some Γ.w.heap.size) i=some b:=hi
  show ∃a,upd m.box id (some ⟨cs,false⟩) i=some a∧_
  by_cases h:i=id
  ·subst h
   rw [zU] at hi'
   injection hi' with hi'
   subst hi'
   exact ⟨_,zU _ _ _,M.base,⟨us,ty,heap_alloc_new _ _,hr.ext E⟩,.inr ⟨rfl,hF.1⟩⟩
  ·rw [zC _ _ h] at hi' ⊢
   obtain ⟨a,ha,hb⟩:=M1.box i b hi'
   exact ⟨a,ha,hb.keep E2 rfl fun h=>h⟩
 ·obtain ⟨a,ha,hb⟩:=M1.row i u hu
  exact ⟨a,ha,fun hd=>(hb hd).keep E2 (fun _ _=>rfl) fun _ _ h=>h⟩
 ·have h1:upd Γ.μ id (some Γ.w.heap.size) i=some b:=hi
  have h2:upd Γ.μ id (some Γ.w.heap.size) j=some b:=hj
  by_cases ei:i=id<;>by_cases ej:j=id
  ·rw [ei,ej]
  ·subst ei
   rw [zU] at h1
   injection h1 with h1
   subst h1
   rw [zC _ _ ej] at h2
   exact absurd h2 (hF.2.1 j)
  ·subst ej
   rw [zU] at h2
   injection h2 with h2
   subst h2
   rw [zC _ _ ei] at h1
   exact absurd h1 (hF.2.1 i)
  ·rw [zC _ _ ei] at h1
   rw [zC _ _ ej] at h2
   exact M.bb i j b h1 h2
 ·have h2:upd Γ.μ id (some Γ.w.heap.size) j=some g:=hj
  by_cases ej:j=id
  ·subst ej
   rw [zU] at h2
   injection h2 with h2
   subst h2
   exact hF.2.2.1 i u hu hl hg
  ·rw [zC _ _ ej] at h2
   exact M.rb i j u g hu hg hl h2
 ·obtain ⟨c,hc,hb⟩:=M1.map i b hi
  exact ⟨c,hc,hb.keep E2 rfl fun h=>h⟩
theorem zt.kill {B:Nat} {w0:World} {Γ:Gh} {m:Mem} (M:zt B w0 Γ m) (id:Nat):zt B w0 Γ (m.kill id):=by
 unfold Mem.kill
 split
 ·rename_i e xs t st hrow
  have live:∀i,({ m with row:=upd m.row id (some ⟨e,xs,t,.dead⟩) }:Mem).live i→m.live i∧i≠id:=by
   rintro i ⟨a,ha,hd⟩
   have ha':upd m.row id (some ⟨e,xs,t,.dead⟩) i=some a:=ha
   by_cases hi:i=id
   ·subst hi
    rw [zU] at ha'
    injection ha' with ha'
    subst ha'
    exact absurd rfl hd
   ·rw [zC _ _ hi] at ha'
    exact ⟨⟨a,ha',hd⟩,hi⟩
  refine ⟨M.below,M.base,M.rlt,M.box,fun i v hv=>?_,M.bb,fun i j u v g hu hv hg hg' hl hl'=>M.rr i j u v g hu hv hg hg' (live i hl).1 (live j hl').1,fun i j u g hu hg hl=>M.rb i j u g hu hg (live i hl).1,M.map,M.mm⟩
  show ∃a,upd m.row id (some ⟨e,xs,t,.dead⟩) i=some a∧_
  by_cases hi:i=id
  ·subst hi
   exact ⟨_,zU _ _ _,fun h=>absurd rfl h⟩
  ·rw [zC _ _ hi]
   exact M.row i v hv
 ·exact M
theorem zsy {m:Mem} {id i:Nat} (h:(m.kill id).live i):m.live i∧i≠id:=by
 unfold Mem.kill at h
 split at h
 ·rename_i e xs t st hrow
  obtain ⟨a,ha,hd⟩:=h
  have ha':upd m.row id (some ⟨e,xs,t,.dead⟩) i=some a:=ha
  by_cases hi:i=id
  ·subst hi
   rw [zU] at ha'
   injection ha' with ha'
   subst ha'
   exact absurd rfl hd
  ·rw [zC _ _ hi] at ha'
   exact ⟨⟨a,ha',hd⟩,hi⟩
 ·rename_i hrow
  refine ⟨h,fun e=>?_⟩
  subst e
  obtain ⟨a,ha,_⟩:=h
  rw [hrow] at ha
  cases ha
theorem zt.setBox {B:Nat} {w0:World} {Γ:Gh} {m:Mem} (M:zt B w0 Γ m) {id b:Nat} (hμ:Γ.μ id=some b) {a:YZ} (hm:m.box id=some a) (hfx:a.fixed=false) {w':World} (hg:Γ.w.grownBy w' (some b)) (hdr:Γ.w.drawn≤w'.drawn)
  {cs:List AV} {us:Array Value} {ty:TypeId} (hb:w'.heap[b]?=some (.cells us ty (0,0))) (hr:zq Γ cs us.toList) :
  zt B w0 { Γ with w:=w' } { m with box:=upd m.box id (some ⟨cs,false⟩) }∧Ext B Γ { Γ with w:=w' }:=by
 have hbr:=M.boxAt hμ hm
 have hnR:¬Γ.R b:=by
  rcases hbr.fix with ⟨h,_⟩|⟨_,h⟩
  ·rw [hfx] at h;cases h
  ·exact h
 have hR:∀c,Γ.R c→w'.heap[c]?=Γ.w.heap[c]?:=fun c hc=>hg.block c (M.rlt c hc) fun e=>hnR (by injection e with e;subst e;exact hc)
 have E:Ext B Γ { Γ with w:=w' }:=⟨fun _ h=>h,hR,fun _ _ h=>h,fun _ _ h=>h,fun _ _ h=>h,fun _ h=>.inl h,hdr⟩
 refine ⟨⟨M.below.grown hg M.base fun k hk=>by injection hk with hk;subst hk;exact hbr.base,Nat.le_trans M.base hg.size,fun c hc=>Nat.lt_of_lt_of_le (M.rlt c hc) hg.size,fun i c hi=>?_,fun i v hv=>?_,M.bb,M.rr,M.rb,fun i c hi=>?_,M.mm⟩,E⟩
 ·show ∃a,upd m.box id (some ⟨cs,false⟩) i=some a∧_
  by_cases h:i=id
  ·subst h
   obtain rfl:b=c:=by have:some b=some c:=hμ.symm.trans hi;injection this
   exact ⟨_,zU _ _ _,hbr.base,⟨us,ty,hb,hr.ext E⟩,.inr ⟨rfl,hnR⟩⟩
  ·rw [zC _ _ h]
   obtain ⟨a',ha',hb'⟩:=M.box i c hi
   exact ⟨a',ha',hb'.keep E (hg.block c (M.boxlt hi).2 fun e=>h (M.bb i id c hi (by injection e with e;subst e;exact hμ))) fun h=>h⟩
 ·obtain ⟨a',ha',hb'⟩:=M.row i v hv
  exact ⟨a',ha',fun hd=>(hb' hd).keep E (fun g hgb=>hg.block g (M.rowlt hv ⟨a',ha',hd⟩ hgb).2 fun e=>M.rb i id v g hv hgb ⟨a',ha',hd⟩ (by injection e with e;subst e;exact hμ)) fun _ _ h=>h⟩
 ·obtain ⟨a',ha',hb'⟩:=M.map i c hi
  exact ⟨a',ha',hb'.keep E (hg.block c (M.maplt hi).2 fun e=>M.bm hi (by injection e with e;subst e;exact hμ)) fun h=>h⟩
theorem zt.setRow {B:Nat} {w0:World} {Γ:Gh} {m:Mem} (M:zt B w0 Γ m) {id b:Nat} {v:Value} (hν:Γ.ν id=some v) {a:ZF} (hm:m.row id=some a) (hst:a.st=.own) (hvb:v.ownBlock=some b) {w':World} (hg:Γ.w.grownBy w' (some b)) (hdr:Γ.w.drawn≤w'.drawn)
  {xs:List a.e.T} (ho:∃cs,w'.ownsRow B a.t a.e.size v xs.length cs∧za9 Γ.w Γ.R a.e xs cs) :
  zt B w0 { Γ with w:=w' } { m with row:=upd m.row id (some ⟨a.e,xs,a.t,.own⟩) }∧Ext B Γ { Γ with w:=w' }:=by
 have hd:a.st≠.dead:=by rw [hst];exact fun h=>by cases h
 have hlive:m.live id:=⟨a,hm,hd⟩
 have hbr:=M.rowAt hν hm hd
 have hnR:¬Γ.R b:=by
  rcases hbr.fix b hvb with ⟨h,_⟩|⟨_,h⟩
  ·rw [hst] at h;cases h
  ·exact h
 have hR:∀c,Γ.R c→w'.heap[c]?=Γ.w.heap[c]?:=fun c hc=>hg.block c (M.rlt c hc) fun e=>hnR (by injection e with e;subst e;exact hc)
 have E:Ext B Γ { Γ with w:=w' }:=⟨fun _ h=>h,hR,fun _ _ h=>h,fun _ _ h=>h,fun _ _ h=>h,fun _ h=>.inl h,hdr⟩
 have live:∀i,({ m with row:=upd m.row id (some ⟨a.e,xs,a.t,.own⟩) }:Mem).live i→m.live i:=by
  rintro i ⟨c,hc,hcd⟩
  by_cases hi:i=id
  ·subst hi;exact hlive
  ·have hc':upd m.row id (some ⟨a.e,xs,a.t,.own⟩) i=some c:=hc
   rw [zC _ _ hi] at hc'
   exact ⟨c,hc',hcd⟩
 refine ⟨⟨M.below.grown hg M.base fun k hk=>by injection hk with hk;subst hk;exact (M.rowlt hν hlive hvb).1,Nat.le_trans M.base hg.size,fun c hc=>Nat.lt_of_lt_of_le (M.rlt c hc) hg.size,fun i c hi=>?_,fun i u hu=>?_,M.bb,
  fun i j u u' g hu hu' hgu hgu' hl hl'=>M.rr i j u u' g hu hu' hgu hgu' (live i hl) (live j hl'),fun i j u g hu hgu hl=>M.rb i j u g hu hgu (live i hl),fun i c hi=>?_,M.mm⟩,E⟩
 ·obtain ⟨a',ha',hb'⟩:=M.box i c hi
  exact ⟨a',ha',hb'.keep E (hg.block c (M.boxlt hi).2 fun e=>M.rb id i v b hν hvb hlive (by injection e with e;subst e;exact hi)) fun h=>h⟩
 ·show ∃c,upd m.row id (some ⟨a.e,xs,a.t,.own⟩) i=some c∧_
  by_cases hi:i=id
  ·subst hi
   obtain rfl:v=u:=by have:some v=some u:=hν.symm.trans hu;injection this
   obtain ⟨cs,h1,h2⟩:=ho
   exact ⟨_,zU _ _ _,fun _=>⟨⟨cs,h1,h2.mono E.heap E.R⟩,fun g hgv=>.inr ⟨rfl,by rw [hvb] at hgv;injection hgv with hgv;subst hgv;exact hnR⟩⟩⟩
  ·rw [zC _ _ hi]
   obtain ⟨a',ha',hb'⟩:=M.row i u hu
   exact ⟨a',ha',fun hd'=>(hb' hd').keep E (fun g hgb=>hg.block g (M.rowlt hu ⟨a',ha',hd'⟩ hgb).2 fun e=>hi (M.rr i id u v g hu hν hgb (by injection e with e;subst e;exact hvb) ⟨a',ha',hd'⟩ hlive)) fun _ _ h=>h⟩
 ·obtain ⟨a',ha',hb'⟩:=M.map i c hi
  exact ⟨a',ha',hb'.keep E (hg.block c (M.maplt hi).2 fun e=>M.rm (j:=i) hν hvb hlive (by injection e with e;subst e;exact hi)) fun h=>h⟩
theorem zt.fixOne {B:Nat} {w0:World} {Γ:Gh} {m:Mem} (M:zt B w0 Γ m) {id:Nat} {a:ZF} (hm:m.row id=some a) :
  ∃R':Nat→Prop,zt B w0 { Γ with R:=R' } { m with row:=upd m.row id (some (ZQ a)) }∧Ext B Γ { Γ with R:=R' }∧∀b,R' b↔Γ.R b∨(a.st≠.dead∧∃v,Γ.ν id=some v∧v.ownBlock=some b):=by
 have hfx:(ZQ a).e=a.e∧HEq (ZQ a).xs a.xs∧(ZQ a).t=a.t∧((ZQ a).st=.dead↔a.st=.dead)∧(a.st=.own→(ZQ a).st=.fixed)∧(a.st=.fixed→(ZQ a).st=.fixed):=by
  obtain ⟨e,xs,t,st⟩:=a
  cases st<;>simp [ZQ]
 refine ⟨fun b=>Γ.R b∨(a.st≠.dead∧∃v,Γ.ν id=some v∧v.ownBlock=some b),?_,?_,fun b=>Iff.rfl⟩
 all_goals
  have E:Ext B Γ { Γ with R:=fun b=>Γ.R b∨(a.st≠.dead∧∃v,Γ.ν id=some v∧v.ownBlock=some b) }:=⟨fun _ h=>.inl h,fun _ _=>rfl,fun _ _ h=>h,fun _ _ h=>h,fun _ _ h=>h,fun b hb=>by
   rcases hb with hb|⟨hd,v,hv,hvb⟩
   ·exact .inl hb
   ·exact .inr (M.rowlt hv ⟨a,hm,hd⟩ hvb).1,Nat.le_refl _⟩
 ·have live:∀i,({ m with row:=upd m.row id (some (ZQ a)) }:Mem).live i→m.live i:=by
   rintro i ⟨c,hc,hcd⟩
   have hc':upd m.row id (some (ZQ a)) i=some c:=hc
   by_cases hi:i=id
   ·subst hi
    rw [zU] at hc'
    injection hc' with hc'
    subst hc'
    exact ⟨a,hm,fun h=>hcd (hfx.2.2.2.1.2 h)⟩
   ·rw [zC _ _ hi] at hc'
    exact ⟨c,hc',hcd⟩
  refine ⟨M.below,M.base,fun b hb=>?_,fun i b hi=>?_,fun i u hu=>?_,M.bb,fun i j u u' g hu hu' hg hg' hl hl'=>M.rr i j u u' g hu hu' hg hg' (live i hl) (live j hl'),fun i j u g hu hg hl=>M.rb i j u g hu hg (live i hl),fun i b hi=>?_,M.mm⟩
  ·rcases hb with hb|⟨hd,v,hv,hvb⟩
   ·exact M.rlt b hb
   ·exact (M.rowlt hv ⟨a,hm,hd⟩ hvb).2
  ·obtain ⟨c,hc,hb⟩:=M.box i b hi
   refine ⟨c,hc,hb.keep E rfl fun h=>?_⟩
   rcases h with h|⟨hd,v,hv,hvb⟩
   ·exact h
   ·exact absurd hi (M.rb id i v b hv hvb ⟨a,hm,hd⟩)
  ·show ∃c,upd m.row id (some (ZQ a)) i=some c∧_
   by_cases hi:i=id
   ·subst hi
    refine ⟨_,zU _ _ _,fun hd=>?_⟩
    have hd':a.st≠.dead:=fun h=>hd (hfx.2.2.2.1.2 h)
    have hr:=M.rowAt hu hm hd'
    obtain ⟨cs,h1,h2⟩:=hr.own
    have hst:(ZQ a).st=.fixed:=by
     cases hs:a.st with
     |own=>exact hfx.2.2.2.2.1 hs
     |fixed=>exact hfx.2.2.2.2.2 hs
     |dead=>exact absurd hs hd'
    refine ⟨⟨cs,?_,?_⟩,fun g hg=>.inl ⟨hst,.inr ⟨hd',u,hu,hg⟩⟩⟩
    ·obtain ⟨e,xs,t,st⟩:=a
     cases st<;>exact h1
    ·have h2':=h2.mono E.heap E.R
     obtain ⟨e,xs,t,st⟩:=a
     cases st<;>exact h2'
   ·rw [zC _ _ hi]
    obtain ⟨c,hc,hb⟩:=M.row i u hu
    refine ⟨c,hc,fun hcd=>(hb hcd).keep E (fun _ _=>rfl) fun g hg h=>?_⟩
    rcases h with h|⟨hd,v,hv,hvb⟩
    ·exact h
    ·exact absurd (M.rr i id u v g hu hv hg hvb ⟨c,hc,hcd⟩ ⟨a,hm,hd⟩) hi
  ·obtain ⟨c,hc,hb⟩:=M.map i b hi
   refine ⟨c,hc,hb.keep E rfl fun h=>?_⟩
   rcases h with h|⟨hd,v,hv,hvb⟩
   ·exact h
   ·exact absurd hi (M.rm hv hvb ⟨a,hm,hd⟩)
 ·exact E
theorem zt.fixBox {B:Nat} {w0:World} {Γ:Gh} {m:Mem} (M:zt B w0 Γ m) {id b:Nat} (hμ:Γ.μ id=some b) :
  zt B w0 { Γ with R:=fun c=>Γ.R c∨c=b } (AM.fixBox m id)∧Ext B Γ { Γ with R:=fun c=>Γ.R c∨c=b }:=by
 obtain ⟨a,ha,hb⟩:=M.box id b hμ
 have E:Ext B Γ { Γ with R:=fun c=>Γ.R c∨c=b }:=⟨fun _ h=>.inl h,fun _ _=>rfl,fun _ _ h=>h,fun _ _ h=>h,fun _ _ h=>h,fun c hc=>by
  rcases hc with hc|rfl
  ·exact .inl hc
  ·exact .inr hb.base,Nat.le_refl _⟩
 refine ⟨?_,E⟩
 unfold AM.fixBox
 rw [ha]
 refine ⟨M.below,M.base,fun c hc=>?_,fun i c hi=>?_,fun i u hu=>?_,M.bb,M.rr,M.rb,fun i c hi=>?_,M.mm⟩
 ·rcases hc with hc|rfl
  ·exact M.rlt c hc
  ·exact (M.boxlt hμ).2
 ·show ∃c',upd m.box id (some ⟨a.cs,true⟩) i=some c'∧_
  by_cases h:i=id
  ·subst h
   obtain rfl:b=c:=by have:some b=some c:=hμ.symm.trans hi;injection this
   obtain ⟨us,ty,hc,hl⟩:=hb.cells
   exact ⟨_,zU _ _ _,hb.base,⟨us,ty,hc,hl.ext E⟩,.inl ⟨rfl,.inr rfl⟩⟩
  ·rw [zC _ _ h]
   obtain ⟨c',hc',hb'⟩:=M.box i c hi
   refine ⟨c',hc',hb'.keep E rfl fun hh=>?_⟩
   rcases hh with hh|rfl
   ·exact hh
   ·exact absurd (M.bb i id c hi hμ) h
 ·obtain ⟨c,hc,hr⟩:=M.row i u hu
  refine ⟨c,hc,fun hd=>(hr hd).keep E (fun _ _=>rfl) fun g hg h=>?_⟩
  rcases h with h|rfl
  ·exact h
  ·exact absurd hμ (M.rb i id u g hu hg ⟨c,hc,hd⟩)
 ·obtain ⟨c',hc',hb'⟩:=M.map i c hi
  refine ⟨c',hc',hb'.keep E rfl fun h=>?_⟩
  rcases h with h|rfl
  ·exact h
  ·exact absurd hμ (M.bm hi)
theorem zt.setMap {B:Nat} {w0:World} {Γ:Gh} {m:Mem} (M:zt B w0 Γ m) {id b:Nat} (hη:Γ.η id=some b) {a:ze1} (hm:m.map id=some a) (hk:a.kd≠.froz) {w':World} (hg:Γ.w.grownBy w' (some b)) (hdr:Γ.w.drawn≤w'.drawn) {a':ze1}
  (hr:(∀c,Γ.R c→w'.heap[c]?=Γ.w.heap[c]?)→¬Γ.R b→QT B { Γ with w:=w' } a' b) :
  zt B w0 { Γ with w:=w' } { m with map:=upd m.map id (some a') }∧Ext B Γ { Γ with w:=w' }:=by
 have hmr:=M.mapAt hη hm
 have hnR:¬Γ.R b:=by
  rcases hmr.fix with ⟨h,_⟩|⟨_,h⟩
  ·exact absurd h hk
  ·exact h
 have hR:∀c,Γ.R c→w'.heap[c]?=Γ.w.heap[c]?:=fun c hc=>hg.block c (M.rlt c hc) fun e=>hnR (by injection e with e;subst e;exact hc)
 have E:Ext B Γ { Γ with w:=w' }:=⟨fun _ h=>h,hR,fun _ _ h=>h,fun _ _ h=>h,fun _ _ h=>h,fun _ h=>.inl h,hdr⟩
 refine ⟨⟨M.below.grown hg M.base fun k hk=>by injection hk with hk;subst hk;exact hmr.base,Nat.le_trans M.base hg.size,fun c hc=>Nat.lt_of_lt_of_le (M.rlt c hc) hg.size,fun i c hi=>?_,fun i v hv=>?_,M.bb,M.rr,M.rb,fun i c hi=>?_,M.mm⟩,E⟩
 ·obtain ⟨c',hc',hb'⟩:=M.box i c hi
  exact ⟨c',hc',hb'.keep E (hg.block c (M.boxlt hi).2 fun e=>M.bm hη (by injection e with e;subst e;exact hi)) fun h=>h⟩
 ·obtain ⟨c',hc',hb'⟩:=M.row i v hv
  exact ⟨c',hc',fun hd=>(hb' hd).keep E (fun g hgb=>hg.block g (M.rowlt hv ⟨c',hc',hd⟩ hgb).2 fun e=>M.rm (j:=id) hv hgb ⟨c',hc',hd⟩ (by injection e with e;subst e;exact hη)) fun _ _ h=>h⟩
 ·show ∃a,upd m.map id (some a') i=some a∧_
  by_cases h:i=id
  ·subst h
   obtain rfl:b=c:=by have:some b=some c:=hη.symm.trans hi;injection this
   exact ⟨_,zU _ _ _,hr hR hnR⟩
  ·rw [zC _ _ h]
   obtain ⟨c',hc',hb'⟩:=M.map i c hi
   exact ⟨c',hc',hb'.keep E (hg.block c (M.maplt hi).2 fun e=>h (M.mm i id c hi (by injection e with e;subst e;exact hη))) fun h=>h⟩
theorem zt.fixMap {B:Nat} {w0:World} {Γ:Gh} {m:Mem} (M:zt B w0 Γ m) {id b:Nat} (hη:Γ.η id=some b) {a:ze1} (hm:m.map id=some a) (hk:a.kd≠.iter) :
  zt B w0 { Γ with R:=fun c=>Γ.R c∨c=b } { m with map:=upd m.map id (some ⟨a.k,a.v,a.es,.froz,none⟩) }∧Ext B Γ { Γ with R:=fun c=>Γ.R c∨c=b }:=by
 have hb:=M.mapAt hη hm
 have E:Ext B Γ { Γ with R:=fun c=>Γ.R c∨c=b }:=⟨fun _ h=>.inl h,fun _ _=>rfl,fun _ _ h=>h,fun _ _ h=>h,fun _ _ h=>h,fun c hc=>by
  rcases hc with hc|rfl
  ·exact .inl hc
  ·exact .inr hb.base,Nat.le_refl _⟩
 refine ⟨⟨M.below,M.base,fun c hc=>?_,fun i c hi=>?_,fun i u hu=>?_,M.bb,M.rr,M.rb,fun i c hi=>?_,M.mm⟩,E⟩
 ·rcases hc with hc|rfl
  ·exact M.rlt c hc
  ·exact (M.maplt hη).2
 ·obtain ⟨c',hc',hb'⟩:=M.box i c hi
  refine ⟨c',hc',hb'.keep E rfl fun hh=>?_⟩
  rcases hh with hh|rfl
  ·exact hh
  ·exact absurd hi (M.bm hη)
 ·obtain ⟨c,hc,hr⟩:=M.row i u hu
  refine ⟨c,hc,fun hd=>(hr hd).keep E (fun _ _=>rfl) fun g hg h=>?_⟩
  rcases h with h|rfl
  ·exact h
  ·exact absurd hη (M.rm hu hg ⟨c,hc,hd⟩)
 ·show ∃c',upd m.map id (some ⟨a.k,a.v,a.es,.froz,none⟩) i=some c'∧_
  by_cases h:i=id
  ·subst h
   obtain rfl:b=c:=by have:some b=some c:=hη.symm.trans hi;injection this
   obtain ⟨es,cl,h1,h2,h3⟩:=hb.map hk
   exact ⟨_,zU _ _ _,hb.base,.inl ⟨fun e=>(by cases e),es,cl,h1,h2,h3⟩,.inl ⟨rfl,.inr rfl⟩⟩
  ·rw [zC _ _ h]
   obtain ⟨c',hc',hb'⟩:=M.map i c hi
   refine ⟨c',hc',hb'.keep E rfl fun hh=>?_⟩
   rcases hh with hh|rfl
   ·exact hh
   ·exact absurd (M.mm i id c hi hη) h
theorem zt.addMapAt {B:Nat} {w0:World} {Γ:Gh} {m:Mem} (M:zt B w0 Γ m) {id blk:Nat} (hn:m.new id=true) {a:ze1} (hr:QT B Γ a blk) (hF:∀i,Γ.η i≠some blk) :
  zt B w0 { Γ with η:=upd Γ.η id (some blk) } { m with map:=upd m.map id (some a) }∧Ext B Γ { Γ with η:=upd Γ.η id (some blk) }:=by
 have hη:=M.newη hn
 have E:Ext B Γ { Γ with η:=upd Γ.η id (some blk) }:=⟨fun _ h=>h,fun _ _=>rfl,fun _ _ h=>h,fun _ _ h=>h,fun i b h=>by
  show upd Γ.η id _ i=some b
  by_cases hi:i=id
  ·subst hi;rw [hη] at h;cases h
  ·rw [zC _ _ hi];exact h,fun _ h=>.inl h,Nat.le_refl _⟩
 refine ⟨⟨M.below,M.base,M.rlt,fun i b hi=>?_,fun i u hu=>?_,M.bb,M.rr,M.rb,fun i b hi=>?_,fun i j b hi hj=>?_⟩,E⟩
 ·obtain ⟨c,hc,hb⟩:=M.box i b hi
  exact ⟨c,hc,hb.keep E rfl fun h=>h⟩
 ·obtain ⟨c,hc,hb⟩:=M.row i u hu
  exact ⟨c,hc,fun hd=>(hb hd).keep E (fun _ _=>rfl) fun _ _ h=>h⟩
 ·have hi':upd Γ.η id (some blk) i=some b:=hi
  show ∃c,upd m.map id (some a) i=some c∧_
  by_cases h:i=id
  ·subst h
   rw [zU] at hi'
   injection hi' with hi'
   subst hi'
   exact ⟨_,zU _ _ _,hr.keep E rfl fun h=>h⟩
  ·rw [zC _ _ h] at hi' ⊢
   obtain ⟨c,hc,hb⟩:=M.map i b hi'
   exact ⟨c,hc,hb.keep E rfl fun h=>h⟩
 ·have h1:upd Γ.η id (some blk) i=some b:=hi
  have h2:upd Γ.η id (some blk) j=some b:=hj
  by_cases ei:i=id<;>by_cases ej:j=id
  ·rw [ei,ej]
  ·subst ei
   rw [zU] at h1
   injection h1 with h1
   subst h1
   rw [zC _ _ ej] at h2
   exact absurd h2 (hF j)
  ·subst ej
   rw [zU] at h2
   injection h2 with h2
   subst h2
   rw [zC _ _ ei] at h1
   exact absurd h1 (hF i)
  ·rw [zC _ _ ei] at h1
   rw [zC _ _ ej] at h2
   exact M.mm i j b h1 h2
theorem zt.addMap {B:Nat} {w0:World} {Γ:Gh} {m:Mem} (M:zt B w0 Γ m) {id:Nat} (hn:m.new id=true) (k v:Kd) :
  zt B w0 { Γ with w:=Γ.w.alloc (.map #[] 0),η:=upd Γ.η id (some Γ.w.heap.size) } { m with map:=upd m.map id (some ⟨k,v,[],.own,none⟩) } ∧
   Ext B Γ { Γ with w:=Γ.w.alloc (.map #[] 0),η:=upd Γ.η id (some Γ.w.heap.size) }:=by
 obtain ⟨M1,E1⟩:=M.grow (World.grownBy_alloc Γ.w (.map #[] 0) none) (Nat.le_refl _)
 have hF:=M.free_new (Nat.le_refl Γ.w.heap.size)
 obtain ⟨M2,E2⟩:=M1.addMapAt (id:=id) hn (a:=⟨k,v,[],.own,none⟩) (blk:=Γ.w.heap.size) ⟨M.base,.inl ⟨fun e=>(by cases e),#[],0,heap_alloc_new _ _,⟨fun x hx=>by simp at hx,by simp⟩,by simp [JP]⟩,.inr ⟨fun e=>(by cases e),hF.1⟩⟩ (fun i=>hF.2.2.2 i)
 exact ⟨M2,E1.trans E2⟩
theorem zt.addIter {B:Nat} {w0:World} {Γ:Gh} {m:Mem} (M:zt B w0 Γ m) {id:Nat} (hn:m.new id=true) {o:Obj} {a:ze1} (hk:a.kd=.iter)
  (hr:zjR { Γ with w:=Γ.w.alloc o } a Γ.w.heap.size) :
  zt B w0 { Γ with w:=Γ.w.alloc o,η:=upd Γ.η id (some Γ.w.heap.size) } { m with map:=upd m.map id (some a) } ∧
   Ext B Γ { Γ with w:=Γ.w.alloc o,η:=upd Γ.η id (some Γ.w.heap.size) }:=by
 obtain ⟨M1,E1⟩:=M.grow (World.grownBy_alloc Γ.w o none) (Nat.le_refl _)
 have hF:=M.free_new (Nat.le_refl Γ.w.heap.size)
 obtain ⟨M2,E2⟩:=M1.addMapAt (id:=id) hn (a:=a) (blk:=Γ.w.heap.size) ⟨M.base,.inr ⟨hk,hr⟩,.inr ⟨fun e=>(by rw [hk] at e;cases e),hF.1⟩⟩ (fun i=>hF.2.2.2 i)
 exact ⟨M2,E1.trans E2⟩
end Go.Proofs.YtpkkcjmblocjdaaGreat.AM
end
section
namespace Go.Proofs.YtpkkcjmblocjdaaGreat.AM
open Go.RowKit
def fsB:List (Nat×Nat)→List (Nat×Nat)→Bool
 |[],[]=>true
 |(a,b)::r,(c,d)::q=>Nat.beq a c&&Nat.beq b d&&fsB r q
 |_,_=>false
theorem zwg:∀{l r:List (Nat×Nat)},fsB l r=true→l=r
 |[],[],_=>rfl
 |(a,b)::l,(c,d)::r,h=>by
  simp only [fsB,Bool.and_eq_true] at h
  rw [Nat.eq_of_beq_eq_true h.1.1,Nat.eq_of_beq_eq_true h.1.2,zwg h.2]
 |[],(_,_)::_,h=>by simp [fsB] at h
 |(_,_)::_,[],h=>by simp [fsB] at h
def YP:Option TypeDesc→TD→Bool
 |some (.int k),.int j=>kb k j
 |some .bool,.bool=>true
 |some .string,.str=>true
 |some (.slice e),.sl e'=>Nat.beq e e'
 |some (.array n e),.arr n' e'=>Nat.beq n n'&&Nat.beq e e'
 |some (.struct fs),.st l=>fsB (fs.toList.map fun f=>(f.offset,f.type)) l
 |some (.func _ _ _),.fn=>true
 |some (.map k v),.mp k' v'=>Nat.beq k k'&&Nat.beq v v'
 |some (.pointer e),.ptr e'=>Nat.beq e e'
 |_,_=>false
def zB:AV→Value→Bool
 |.int k n,.int j q=>kb k j&&decide (n=q)
 |.bool b,.bool c=>(b==c)
 |.nil,.slice none 0 0=>true
 |.nmp,.map none=>true
 |.dead,_=>true
 |_,_=>false
theorem zzW {Γ:Gh}:∀{a:AV} {v:Value},zB a v=true→zf Γ a v:=by
 intro a v h
 unfold zB at h
 split at h
 ·simp only [Bool.and_eq_true,decide_eq_true_eq] at h
  simp only [zf,zaY h.1,h.2]
 ·simp only [zf,eq_of_beq h]
 ·simp only [zf]
 ·simp only [zf]
 ·simp only [zf]
 ·cases h
def zL:List AV→List Value→Bool
 |[],[]=>true
 |a::r,v::q=>zB a v&&zL r q
 |_,_=>false
theorem zv9 {Γ:Gh}:∀{a:List AV} {v:List Value},zL a v=true→zq Γ a v
 |[],[],_=>by simp [zq]
 |a::r,v::q,h=>by
  simp only [zL,Bool.and_eq_true] at h
  simp only [zq]
  exact ⟨v,q,rfl,zzW h.1,zv9 h.2⟩
 |[],_::_,h=>by simp [zL] at h
 |_::_,[],h=>by simp [zL] at h
def zT:Kd→List Value→Bool
 |.int k,vs=>match vs with
  |[.int j n]=>kb k j&&decide (n=0)
  |_=>false
 |.bool,vs=>match vs with
  |[.bool false]=>true
  |_=>false
 |.pair a b,vs=>zT a (vs.take a.size)&&zT b (vs.drop a.size)
 |.sl _,vs=>match vs with
  |[.slice none 0 0]=>true
  |_=>false
 |.mp _ _,vs=>match vs with
  |[.map none]=>true
  |_=>false
 |.str,_=>false
theorem zqV {w:World} {R:Nat→Prop}:∀{κ:Kd} {vs:List Value},zT κ vs=true→qd w R κ κ.dflt vs
 |.int k,vs,h=>by
  simp only [zT] at h
  split at h
  ·rename_i j n
   simp only [Bool.and_eq_true,decide_eq_true_eq] at h
   obtain ⟨h1,rfl⟩:=h
   simp only [qd,Kd.dflt,zaY h1]
  ·cases h
 |.bool,vs,h=>by
  simp only [zT] at h
  split at h
  ·simp only [qd,Kd.dflt]
  ·cases h
 |.pair a b,vs,h=>by
  have h':zT a (vs.take a.size)=true∧zT b (vs.drop a.size)=true:=by
   simpa [zT] using h
  simp only [qd,Kd.dflt]
  exact ⟨_,_,(List.take_append_drop a.size vs).symm,zqV h'.1,zqV h'.2⟩
 |.sl e,vs,h=>by
  simp only [zT] at h
  split at h
  ·simp only [qd,Kd.dflt,zAf]
   exact ⟨none,0,rfl,Nat.zero_le _,.inl trivial⟩
  ·cases h
 |.mp k v,vs,h=>by
  simp only [zT] at h
  split at h
  ·simp only [qd,Kd.dflt]
   exact .inl (by trivial)
  ·cases h
 |.str,_,h=>by simp [zT] at h
def Kf (P:Program):Nat→TypeId→Option (List Kd)
 |0,_=>none
 |d+1,t=>match P.underlying t with
  |some (.int k)=>cond (Nat.beq (P.cellsOf t) 1) (some [.int k]) none
  |some .bool=>cond (Nat.beq (P.cellsOf t) 1) (some [.bool]) none
  |some (.struct fs)=>cond (P.stoodInHeld t) none (leafsF (Kf P d) 0 fs.toList)
  |some (.array n e)=>match Kf P d e with
   |some ks=>cond (Nat.beq (P.cellsOf e) ks.length&&(P.info? e).isSome) (some (List.replicate n ks).flatten) none
   |none=>none
  |_=>none
where leafsF (f:TypeId→Option (List Kd)):Nat→List Field→Option (List Kd)
 |_,[]=>some []
 | o, g :: gs => match f g.type, (P.info? g.type).isSome, Nat.beq g.offset o, g.name == "_" with
  |some ks,true,true,false=>cond (Nat.beq (P.cellsOf g.type) ks.length&&Nat.blt 0 ks.length) (match leafsF f (o+ks.length) gs with
   |some r=>some (ks++r)
   |none=>none) none
  |_,_,_,_=>none
def XA:Kd→Value→Bool
 |.int k,.int j _=>kb k j
 |.bool,.bool _=>true
 |_,_=>false
def qz:List Kd→List Value→Bool
 |[],[]=>true
 |k::ks,v::vs=>XA k v&&qz ks vs
 |_,_=>false
def eq1:Value→Value→Bool
 |.int _ a,.int _ b=>a==b
 |.bool a,.bool b=>a==b
 |_,_=>false
def eqC:List Value→List Value→Bool
 |v::vs,u::us=>eq1 v u&&eqC vs us
 |_,_=>true
theorem jr:∀{ks:List Kd} {vs:List Value},qz ks vs=true→vs.length=ks.length
 |[],[],_=>rfl
 |k::ks,v::vs,h=>by
  simp only [qz,Bool.and_eq_true] at h
  simp [jr h.2]
 |[],_::_,h=>by simp [qz] at h
 |_::_,[],h=>by simp [qz] at h
theorem KP:∀{ks qs:List Kd} {vs:List Value},qz (ks++qs) vs=true→qz ks (vs.take ks.length)=true∧qz qs (vs.drop ks.length)=true
 |[],qs,vs,h=>by simpa [qz] using h
 |k::ks,qs,v::vs,h=>by
  simp only [List.cons_append,qz,Bool.and_eq_true] at h
  have:=KP h.2
  simp only [List.length_cons,List.take_succ_cons,List.drop_succ_cons,qz,Bool.and_eq_true]
  exact ⟨⟨h.1,this.1⟩,this.2⟩
 |k::ks,qs,[],h=>by simp [qz] at h
theorem zjY:∀{a b c d:List Value},a.length=c.length→eqC (a++b) (c++d)=(eqC a c&&eqC b d)
 |[],b,[],d,_=>by simp [eqC]
 |v::a,b,u::c,d,h=>by
  simp only [List.cons_append,eqC,zjY (a:=a) (c:=c) (by simpa using h),Bool.and_assoc]
 |[],_,_::_,_,h=>by simp at h
 |_::_,_,[],_,h=>by simp at h
theorem zrz {a b:List Value} (h:a=[]∨b=[]):eqC a b=true:=by
 rcases h with rfl|rfl
 ·simp [eqC]
 ·cases a<;>simp [eqC]
def qZ (P:Program) (t:TypeId):Bool:=match P.underlying t with
 |some (.struct _)=>true
 |some (.array _ _)=>true
 |_=>false
def YH (P:Program) (t:TypeId) (cs:List Value):Value:=if qZ P t then .agg cs.toArray else cs.headD undef
theorem zcv {P:Program} {t:TypeId} {d:TypeDesc} (h:P.underlying t=some d) (w:World):(isAgg t).run P w=.ok (qZ P t) w:=by
 unfold isAgg qZ
 simp only [Sem.run_bind,run_underlying h,Result.andThen_ok,h]
 cases d<;>rfl
theorem js {P:Program} {t:TypeId} {i:TypeInfo} (h:P.info? t=some i) (w:World):(sizeOf t).run P w=.ok i.size w:=by
 simp [sizeOf,typeInfo,h]
theorem zaM {P:Program} {t:TypeId} {i:TypeInfo} (h:P.info? t=some i):P.cellsOf t=i.size:=by simp [Program.cellsOf,h]
theorem J1 {P:Program} {t:TypeId} {d:TypeDesc} {i:TypeInfo} (hu:P.underlying t=some d) (hi:P.info? t=some i) (cs:List Value) (off:Nat) (hl:off+i.size≤cs.length) (h1:qZ P t=false→i.size=1) (w:World) :
  (part t cs.toArray off).run P w=.ok (YH P t ((cs.drop off).take i.size)) w:=by
 unfold part YH
 simp only [Sem.run_bind,zcv hu,Result.andThen_ok]
 cases ha:qZ P t with
 |true =>
  simp only [if_true,Sem.run_bind,js hi,Result.andThen_ok]
  simp [List.drop_take]
 |false =>
  have h1':=h1 ha
  have hlt:off<cs.length:=by omega
  simp only [Bool.false_eq_true,if_false,h1']
  simp [hlt,List.head?_take,List.head?_drop,List.headD_eq_head?_getD]
theorem zaf {P:Program} {d:Nat} {t:TypeId} {ks:List Kd} (h:Kf P d t=some ks):(qZ P t=false→ks.length=1)∧∃u,P.underlying t=some u:=by
 cases d with
 |zero=>simp [Kf] at h
 |succ d =>
  simp only [Kf] at h
  unfold qZ
  split at h
  ·rename_i k hu
   cases hb:Nat.beq (P.cellsOf t) 1<;>simp [hb] at h
   subst h
   exact ⟨fun _=>rfl,_,hu⟩
  ·rename_i hu
   cases hb:Nat.beq (P.cellsOf t) 1<;>simp [hb] at h
   subst h
   exact ⟨fun _=>rfl,_,hu⟩
  ·rename_i fs hu
   rw [hu]
   exact ⟨fun hf=>by simp at hf,_,rfl⟩
  ·rename_i n e hu
   rw [hu]
   exact ⟨fun hf=>by simp at hf,_,rfl⟩
  ·cases h
theorem zoL {P:Program} (w:World):∀(d:Nat) (t:TypeId) (ks:List Kd),Kf P d t=some ks→∀(cs ds:List Value),qz ks cs=true→qz ks ds=true→∀d',d≤d' →
  (Op.equalIn d' t (YH P t cs) (YH P t ds)).run P w=.ok (eqC cs ds) w:=by
 intro d
 induction d with
 |zero=>intro t ks h;simp [Kf] at h
 |succ d ih =>
  intro t ks h cs ds hc hd d' hd'
  obtain ⟨e',rfl⟩:∃e',d'=e'+1:=⟨d'-1,by omega⟩
  simp only [Kf] at h
  split at h
  ·rename_i k hu
   cases hb:Nat.beq (P.cellsOf t) 1<;>simp [hb] at h
   subst h
   obtain ⟨v,rfl⟩:∃v,cs=[v]:=List.length_eq_one_iff.1 (jr hc)
   obtain ⟨u,rfl⟩:∃v,ds=[v]:=List.length_eq_one_iff.1 (jr hd)
   have ha:qZ P t=false:=by simp [qZ,hu]
   cases v<;>simp [qz,XA] at hc
   cases u<;>simp [qz,XA] at hd
   rw [←zaY hc,←zaY hd]
   simp only [YH,ha,Bool.false_eq_true,if_false,List.headD_cons,eqC,eq1,Bool.and_true]
   exact run_equalIn_int w e' t _ _ _ _ hu
  ·rename_i hu
   cases hb:Nat.beq (P.cellsOf t) 1<;>simp [hb] at h
   subst h
   obtain ⟨v,rfl⟩:∃v,cs=[v]:=List.length_eq_one_iff.1 (jr hc)
   obtain ⟨u,rfl⟩:∃v,ds=[v]:=List.length_eq_one_iff.1 (jr hd)
   have ha:qZ P t=false:=by simp [qZ,hu]
   cases v<;>simp [qz,XA] at hc
   cases u<;>simp [qz,XA] at hd
   simp only [YH,ha,Bool.false_eq_true,if_false,List.headD_cons,eqC,eq1,Bool.and_true]
   exact run_equalIn_bool' w e' t _ _ hu
  ·rename_i fs hu
   cases hs:P.stoodInHeld t<;>simp [hs] at h
   have ha:qZ P t=true:=by simp [qZ,hu]
   simp only [YH,ha,if_true]
   have hf:P.fieldsOf t=fs:=by simp [Program.fieldsOf,hu]
   rw [run_equalIn_struct (P:=P) w e' t _ _ (by rw [hf];exact hu) hs,hf]
   have key:∀(gs:List Field) (o:Nat) (qs:List Kd),Kf.leafsF P (Kf P d) o gs=some qs→qz qs (cs.drop o)=true→qz qs (ds.drop o)=true →
     (Op.eqFields e' cs.toArray ds.toArray gs).run P w=.ok (eqC (cs.drop o) (ds.drop o)) w:=by
    intro gs
    induction gs with
    |nil =>
     intro o qs hq h1 h2
     simp only [Kf.leafsF,Option.some.injEq] at hq
     subst hq
     have h1':cs.drop o=[]:=List.eq_nil_of_length_eq_zero (jr h1)
     rw [h1',zrz (.inl rfl)]
     simp [Op.eqFields]
    |cons g gs ihg =>
     intro o qs hq h1 h2
     simp only [Kf.leafsF] at hq
     split at hq
     ·rename_i ks' hl hsome hoff hname
      cases hsz':Nat.beq (P.cellsOf g.type) ks'.length&&Nat.blt 0 ks'.length<;>simp only [hsz',cond] at hq
      ·cases hq
      have hsz:=(Bool.and_eq_true _ _ ▸ hsz').1
      have hpos:0<ks'.length:=by have:=(Bool.and_eq_true _ _ ▸ hsz').2;simp only [Nat.blt,Nat.ble_eq] at this;omega
      split at hq
      ·rename_i r hr
       simp only [Option.some.injEq] at hq
       subst hq
       obtain ⟨i,hi⟩:=Option.isSome_iff_exists.1 hsome
       have hisz:i.size=ks'.length:=by rw [←zaM hi];exact Nat.eq_of_beq_eq_true hsz
       have hoff':g.offset=o:=Nat.eq_of_beq_eq_true hoff
       obtain ⟨hsc,u,hu'⟩:=zaf hl
       have hlen1:=jr h1
       have hlen2:=jr h2
       rw [List.length_append,List.length_drop] at hlen1 hlen2
       have m1:=KP h1
       have m2:=KP h2
       rw [List.drop_drop] at m1 m2
       have p1:=J1 hu' hi cs o (by omega) (fun hf=>by rw [hisz];exact hsc hf) w
       have p2:=J1 hu' hi ds o (by omega) (fun hf=>by rw [hisz];exact hsc hf) w
       rw [hisz] at p1 p2
       have he:=ih g.type ks' hl _ _ m1.1 m2.1 e' (by omega)
       have hrest:=ihg (o+ks'.length) r hr m1.2 m2.2
       have hn' : g.name ≠ "_" := by simpa using hname
       rw [Op.eqFields]
       simp only [if_pos hn',Sem.run_bind,hoff',p1,p2,he,Result.andThen_ok]
       have hsplit:eqC (cs.drop o) (ds.drop o)=(eqC ((cs.drop o).take ks'.length) ((ds.drop o).take ks'.length)&&eqC (cs.drop (o+ks'.length)) (ds.drop (o+ks'.length))):=by
        rw [←zjY (by rw [List.length_take,List.length_take,List.length_drop,List.length_drop];omega)]
        rw [←List.drop_drop,←List.drop_drop,List.take_append_drop,List.take_append_drop]
       rw [hsplit]
       cases eqC ((cs.drop o).take ks'.length) ((ds.drop o).take ks'.length)
       ·simp
       ·simpa using hrest
      ·cases hq
     ·cases hq
   simpa using key fs.toList 0 ks h (by simpa using hc) (by simpa using hd)
  ·rename_i n e hu
   split at h
   ·rename_i ks' hl
    cases hb:Nat.beq (P.cellsOf e) ks'.length&&(P.info? e).isSome<;>simp [hb] at h
    subst h
    have hb':Nat.beq (P.cellsOf e) ks'.length=true∧(P.info? e).isSome=true:=by simpa using hb
    obtain ⟨i,hi⟩:=Option.isSome_iff_exists.1 hb'.2
    have hisz:i.size=ks'.length:=by rw [←zaM hi];exact Nat.eq_of_beq_eq_true hb'.1
    obtain ⟨hsc,u,hu'⟩:=zaf hl
    have ha:qZ P t=true:=by simp [qZ,hu]
    simp only [YH,ha,if_true]
    rw [run_equalIn_array w e' cs.toArray ds.toArray hu hi,zaM hi,hisz]
    have key:∀(q o:Nat),qz (List.replicate q ks').flatten (cs.drop (o*ks'.length))=true→qz (List.replicate q ks').flatten (ds.drop (o*ks'.length))=true →
      (Op.eqItems e' e ks'.length cs.toArray ds.toArray ((List.range q).map (·+o))).run P w=.ok (eqC (cs.drop (o*ks'.length)) (ds.drop (o*ks'.length))) w:=by
     intro q
     induction q with
     |zero =>
      intro o h1 h2
      have h1':cs.drop (o*ks'.length)=[]:=List.eq_nil_of_length_eq_zero (by simpa using jr h1)
      rw [h1',zrz (.inl rfl)]
      simp [Op.eqItems]
     |succ q ihq =>
      intro o h1 h2
      rw [List.replicate_succ,List.flatten_cons] at h1 h2
      have hlen1:=jr h1
      have hlen2:=jr h2
      rw [List.length_append,List.length_drop] at hlen1 hlen2
      have m1:=KP h1
      have m2:=KP h2
      have ho:o*ks'.length+ks'.length=(o+1)*ks'.length:=by rw [Nat.add_mul,Nat.one_mul]
      rw [List.drop_drop,ho] at m1 m2
      have hle1:o*ks'.length+i.size≤cs.length:=by
       rcases Nat.eq_zero_or_pos ks'.length with hz|hz
       ·rw [hisz,hz];simp
       ·omega
      have hle2:o*ks'.length+i.size≤ds.length:=by
       rcases Nat.eq_zero_or_pos ks'.length with hz|hz
       ·rw [hisz,hz];simp
       ·omega
      have p1:=J1 hu' hi cs (o*ks'.length) hle1 (fun hf=>by rw [hisz];exact hsc hf) w
      have p2:=J1 hu' hi ds (o*ks'.length) hle2 (fun hf=>by rw [hisz];exact hsc hf) w
      rw [hisz] at p1 p2
      have he:=ih e ks' hl _ _ m1.1 m2.1 e' (by omega)
      have hrest:=ihq (o+1) m1.2 m2.2
      have hr:(List.range (q+1)).map (·+o)=o::(List.range q).map (·+(o+1)):=by
       rw [List.range_succ_eq_map,List.map_cons,List.map_map,Nat.zero_add]
       congr 1
       apply List.map_congr_left
       intro a _
       simp
       omega
      rw [hr,Op.eqItems]
      simp only [Sem.run_bind,p1,p2,he,Result.andThen_ok]
      have hsplit:eqC (cs.drop (o*ks'.length)) (ds.drop (o*ks'.length))=(eqC ((cs.drop (o*ks'.length)).take ks'.length) ((ds.drop (o*ks'.length)).take ks'.length)&&eqC (cs.drop ((o+1)*ks'.length)) (ds.drop ((o+1)*ks'.length))):=by
       rw [←zjY (by rw [List.length_take,List.length_take,List.length_drop,List.length_drop];omega)]
       rw [←ho,←List.drop_drop,←List.drop_drop,List.take_append_drop,List.take_append_drop]
      rw [hsplit]
      cases eqC ((cs.drop (o*ks'.length)).take ks'.length) ((ds.drop (o*ks'.length)).take ks'.length)
      ·simp
      ·simpa using hrest
    have:=key n 0 (by simpa using hc) (by simpa using hd)
    simpa using this
   ·cases h
  ·cases h
def ksB:List Kd→List Kd→Bool
 |[],[]=>true
 |a::r,b::q=>Kd.beq a b&&ksB r q
 |_,_=>false
theorem zuP:∀{l r:List Kd},ksB l r=true→l=r
 |[],[],_=>rfl
 |a::l,b::r,h=>by
  simp only [ksB,Bool.and_eq_true] at h
  rw [Kd.eq_of_beq h.1,zuP h.2]
 |[],_::_,h=>by simp [ksB] at h
 |_::_,[],h=>by simp [ksB] at h
def kdB (i:TI) (z:Value):Bool:=match i.kd with
 |none=>true
 |some κ=>Nat.beq κ.size i.size&&Nat.blt 0 i.bytes&&Nat.ble i.bytes 32768&&zT κ z.cells.toList
def zAE (P:Program) (t:TypeId) (i:TI):Bool:=match i.eq with
 |none=>true
 |some ks=>qZ P t&&!(P.eqGuardType P.depth t)&&(match Kf P 8 t with
  |some qs=>ksB qs ks
  |none=>false)
def znJ (P:Program) (t:TypeId):Bool:=match P.underlying t with
 |some (.struct fs)=>fs.toList.all fun f=>(P.info? f.type).isSome
 |_=>true
def zvB (i:TI) (z:Value):Bool:=i.d.agg||(match z with
 |.agg _=>false
 |_=>true)
def tiB (P:Program) (t:TypeId) (i:TI):Bool:=match P.info? t with
 |none=>false
 |some f=>match f.zero with
  |none=>false
  |some z=>Nat.beq f.size i.size&&Nat.beq f.bytes i.bytes&&zL i.zero z.cells.toList&&Nat.beq z.cells.size i.size&&kdB i z&&YP (P.underlying t) i.d&&zAE P t i&&(i.d.agg||Nat.beq i.size 1)&&znJ P t&&zvB i z
structure zqB (P:Program) (t:TypeId) (i:TI):Prop where
 info:∃f z,P.info? t=some f∧f.zero=some z∧f.size=i.size∧f.bytes=i.bytes∧(∀Γ,zq Γ i.zero z.cells.toList)∧z.cells.size=i.size ∧
  ∀κ,i.kd=some κ→κ.size=i.size∧0<i.bytes∧i.bytes≤32768∧∀w R,qd w R κ κ.dflt z.cells.toList
 desc:YP (P.underlying t) i.d=true
 eq:∀ks,i.eq=some ks→qZ P t=true∧P.eqGuardType P.depth t=false∧Kf P 8 t=some ks
 one:i.d.agg=false→i.size=1
 fields:znJ P t=true
 zval:i.d.agg=false→∀f z,P.info? t=some f→f.zero=some z→z.cells.toList=[z]
theorem zwt {P:Program} {t:TypeId} {i:TI} (h:tiB P t i=true):zqB P t i:=by
 unfold tiB at h
 split at h
 ·cases h
 ·rename_i f hf
  split at h
  ·cases h
  ·rename_i z hz
   simp only [Bool.and_eq_true] at h
   obtain ⟨⟨⟨⟨⟨⟨⟨⟨⟨h1,h2⟩,h3⟩,h4⟩,h5⟩,h6⟩,h7⟩,h8⟩,h9'⟩,hzv⟩:=h
   refine ⟨⟨f,z,hf,hz,Nat.eq_of_beq_eq_true h1,Nat.eq_of_beq_eq_true h2,fun Γ=>zv9 h3,Nat.eq_of_beq_eq_true h4,fun κ hκ=>?_⟩,h6,fun ks hks=>?_,fun ha=>?_,h9',fun ha f' z' hf' hz'=>?_⟩
   ·unfold kdB at h5
    rw [hκ] at h5
    simp only [Bool.and_eq_true] at h5
    exact ⟨Nat.eq_of_beq_eq_true h5.1.1.1,by have:=h5.1.1.2;simp only [Nat.blt,Nat.ble_eq] at this;omega,Nat.le_of_ble_eq_true h5.1.2,fun w R=>zqV h5.2⟩
   ·unfold zAE at h7
    rw [hks] at h7
    simp only [Bool.and_eq_true,Bool.not_eq_true'] at h7
    obtain ⟨⟨h7,h9⟩,h10⟩:=h7
    split at h10
    ·rename_i qs hq
     rw [hq,zuP h10]
     exact ⟨h7,h9,rfl⟩
    ·cases h10
   ·rw [ha,Bool.false_or] at h8
    exact Nat.eq_of_beq_eq_true h8
   ·rw [hf] at hf'
    injection hf' with hf'
    subst hf'
    rw [hz] at hz'
    injection hz' with hz'
    subst hz'
    unfold zvB at hzv
    rw [ha,Bool.false_or] at hzv
    cases z<;>first|rfl|(cases hzv)
def zaX (P:Program) (fid:Nat) (us:List Value) (w:World) (R:Value→World→Prop):Prop :=
 ((callFunc fid us.toArray).run P w=.ok (.enter fid us.toArray) w∧Calls P fid us.toArray w fun e w'=>∃v,e=.returned v∧R v w') ∨
 ∃v w',(callFunc fid us.toArray).run P w=.ok (.value v) w'∧R v w'
def zsh (P:Program) (fid:Nat) (e:Kd) (t:Nat):Prop :=
 ∀(xs:List e.T),0<List.length (α:=e.T) xs→List.length (α:=e.T) xs<4294967296→∀(w:World) (R:Nat→Prop) (u:Value),(∀b,R b→b<w.heap.size)→qd w R (.sl e) xs [u] →
  zaX P fid [u] w fun u' w'=>(Below w.heap.size w w'∧w.drawn≤w'.drawn)∧w'.ownsRow w.heap.size t e.size u' (List.length (α:=e.T) xs) (xs.flatMap e.vs)
def Yz (P:Program) (tb:Tb):Prop:=(∀t,tb.at t=XV∨zqB P t (tb.at t))∧∀f t e,tb.cln f=some t→(tb.at t).kd=some e→zsh P f e t
def noB:TI→Bool
 |⟨.other,0,0,[],none,none⟩=>true
 |_=>false
theorem zz1 {i:TI} (h:noB i=true):i=XV:=by
 unfold noB at h
 split at h
 ·rfl
 ·cases h
def tbB (P:Program):Tb→Bool
 |[]=>true
 |(t,i)::r=>(noB i||tiB P t i)&&tbB P r
theorem zpR {P:Program}:∀{tb:Tb},tbB P tb=true→∀t,tb.at t=XV∨zqB P t (tb.at t)
 |[],_,t=>.inl rfl
 |(u,i)::r,h,t=>by
  simp only [tbB,Bool.and_eq_true] at h
  simp only [Tb.at]
  cases hb:Nat.beq u t with
  |true =>
   have:=Nat.eq_of_beq_eq_true hb
   subst this
   rcases Bool.or_eq_true _ _ ▸ h.1 with h1|h1
   ·exact .inl (zz1 h1)
   ·exact .inr (zwt h1)
  |false=>exact zpR h.2 t
def Tb.clns:Tb→List (Nat×Nat)
 |[]=>[]
 |(t,_)::r=>cond (Nat.ble 2000000000 t) (((t-2000000000) / 1000,(t-2000000000) % 1000)::Tb.clns r) (Tb.clns r)
theorem zj1:∀{tb:Tb} {f t:Nat},tb.cln f=some t→(f,t)∈tb.clns
 |[],f,t,h=>by cases h
 |(u,i)::r,f,t,h=>by
  simp only [Tb.cln] at h
  simp only [Tb.clns]
  cases hb:Nat.ble 2000000000 u with
  |false =>
   rw [hb] at h
   exact zj1 h
  |true =>
   rw [hb] at h
   simp only [Bool.true_and] at h
   cases hq:Nat.beq ((u-2000000000) / 1000) f with
   |true =>
    rw [hq] at h
    simp only [cond,Option.some.injEq] at h
    rw [←Nat.eq_of_beq_eq_true hq,←h]
    exact List.mem_cons_self
   |false =>
    rw [hq] at h
    exact List.mem_cons_of_mem _ (zj1 h)
def noC:List (Nat×Nat)→Bool
 |[]=>true
 |_=>false
theorem ztR {P:Program} {tb:Tb} (h:(tbB P tb&&noC tb.clns)=true):Yz P tb:=by
 rw [Bool.and_eq_true] at h
 refine ⟨zpR h.1,fun f t e hc _=>?_⟩
 have:=zj1 hc
 cases hl:tb.clns with
 |nil=>rw [hl] at this;cases this
 |cons a l=>rw [hl] at h;cases h.2
def zAD (f t:Nat):List (Nat×Nat)→Bool
 |[(g,u)]=>Nat.beq f g&&Nat.beq t u
 |_=>false
theorem zyl {P:Program} {tb:Tb} {f t:Nat} {e:Kd} (h:(tbB P tb&&zAD f t tb.clns)=true) (he:(tb.at t).kd=some e) (hc:zsh P f e t):Yz P tb:=by
 rw [Bool.and_eq_true] at h
 refine ⟨zpR h.1,fun f' t' e' hf hk=>?_⟩
 have hm:=zj1 hf
 have h2:=h.2
 cases hl:tb.clns with
 |nil=>rw [hl] at hm;cases hm
 |cons a l =>
  cases l with
  |cons b l=>rw [hl] at h2;cases h2
  |nil =>
   rw [hl] at h2 hm
   obtain ⟨g,u⟩:=a
   simp only [zAD,Bool.and_eq_true] at h2
   have e1:=Nat.eq_of_beq_eq_true h2.1
   have e2:=Nat.eq_of_beq_eq_true h2.2
   simp only [List.mem_singleton,Prod.mk.injEq] at hm
   obtain ⟨m1,m2⟩:=hm
   subst e1 e2 m1 m2
   rw [he] at hk
   injection hk with hk
   subst hk
   exact hc
end Go.Proofs.YtpkkcjmblocjdaaGreat.AM
end
section
namespace Go.Proofs.YtpkkcjmblocjdaaGreat.AM
open Go.RowKit
def zaN (P:Program) (B:Nat) (w0:World) (Γ:Gh) (x:Sem Value) (v:AV) (m':Mem):Prop :=
 ∃Γ' u,Ext B Γ Γ'∧zt B w0 Γ' m'∧zf Γ' v u∧x.run P Γ.w=.ok u Γ'.w
theorem zaN.same {P:Program} {B:Nat} {w0:World} {Γ:Gh} {m:Mem} (M:zt B w0 Γ m) {x:Sem Value} {v:AV} {u:Value} (h:zf Γ v u) (hr:x.run P Γ.w=.ok u Γ.w):zaN P B w0 Γ x v m :=
 ⟨Γ,u,Ext.refl B Γ,M,h,hr⟩
theorem zn {v v':AV} {m m':Mem} (h:zM v m=some (v',m')):v'=v∧m'=m:=by
 unfold zM at h
 injection h with h
 injection h with h1 h2
 exact ⟨h1.symm,h2.symm⟩
theorem zm {α:Type} {b:Bool} {x:Option α} {y:α} (h:cond b x none=some y):b=true∧x=some y:=by
 cases b
 ·cases h
 ·exact ⟨rfl,h⟩
theorem jb {α:Type} {b:Bool} {x:Option α} {y:α} (h:gd b x=some y):b=true∧x=some y:=zm h
theorem zo4 {Γ:Gh} {a:AV} {v:Value} (hs:ztI a=true) (h:zf Γ a v):v.oneCell'=true∧v.cells=#[v]:=by
 cases a<;>simp only [ztI,Bool.false_eq_true] at hs<;>simp only [zf] at h
 ·subst h;exact ⟨rfl,rfl⟩
 ·subst h;exact ⟨rfl,rfl⟩
 ·subst h;exact ⟨rfl,rfl⟩
 ·subst h;exact ⟨rfl,rfl⟩
 ·simp only [qd] at h
  obtain ⟨A,c,h,_⟩:=h
  obtain rfl:=List.cons.inj h |>.1
  exact ⟨rfl,rfl⟩
 ·rcases h with ⟨_,⟨_,rfl⟩|⟨g,c,rfl⟩⟩<;>exact ⟨rfl,rfl⟩
 ·obtain ⟨b,_,rfl⟩:=h;exact ⟨rfl,rfl⟩
 ·obtain ⟨ad,us,rfl,_⟩:=h;exact ⟨rfl,rfl⟩
 ·obtain ⟨g,n,c,_,_,rfl⟩:=h;exact ⟨rfl,rfl⟩
 ·obtain ⟨us,vs,rfl,_⟩:=h;exact ⟨rfl,rfl⟩
 ·obtain ⟨b,_,rfl⟩:=h;exact ⟨rfl,rfl⟩
 ·simp only [qd] at h
  rcases h with ⟨h,_⟩|⟨b,es,cl,h,_⟩ <;>
  ·obtain rfl:=List.cons.inj h |>.1
   exact ⟨rfl,rfl⟩
 ·subst h;exact ⟨rfl,rfl⟩
 ·obtain ⟨b,_,rfl⟩:=h;exact ⟨rfl,rfl⟩
theorem zrU {Γ:Gh}:∀{cs:List AV} {vs:List Value},cs.all ztI=true→zq Γ cs vs→∀u∈vs,u.oneCell'=true
 |[],_,_,h=>by simp only [zq] at h;subst h;simp
 |c::cs,_,hs,h=>by
  simp only [zq] at h
  obtain ⟨v,vs,rfl,h1,h2⟩:=h
  simp only [List.all_cons,Bool.and_eq_true] at hs
  intro u hu
  rcases List.mem_cons.1 hu with rfl|hu
  ·exact (zo4 hs.1 h1).1
  ·exact zrU hs.2 h2 u hu
theorem zcT {Γ:Gh} {x:AV} {v:Value} {cs:List AV} (h:zgw x=some cs) (hv:zf Γ x v):zq Γ cs v.cells.toList∧(∀u∈v.cells.toList,u.oneCell'=true)∧cs.all ztI=true:=by
 unfold zgw at h
 split at h
 ·rename_i ds
  obtain ⟨hs,h⟩:=zm h
  injection h with h
  subst h
  simp only [zf] at hv
  obtain ⟨vs,rfl,hv⟩:=hv
  have:(Value.agg vs.toArray).cells.toList=vs:=rfl
  rw [this]
  exact ⟨hv,zrU hs hv,hs⟩
 ·obtain ⟨hs,h⟩:=zm h
  injection h with h
  subst h
  obtain ⟨h1,h2⟩:=zo4 hs hv
  rw [h2]
  refine ⟨zq.one.2 ⟨v,rfl,hv⟩,fun u hu=>?_,by simp [hs]⟩
  obtain rfl:u=v:=by simpa using hu
  exact h1
theorem jW {P:Program} {tb:Tb} (HT:Yz P tb) {t:Nat} (h:(tb.at t).d.ok=true):zqB P t (tb.at t):=by
 rcases HT.1 t with h'|h'
 ·rw [h'] at h;cases h
 ·exact h'
theorem Yu {P:Program} {tb:Tb} (HT:Yz P tb) {t:Nat} (h:0<(tb.at t).size):zqB P t (tb.at t):=by
 rcases HT.1 t with h'|h'
 ·rw [h'] at h;exact absurd h (Nat.lt_irrefl 0)
 ·exact h'
theorem ZX:∀e:Kd,0<e.size
 |.int _=>Nat.one_pos
 |.bool=>Nat.one_pos
 |.str=>Nat.one_pos
 |.pair a b=>Nat.add_pos_left (ZX a) _
 |.sl _=>Nat.one_pos
 |.mp _ _=>Nat.one_pos
theorem zmb {P:Program} {tb:Tb} (HT:Yz P tb) {t:Nat} {κ:Kd} (h:(tb.at t).kd=some κ):zqB P t (tb.at t):=by
 rcases HT.1 t with h'|h'
 ·rw [h'] at h;cases h
 ·exact h'
theorem J8 {P:Program} {t e:Nat} (h:YP (P.underlying t) (.sl e)=true):P.underlying t=some (.slice e):=by
 unfold YP at h
 split at h<;>simp_all
theorem zaO {P:Program} {t n e:Nat} (h:YP (P.underlying t) (.arr n e)=true):P.underlying t=some (.array n e):=by
 unfold YP at h
 split at h<;>simp_all
theorem zot {P:Program} {t:Nat} {l:List (Nat×Nat)} (h:YP (P.underlying t) (.st l)=true):∃fs,P.underlying t=some (.struct fs)∧(fs.toList.map fun f=>(f.offset,f.type))=l:=by
 unfold YP at h
 split at h<;>simp_all
 exact zwg h
theorem zuk {P:Program} {t:Nat} {k:IntKind} (h:YP (P.underlying t) (.int k)=true):P.underlying t=some (.int k):=by
 unfold YP at h
 split at h<;>simp_all
 exact zaY h
theorem zmd {P:Program} {t:Nat} (h:YP (P.underlying t) .bool=true):P.underlying t=some .bool:=by
 unfold YP at h
 split at h<;>simp_all
theorem ziO {P:Program} {t:Nat} {d:TD} (h:YP (P.underlying t) d=true):∃u,P.underlying t=some u∧qZ P t=d.agg:=by
 unfold YP at h
 unfold qZ
 split at h<;>simp_all [TD.agg]
theorem zen {P:Program} {tb:Tb} (HT:Yz P tb) {Γ:Gh} {t off:Nat} {cs:List AV} {vs:List Value} {v:AV} (h:zao (tb.at t) off cs=some v) (hr:zq Γ cs vs) :
  ∃u f,zf Γ v u∧P.info? t=some f∧((qZ P t=true∧off+f.size≤vs.length∧u=.agg ((vs.drop off).take f.size).toArray)∨(qZ P t=false∧vs[off]?=some u))∧∃d,P.underlying t=some d:=by
 unfold zao at h
 cases ha:(tb.at t).d.agg with
 |true =>
  rw [ha] at h
  obtain ⟨hle,h⟩:=zm h
  injection h with h
  subst h
  have ok:(tb.at t).d.ok=true:=by cases hd:(tb.at t).d<;>simp_all [TD.agg,TD.ok]
  obtain ⟨⟨f,z,hf,_,hs,_⟩,hdesc,_,_⟩:=jW HT ok
  obtain ⟨u,hu,hag⟩:=ziO hdesc
  have hlen:=hr.len
  refine ⟨_,f,by simp only [zf];exact ⟨_,rfl,(hr.drop off).take _⟩,hf,.inl ⟨hag.trans ha,?_,by rw [hs]⟩,u,hu⟩
  rw [hs,hlen]
  exact Nat.le_of_ble_eq_true hle
 |false =>
  rw [ha] at h
  obtain ⟨h1,h⟩:=zm (b:=Nat.beq (tb.at t).size 1) h
  obtain ⟨⟨f,z,hf,_,hs,_⟩,hdesc,_,_⟩:=Yu HT (t:=t) (by rw [Nat.eq_of_beq_eq_true h1];exact Nat.one_pos)
  obtain ⟨u,hu,hag⟩:=ziO hdesc
  obtain ⟨x,hx,hv⟩:=hr.at h
  exact ⟨x,f,hv,hf,.inr ⟨hag.trans ha,hx⟩,u,hu⟩
theorem znB {P:Program} {w:World} {t:TypeId} {d:TypeDesc} {f:TypeInfo} (hu:P.underlying t=some d) (hf:P.info? t=some f) (ha:qZ P t=true) (ad:Addr) (us:List Value) (hl:us.length=f.size) (hc:∀j u,us[j]?=some u→w.cell? (ad.add j)=some u) :
  (loadVar t ad).run P w=.ok (.agg us.toArray) w:=by
 unfold loadVar
 simp only [Sem.run_bind,zcv hu,Result.andThen_ok,ha,if_true,js hf]
 rw [←hl,run_loadCells_list w ad us hc]
 rfl
theorem znG {P:Program} {w:World} {t:TypeId} {d:TypeDesc} (hu:P.underlying t=some d) (ha:qZ P t=false) (ad:Addr) (u:Value) (hc:w.cell? ad=some u) :
  (loadVar t ad).run P w=.ok u w:=by
 unfold loadVar
 simp only [Sem.run_bind,zcv hu,Result.andThen_ok,ha,Bool.false_eq_true,if_false,run_load,hc]
theorem zfB {P:Program} {tb:Tb} (HT:Yz P tb) {Γ:Gh} {t off:Nat} {cs:List AV} {vs:List Value} {v:AV} (h:zao (tb.at t) off cs=some v) (hr:zq Γ cs vs) (ad:Addr) (hc:∀j u,vs[j]?=some u→Γ.w.cell? (ad.add j)=some u) :
  ∃u,zf Γ v u∧(loadVar t (ad.add off)).run P Γ.w=.ok u Γ.w:=by
 obtain ⟨u,f,hv,hf,hcase,d,hu⟩:=zen HT h hr
 refine ⟨u,hv,?_⟩
 rcases hcase with ⟨ha,hle,rfl⟩|⟨ha,hx⟩
 ·refine znB hu hf ha _ _ (by rw [List.length_take,List.length_drop];omega) fun j x hj=>?_
  rw [zhT]
  apply hc
  rw [List.getElem?_take] at hj
  split at hj
  ·rwa [List.getElem?_drop] at hj
  ·cases hj
 ·exact znG hu ha _ _ (hc off u hx)
theorem ztb (off:Nat) (vs cells:Array Value) (h:off+vs.size≤cells.size) :
  vs.zipIdx.foldl (fun cs (x:Value×Nat)=>cs.setIfInBounds (off+x.2) x.1) cells=(cells.toList.take off++vs.toList++cells.toList.drop (off+vs.size)).toArray:=by
 have e:vs.zipIdx.foldl (fun cs (x:Value×Nat)=>cs.setIfInBounds (off+x.2) x.1) cells=(vs.toList.zipIdx 0).foldl (fun cs (x:Value×Nat)=>cs.setIfInBounds (off+x.2) x.1) cells:=by
  rw [←Array.foldl_toList]
  simp
 rw [e]
 obtain ⟨h1,h2⟩:=Great.foldl_set off vs.toList 0 cells
 apply Array.ext_getElem?
 intro k
 rw [h2 k]
 simp only [Nat.add_zero,Array.length_toList,List.getElem?_toArray]
 by_cases hk:k<off
 ·rw [if_neg (by omega),List.append_assoc,List.getElem?_append_left (by simp;omega),List.getElem?_take,if_pos hk]
  simp
 ·by_cases hk2:k<off+vs.size
  ·rw [if_pos ⟨by omega,hk2,by omega⟩,List.append_assoc,List.getElem?_append_right (by simp;omega),List.getElem?_append_left (by simp;omega)]
   congr 1
   simp
   omega
  ·rw [if_neg (by omega),List.getElem?_append_right (by simp;omega),List.getElem?_drop]
   simp only [List.length_append,List.length_take,Array.length_toList]
   rw [show off+vs.size+(k-(min off cells.size+vs.size))=k by omega]
   simp
theorem zpH {w:World} {B:Nat} {t:TypeId} {s:Nat} {v:Value} {n:Nat} {cs:List Value} (h:w.ownsRow B t s v n cs):∃A c,v=.slice A n c:=by
 rcases h.2 with ⟨rfl,rfl⟩|⟨g,cap,cur,rfl,_⟩
 ·exact ⟨none,0,rfl⟩
 ·exact ⟨_,cap,rfl⟩
theorem zp4 {α:Type} (d:α) (xs:List α) (i:Int) (h:i.toNat<xs.length):xs[i.toNat]?=some (rdD d xs i):=by
 unfold rdD
 rw [List.getD_eq_getElem?_getD,List.getElem?_eq_getElem h]
 rfl
theorem zwC {B:Nat} {Γ:Gh} {a:ZF} {g n c:Nat} (hr:zbZ B Γ a (.slice (some ⟨g,0,none⟩) n c)) {i:Int} (hi:i.toNat<n) :
  n=a.xs.length∧∃us,qd Γ.w Γ.R a.e (rdD a.e.dflt a.xs i) us∧∀j u,us[j]?=some u→Γ.w.cell? ⟨g,i.toNat*a.e.size+j,none⟩=some u:=by
 obtain ⟨cs,ho,hR⟩:=hr.own
 obtain ⟨A,c',he⟩:=zpH ho
 injection he with _ hn _
 subst hn
 obtain ⟨us,hus,hc⟩:=hR _ _ (zp4 _ _ _ hi)
 refine ⟨rfl,us,hus,fun j u hj=>?_⟩
 have hjs:j<a.e.size:=by rw [←hus.len];exact (List.getElem?_eq_some_iff.1 hj).1
 have hle:i.toNat*a.e.size+j<a.xs.length*a.e.size:=by
  have:(i.toNat+1)*a.e.size≤a.xs.length*a.e.size:=Nat.mul_le_mul_right _ hi
  rw [Nat.add_mul,Nat.one_mul] at this
  omega
 rw [ho.cellAt _ hle]
 exact hc j u hj
section
variable {P:Program} {tb:Tb} (HT:Yz P tb) {B:Nat} {w0:World} {Γ:Gh} {m:Mem} (M:zt B w0 Γ m)
include M
theorem zx1 {c x y v:AV} {m':Mem} {vc vx vy:Value} (h:zmL m zM c x y=some (v,m')) (hc:zf Γ c vc) (hx:zf Γ x vx) (hy:zf Γ y vy) :
  m'=m∧∃b,vc=.bool b∧zf Γ v (if b then vx else vy):=by
 unfold zmL at h
 split at h
 ·rename_i b
  simp only [zf] at hc
  subst hc
  split at h
  ·obtain ⟨rfl,rfl⟩:=zn h
   simp only [zf] at hx hy
   subst hx
   subst hy
   refine ⟨rfl,b,rfl,?_⟩
   cases b<;>simp [zf,zAl]
  ·obtain ⟨hk,h⟩:=zm h
   obtain ⟨rfl,rfl⟩:=zn h
   simp only [zf] at hx hy
   subst hx
   subst hy
   rw [←zaY hk]
   refine ⟨rfl,b,rfl,?_⟩
   cases b<;>simp [zf,zAZ]
  ·cases b
   ·obtain ⟨rfl,rfl⟩:=zn h
    exact ⟨rfl,false,rfl,hy⟩
   ·obtain ⟨rfl,rfl⟩:=zn h
    exact ⟨rfl,true,rfl,hx⟩
 ·cases h
theorem zpJ {o:Oper} {cs:List AV} {v:AV} {m':Mem} {us:Array Value} (h:zcr o m zM cs=some (v,m')) (hr:zq Γ cs us.toList) (ty:TypeId) :
  zaN P B w0 Γ (do pure (.pointer (some (←newRow ty us)))) v m':=by
 unfold zcr at h
 split at h
 ·rename_i d hd
  obtain ⟨hn,h⟩:=zm h
  obtain ⟨rfl,rfl⟩:=zn h
  obtain ⟨M1,E1⟩:=M.addBox hn ty hr
  refine ⟨_,.pointer (some ⟨Γ.w.heap.size,0,none⟩),E1,M1,?_,?_⟩
  ·simp only [zf]
   exact ⟨_,zU _ _ _,rfl⟩
  ·rfl
 ·cases h
include HT
theorem zva {o:Oper} {t:Nat} {v:AV} {m':Mem} (h:cond (tb.at t).d.ok (zcr o m zM (tb.at t).zero) none=some (v,m')):zaN P B w0 Γ (Instr.alloc t true (.tuple #[])) v m':=by
 obtain ⟨ok,h⟩:=zm h
 obtain ⟨⟨f,z,hf,hz,_,_,hzr,_⟩,_⟩:=jW HT ok
 obtain ⟨Γ',u,E,M',hv,hr⟩:=zpJ (P:=P) M (us:=z.cells) h (hzr Γ) t
 refine ⟨Γ',u,E,M',hv,?_⟩
 rw [←hr]
 simp [Instr.alloc,zeroValue,typeInfo,hf,hz,newVar]
omit HT
theorem zy3 {o:Oper} {t:Nat} {x v:AV} {vx:Value} {m':Mem} (h:zoK o m zM t x=some (v,m')) (hx:zf Γ x vx):zaN P B w0 Γ (Instr.box t vx) v m':=by
 unfold zoK at h
 split at h
 ·rename_i cs hcs
  have:=zpJ (P:=P) M (us:=vx.cells) h (zcT hcs hx).1 t
  exact this
 ·cases h
include HT
theorem zyt {o:Oper} {t:Nat} {a v:AV} {va:Value} {m':Mem} (h:Kc tb o m zM t a=some (v,m')) (ha:zf Γ a va):m'=m∧∃u,zf Γ v u∧(Instr.loadAt t va).run P Γ.w=.ok u Γ.w:=by
 unfold Kc at h
 split at h
 ·rename_i id off
  split at h
  ·rename_i b hb
   split at h
   ·rename_i x hx
    obtain ⟨_,h⟩:=zm h
    obtain ⟨rfl,rfl⟩:=zn h
    simp only [zf] at ha
    obtain ⟨blk,hμ,rfl⟩:=ha
    obtain ⟨us,ty,hcell,hl⟩:=(M.boxAt hμ hb).cells
    obtain ⟨u,hu,hrun⟩:=zfB HT hx hl ⟨blk,0,none⟩ (fun j u hj=>by
     rw [jZ,cell_of_row Γ.w blk (0+j) us ty (0,0) hcell]
     simpa using hj)
    refine ⟨rfl,u,hu,?_⟩
    rw [jZ,Nat.zero_add] at hrun
    simp only [Instr.loadAt,Instr.sureAddr,Sem.run_bind,Sem.run_pure,Result.andThen_ok,hrun]
   ·cases h
  ·cases h
 ·rename_i cs
  split at h
  ·rename_i x hx
   obtain ⟨rfl,rfl⟩:=zn h
   simp only [zf] at ha
   obtain ⟨ad,us,rfl,hR,hp,hl,hc⟩:=ha
   obtain ⟨u,hu,hrun⟩:=zfB HT hx hl ad hc
   refine ⟨rfl,u,hu,?_⟩
   rw [Addr.add_zero'] at hrun
   simp only [Instr.loadAt,Instr.sureAddr,Sem.run_bind,Sem.run_pure,Result.andThen_ok,hrun]
  ·cases h
 ·rename_i id e0 i off
  split at h
  ·cases h
  ·rename_i e xs et st hd hrow
   split at h
   ·rename_i x hx
    obtain ⟨hok,h⟩:=zm h
    obtain ⟨rfl,rfl⟩:=zn h
    simp only [zf] at ha
    obtain ⟨g,n,c,hν,hi,rfl⟩:=ha
    have hsz:e0.size=e.size:=Nat.eq_of_beq_eq_true ((Bool.and_eq_true _ _).mp hok).1
    have hrr:=M.rowAt hν hrow (fun e'=>hd e')
    obtain ⟨hn,us,hus,hc⟩:=zwC hrr hi
    obtain ⟨u,hu,hrun⟩:=zfB HT hx hus.cells ⟨g,i.toNat*e.size,none⟩ (fun j u hj=>by rw [jZ];exact hc j u hj)
    refine ⟨rfl,u,hu,?_⟩
    rw [jZ] at hrun
    rw [hsz]
    simp only [Instr.loadAt,Instr.sureAddr,Sem.run_bind,Sem.run_pure,Result.andThen_ok,hrun]
   ·cases h
  ·cases h
 ·cases h
end
end Go.Proofs.YtpkkcjmblocjdaaGreat.AM
end
section
namespace Go.Proofs.YtpkkcjmblocjdaaGreat.AM
open Go.RowKit
section
variable {P:Program} {tb:Tb} (HT:Yz P tb) {B:Nat} {w0:World} {Γ:Gh} {m:Mem} (M:zt B w0 Γ m)
include HT
theorem zvG {t f off:Nat} (h:zur tb (tb.at t) f=some off):∃fs g i,P.underlying t=some (.struct fs)∧fs[f]?=some g∧g.offset=off∧P.info? g.type=some i∧i.size≠0:=by
 unfold zur at h
 split at h
 ·rename_i fs hd
  split at h
  ·rename_i o u hf
   obtain ⟨hpos,h⟩:=zm h
   injection h with h
   subst h
   have ok:=jW HT (t:=t) (by rw [hd];rfl)
   have hdesc:=ok.desc
   rw [hd] at hdesc
   obtain ⟨gs,hu,hl⟩:=zot hdesc
   rw [←hl] at hf
   rw [List.getElem?_map] at hf
   obtain ⟨g,hg,he⟩:=Option.map_eq_some_iff.1 hf
   simp only [Prod.mk.injEq] at he
   have hp:0<(tb.at u).size:=by simp only [Nat.blt,Nat.ble_eq] at hpos;omega
   obtain ⟨⟨i,z,hi,_,hs,_⟩,_⟩:=Yu HT hp
   refine ⟨gs,g,i,hu,by simpa using hg,he.1,by rw [he.2];exact hi,by omega⟩
  ·cases h
 ·cases h
omit HT in
theorem zfh {w:World} {t f:Nat} {fs:Array Field} {g:Field} {i:TypeInfo} (hu:P.underlying t=some (.struct fs)) (hg:fs[f]?=some g) (hi:P.info? g.type=some i) (hz:i.size≠0) (a:Addr) :
  (Instr.fieldAt t (.pointer (some a)) f).run P w=.ok (.pointer (some (a.add g.offset))) w:=by
 simp only [Instr.fieldAt,Sem.run_bind,run_underlying hu,Result.andThen_ok,hg,Instr.sureAddr,Sem.run_pure,fieldPlace,js hi,if_neg hz]
omit HT in
theorem zq.tail_cells {Γ:Gh} {cs:List AV} {us:List Value} {ad:Addr} (off:Nat) (hl:zq Γ cs us) (hc:∀j u,us[j]?=some u→Γ.w.cell? (ad.add j)=some u) :
  zq Γ (cs.drop off) (us.drop off)∧∀j u,(us.drop off)[j]?=some u→Γ.w.cell? ((ad.add off).add j)=some u :=
 ⟨hl.drop off,fun j u hj=>by rw [zhT];rw [List.getElem?_drop] at hj;exact hc _ _ hj⟩
omit HT in
theorem zpu {α:Type} {p:α→Bool} {l:List α} (n:Nat) (h:l.all p=true):(l.drop n).all p=true:=by
 rw [List.all_eq_true] at h ⊢
 exact fun x hx=>h x (List.mem_of_mem_drop hx)
theorem zoj {t f:Nat} {a v:AV} {va:Value} {m':Mem} (h:Xc tb m zM t a f=some (v,m')) (ha:zf Γ a va):m'=m∧∃u,zf Γ v u∧(Instr.fieldAt t va f).run P Γ.w=.ok u Γ.w:=by
 unfold Xc at h
 split at h
 ·rename_i off hoff
  obtain ⟨fs,g,i,hu,hg,rfl,hi,hz⟩:=zvG HT hoff
  split at h
  ·obtain ⟨rfl,rfl⟩:=zn h
   simp only [zf] at ha
   obtain ⟨b,hb,rfl⟩:=ha
   refine ⟨rfl,_,?_,zfh hu hg hi hz _⟩
   simp only [zf]
   exact ⟨b,hb,by rw [jZ]⟩
  ·obtain ⟨rfl,rfl⟩:=zn h
   simp only [zf] at ha
   obtain ⟨ad,us,rfl,hR,hp,hl,hc⟩:=ha
   refine ⟨rfl,_,?_,zfh hu hg hi hz _⟩
   simp only [zf]
   obtain ⟨h1,h2⟩:=zq.tail_cells g.offset hl hc
   exact ⟨_,_,rfl,by rw [J2];exact hR,zpu _ hp,h1,h2⟩
  ·obtain ⟨rfl,rfl⟩:=zn h
   simp only [zf] at ha
   obtain ⟨b,n,c,hν,hlt,rfl⟩:=ha
   refine ⟨rfl,_,?_,zfh hu hg hi hz _⟩
   simp only [zf]
   exact ⟨b,n,c,hν,hlt,by rw [jZ,Nat.add_assoc]⟩
  ·cases h
 ·cases h
theorem zu4 {t f:Nat} {x v:AV} {vx:Value} {m':Mem} (h:zij tb m zM t x f=some (v,m')) (hx:zf Γ x vx):m'=m∧∃u,zf Γ v u∧(Instr.field t vx f).run P Γ.w=.ok u Γ.w:=by
 unfold zij at h
 split at h
 ·rename_i fs cs hd
  split at h
  ·rename_i off u hf
   split at h
   ·rename_i y hy
    obtain ⟨rfl,rfl⟩:=zn h
    have hdesc:=(jW HT (t:=t) (by rw [hd];rfl)).desc
    rw [hd] at hdesc
    obtain ⟨gs,hu,hl⟩:=zot hdesc
    rw [←hl,List.getElem?_map] at hf
    obtain ⟨g,hg,he⟩:=Option.map_eq_some_iff.1 hf
    simp only [Prod.mk.injEq] at he
    obtain ⟨rfl,rfl⟩:=he
    have hg':gs[f]?=some g:=by simpa using hg
    simp only [zf] at hx
    obtain ⟨vs,rfl,hvs⟩:=hx
    obtain ⟨u',fi,hv,hi,hcase,d,hud⟩:=zen HT hy hvs
    refine ⟨rfl,u',hv,?_⟩
    simp only [Instr.field,Sem.run_bind,run_underlying hu,Result.andThen_ok,hg',asAgg,Sem.run_pure]
    unfold part
    simp only [Sem.run_bind,zcv hud,Result.andThen_ok]
    rcases hcase with ⟨ha,hle,rfl⟩|⟨ha,hx'⟩
    ·simp only [ha,if_true,Sem.run_bind,js hi,Result.andThen_ok]
     simp [List.drop_take]
    ·simp only [ha,Bool.false_eq_true,if_false]
     have:vs.toArray[g.offset]?=some u':=by simpa using hx'
     rw [this]
     rfl
   ·cases h
  ·cases h
 ·cases h
omit HT in
theorem zpi {i:Int} {n:Nat} (h:inb i n=true):0≤i∧i<(n:Int):=by
 unfold inb at h
 simpa using h
omit HT in
theorem zct {f:Nat→Option (AV×Mem)} {r:AV×Mem}:∀{n j:Nat} {i:Int},j0.ways n j i f=some r→∃q,q<n+j∧j≤q∧i=(q:Int)∧f q=some r
 |0,j,i,h=>by simp [j0.ways] at h
 |n+1,j,i,h=>by
  simp only [j0.ways,br] at h
  cases hb:eqI i (ofN j) with
  |true =>
   rw [hb] at h
   exact ⟨j,by omega,Nat.le_refl _,of_decide_eq_true hb,h⟩
  |false =>
   rw [hb] at h
   obtain ⟨q,h1,h2,h3,h4⟩:=zct h
   exact ⟨q,by omega,by omega,h3,h4⟩
theorem znM {t:Nat} {x i v:AV} {vx vi:Value} {m':Mem} (h:j0 tb m zM t x i=some (v,m')) (hx:zf Γ x vx) (hi:zf Γ i vi):m'=m∧∃u,zf Γ v u∧(Instr.indexAt t vx vi).run P Γ.w=.ok u Γ.w:=by
 unfold j0 at h
 split at h
 ·rename_i k i
  simp only [zf] at hi
  subst hi
  split at h
  ·rename_i et e xs hd
   obtain ⟨hsz,h⟩:=zm h
   obtain ⟨hin,h⟩:=jb h
   obtain ⟨rfl,rfl⟩:=zn h
   have hdesc:=(jW HT (t:=t) (by rw [hd];rfl)).desc
   rw [hd] at hdesc
   have hu:=J8 hdesc
   have hsz':(tb.at et).size=e.size:=Nat.eq_of_beq_eq_true hsz
   obtain ⟨⟨f,z,hf,_,hs,_⟩,_⟩:=Yu HT (t:=et) (by rw [hsz'];exact ZX e)
   obtain ⟨h0,h1⟩:=zpi hin
   simp only [zf,qd] at hx
   obtain ⟨A,c,hv,hc,hS⟩:=hx
   obtain rfl:=(List.cons.inj hv).1
   have hlt:i.toNat<xs.length:=by unfold Yc at h1;omega
   rcases hS with hS|⟨ad,rfl,hR,hcell⟩
   ·rw [hS] at hlt;simp at hlt
   ·obtain ⟨us,hus,hcl⟩:=hcell i.toNat _ (zp4 e.dflt xs i hlt)
    refine ⟨rfl,.pointer (some (ad.add (i.toNat*e.size))),?_,?_⟩
    ·simp only [zf]
     exact ⟨_,us,rfl,by rw [J2];exact hR,KO e _,hus.cells,fun j u hj=>by rw [zhT];exact hcl j u hj⟩
    ·have hlen:List.length (α:=e.T) xs=Yc xs:=rfl
     simp only [Instr.indexAt,Sem.run_bind,asIntOf,Sem.run_pure,run_underlying hu,Result.andThen_ok]
     rw [if_pos ⟨h0,by rw [hlen];exact h1⟩]
     simp only [Sem.run_bind,js hf,Result.andThen_ok,Sem.run_pure,hs,hsz']
  ·rename_i et id e n hd
   obtain ⟨hsz,h⟩:=zm h
   obtain ⟨hin,h⟩:=jb h
   obtain ⟨rfl,rfl⟩:=zn h
   have hdesc:=(jW HT (t:=t) (by rw [hd];rfl)).desc
   rw [hd] at hdesc
   have hu:=J8 hdesc
   have hsz':(tb.at et).size=e.size:=Nat.eq_of_beq_eq_true hsz
   obtain ⟨⟨f,z,hf,_,hs,_⟩,_⟩:=Yu HT (t:=et) (by rw [hsz'];exact ZX e)
   obtain ⟨h0,h1⟩:=zpi hin
   simp only [zf] at hx
   rcases hx with ⟨hν,⟨hz,_⟩|⟨g,c,rfl⟩⟩
   ·omega
   refine ⟨rfl,.pointer (some ((⟨g,0,none⟩:Addr).add (i.toNat*e.size))),?_,?_⟩
   ·simp only [zf]
    exact ⟨g,n,c,hν,by omega,by rw [jZ];simp⟩
   ·simp only [Instr.indexAt,Sem.run_bind,asIntOf,Sem.run_pure,run_underlying hu,Result.andThen_ok]
    rw [if_pos ⟨h0,h1⟩]
    simp only [Sem.run_bind,js hf,Result.andThen_ok,Sem.run_pure,hs,hsz']
  ·rename_i n e id off hd
   obtain ⟨hok,h⟩:=zm h
   obtain ⟨q,hq,_,rfl,h'⟩:=zct h
   clear h
   obtain ⟨rfl,rfl⟩:=zn h'
   have hdesc:=(jW HT (t:=t) (by rw [hd];rfl)).desc
   rw [hd] at hdesc
   have hu:=zaO hdesc
   simp only [zf] at hx
   obtain ⟨b,hb,rfl⟩:=hx
   ·obtain ⟨⟨f,z,hf,_,hs,_⟩,_⟩:=jW HT hok
    refine ⟨rfl,.pointer (some ((⟨b,off,none⟩:Addr).add (q*(tb.at e).size))),?_,?_⟩
    ·simp only [zf]
     exact ⟨b,hb,by rw [jZ]⟩
    ·simp only [Instr.indexAt,Sem.run_bind,asIntOf,Sem.run_pure,run_underlying hu,Result.andThen_ok,Instr.sureAddr]
     rw [if_pos ⟨Int.natCast_nonneg _,by omega⟩]
     simp only [Sem.run_bind,js hf,Result.andThen_ok,Sem.run_pure,hs,Int.toNat_natCast]
  ·rename_i n e cs hd
   obtain ⟨hok,h⟩:=zm h
   obtain ⟨q,hq,_,rfl,h'⟩:=zct h
   clear h
   obtain ⟨rfl,rfl⟩:=zn h'
   have hdesc:=(jW HT (t:=t) (by rw [hd];rfl)).desc
   rw [hd] at hdesc
   have hu:=zaO hdesc
   simp only [zf] at hx
   obtain ⟨ad,us,rfl,hR,hp,hl,hc⟩:=hx
   obtain ⟨h1,h2⟩:=zq.tail_cells (q*(tb.at e).size) hl hc
   ·obtain ⟨⟨f,z,hf,_,hs,_⟩,_⟩:=jW HT hok
    refine ⟨rfl,.pointer (some (ad.add (q*(tb.at e).size))),?_,?_⟩
    ·simp only [zf]
     exact ⟨_,_,rfl,by rw [J2];exact hR,zpu _ hp,h1,h2⟩
    ·simp only [Instr.indexAt,Sem.run_bind,asIntOf,Sem.run_pure,run_underlying hu,Result.andThen_ok,Instr.sureAddr]
     rw [if_pos ⟨Int.natCast_nonneg _,by omega⟩]
     simp only [Sem.run_bind,js hf,Result.andThen_ok,Sem.run_pure,hs,Int.toNat_natCast]
  ·rename_i n e id ek ei off hd
   obtain ⟨hok,h⟩:=zm h
   obtain ⟨q,hq,_,rfl,h'⟩:=zct h
   clear h
   obtain ⟨rfl,rfl⟩:=zn h'
   have hdesc:=(jW HT (t:=t) (by rw [hd];rfl)).desc
   rw [hd] at hdesc
   have hu:=zaO hdesc
   simp only [zf] at hx
   obtain ⟨g,n',c,hν,hlt,rfl⟩:=hx
   ·obtain ⟨⟨f,z,hf,_,hs,_⟩,_⟩:=jW HT hok
    refine ⟨rfl,.pointer (some ((⟨g,ei.toNat*ek.size+off,none⟩:Addr).add (q*(tb.at e).size))),?_,?_⟩
    ·simp only [zf]
     exact ⟨g,n',c,hν,hlt,by rw [jZ,Nat.add_assoc]⟩
    ·simp only [Instr.indexAt,Sem.run_bind,asIntOf,Sem.run_pure,run_underlying hu,Result.andThen_ok,Instr.sureAddr]
     rw [if_pos ⟨Int.natCast_nonneg _,by omega⟩]
     simp only [Sem.run_bind,js hf,Result.andThen_ok,Sem.run_pure,hs,Int.toNat_natCast]
  ·cases h
 ·cases h
theorem zws {t:Nat} {x i v:AV} {vx vi:Value} {m':Mem} (h:ziT tb m zM t x i=some (v,m')) (hx:zf Γ x vx) (hi:zf Γ i vi):m'=m∧∃u,zf Γ v u∧(Instr.index t vx vi).run P Γ.w=.ok u Γ.w:=by
 unfold ziT at h
 split at h
 ·rename_i k i
  simp only [zf] at hi
  subst hi
  split at h
  ·rename_i n e cs hd
   obtain ⟨q,hq,_,rfl,h'⟩:=zct h
   clear h
   split at h'
   ·rename_i y hy
    obtain ⟨rfl,rfl⟩:=zn h'
    have hdesc:=(jW HT (t:=t) (by rw [hd];rfl)).desc
    rw [hd] at hdesc
    have hu:=zaO hdesc
    simp only [zf] at hx
    obtain ⟨vs,rfl,hvs⟩:=hx
    obtain ⟨u',fi,hv,hi,hcase,d,hud⟩:=zen HT hy hvs
    refine ⟨rfl,u',hv,?_⟩
    have hsz:fi.size=(tb.at e).size:=by
     rcases HT.1 e with h0|h0
     ·rw [h0] at hy
      cases hy
     ·obtain ⟨⟨f,z,hf,_,hs,_⟩,_⟩:=h0
      rw [hi] at hf
      injection hf with hf
      rw [hf,hs]
    simp only [Instr.index,Sem.run_bind,asIntOf,Sem.run_pure,run_underlying hu,Result.andThen_ok]
    rw [if_pos ⟨Int.natCast_nonneg _,by omega⟩]
    simp only [Sem.run_bind,js hi,Result.andThen_ok,Int.toNat_natCast,hsz]
    unfold part
    simp only [Sem.run_bind,zcv hud,Result.andThen_ok]
    rcases hcase with ⟨ha,hle,rfl⟩|⟨ha,hx'⟩
    ·simp only [ha,if_true,Sem.run_bind,js hi,Result.andThen_ok]
     simp [List.drop_take]
    ·simp only [ha,Bool.false_eq_true,if_false]
     have:vs.toArray[q*(tb.at e).size]?=some u':=by simpa using hx'
     rw [this]
     rfl
   ·cases h'
  ·cases h
 ·cases h
omit HT in
theorem zqE {x v:AV} {i:Nat} {vx:Value} {m':Mem} (h:zcB m zM x i=some (v,m')) (hx:zf Γ x vx):m'=m∧∃u,zf Γ v u∧(Instr.extract vx i).run P Γ.w=.ok u Γ.w:=by
 unfold zcB at h
 split at h
 ·rename_i vs
  split at h
  ·rename_i y hy
   obtain ⟨rfl,rfl⟩:=zn h
   simp only [zf] at hx
   obtain ⟨us,rfl,hus⟩:=hx
   obtain ⟨u,hu,hv⟩:=hus.at hy
   refine ⟨rfl,u,hv,?_⟩
   have:us.toArray[i]?=some u:=by simpa using hu
   simp only [Instr.extract,this]
   rfl
  ·cases h
 ·cases h
theorem zw2 {src dst:Nat} {x v:AV} {vx:Value} {m':Mem} (hs:(P.underlying src).isSome=true) (h:zmD tb m zM dst x=some (v,m')) (hx:zf Γ x vx):m'=m∧∃u,zf Γ v u∧(convert src dst vx).run P Γ.w=.ok u Γ.w:=by
 unfold zmD at h
 split at h
 ·rename_i j k n hd
  obtain ⟨rfl,rfl⟩:=zn h
  have hdesc:=(jW HT (t:=dst) (by rw [hd];rfl)).desc
  rw [hd] at hdesc
  have hu:=zuk hdesc
  simp only [zf] at hx
  subst hx
  refine ⟨rfl,.int j (j.wrap n),by simp only [zf,zpE],?_⟩
  obtain ⟨sd,hsd⟩:=Option.isSome_iff_exists.1 hs
  simp only [convert,Sem.run_bind,run_underlying hsd,run_underlying hu,Result.andThen_ok]
  rfl
 ·cases h
omit HT in
theorem zAA {op:UnOp} {x v:AV} {vx:Value} {m':Mem} (h:kUn m zM op x=some (v,m')) (hx:zf Γ x vx):m'=m∧∃u,zf Γ v u∧(Op.unary op vx).run P Γ.w=.ok u Γ.w:=by
 unfold kUn at h
 split at h
 ·obtain ⟨rfl,rfl⟩:=zn h
  simp only [zf] at hx
  subst hx
  exact ⟨rfl,_,by simp only [zf];rfl,rfl⟩
 ·obtain ⟨rfl,rfl⟩:=zn h
  simp only [zf] at hx
  subst hx
  exact ⟨rfl,_,by simp only [zf,zpE];rfl,rfl⟩
 ·cases h
omit HT in
theorem zz9 {Γ:Gh}:∀{ks:List Kd} {cs ds:List AV} {c:Bool} {vs us:List Value},eqL ks cs ds=some c→zq Γ cs vs→zq Γ ds us→qz ks vs=true∧qz ks us=true∧eqC vs us=c:=by
 intro ks cs ds
 induction ks generalizing cs ds with
 |nil=>intro c vs us h;simp [eqL] at h
 |cons k ks ih =>
  intro c vs us h hc hd
  unfold eqL at h
  split at h
  ·rename_i l i a j b heq
   obtain ⟨hk,h⟩:=zm h
   injection h with h
   subst h
   simp only [List.cons.injEq] at heq
   obtain ⟨rfl,rfl⟩:=heq
   simp only [zq,zf] at hc hd
   obtain ⟨_,_,rfl,rfl,rfl⟩:=hc
   obtain ⟨_,_,rfl,rfl,rfl⟩:=hd
   simp only [Bool.and_eq_true] at hk
   refine ⟨by simp [qz,XA,hk.1],by simp [qz,XA,hk.2],?_⟩
   simp only [eqC,eq1,Bool.and_true]
   rfl
  ·rename_i a b heq
   injection h with h
   subst h
   simp only [List.cons.injEq] at heq
   obtain ⟨rfl,rfl⟩:=heq
   simp only [zq,zf] at hc hd
   obtain ⟨_,_,rfl,rfl,rfl⟩:=hc
   obtain ⟨_,_,rfl,rfl,rfl⟩:=hd
   refine ⟨by simp [qz,XA],by simp [qz,XA],?_⟩
   simp only [eqC,eq1,Bool.and_true]
   rfl
  ·rename_i l ks' i a r j b q _ heq
   obtain ⟨hk,h⟩:=zm h
   simp only [List.cons.injEq] at heq
   obtain ⟨rfl,rfl⟩:=heq
   split at h
   ·rename_i c' hc'
    injection h with h
    subst h
    simp only [zq,zf] at hc hd
    obtain ⟨_,vs',rfl,rfl,hc⟩:=hc
    obtain ⟨_,us',rfl,rfl,hd⟩:=hd
    obtain ⟨h1,h2,h3⟩:=ih hc' hc hd
    simp only [Bool.and_eq_true] at hk
    refine ⟨by simp [qz,XA,hk.1,h1],by simp [qz,XA,hk.2,h2],?_⟩
    simp only [eqC,eq1,h3]
    rfl
   ·cases h
  ·rename_i ks' a r b q _ heq
   simp only [List.cons.injEq] at heq
   obtain ⟨rfl,rfl⟩:=heq
   split at h
   ·rename_i c' hc'
    injection h with h
    subst h
    simp only [zq,zf] at hc hd
    obtain ⟨_,vs',rfl,rfl,hc⟩:=hc
    obtain ⟨_,us',rfl,rfl,hd⟩:=hd
    obtain ⟨h1,h2,h3⟩:=ih hc' hc hd
    refine ⟨by simp [qz,XA,h1],by simp [qz,XA,h2],?_⟩
    simp only [eqC,eq1,h3]
    rfl
   ·cases h
  ·cases h
end
end Go.Proofs.YtpkkcjmblocjdaaGreat.AM
end
section
namespace Go.Proofs.YtpkkcjmblocjdaaGreat.AM
open Go.RowKit
section
variable {P:Program} {tb:Tb} (HT:Yz P tb) {B:Nat} {w0:World} {Γ:Gh} {m:Mem} (M:zt B w0 Γ m)
theorem zwG {op : BinOp} {t : Nat} {ox oy : Operand} {i j : IntKind} {a b : Int} {v : AV} {m' : Mem} (h : zgT tb m zM op t (.int i a) (.int j b) = some (v, m')) :
    m' = m ∧ ∃ u, zf Γ v u ∧ (do eqGuard op t ox oy (.int i a) (.int j b); binOp op t (.int i a) (.int j b) : Sem Value).run P Γ.w = .ok u Γ.w := by
  have hg : (eqGuard op t ox oy (.int i a) (.int j b)) = pure () := eqGuard_at_int ..
  rw [hg]
  simp only [pure_bind]
  unfold zgT at h
  simp only at h
  split at h
  · obtain ⟨hb, h⟩ := jb h
    obtain ⟨rfl, rfl⟩ := zn h
    refine ⟨rfl, .int i (i.wrap (zzp i a b)), by simp only [zf, zpE], ?_⟩
    have hb' : ¬ b < 0 := by have := of_decide_eq_true hb; omega
    simp only [binOp, Op.shift, if_neg hb', Sem.run_pure, zzp]
  · obtain ⟨hb, h⟩ := jb h
    obtain ⟨rfl, rfl⟩ := zn h
    refine ⟨rfl, .int i (zir i a b), by simp only [zf], ?_⟩
    have hb' : ¬ b < 0 := by have := of_decide_eq_true hb; omega
    simp only [binOp, Op.shift, if_neg hb', Sem.run_pure, zir]
  all_goals first
    | (obtain ⟨hk, h⟩ := zm h
       obtain ⟨rfl, rfl⟩ := zn h
       obtain rfl := zaY hk
       refine ⟨rfl, .bool (a == b), by simp only [zf]; rfl, ?_⟩
       simp [binOp, Op.intCmp]
       done)
    | (obtain ⟨hk, h⟩ := zm h
       obtain ⟨rfl, rfl⟩ := zn h
       obtain rfl := zaY hk
       refine ⟨rfl, .bool (a != b), by simp only [zf]; rfl, ?_⟩
       simp [binOp, Op.intCmp]
       done)
    | (obtain ⟨hk, h⟩ := zm h
       obtain ⟨rfl, rfl⟩ := zn h
       obtain rfl := zaY hk
       refine ⟨rfl, _, by simp only [zf]; rfl, ?_⟩
       simp [binOp, Op.intArith, Op.intBits, Op.intCmp, zAv, zy8, zAn, zfV, eqI, zjn, ltI, leI, gtI, geI, zpE]
       done)
    | (obtain ⟨hk, h⟩ := zm h
       obtain ⟨hb, h⟩ := jb h
       obtain ⟨rfl, rfl⟩ := zn h
       obtain rfl := zaY hk
       have hb' : ¬ b = 0 := by simpa [zjn, eqI] using hb
       refine ⟨rfl, _, by simp only [zf]; rfl, ?_⟩
       simp [binOp, Op.intDiv, hb', zAq, zAs, zpE]
       done)
    | cases h
include HT
theorem zzi {op:BinOp} {t:Nat} {ox oy:Operand} {x y v:AV} {vx vy:Value} {m':Mem} (h:zgT tb m zM op t x y=some (v,m')) (hx:zf Γ x vx) (hy:zf Γ y vy) :
  m'=m∧∃u,zf Γ v u∧(do eqGuard op t ox oy vx vy;binOp op t vx vy:Sem Value).run P Γ.w=.ok u Γ.w:=by
 cases x
 case int i a =>
  cases y
  case int j b =>
   simp only [zf] at hx hy
   subst hx
   subst hy
   exact zwG h
  all_goals simp [zgT] at h
 case bool a =>
  cases y
  case bool b =>
   simp only [zf] at hx hy
   subst hx
   subst hy
   have hg:(eqGuard op t ox oy (.bool a) (.bool b))=pure ():=eqGuard_at_bool ..
   rw [hg]
   simp only [pure_bind]
   unfold zgT at h
   simp only at h
   split at h
   ·rename_i hd
    obtain ⟨rfl,rfl⟩:=zn h
    have hdesc:=(jW HT (t:=t) (by rw [hd];rfl)).desc
    rw [hd] at hdesc
    refine ⟨rfl,.bool (a==b),by simp only [zf,eqB],?_⟩
    simp only [binOp,Op.equal,Sem.run_bind,show Op.maxDepth=9999+1 from rfl,run_equalIn_bool' Γ.w 9999 t a b (zmd hdesc),Result.andThen_ok,Sem.run_pure]
   ·rename_i hd
    obtain ⟨rfl,rfl⟩:=zn h
    have hdesc:=(jW HT (t:=t) (by rw [hd];rfl)).desc
    rw [hd] at hdesc
    refine ⟨rfl,.bool (!(a==b)),by simp only [zf,eqB,zjn],?_⟩
    simp only [binOp,Op.equal,Sem.run_bind,show Op.maxDepth=9999+1 from rfl,run_equalIn_bool' Γ.w 9999 t a b (zmd hdesc),Result.andThen_ok,Sem.run_pure]
   ·cases h
  all_goals simp [zgT] at h
 case agg cs =>
  cases y
  case agg ds =>
   unfold zgT at h
   simp only at h
   split at h
   ·rename_i ks hks
    have hkd:(tb.at t).d.ok=true:=by
     rcases HT.1 t with h'|h'
     ·rw [h'] at hks;cases hks
     ·have:=h'.desc
      cases hd:(tb.at t).d<;>first|rfl|(rw [hd] at this;unfold YP at this;split at this<;>simp_all)
    obtain ⟨ha,hm,hl⟩:=(jW HT hkd).eq ks hks
    simp only [zf] at hx hy
    obtain ⟨vs,rfl,hvs⟩:=hx
    obtain ⟨us,rfl,hus⟩:=hy
    have he:∀c,eqL ks cs ds=some c→(Op.equalIn 10000 t (.agg vs.toArray) (.agg us.toArray)).run P Γ.w=.ok c Γ.w:=by
     intro c hc
     obtain ⟨h1,h2,h3⟩:=zz9 hc hvs hus
     have:=zoL (P:=P) Γ.w 8 t ks hl vs us h1 h2 10000 (by omega)
     simp only [YH,ha,if_true,h3] at this
     exact this
    split at h
    ·rename_i c hc
     obtain ⟨rfl,rfl⟩:=zn h
     refine ⟨rfl,.bool c,by simp only [zf],?_⟩
     simp only [Sem.run_bind,run_eqGuard_agg Γ.w _ t ox oy _ _ hm,Result.andThen_ok,run_eql_struct,he c hc]
    ·rename_i c hc
     obtain ⟨rfl,rfl⟩:=zn h
     refine ⟨rfl,.bool (!c),by simp only [zf,zjn],?_⟩
     simp only [Sem.run_bind,run_eqGuard_agg Γ.w _ t ox oy _ _ hm,Result.andThen_ok,run_neq_struct,he c hc]
    ·cases h
   ·cases h
  all_goals simp [zgT] at h
 case sl e xs =>
  cases y
  case nil =>
   unfold zgT at h
   simp only at h
   split at h
   ·rename_i hd
    obtain ⟨hlt,h⟩:=jb h
    obtain ⟨rfl,rfl⟩:=zn h
    have hdesc:=(jW HT (t:=t) (by rw [hd];rfl)).desc
    rw [hd] at hdesc
    simp only [zf] at hx hy
    subst hy
    simp only [qd] at hx
    obtain ⟨A,c,hv,_,hS⟩:=hx
    injection hv with hv
    subst hv
    have hne:xs≠[]:=by
     rintro rfl
     simp [ltI,ofN,Yc] at hlt
    rcases hS with h0|⟨ad,rfl,_⟩
    ·exact absurd h0 hne
    ·refine ⟨rfl,.bool false,by simp only [zf],?_⟩
     rw [eqGuard_at_slice]
     simp only [pure_bind]
     exact Go.Lib.run_eql_slice_nil Γ.w t _ _ _ _ _ _ (J8 hdesc)
   ·cases h
  all_goals simp [zgT] at h
 all_goals simp [zgT] at h
end
end Go.Proofs.YtpkkcjmblocjdaaGreat.AM
end
section
namespace Go.Proofs.YtpkkcjmblocjdaaGreat.AM
open Go.RowKit
theorem zi2 {a:ZF}:(ZQ a).st=.dead↔a.st=.dead:=by
 obtain ⟨e,xs,t,st⟩:=a
 cases st<;>simp [ZQ]
theorem zpw {m:Mem} {id:Nat} {a:ZF} (h:m.row id=some a) (i:Nat):({ m with row:=upd m.row id (some (ZQ a)) }:Mem).live i↔m.live i:=by
 constructor
 ·rintro ⟨c,hc,hd⟩
  have hc':upd m.row id (some (ZQ a)) i=some c:=hc
  by_cases hi:i=id
  ·subst hi
   rw [zU] at hc'
   injection hc' with hc'
   subst hc'
   exact ⟨a,h,fun e=>hd (zi2.2 e)⟩
  ·rw [zC _ _ hi] at hc'
   exact ⟨c,hc',hd⟩
 ·rintro ⟨c,hc,hd⟩
  by_cases hi:i=id
  ·subst hi
   rw [h] at hc
   injection hc with hc
   subst hc
   exact ⟨_,zU _ _ _,fun e=>hd (zi2.1 e)⟩
  ·exact ⟨c,(zC _ _ hi).trans hc,hd⟩
def zvU (Γ:Gh) (m:Mem) (ids:List Nat) (b:Nat):Prop:=∃id∈ids,m.live id∧∃v,Γ.ν id=some v∧v.ownBlock=some b
theorem zt.fixL {B:Nat} {w0:World}:∀(ids:List Nat) {Γ:Gh} {m:Mem},zt B w0 Γ m →
  ∃R':Nat→Prop,zt B w0 { Γ with R:=R' } (m.fix ids)∧Ext B Γ { Γ with R:=R' }∧∀b,R' b↔Γ.R b∨zvU Γ m ids b
 |[],Γ,m,M=>⟨Γ.R,M,Ext.refl B Γ,fun b=>⟨.inl,fun h=>h.elim (fun h=>h) fun ⟨_,hid,_⟩=>by cases hid⟩⟩
 |id::r,Γ,m,M=>by
  simp only [Mem.fix]
  cases hm:m.row id with
  |none =>
   obtain ⟨R',M',E',h'⟩:=zt.fixL r M
   refine ⟨R',M',E',fun b=>(h' b).trans ⟨fun h=>?_,fun h=>?_⟩⟩
   ·rcases h with h|⟨i,hi,h⟩
    ·exact .inl h
    ·exact .inr ⟨i,List.mem_cons_of_mem _ hi,h⟩
   ·rcases h with h|⟨i,hi,hl,h⟩
    ·exact .inl h
    ·rcases List.mem_cons.1 hi with rfl|hi
     ·obtain ⟨c,hc,_⟩:=hl
      rw [hm] at hc
      cases hc
     ·exact .inr ⟨i,hi,hl,h⟩
  |some a =>
   obtain ⟨R1,M1,E1,h1⟩:=M.fixOne hm
   obtain ⟨R',M',E',h'⟩:=zt.fixL r M1
   refine ⟨R',M',E1.trans E',fun b=>(h' b).trans ⟨fun h=>?_,fun h=>?_⟩⟩
   ·rcases h with h|⟨i,hi,hl,h⟩
    ·rcases (h1 b).1 h with h|⟨hd,v,hv,hb⟩
     ·exact .inl h
     ·exact .inr ⟨id,List.mem_cons_self,⟨a,hm,hd⟩,v,hv,hb⟩
    ·exact .inr ⟨i,List.mem_cons_of_mem _ hi,(zpw hm i).1 hl,h⟩
   ·rcases h with h|⟨i,hi,hl,h⟩
    ·exact .inl ((h1 b).2 (.inl h))
    ·rcases List.mem_cons.1 hi with rfl|hi
     ·obtain ⟨c,hc,hd⟩:=hl
      rw [hm] at hc
      injection hc with hc
      subst hc
      exact .inl ((h1 b).2 (.inr ⟨hd,h⟩))
     ·exact .inr ⟨i,hi,(zpw hm i).2 hl,h⟩
theorem zu7 {B:Nat} {Γ:Gh} {a:ZF} {v:Value} (hr:zbZ B Γ a v) {R':Nat→Prop} (h1:∀b,Γ.R b→R' b) (h2:∀g,v.ownBlock=some g→R' g):qd Γ.w R' (.sl a.e) a.xs [v]:=by
 obtain ⟨cs,ho,hR⟩:=hr.own
 simp only [qd]
 rcases ho.2 with ⟨rfl,hn⟩|⟨g,cap,cur,rfl,hb,hg,hnc,hcm,hcs,htake⟩
 ·have hx:a.xs=[]:=List.eq_nil_of_length_eq_zero hn
  exact ⟨none,0,by rw [hn],by rw [hn];exact Nat.le_refl _,.inl hx⟩
 ·refine ⟨_,cap,rfl,hnc,.inr ⟨_,rfl,h2 g rfl,fun i x hx=>?_⟩⟩
  obtain ⟨us,hus,hc⟩:=hR i x hx
  refine ⟨us,hus.mono (fun _ _=>rfl) h1,fun j u hj=>?_⟩
  have hjs:j<a.e.size:=by rw [←hus.len];exact (List.getElem?_eq_some_iff.1 hj).1
  have hi:i<List.length (α:=a.e.T) a.xs:=(List.getElem?_eq_some_iff.1 hx).1
  have hle:i*a.e.size+j<List.length (α:=a.e.T) a.xs*a.e.size:=by
   have:(i+1)*a.e.size≤List.length (α:=a.e.T) a.xs*a.e.size:=Nat.mul_le_mul_right _ hi
   rw [Nat.add_mul,Nat.one_mul] at this
   omega
  rw [jZ,Nat.zero_add,ho.cellAt _ hle]
  exact hc j u hj
theorem zsd {B:Nat} {Γ:Gh} {a:ze1} {b:Nat} (hr:QT B Γ a b) (hk:a.kd≠.iter) {R':Nat→Prop} (h:R' b):qd Γ.w R' (.mp a.k a.v) a.es [.map (some b)]:=by
 obtain ⟨es,cl,h1,h2,h3⟩:=hr.map hk
 simp only [qd]
 exact .inr ⟨b,es,cl,rfl,h,h1,h2,h3⟩
theorem zkm (m:Mem) (c:AV):(Jq m c).pure=true:=by
 unfold Jq
 (repeat' split)<;>rfl
theorem zmu (m:Mem) (cs:List AV):(cs.map (Jq m)).all AV.pure=true:=by
 rw [List.all_eq_true]
 intro x hx
 obtain ⟨c,_,rfl⟩:=List.mem_map.1 hx
 exact zkm m c
structure JU (Γ Γ':Gh) (m:Mem) (rows:List Nat) (ptrs:List Nat):Prop where
 w:Γ'.w=Γ.w
 R:∀b,Γ.R b→Γ'.R b
 row:∀b,zvU Γ m rows b→Γ'.R b
 ptr:∀id∈ptrs,∀b,Γ.μ id=some b→Γ'.R b
theorem JU.mono {Γ Γ':Gh} {m:Mem} {r r' p p':List Nat} (h:JU Γ Γ' m r p) (hr:∀x∈r',x∈r) (hp:∀x∈p',x∈p):JU Γ Γ' m r' p' :=
 ⟨h.w,h.R,fun b ⟨i,hi,k⟩=>h.row b ⟨i,hr i hi,k⟩,fun i hi=>h.ptr i (hp i hi)⟩
section
variable {B:Nat} {w0:World} {Γ Γ':Gh} {m:Mem} (M:zt B w0 Γ m)
include M
theorem zib {c:AV} {v:Value} (L:JU Γ Γ' m (Js c) []) (h:zf Γ c v):zf Γ' (Jq m c) v:=by
 have hw:=L.w
 unfold Jq
 split
 ·rename_i id e0 n
  split
  ·simp only [zf]
  ·rename_i e xs t st hd hrow
   simp only [zf] at h
   have hd':(⟨e,xs,t,st⟩:ZF).st≠.dead:=fun e'=>hd e'
   have:=zu7 (M.rowAt h.1 hrow hd') L.R (fun g hg=>L.row g ⟨id,by simp [Js],⟨_,hrow,hd'⟩,v,h.1,hg⟩)
   rw [←hw] at this
   simp only [zf]
   exact this
  ·simp only [zf]
 ·simpa only [zf] using h
 ·simpa only [zf] using h
 ·simpa only [zf] using h
 ·simpa only [zf] using h
 ·simp only [zf] at h ⊢
  exact h.mono (fun b _=>by rw [hw]) L.R
 ·simp only [zf] at h ⊢
  exact h.mono (fun b _=>by rw [hw]) L.R
 ·simpa only [zf] using h
 ·simp only [zf]
theorem za6:∀{cs:List AV} {vs:List Value},JU Γ Γ' m (cs.flatMap Js) []→zq Γ cs vs→zq Γ' (cs.map (Jq m)) vs
 |[],_,_,h=>by simpa only [List.map_nil,zq] using h
 |c::cs,_,L,h=>by
  simp only [zq,List.map_cons] at h ⊢
  obtain ⟨v,vs,rfl,h1,h2⟩:=h
  exact ⟨v,vs,rfl,zib M (L.mono (by simp;exact fun x hx=>.inl hx) (by simp)) h1,za6 (L.mono (by simp;exact fun x y hy hx=>.inr ⟨y,hy,hx⟩) (by simp)) h2⟩
theorem zcl {c:AV} {v:Value} (L:JU Γ Γ' m (Zn m c) (K2 c)) (h:zf Γ c v):zf Γ' (QY m c) v:=by
 have hw:=L.w
 unfold QY
 split
 ·rename_i cs
  simp only [zf] at h ⊢
  obtain ⟨vs,rfl,h⟩:=h
  exact ⟨vs,rfl,za6 M (L.mono (fun x hx=>hx) (by simp)) h⟩
 ·rename_i cs
  simp only [zf] at h ⊢
  obtain ⟨ad,us,rfl,hR,hp,hl,hc⟩:=h
  exact ⟨ad,us,rfl,L.R _ hR,hp,hl.pure (fun b _=>by rw [hw]) L.R hp,fun j u hj=>by rw [hw];exact hc j u hj⟩
 ·rename_i id
  split
  ·rename_i b hb
   simp only [zf] at h
   obtain ⟨blk,hμ,rfl⟩:=h
   obtain ⟨us,ty,hcell,hl⟩:=(M.boxAt hμ hb).cells
   simp only [zf]
   refine ⟨_,us.toList,rfl,L.ptr id (by simp [K2]) blk hμ,zmu m _,za6 M (L.mono (fun x hx=>by simpa [Zn,Yi,hb] using hx) (by simp)) hl,fun j u hj=>?_⟩
   rw [hw,jZ,cell_of_row Γ.w blk (0+j) us ty (0,0) hcell]
   simpa using hj
  ·simp only [zf]
 ·rename_i h1 h2 h3
  refine zib M ?_ h
  refine L.mono (fun x hx=>?_) (by simp)
  unfold Zn Yi
  cases c<;>simp_all [Js]
theorem zgC:∀{cs:List AV} {vs:List Value},JU Γ Γ' m (cs.flatMap (Zn m)) (cs.flatMap K2)→zq Γ cs vs→zq Γ' (cs.map (QY m)) vs
 |[],_,_,h=>by simpa only [List.map_nil,zq] using h
 |c::cs,_,L,h=>by
  simp only [zq,List.map_cons] at h ⊢
  obtain ⟨v,vs,rfl,h1,h2⟩:=h
  exact ⟨v,vs,rfl,zcl M (L.mono (by simp;exact fun x hx=>.inl hx) (by simp;exact fun x hx=>.inl hx)) h1,zgC (L.mono (by simp;exact fun x y hy hx=>.inr ⟨y,hy,hx⟩) (by simp;exact fun x y hy hx=>.inr ⟨y,hy,hx⟩)) h2⟩
theorem zll {c:AV} {v:Value} (L:JU Γ Γ' m (Zo m c) (Z9 c)) (h:zf Γ c v):zf Γ' (XT m c) v:=by
 unfold XT
 split
 ·rename_i f a b
  simp only [zf] at h ⊢
  obtain ⟨us,vs,rfl,h1,h2⟩:=h
  exact ⟨us,vs,rfl,zgC M (L.mono (by simp [Zo];exact fun x y hy hx=>.inl ⟨y,hy,hx⟩) (by simp [Z9];exact fun x y hy hx=>.inl ⟨y,hy,hx⟩)) h1,zgC M (L.mono (by simp [Zo];exact fun x y hy hx=>.inr ⟨y,hy,hx⟩) (by simp [Z9];exact fun x y hy hx=>.inr ⟨y,hy,hx⟩)) h2⟩
 ·refine zcl M (L.mono (fun x hx=>?_) (fun x hx=>?_)) h
  ·unfold Zo
   split<;>simp_all
  ·unfold Z9
   split<;>simp_all
theorem zfz:∀{cs:List AV} {vs:List Value},JU Γ Γ' m (cs.flatMap (Zo m)) (cs.flatMap Z9)→zq Γ cs vs→zq Γ' (cs.map (XT m)) vs
 |[],_,_,h=>by simpa only [List.map_nil,zq] using h
 |c::cs,_,L,h=>by
  simp only [zq,List.map_cons] at h ⊢
  obtain ⟨v,vs,rfl,h1,h2⟩:=h
  exact ⟨v,vs,rfl,zll M (L.mono (by simp;exact fun x hx=>.inl hx) (by simp;exact fun x hx=>.inl hx)) h1,zfz (L.mono (by simp;exact fun x y hy hx=>.inr ⟨y,hy,hx⟩) (by simp;exact fun x y hy hx=>.inr ⟨y,hy,hx⟩)) h2⟩
end
theorem zkw {c:AV} (h:zhS c=false):K2 c=[]:=by
 cases c<;>first|rfl|(simp [zhS] at h)
theorem zmG {c:AV} (h:zsT c=false):Z9 c=[]:=by
 have key:∀l:List AV,l.any zhS=false→l.flatMap K2=[]:=by
  intro l hl
  rw [List.flatMap_eq_nil_iff]
  intro x hx
  exact zkw (by simpa using List.any_eq_false.1 hl x hx)
 cases c
 case fn f a b =>
  simp only [zsT,Bool.or_eq_false_iff] at h
  simp [Z9,key _ h.1,key _ h.2]
 all_goals first|rfl|(simp [zsT,zhS] at h)
end Go.Proofs.YtpkkcjmblocjdaaGreat.AM
end
section
namespace Go.Proofs.YtpkkcjmblocjdaaGreat.AM
open Go.RowKit
theorem zev {Γ:Gh} {κ:Kd} {v:AV} {u:Value} {x:κ.T} (h:zbb κ v=some x) (hv:zf Γ v u):qd Γ.w Γ.R κ x u.cells.toList:=by
 have one:∀{κ:Kd} {x:κ.T},κ.size=1→(match Kd.dec κ [v] with
   |some (x,[])=>some x
   |_=>none)=some x→qd Γ.w Γ.R κ x u.cells.toList:=by
  intro κ x hs h
  split at h
  ·rename_i y hd
   injection h with h
   subst h
   obtain ⟨us,ws,he,h1,h2⟩:=KL hd (zq.one.2 ⟨u,rfl,hv⟩)
   simp only [zq] at h2
   subst h2
   rw [List.append_nil] at he
   subst he
   have ho:=h1.one u (by simp)
   have:u.cells=#[u]:=by cases u<;>first|rfl|(simp [Value.oneCell'] at ho)
   rw [this]
   exact h1
  ·cases h
 unfold zbb at h
 split at h
 ·rename_i a b cs
  split at h
  ·rename_i y hd
   injection h with h
   subst h
   simp only [zf] at hv
   obtain ⟨vs,rfl,hvs⟩:=hv
   obtain ⟨us,ws,rfl,h1,h2⟩:=KL hd hvs
   simp only [zq] at h2
   subst h2
   simpa [Value.cells] using h1
  ·cases h
 ·cases h
 ·cases h
 ·rename_i κ' v' hp _ _
  refine one ?_ h
  cases κ<;>first|rfl|skip
  exact (hp _ _ rfl).elim
def mkP (f:Operand→AV) (l:List (Nat×Operand)):List (Nat×AV):=l.map fun p=>(p.1,f p.2)
def mkQ (f:Operand→Value) (l:List (Nat×Operand)):List (Nat×Value):=l.map fun p=>(p.1,f p.2)
theorem zmT {pl:Nat→Option (Nat×Nat)} {i off n:Nat} {v:Value} {cells:Array Value} {zh3:List (Nat×Value)} (hp:pl i=some (off,n)) (hn:v.cells.size=n) (hle:off+n≤cells.size) :
  Instr.fill pl cells ((i,v)::zh3)=Instr.fill pl (cells.toList.take off++v.cells.toList++cells.toList.drop (off+n)).toArray zh3:=by
 have h1:(decide (v.cells.size≠n)||decide (off+v.cells.size>cells.size))=false:=by
  rw [hn]
  simp
  omega
 simp only [Instr.fill,hp,h1,Bool.false_eq_true,if_false]
 rw [←hn,ztb off v.cells cells (by omega)]
theorem zla {α:Type} (cells vs:List α) (off n:Nat) (hn:vs.length=n) (h:off+n≤cells.length):(cells.take off++vs++cells.drop (off+n)).length=cells.length:=by
 simp only [List.length_append,List.length_take,List.length_drop]
 omega
section
variable {P:Program} {tb:Tb} (HT:Yz P tb) {B:Nat} {w0:World} {Γ:Gh} {m:Mem} (M:zt B w0 Γ m)
include HT
omit HT in
theorem zft {Γ:Gh} {off:Nat} {vs cs cs':List AV} {us xs:List Value} (h:zhw off vs cs=some cs') (hv:zq Γ vs us) (hc:zq Γ cs xs) :
  off+us.length≤xs.length∧zq Γ cs' (xs.take off++us++xs.drop (off+us.length)):=by
 unfold zhw at h
 obtain ⟨hle,h⟩:=zm h
 injection h with h
 subst h
 have h1:=hv.len
 have h2:=hc.len
 have hle':=Nat.le_of_ble_eq_true hle
 rw [h1,h2]
 exact ⟨hle',((hc.take off).app hv).app (hc.drop _)⟩
omit HT in
theorem zpA {ev:Operand→AV} {aev:Operand→Value} (he:∀x,zf Γ (ev x) (aev x)) {ti:TI} {pl:Nat→Option (Nat×Nat)} (hpl:∀i p,zje tb ti i=some p→pl i=some p) :
  ∀(l:List (Nat×Operand)) {cs cs':List AV} {cells:Array Value},zoY tb ti (mkP ev l) cs=some cs'→zq Γ cs cells.toList→∃cells',Instr.fill pl cells (mkQ aev l)=some cells'∧zq Γ cs' cells'.toList
 |[],cs,cs',cells,h,hc=>by
  simp only [mkP,List.map_nil,zoY,Option.some.injEq] at h
  subst h
  exact ⟨cells,rfl,hc⟩
 |(i,x)::l,cs,cs',cells,h,hc=>by
  simp only [mkP,List.map_cons,zoY] at h
  split at h
  ·rename_i off n vs hp hv
   obtain ⟨hn,h⟩:=zm h
   split at h
   ·rename_i cs1 h1
    obtain ⟨hv1,hv2,_⟩:=zcT hv (he x)
    have hlen:=hv1.len
    have hn':=Nat.eq_of_beq_eq_true hn
    obtain ⟨hle,hc1⟩:=zft h1 hv1 hc
    rw [hlen,hn'] at hle hc1
    obtain ⟨cells',hf,hr⟩:=zpA he hpl l (cells:=(cells.toList.take off++(aev x).cells.toList++cells.toList.drop (off+n)).toArray) h hc1
    refine ⟨cells',?_,hr⟩
    show Instr.fill pl cells ((i,aev x)::mkQ aev l)=some cells'
    rw [zmT (hpl i _ hp) (by rw [←Array.length_toList,hlen,hn']) (by simpa using hle)]
    exact hf
   ·cases h
  ·cases h
omit HT in
theorem zqR (fs:List Field) (h:fs.all (fun f=>(P.info? f.type).isSome)=true):∃places,fs.mapM (fun f=>(P.info? f.type).map fun i=>(f.offset,i.size))=some places ∧
  ∀(i:Nat) g,fs[i]?=some g→∃j,P.info? g.type=some j∧places[i]?=some (g.offset,j.size):=by
 induction fs with
 |nil=>exact ⟨[],rfl,fun i g hg=>by simp at hg⟩
 |cons f fs ih =>
  simp only [List.all_cons,Bool.and_eq_true] at h
  obtain ⟨places,hp,hq⟩:=ih h.2
  obtain ⟨j,hj⟩:=Option.isSome_iff_exists.1 h.1
  refine ⟨(f.offset,j.size)::places,by simp [List.mapM_cons,hj,hp],fun i g hg=>?_⟩
  cases i with
  |zero =>
   obtain rfl:f=g:=by simpa using hg
   exact ⟨j,hj,rfl⟩
  |succ i=>exact hq i g (by simpa using hg)
theorem zuM {t:Nat} {l:List (Nat×Operand)} {ev:Operand→AV} {aev:Operand→Value} (he:∀x,zf Γ (ev x) (aev x)) {v:AV} {m':Mem} (h:ziM tb m zM t (mkP ev l)=some (v,m')) :
  m'=m∧∃u,zf Γ v u∧(Instr.build t (mkQ aev l).toArray).run P Γ.w=.ok u Γ.w:=by
 unfold ziM at h
 split at h
 ·rename_i cs hcs
  obtain ⟨hbld,h⟩:=zm h
  obtain ⟨rfl,rfl⟩:=zn h
  have hfin:∀pl,(∀z f cells',P.info? t=some f→f.zero=some z→Instr.fill pl z.cells (mkQ aev l)=some cells'→P.built t (mkQ aev l)=some cells')→(∀i p,zje tb (tb.at t) i=some p→pl i=some p)→zqB P t (tb.at t) →
    ∃u,zf Γ (.agg cs) u∧(Instr.build t (mkQ aev l).toArray).run P Γ.w=.ok u Γ.w:=by
   intro pl hb hpl ok
   obtain ⟨⟨f,z,hf,hz,_,_,hzr,_⟩,_⟩:=ok
   obtain ⟨cells',hfill,hr⟩:=zpA he hpl l hcs (hzr Γ)
   refine ⟨.agg cells',?_,run_build Γ.w t _ cells' (hb z f cells' hf hz hfill)⟩
   simp only [zf]
   exact ⟨cells'.toList,by simp,hr⟩
  refine ⟨rfl,?_⟩
  have hok:(tb.at t).d.ok=true:=by cases hd:(tb.at t).d<;>simp_all [zyy,TD.ok]
  ·have ok:=jW HT hok
   have hdesc:=ok.desc
   cases hd:(tb.at t).d
   case arr n e =>
    rw [hd] at hdesc
    have hu:=zaO hdesc
    have hs:0<(tb.at e).size:=by rw [hd] at hbld;simp only [zyy,Nat.blt,Nat.ble_eq] at hbld;omega
    ·obtain ⟨⟨g,_,hg,_,hgs,_⟩,_⟩:=Yu HT hs
     refine hfin (fun i=>some (i*g.size,g.size)) (fun z f cells' hf hz hfill=>?_) (fun i p hp=>?_) ok
     ·simp only [Program.built,hf,hu,hz,hg]
      exact hfill
     ·simp only [zje,hd] at hp
      rw [hgs,←(zm hp).2]
   case st fs =>
    rw [hd] at hdesc
    obtain ⟨gs,hu,hl⟩:=zot hdesc
    have hfs:=ok.fields
    simp only [znJ,hu] at hfs
    obtain ⟨places,hp,hq⟩:=zqR gs.toList hfs
    refine hfin (places.toArray[·]?) (fun z f cells' hf hz hfill=>?_) (fun i p hpi=>?_) ok
    ·simp only [Program.built,hf,hu,hz,hp]
     exact hfill
    ·simp only [zje,hd] at hpi
     split at hpi
     ·rename_i off u hfu
      obtain ⟨hpos,hpi⟩:=zm hpi
      injection hpi with hpi
      subst hpi
      rw [←hl,List.getElem?_map] at hfu
      obtain ⟨g,hg,hge⟩:=Option.map_eq_some_iff.1 hfu
      simp only [Prod.mk.injEq] at hge
      obtain ⟨rfl,rfl⟩:=hge
      obtain ⟨j,hj,hpj⟩:=hq i g hg
      obtain ⟨⟨j',_,hj',_,hjs,_⟩,_⟩:=Yu HT (t:=g.type) (by simp only [Nat.blt,Nat.ble_eq] at hpos;omega)
      rw [hj] at hj'
      injection hj' with hj'
      subst hj'
      simpa [hjs] using hpj
     ·cases hpi
   all_goals (rw [hd] at hbld;simp [zyy] at hbld)
 ·cases h
omit HT in
theorem znu (z:Array Value) (n k:Nat) (hk:k<n) (hz:0<z.size):(madeCells z n)[k]?=z[k % z.size]?:=by
 have hm:k % z.size<z.size:=Nat.mod_lt _ hz
 simp [madeCells,hk,hm]
omit HT in
theorem zoM {w:World} {R:Nat→Prop} {e:Kd} {z:Value} (hz:qd w R e e.dflt z.cells.toList) (n:Nat):za9 w R e (List.replicate n e.dflt) (madeCells z.cells (n*e.size)).toList:=by
 intro i x hx
 have hi:i<n:=by
  have:=(List.getElem?_eq_some_iff.1 hx).1
  simpa using this
 have hx':x=e.dflt:=by
  rw [List.getElem?_replicate,if_pos hi] at hx
  injection hx with hx
  exact hx.symm
 subst hx'
 have hlen:=hz.len
 have hs:z.cells.size=e.size:=by rw [←hlen,Array.length_toList]
 refine ⟨_,hz,fun j u hj=>?_⟩
 have hjs:j<e.size:=by rw [←hlen];exact (List.getElem?_eq_some_iff.1 hj).1
 have hk:i*e.size+j<n*e.size:=by
  have:(i+1)*e.size≤n*e.size:=Nat.mul_le_mul_right _ hi
  rw [Nat.add_mul,Nat.one_mul] at this
  omega
 rw [Array.getElem?_toList,znu _ _ _ hk (by rw [hs];exact ZX e),hs,Nat.mul_comm,Nat.mul_add_mod,Nat.mod_eq_of_lt hjs]
 simpa using hj
omit HT in
theorem zoU {w:World} {R:Nat→Prop} {e:Kd} {xs:List e.T} {cs:List Value} (h:za9 w R e xs cs) (hl:cs.length=xs.length*e.size) {i:Nat} {x:e.T} {us:List Value} (hu:qd w R e x us) (hi:i<xs.length) :
  za9 w R e (xs.set i x) (cs.take (i*e.size)++us++cs.drop (i*e.size+e.size)):=by
 have hus:=hu.len
 have hle:i*e.size+e.size≤cs.length:=by
  rw [hl,←Nat.succ_mul]
  exact Nat.mul_le_mul_right _ hi
 intro j y hy
 by_cases hij:j=i
 ·subst hij
  rw [List.getElem?_set_self hi] at hy
  injection hy with hy
  subst hy
  refine ⟨us,hu,fun q u hq=>?_⟩
  have hqs:q<e.size:=by rw [←hus];exact (List.getElem?_eq_some_iff.1 hq).1
  rw [List.append_assoc,List.getElem?_append_right (by simp;omega),List.getElem?_append_left (by simp;omega)]
  simp only [List.length_take]
  rw [show j*e.size+q-min (j*e.size) cs.length=q by omega]
  exact hq
 ·rw [List.getElem?_set_ne (fun e=>hij e.symm)] at hy
  obtain ⟨vs,hv,hc⟩:=h j y hy
  refine ⟨vs,hv,fun q u hq=>?_⟩
  have hqs:q<e.size:=by rw [←hv.len];exact (List.getElem?_eq_some_iff.1 hq).1
  rw [←hc q u hq]
  rcases Nat.lt_or_gt_of_ne hij with hlt|hgt
  ·have:(j+1)*e.size≤i*e.size:=Nat.mul_le_mul_right _ hlt
   rw [Nat.add_mul,Nat.one_mul] at this
   rw [List.append_assoc,List.getElem?_append_left (by simp;omega),List.getElem?_take,if_pos (by omega)]
  ·have:(i+1)*e.size≤j*e.size:=Nat.mul_le_mul_right _ hgt
   rw [Nat.add_mul,Nat.one_mul] at this
   rw [List.getElem?_append_right (by simp;omega),List.getElem?_drop]
   simp only [List.length_append,List.length_take]
   rw [show i*e.size+e.size+(j*e.size+q-(min (i*e.size) cs.length+us.length))=j*e.size+q by omega]
omit HT in
theorem zvc {w:World} {R:Nat→Prop} {e:Kd} {xs ys:List e.T} {cs ds:List Value} (h:za9 w R e xs cs) (hl:cs.length=xs.length*e.size) (k:za9 w R e ys ds):za9 w R e (xs++ys) (cs++ds):=by
 intro i x hx
 rcases Nat.lt_or_ge i xs.length with hi|hi
 ·rw [List.getElem?_append_left hi] at hx
  obtain ⟨us,hu,hc⟩:=h i x hx
  refine ⟨us,hu,fun j u hj=>?_⟩
  have hjs:j<e.size:=by rw [←hu.len];exact (List.getElem?_eq_some_iff.1 hj).1
  have:(i+1)*e.size≤xs.length*e.size:=Nat.mul_le_mul_right _ hi
  rw [Nat.add_mul,Nat.one_mul] at this
  rw [List.getElem?_append_left (by omega)]
  exact hc j u hj
 ·rw [List.getElem?_append_right hi] at hx
  obtain ⟨us,hu,hc⟩:=k _ x hx
  refine ⟨us,hu,fun j u hj=>?_⟩
  have:xs.length*e.size≤i*e.size:=Nat.mul_le_mul_right _ hi
  rw [List.getElem?_append_right (by omega),hl]
  rw [show i*e.size+j-xs.length*e.size=(i-xs.length)*e.size+j by rw [Nat.sub_mul];omega]
  exact hc j u hj
omit HT in
theorem zmI {e:Kd} {f:AV→AV} {ev:Operand→AV} {aev:Operand→Value} (he:∀x,zf Γ (ev x) (aev x)) {Γ':Gh} :
  ∀(l:List (Nat×Operand)),(∀p∈l,zf Γ' (f (ev p.2)) (aev p.2))→∀{xs xs':List e.T} {cells:Array Value},zgX e f (mkP ev l) xs=some xs'→za9 Γ'.w Γ'.R e xs cells.toList→cells.size=xs.length*e.size →
   ∃cells',Instr.fill (fun i=>some (i*e.size,e.size)) cells (mkQ aev l)=some cells'∧cells'.size=cells.size∧za9 Γ'.w Γ'.R e xs' cells'.toList∧xs'.length=xs.length
 |[],_,xs,xs',cells,h,hr,hs=>by
  simp only [mkP,List.map_nil,zgX,Option.some.injEq] at h
  subst h
  exact ⟨cells,rfl,rfl,hr,rfl⟩
 |(i,x)::l,hl,xs,xs',cells,h,hr,hs=>by
  simp only [mkP,List.map_cons,zgX] at h
  split at h
  ·rename_i y hy
   obtain ⟨hlt,h⟩:=zm h
   have hi:i<xs.length:=Nat.le_of_ble_eq_true hlt
   have hu:=zev hy (hl (i,x) List.mem_cons_self)
   have hlen:=hu.len
   have hle:i*e.size+e.size≤cells.size:=by
    rw [hs,←Nat.succ_mul]
    exact Nat.mul_le_mul_right _ hi
   have hput:=zla cells.toList (aev x).cells.toList (i*e.size) e.size hlen (by simpa using hle)
   obtain ⟨cells',hf,h1,h2,h3⟩:=zmI he l (fun p hp=>hl p (List.mem_cons_of_mem _ hp)) (cells:=(cells.toList.take (i*e.size)++(aev x).cells.toList++cells.toList.drop (i*e.size+e.size)).toArray) h
    (by simpa using zoU hr (by simpa using hs) hu hi) (by rw [List.size_toArray,hput,Array.length_toList,hs,List.length_set])
   refine ⟨cells',?_,by rw [h1,List.size_toArray,hput,Array.length_toList],h2,by rw [h3,List.length_set]⟩
   show Instr.fill _ cells ((i,aev x)::mkQ aev l)=some cells'
   rw [zmT rfl (by rw [←Array.length_toList,hlen]) hle]
   exact hf
  ·cases h
end
section
variable {P:Program} {B:Nat} {w0:World} {Γ:Gh} {m:Mem} (M:zt B w0 Γ m)
include M
theorem zeS {o:Oper} {e:Kd} {t:Nat} {xs:List e.T} {v:AV} {m':Mem} (h:K5 o zM e t xs m=some (v,m')) {u:Value} {cs:List Value} (ho:Γ.w.ownsRow B t e.size u xs.length cs) (hr:za9 Γ.w Γ.R e xs cs) (hf:∀g,u.ownBlock=some g→Q3 Γ m g) :
  ∃Γ',Ext B Γ Γ'∧zt B w0 Γ' m'∧zf Γ' v u∧Γ'.w=Γ.w:=by
 unfold K5 at h
 split at h
 ·rename_i d hd
  obtain ⟨hn,h⟩:=zm h
  obtain ⟨rfl,rfl⟩:=zn h
  obtain ⟨M1,E1⟩:=M.addRow hn (a:=⟨e,xs,t,.own⟩) (v:=u) rfl ⟨cs,ho,hr⟩ hf
  refine ⟨_,E1,M1,?_,rfl⟩
  simp only [zf]
  refine ⟨zU _ _ _,?_⟩
  rcases ho.2 with ⟨rfl,hz⟩|⟨g,cap,cur,rfl,_⟩
  ·exact .inl ⟨hz,rfl⟩
  ·exact .inr ⟨g,cap,rfl⟩
 ·cases h
variable {tb:Tb} (HT:Yz P tb)
include HT
theorem zfe {o:Oper} {t len et:Nat} {κ:Kd} (hu:P.underlying t=some (.slice et)) (hκ:(tb.at et).kd=some κ) (hsmall:len*κ.size≤16777216) {l:List (Nat×Operand)} {ev:Operand→AV} {aev:Operand→Value} (he:∀x,zf Γ (ev x) (aev x)) {f:AV→AV} (hf:∀p∈l,zf Γ (f (ev p.2)) (aev p.2))
  {xs:List κ.T} (hset:zgX κ f (mkP ev l) (List.replicate len κ.dflt)=some xs) {v:AV} {m':Mem} (h:K5 o zM κ et xs m=some (v,m')) :
  zaN P B w0 Γ (Instr.buildSlice t len (mkQ aev l).toArray) v m':=by
 obtain ⟨⟨fi,z,hfi,hz,hfs,_,_,hzs,hkd⟩,_⟩:=zmb HT hκ
 obtain ⟨hks,_,_,hzr⟩:=hkd κ hκ
 have hzs':z.cells.size=κ.size:=by rw [hzs,hks]
 have hfs':fi.size=κ.size:=by rw [hfs,hks]
 have hmade:=zoM (hzr Γ.w Γ.R) len
 obtain ⟨cells',hfill,h1,h2,h3⟩:=zmI he (Γ':=Γ) l hf (cells:=madeCells z.cells (len*κ.size)) hset hmade (by rw [size_madeCells,List.length_replicate])
 rw [List.length_replicate] at h3
 obtain ⟨M1,E1⟩:=M.grow (World.grownBy_alloc Γ.w (.cells cells' et) none) (Nat.le_refl _)
 have hb:cells'.size=len*κ.size:=by rw [h1,size_madeCells]
 have ho:=World.ownsRow_lit (base:=B) (e:=et) (size:=κ.size) Γ.w cells' len M.base (by simp only [maxLen];have:=ZX κ;have:len≤len*κ.size:=Nat.le_mul_of_pos_right _ this;omega) hb
 obtain ⟨Γ',E',M',hv,hw⟩:=zeS M1 h (u:=.slice (some ⟨Γ.w.heap.size,0,none⟩) len len) (cs:=cells'.toList) (by rw [h3];exact ho) (h2.mono E1.heap E1.R) (fun g hg=>by
  simp only [Value.ownBlock,Option.some.injEq] at hg
  subst hg
  exact M.free_new (Nat.le_refl _) |> fun hF=>⟨hF.1,hF.2.1,hF.2.2⟩)
 refine ⟨Γ',_,E1.trans E',M',hv,?_⟩
 rw [hw]
 by_cases hpos:len*fi.size=0
 ·have hlen0:len=0:=by
   rcases Nat.mul_eq_zero.1 hpos with h|h
   ·exact h
   ·have:=ZX κ;omega
  subst hlen0
  have hc0:madeCells z.cells (0*κ.size)=#[]:=by simp [madeCells]
  rw [hc0] at hfill
  simp [Instr.buildSlice,run_underlying hu,sizeOf,typeInfo,hfi,hfs',Array.range_zero',hfill,newRow]
 ·rw [run_buildSlice Γ.w t et len _ cells' fi z hu hfi hz (by rw [hfs'];omega) hpos (by rw [hfs'];exact hfill)]
theorem zlV {o:Oper} {t len:Nat} {l:List (Nat×Operand)} {ev:Operand→AV} {aev:Operand→Value} (he:∀x,zf Γ (ev x) (aev x)) {v:AV} {m':Mem} (h:Qy tb o m zM t len (mkP ev l)=some (v,m')) :
  zaN P B w0 Γ (Instr.buildSlice t len (mkQ aev l).toArray) v m':=by
 unfold Qy at h
 split at h
 ·rename_i et hd
  have hdesc:=(jW HT (t:=t) (by rw [hd];rfl)).desc
  rw [hd] at hdesc
  have hu:=J8 hdesc
  split at h
  ·rename_i κ hκ
   obtain ⟨hsmall,h⟩:=zm h
   have hsmall':=Nat.le_of_ble_eq_true hsmall
   cases hfl:κ.flat
   ·rw [hfl] at h
    simp only [cond] at h
    split at h
    ·rename_i xs hset
     cases hptr:(mkP ev l).any fun p=>zsT p.2
     ·rw [hptr] at h
      simp only at h
      obtain ⟨R',M',E',hR'⟩:=M.fixL ((mkP ev l).flatMap fun p=>Zo m p.2)
      have L:∀p∈l,JU Γ { Γ with R:=R' } m (Zo m (ev p.2)) (Z9 (ev p.2)):=fun p hp=>⟨rfl,E'.R,fun b ⟨i,hi,hb⟩=>(hR' b).2 (.inr ⟨i,by
        rw [List.mem_flatMap]
        exact ⟨(p.1,ev p.2),List.mem_map.2 ⟨p,hp,rfl⟩,hi⟩,hb⟩),fun i hi=>by
        rw [zmG (by simpa using List.any_eq_false.1 hptr (p.1,ev p.2) (List.mem_map.2 ⟨p,hp,rfl⟩))] at hi
        cases hi⟩
      obtain ⟨Γ',u,E2,M2,hv,hrun⟩:=zfe M' HT hu hκ hsmall' (fun x=>(he x).ext E') (f:=XT m) (fun p hp=>zll M (L p hp) (he p.2)) hset h
      exact ⟨Γ',u,E'.trans E2,M2,hv,hrun⟩
     ·rw [hptr] at h
      cases h
    ·cases h
   ·rw [hfl] at h
    simp only [cond] at h
    split at h
    ·rename_i xs hset
     exact zfe M HT hu hκ hsmall' he (f:=fun v=>v) (fun p hp=>he p.2) hset h
    ·cases h
  ·cases h
 ·cases h
end
end Go.Proofs.YtpkkcjmblocjdaaGreat.AM
end
section
namespace Go.Proofs.YtpkkcjmblocjdaaGreat.AM
open Go.RowKit
theorem zoW {n:Nat} (h:few n=true):n<4294967296:=of_decide_eq_true h
theorem zpD {x y:Operand} (h:znn x y=true) (a:Act):a.eval x=a.eval y:=by
 unfold znn at h
 split at h
 ·rw [Nat.eq_of_beq_eq_true h]
 ·simp only [Bool.and_eq_true] at h
  rw [zaY h.1,eq_of_beq h.2]
 ·cases h
theorem zrK {w:World} {R:Nat→Prop} {e:Kd} {xs:List e.T} {A:Option Addr} {n c:Nat} (h:qd w R (.sl e) xs [.slice A n c]) {l q:Nat} (hl:l≤q) (hq:q≤n) :
  n=List.length (α:=e.T) xs∧n≤c∧qd w R (.sl e) (List.drop (α:=e.T) l (List.take q xs)) [.slice (if c=l then A else A.map (·.add (l*e.size))) (q-l) (c-l)]:=by
 simp only [qd] at h
 obtain ⟨A',c',he,hc,hS⟩:=h
 simp only [List.cons.injEq,Value.slice.injEq,and_true] at he
 obtain ⟨rfl,rfl,rfl⟩:=he
 refine ⟨rfl,hc,?_⟩
 simp only [qd]
 have hlen:List.length (α:=e.T) (List.drop l (List.take q xs))=q-l:=by
  rw [List.length_drop,List.length_take];omega
 refine ⟨_,_,by rw [hlen],by rw [hlen];omega,?_⟩
 rcases Nat.eq_zero_or_pos (q-l) with h0|h0
 ·exact .inl (List.eq_nil_of_length_eq_zero (by rw [hlen,h0]))
 ·right
  rcases hS with hS|⟨ad,rfl,hR,hcell⟩
  ·rw [hS] at hq;simp at hq;omega
  ·rw [if_neg (by omega)]
   refine ⟨ad.add (l*e.size),rfl,by rw [J2];exact hR,fun i x hx=>?_⟩
   rw [List.getElem?_drop,List.getElem?_take] at hx
   split at hx
   ·obtain ⟨us,hus,hj⟩:=hcell _ x hx
    refine ⟨us,hus,fun j u hju=>?_⟩
    rw [zhT,←hj j u hju]
    congr 2
    rw [Nat.add_mul]
    omega
   ·cases hx
theorem zsx {Γ:Gh} {o:Option Operand} {ev:Operand→AV} {aev:Operand→Value} (he:∀x,zf Γ (ev x) (aev x)) {r:Option Int} (h:zv2 (o.map ev)=some r) :
  (r=none∧o.map aev=none)∨∃k n,r=some n∧o.map aev=some (.int k n):=by
 cases o with
 |none =>
  simp only [Option.map_none,zv2,Option.some.injEq] at h
  exact .inl ⟨h.symm,rfl⟩
 |some x =>
  have hx:=he x
  simp only [Option.map_some] at h ⊢
  unfold zv2 at h
  split at h
  ·rename_i heq
   cases heq
  ·rename_i k n heq
   injection heq with heq
   rw [heq] at hx
   simp only [zf] at hx
   injection h with h
   exact .inr ⟨k,n,h.symm,by rw [hx]⟩
  ·cases h
theorem zop {P:Program} {t e:Nat} {i:TypeInfo} (hu:P.underlying t=some (.slice e)) (hi:P.info? e=some i) {A:Option Addr} {n c:Nat} (hc:n≤c) {lo hi':Option Int} {vlo vhi:Option Value}
  (h1:(lo=none∧vlo=none)∨∃k q,lo=some q∧vlo=some (.int k q)) (h2:(hi'=none∧vhi=none)∨∃k q,hi'=some q∧vhi=some (.int k q)) {α:Type} {x:Option α} {y:α} (hg:XE lo hi' n x=some y) (w:World) :
  x=some y∧∃l q,l≤q∧q≤n∧(∀{β:Type} (xs:List β),xs.length=n→zqx lo hi' xs=(xs.take q).drop l) ∧
   (Instr.sliceAt t (.slice A n c) vlo vhi none).run P w=.ok (.slice (if c=l then A else A.map (·.add (l*i.size))) (q-l) (c-l)) w:=by
 have hel:P.elem t=e:=by simp [Program.elem,hu]
 have hu':P.underlying t=some (.slice (P.elem t)):=by rw [hel];exact hu
 have hsz:∀w,(sizeOf (P.elem t)).run P w=.ok i.size w:=fun w=>by rw [hel];exact js hi w
 rcases h1 with ⟨rfl,rfl⟩|⟨k1,q1,rfl,rfl⟩<;>rcases h2 with ⟨rfl,rfl⟩|⟨k2,q2,rfl,rfl⟩
 ·refine ⟨hg,0,n,Nat.zero_le _,Nat.le_refl _,fun xs hx=>?_,?_⟩
  ·simp [zqx,←hx]
  ·rw [run_sliceAt_slice w t _ _ _ _ hu',run_slice_all w t A n c hu',hsz]
   simp [sliced]
 ·obtain ⟨g1,hg⟩:=jb hg
  obtain ⟨g2,hg⟩:=jb hg
  have g1':=of_decide_eq_true g1
  have g2':=of_decide_eq_true g2
  unfold ofN at g2'
  refine ⟨hg,0,q2.toNat,Nat.zero_le _,by omega,fun xs hx=>?_,?_⟩
  ·simp [zqx,tkL]
  ·rw [run_sliceAt_slice w t _ _ _ _ hu',run_slice_h w t A n c hu' k2 q2 g1' (by omega),hsz]
   simp [sliced]
 ·obtain ⟨g1,hg⟩:=jb hg
  obtain ⟨g2,hg⟩:=jb hg
  have g1':=of_decide_eq_true g1
  have g2':=of_decide_eq_true g2
  unfold ofN at g2'
  refine ⟨hg,q1.toNat,n,by omega,Nat.le_refl _,fun xs hx=>?_,?_⟩
  ·simp [zqx,dpL,←hx]
  ·rw [run_sliceAt_slice w t _ _ _ _ hu',run_slice_l w t A n c hu' k1 q1 g1' (by omega),hsz]
   simp [sliced]
 ·obtain ⟨g1,hg⟩:=jb hg
  obtain ⟨g2,hg⟩:=jb hg
  obtain ⟨g3,hg⟩:=jb hg
  obtain ⟨g4,hg⟩:=jb hg
  have g1':=of_decide_eq_true g1
  have g2':=of_decide_eq_true g2
  have g3':=of_decide_eq_true g3
  have g4':=of_decide_eq_true g4
  unfold ofN at g2'
  refine ⟨hg,q1.toNat,q2.toNat,by omega,by omega,fun xs hx=>?_,?_⟩
  ·simp [zqx,dpL,tkL]
  ·rw [run_sliceAt_slice w t _ _ _ _ hu',run_slice_lh w t A n c hu' k1 k2 q1 q2 g3' g4' (by omega),hsz]
   simp [sliced]
theorem zk4 {Γ:Gh} {κ:Kd}:∀{n:Nat} {cs:List AV} {vs:List Value} {xs:List κ.T},QA.decAll κ n cs=some xs→zq Γ cs vs→xs.length=n∧za9 Γ.w Γ.R κ xs vs
 |0,[],vs,xs,h,hr=>by
  simp only [QA.decAll,Option.some.injEq] at h
  subst h
  exact ⟨rfl,fun i x hx=>by simp at hx⟩
 |0,_::_,vs,xs,h,hr=>by simp [QA.decAll] at h
 |n+1,cs,vs,xs,h,hr=>by
  simp only [QA.decAll] at h
  split at h
  ·rename_i x r hd
   split at h
   ·rename_i ys hy
    injection h with h
    subst h
    obtain ⟨us,ws,rfl,h1,h2⟩:=KL hd hr
    obtain ⟨h3,h4⟩:=zk4 hy h2
    refine ⟨by simp [h3],fun i z hz=>?_⟩
    cases i with
    |zero =>
     obtain rfl:x=z:=by simpa using hz
     refine ⟨us,h1,fun j u hj=>?_⟩
     rw [Nat.zero_mul,Nat.zero_add,List.getElem?_append_left (List.getElem?_eq_some_iff.1 hj).1]
     exact hj
    |succ i =>
     obtain ⟨qs,hq,hc⟩:=h4 i z (by simpa using hz)
     refine ⟨qs,hq,fun j u hj=>?_⟩
     have hl:=h1.len
     rw [Nat.add_mul,Nat.one_mul,List.getElem?_append_right (by omega),hl]
     rw [show i*κ.size+κ.size+j-κ.size=i*κ.size+j by omega]
     exact hc j u hj
   ·cases h
  ·cases h
section
variable {P:Program} {B:Nat} {w0:World} {Γ:Gh} {m:Mem} (M:zt B w0 Γ m) {tb:Tb} (HT:Yz P tb)
include M HT
theorem zys {o:Oper} {t:Nat} {n v:AV} {vn:Value} {m':Mem} {same:Bool} (h:zhX tb o m zM t same n=some (v,m')) (hn:zf Γ n vn) :
  same=true∧zaN P B w0 Γ (Instr.makeSlice t vn vn) v m':=by
 unfold zhX at h
 split at h
 ·rename_i et n hd
  simp only [zf] at hn
  subst hn
  have hdesc:=(jW HT (t:=t) (by rw [hd];rfl)).desc
  rw [hd] at hdesc
  have hu:=J8 hdesc
  split at h
  ·rename_i κ hκ
   obtain ⟨hs,h⟩:=zm h
   obtain ⟨g1,h⟩:=jb h
   obtain ⟨g2,h⟩:=jb h
   have g1':0≤n:=of_decide_eq_true g1
   have g2':n.toNat<4294967296:=of_decide_eq_true g2
   refine ⟨hs,?_⟩
   obtain ⟨⟨fi,z,hfi,hz,hfs,hfb,_,hzs,hkd⟩,_⟩:=zmb HT hκ
   obtain ⟨hks,hb0,hb1,hzr⟩:=hkd κ hκ
   have hfs':fi.size=κ.size:=by rw [hfs,hks]
   obtain ⟨q,rfl⟩:=Int.eq_ofNat_of_zero_le g1'
   simp only [Int.toNat_natCast] at g2' h
   have hbytes:fi.bytes*q≤281474976710656:=by
    rw [hfb]
    calc (tb.at et).bytes*q≤32768*q:=Nat.mul_le_mul_right _ hb1
     _≤281474976710656:=by omega
   obtain ⟨w',hr,ho,hg⟩:=run_make_full (P:=P) Γ.w B t et fi z κ.size hu hfi hz hfs' .i64 .i64 q hbytes (by simp only [maxLen];omega) M.base
   obtain ⟨M1,E1⟩:=M.grow hg (zfJ P _ hr)
   have hmade:=zoM (hzr Γ.w Γ.R) q
   obtain ⟨Γ',E',M',hv,hw⟩:=zeS M1 h (u:=.slice (some ⟨Γ.w.heap.size,0,none⟩) q q) (cs:=(madeCells z.cells (q*κ.size)).toList) (by simpa [rpL] using ho) (by simpa [rpL] using hmade.mono E1.heap E1.R) (fun g hg=>by
    simp only [Value.ownBlock,Option.some.injEq] at hg
    subst hg
    have hF:=M.free_new (Nat.le_refl _)
    exact ⟨hF.1,hF.2.1,hF.2.2⟩)
   exact ⟨Γ',_,E1.trans E',M',hv,by rw [hw];exact hr⟩
  ·cases h
 ·cases h
theorem zwB {o:Oper} {t:Nat} {x v:AV} {vx:Value} {lo hi:Option Operand} {ev:Operand→AV} {aev:Operand→Value} (he:∀x,zf Γ (ev x) (aev x)) {m':Mem} (h:QA tb o m zM t x (lo.map ev) (hi.map ev)=some (v,m')) (hx:zf Γ x vx) :
  zaN P B w0 Γ (Instr.sliceAt t vx (lo.map aev) (hi.map aev) none) v m':=by
 unfold QA at h
 split at h
 ·rename_i lo' hi' hlo hhi
  have h1:=zsx he hlo
  have h2:=zsx he hhi
  split at h
  ·rename_i et e xs hd
   have hdesc:=(jW HT (t:=t) (by rw [hd];rfl)).desc
   rw [hd] at hdesc
   have hu:=J8 hdesc
   obtain ⟨hsz,h⟩:=zm h
   have hsz':(tb.at et).size=e.size:=Nat.eq_of_beq_eq_true hsz
   obtain ⟨⟨f,z,hf,_,hs,_⟩,_⟩:=Yu HT (t:=et) (by rw [hsz'];exact ZX e)
   have hx':=hx
   simp only [zf,qd] at hx'
   obtain ⟨A,c,hv,hc,_⟩:=hx'
   obtain rfl:=(List.cons.inj hv).1
   obtain ⟨hp,l,q,hl,hq,hcut,hrun⟩:=zop (P:=P) (A:=A) hu hf hc h1 h2 h Γ.w
   obtain ⟨rfl,rfl⟩:=zn hp
   simp only [zf] at hx
   obtain ⟨_,_,hr⟩:=zrK hx hl hq
   refine zaN.same M (u:=_) ?_ hrun
   simp only [zf]
   rw [hcut xs rfl,hs,hsz']
   exact hr
  ·rename_i et id e n hd
   have hdesc:=(jW HT (t:=t) (by rw [hd];rfl)).desc
   rw [hd] at hdesc
   have hu:=J8 hdesc
   split at h
   ·cases h
   ·rename_i e' xs tt st hdead hrow
    obtain ⟨hok,h⟩:=zm h
    simp only [Bool.and_eq_true] at hok
    have hsz':(tb.at et).size=e'.size:=Nat.eq_of_beq_eq_true hok.2
    obtain ⟨⟨f,z,hf,_,hs,_⟩,_⟩:=Yu HT (t:=et) (by rw [hsz'];exact ZX e')
    simp only [zf] at hx
    obtain ⟨hν,_⟩:=hx
    have hd':(⟨e',xs,tt,st⟩:ZF).st≠.dead:=fun e=>hdead e
    obtain ⟨R',M',E',hR'⟩:=M.fixL [id]
    have hsl:=zu7 (M.rowAt hν hrow hd') E'.R (fun g hg=>(hR' g).2 (.inr ⟨id,by simp,⟨_,hrow,hd'⟩,vx,hν,hg⟩))
    have hsl':=hsl
    simp only [qd] at hsl'
    obtain ⟨A,c,hv,hc,_⟩:=hsl'
    obtain rfl:=(List.cons.inj hv).1
    obtain ⟨hp,l,q,hl,hq,hcut,hrun⟩:=zop (P:=P) (A:=A) hu hf hc h1 h2 h Γ.w
    obtain ⟨rfl,rfl⟩:=zn hp
    obtain ⟨_,_,hr⟩:=zrK hsl hl hq
    refine ⟨_,_,E',M',?_,hrun⟩
    simp only [zf]
    rw [hcut xs rfl,hs,hsz']
    exact hr
   ·cases h
  ·rename_i et hd
   have hdesc:=(jW HT (t:=t) (by rw [hd];rfl)).desc
   rw [hd] at hdesc
   have hu:=J8 hdesc
   simp only [zf] at hx
   subst hx
   obtain ⟨hinf,h⟩:=zm h
   obtain ⟨⟨f,z,hf,_⟩,_⟩:=jW HT hinf
   obtain ⟨hp,l,q,hl,hq,hcut,hrun⟩:=zop (P:=P) (A:=none) hu hf (Nat.le_refl 0) h1 h2 h Γ.w
   obtain ⟨rfl,rfl⟩:=zn hp
   refine zaN.same M (u:=_) ?_ hrun
   simp only [zf]
   rw [show q-l=0 by omega]
   simp
  ·rename_i n e id hd
   have hdesc:=(jW HT (t:=t) (by rw [hd];rfl)).desc
   rw [hd] at hdesc
   have hu:=zaO hdesc
   split at h
   ·rename_i κ b hκ hb
    split at h
    ·rename_i xs hxs
     obtain ⟨hok,h⟩:=zm h
     obtain ⟨rfl,rfl⟩:=zn h
     simp only [zf] at hx
     obtain ⟨blk,hμ,rfl⟩:=hx
     obtain ⟨us,ty,hcell,hl⟩:=(M.boxAt hμ hb).cells
     obtain ⟨M',E'⟩:=M.fixBox hμ
     obtain ⟨⟨f,z,hf,_,hs,_,_,_,hkd⟩,_⟩:=zmb HT hκ
     obtain ⟨hks,_⟩:=hkd κ hκ
     simp only [Bool.and_eq_true] at hok
     have hnr:b.cs.flatMap Js=[]:=List.eq_nil_of_length_eq_zero (by simpa [Zn,Yi,hb] using Nat.eq_of_beq_eq_true hok.1)
     have L:JU Γ { Γ with R:=fun c=>Γ.R c∨c=blk } m (b.cs.flatMap Js) []:=⟨rfl,fun b h=>.inl h,(fun c ⟨i,hi,_⟩=>by rw [hnr] at hi;cases hi),(fun i hi=>by cases hi)⟩
     obtain ⟨h3,h4⟩:=zk4 hxs (za6 M L hl)
     rcases h1 with ⟨_,h1⟩|⟨_,_,h1,_⟩
     ·rcases h2 with ⟨_,h2⟩|⟨_,_,h2,_⟩
      ·refine ⟨_,.slice (some ⟨blk,0,none⟩) n n,E',M',?_,?_⟩
       ·simp only [zf,qd]
        refine ⟨_,n,by rw [h3],by rw [h3];exact Nat.le_refl _,.inr ⟨_,rfl,.inr rfl,fun i x hx=>?_⟩⟩
        obtain ⟨ws,hw,hc⟩:=h4 i x hx
        refine ⟨ws,hw,fun j u hj=>?_⟩
        rw [jZ,Nat.zero_add]
        show Γ.w.cell? _=_
        rw [cell_of_row Γ.w blk _ us ty (0,0) hcell]
        simpa using hc j u hj
       ·rw [h1,h2]
        have hal:P.arrayLen t=n:=by simp [Program.arrayLen,hu]
        have hel:P.elem t=e:=by simp [Program.elem,hu]
        simp [Instr.sliceAt,run_underlying hu,Instr.sureAddr,Instr.sliceBounds,js hf,Addr.add_zero']
      ·cases h2
     ·cases h1
    ·cases h
   ·cases h
  ·cases h
 ·cases h
end
end Go.Proofs.YtpkkcjmblocjdaaGreat.AM
end
section
namespace Go.Proofs.YtpkkcjmblocjdaaGreat.AM
open Go.RowKit
def zkd (w:World) (R:Nat→Prop) (e:Kd) (ys:List e.T) (A:Option Addr):Prop :=
 ys=[]∨∃ad:Addr,A=some ad∧∀(i:Nat) (x:e.T),ys[i]?=some x→∃us,qd w R e x us∧∀(j:Nat) (u:Value),us[j]?=some u→w.cell? (ad.add (i*e.size+j))=some u
theorem zxR {w:World} {R:Nat→Prop} {e:Kd} {ys:List e.T} {a:Addr} (hS:zkd w R e ys (some a)) :
  ∃news:List Value,news.length=ys.length*e.size∧(∀j u,news[j]?=some u→w.cell? (a.add j)=some u)∧za9 w R e ys news∧∀u∈news,u.oneCell'=true:=by
 have key:∀i x,ys[i]?=some x→∃us,qd w R e x us∧∀(j:Nat) (u:Value),us[j]?=some u→w.cell? (a.add (i*e.size+j))=some u:=by
  rcases hS with hS|⟨ad,had,hcell⟩
  ·intro i x hx;rw [hS] at hx;simp at hx
  ·injection had with had;subst had;exact hcell
 have at_:∀k,k<List.length (α:=e.T) ys*e.size→∃u,w.cell? (a.add k)=some u∧u.oneCell'=true:=by
  intro k hk
  have hs:=ZX e
  have hi:k / e.size<List.length (α:=e.T) ys:=(Nat.div_lt_iff_lt_mul hs).2 hk
  obtain ⟨us,hus,hc⟩:=key (k / e.size) _ (List.getElem?_eq_getElem hi)
  have hj:k % e.size<us.length:=by rw [hus.len];exact Nat.mod_lt _ hs
  refine ⟨us[k % e.size],?_,hus.one _ (List.getElem_mem hj)⟩
  have:=hc _ _ (List.getElem?_eq_getElem hj)
  rwa [Nat.mul_comm,Nat.div_add_mod] at this
 refine ⟨(List.range (List.length (α:=e.T) ys*e.size)).map fun k=>(w.cell? (a.add k)).getD undef,by simp,fun j u hj=>?_,fun i x hx=>?_,fun u hu=>?_⟩
 ·rw [List.getElem?_map] at hj
  obtain ⟨k,hk,hu⟩:=Option.map_eq_some_iff.1 hj
  obtain ⟨hlt,rfl⟩:=List.getElem?_eq_some_iff.1 hk
  simp only [List.length_range] at hlt
  obtain ⟨u',hc,_⟩:=at_ j hlt
  simp only [List.getElem_range] at hu
  rw [hc] at hu ⊢
  rw [←hu]
  rfl
 ·obtain ⟨us,hus,hc⟩:=key i x hx
  refine ⟨us,hus,fun j u hj=>?_⟩
  have hjs:j<e.size:=by rw [←hus.len];exact (List.getElem?_eq_some_iff.1 hj).1
  have hi:i<List.length (α:=e.T) ys:=(List.getElem?_eq_some_iff.1 hx).1
  have hk:i*e.size+j<List.length (α:=e.T) ys*e.size:=by
   have:(i+1)*e.size≤List.length (α:=e.T) ys*e.size:=Nat.mul_le_mul_right _ hi
   rw [Nat.add_mul,Nat.one_mul] at this
   omega
  rw [List.getElem?_map,List.getElem?_range hk,Option.map_some,hc j u hj]
  rfl
 ·obtain ⟨k,hk,rfl⟩:=List.mem_map.1 hu
  obtain ⟨u',hc,h1⟩:=at_ k (List.mem_range.1 hk)
  rw [hc]
  exact h1
section
variable {P:Program} {B:Nat} {w:World}
theorem zkG {t ty et:TypeId} {fi:TypeInfo} {z:Value} {e:Kd} (hu:P.underlying t=some (.slice et)) (hfi:P.info? et=some fi) (hz:fi.zero=some z) (hs:fi.size=e.size) (hzs:z.cells.size=e.size) (hb:fi.bytes≤32768)
  {v:Value} {n:Nat} {cs:List Value} (ho:w.ownsRow B et e.size v n cs) {R:Nat→Prop} {ys:List e.T} {A:Option Addr} {c:Nat} (hS:zkd w R e ys A) (hfew:n+ys.length<4294967296) (hbase:B≤w.heap.size) :
  ∃v' w' news,(Builtin.append_ #[t,t] ty #[v,.slice A ys.length c]).run P w=.ok v' w'∧w'.ownsRow B et e.size v' (n+ys.length) (cs++news)∧za9 w R e ys news∧w.grownBy w' v.ownBlock∧(v'.ownBlock=v.ownBlock∨v'.ownBlock=some w.heap.size):=by
 cases A with
 |none =>
  rcases hS with hS|⟨ad,had,_⟩
  ·subst hS
   refine ⟨v,w,[],?_,by simpa using ho,fun i x hx=>by simp at hx,World.grownBy.refl w _,.inl rfl⟩
   rcases ho.2 with ⟨rfl,hn⟩|⟨g,cap,cur,rfl,_,_,hnc,_⟩
   ·simp [Builtin.append_,run_underlying hu,sizeOf,typeInfo,hfi,Builtin.lenOf,Builtin.firstCells]
   ·simp [Builtin.append_,run_underlying hu,sizeOf,typeInfo,hfi,Builtin.lenOf,Builtin.firstCells,hnc,storeCells]
  ·cases had
 |some a =>
  obtain ⟨news,hl,hnews,hR,h1⟩:=zxR hS
  obtain ⟨v',w',hr,ho',hg,_,hat⟩:=run_append_own_at (P:=P) w B t ty et fi z e.size fi.bytes hu hfi hz hs rfl hzs (ZX e) v n cs ho a ys.length c news hl hnews h1 (by simp only [maxLen];omega)
   (by calc (n+List.length (α:=e.T) ys)*fi.bytes≤(n+List.length (α:=e.T) ys)*32768:=Nat.mul_le_mul_left _ hb
      _≤140737488355328:=by omega) hbase
  exact ⟨v',w',news,hr,ho',hR,hg,hat⟩
end
theorem zuw {w:World} {R:Nat→Prop} {e:Kd} {ys:List e.T} {v:Value} (h:qd w R (.sl e) ys [v]):∃A c,v=.slice A ys.length c∧zkd w R e ys A:=by
 simp only [qd] at h
 obtain ⟨A,c,hv,_,hS⟩:=h
 refine ⟨A,c,(List.cons.inj hv).1,?_⟩
 rcases hS with hS|⟨ad,had,_,hcell⟩
 ·exact .inl hS
 ·exact .inr ⟨ad,had,hcell⟩
theorem zi8 {w:World} {R:Nat→Prop} {e' e:Kd} {ys:List e'.T} {xs:List e.T} {v:Value} (h:zha e' e ys=some xs) (hr:∃A c,v=.slice A ys.length c∧zkd w R e' ys A):∃A c,v=.slice A xs.length c∧zkd w R e xs A:=by
 obtain ⟨rfl,rfl⟩:=Y3 h
 exact hr
section
variable {P:Program} {B:Nat} {w0:World} {Γ:Gh} {m:Mem} (M:zt B w0 Γ m) {tb:Tb} (HT:Yz P tb)
include M
omit M in
theorem zsY {a:ZF} {v:Value} (hr:zbZ B Γ a v):∃A c,v=.slice A a.xs.length c∧zkd Γ.w Γ.R a.e a.xs A:=by
 obtain ⟨cs,ho,hR⟩:=hr.own
 rcases ho.2 with ⟨rfl,hn⟩|⟨g,cap,cur,rfl,hb,hg,hnc,hcm,hcs,htake⟩
 ·exact ⟨none,0,by rw [hn],.inl (List.eq_nil_of_length_eq_zero hn)⟩
 ·refine ⟨_,cap,rfl,.inr ⟨_,rfl,fun i x hx=>?_⟩⟩
  obtain ⟨us,hus,hc⟩:=hR i x hx
  refine ⟨us,hus,fun j u hj=>?_⟩
  have hjs:j<a.e.size:=by rw [←hus.len];exact (List.getElem?_eq_some_iff.1 hj).1
  have hi:i<List.length (α:=a.e.T) a.xs:=(List.getElem?_eq_some_iff.1 hx).1
  have hle:i*a.e.size+j<List.length (α:=a.e.T) a.xs*a.e.size:=by
   have:(i+1)*a.e.size≤List.length (α:=a.e.T) a.xs*a.e.size:=Nat.mul_le_mul_right _ hi
   rw [Nat.add_mul,Nat.one_mul] at this
   omega
  rw [jZ,Nat.zero_add,ho.cellAt _ hle]
  exact hc j u hj
theorem zpy {e:Kd} {x:AV} {vx:Value} {ys:List e.T} (h:zxF m e x=some ys) (hx:zf Γ x vx):∃A c,vx=.slice A ys.length c∧zkd Γ.w Γ.R e ys A:=by
 unfold zxF at h
 split at h
 ·injection h with h
  subst h
  simp only [zf] at hx
  exact ⟨none,0,hx,.inl rfl⟩
 ·simp only [zf] at hx
  exact zi8 h (zuw hx)
 ·split at h
  ·cases h
  ·rename_i e' zs tt st hd hrow
   simp only [zf] at hx
   have hd':(⟨e',zs,tt,st⟩:ZF).st≠.dead:=fun e=>hd e
   exact zi8 h (zsY (M.rowAt hx.1 hrow hd'))
  ·cases h
 ·cases h
include HT
theorem zta {o:Oper} {t ty:Nat} {v x r:AV} {vv vx:Value} {m':Mem} (h:zbl tb o m zM t v x=some (r,m')) (hv:zf Γ v vv) (hx:zf Γ x vx) :
  zaN P B w0 Γ (Builtin.append_ #[t,t] ty #[vv,vx]) r m':=by
 unfold zbl at h
 split at h
 ·rename_i et hd
  have hdesc:=(jW HT (t:=t) (by rw [hd];rfl)).desc
  rw [hd] at hdesc
  have hu:=J8 hdesc
  split at h
  ·split at h
   ·rename_i κ hκ
    split at h
    ·rename_i ys hys
     obtain ⟨hfew,h⟩:=jb h
     have hfew':=zoW hfew
     obtain ⟨⟨fi,z,hfi,hz,hfs,hfb,_,hzs,hkd⟩,_⟩:=zmb HT hκ
     obtain ⟨hks,hb0,hb1,hzr⟩:=hkd κ hκ
     simp only [zf] at hv
     subst hv
     obtain ⟨A,c,rfl,hS⟩:=zpy M hys hx
     obtain ⟨v',w',news,hr,ho,hR,hg,hat⟩:=zkG (P:=P) (ty:=ty) hu hfi hz (by rw [hfs,hks]) (by rw [hzs,hks]) (by rw [hfb];exact hb1) (World.ownsRow_nil Γ.w B et κ.size) hS (by simpa [Yc] using hfew') M.base
     obtain ⟨M1,E1⟩:=M.grow hg (zfJ P _ hr)
     simp only [Nat.zero_add,List.nil_append] at ho
     obtain ⟨Γ',E',M',hv',hw⟩:=zeS M1 h (u:=v') ho (hR.mono E1.heap E1.R) (fun g hgv=>by
      rcases hat with hat|hat
      ·rw [hat] at hgv;cases hgv
      ·rw [hat] at hgv
       injection hgv with hgv
       subst hgv
       have hF:=M.free_new (Nat.le_refl _)
       exact ⟨hF.1,hF.2.1,hF.2.2⟩)
     exact ⟨Γ',_,E1.trans E',M',hv',by rw [hw];exact hr⟩
    ·cases h
   ·cases h
  ·rename_i id e0 n0
   split at h
   ·rename_i e xs et' hrow
    split at h
    ·rename_i ys hys
     obtain ⟨hok,h2⟩:=zm h
     obtain ⟨hfew,h3⟩:=jb h2
     clear h h2
     simp only [Bool.and_eq_true] at hok
     obtain ⟨⟨⟨het,hsz⟩,hby⟩,hnr⟩:=hok
     have hby':=Nat.le_of_ble_eq_true hby
     have het':=Nat.eq_of_beq_eq_true het
     subst het'
     have hsz':(tb.at et).size=e.size:=Nat.eq_of_beq_eq_true hsz
     have hfew':=zoW hfew
     obtain ⟨⟨fi,z,hfi,hz,hfs,hfb,_,hzs,hkd⟩,_⟩:=Yu HT (t:=et) (by rw [hsz'];exact ZX e)
     simp only [zf] at hv
     have hd':(⟨e,xs,et,.own⟩:ZF).st≠.dead:=fun e=>by cases e
     have hrr:=M.rowAt hv.1 hrow hd'
     obtain ⟨cs,ho,hR0⟩:=hrr.own
     obtain ⟨A,c,rfl,hS⟩:=zpy M hys hx
     obtain ⟨v',w',news,hr,ho',hR,hg,hat⟩:=zkG (P:=P) (ty:=ty) hu hfi hz (by rw [hfs,hsz']) (by rw [hzs,hsz']) (by rw [hfb];exact hby') ho hS (by simpa [Yc,zAt] using hfew') M.base
     have Mk:=M.kill id
     have hfree:∀g,vv.ownBlock=some g→B≤g∧Q3 Γ (m.kill id) g:=fun g hgv=>by
      refine ⟨(M.rowlt hv.1 ⟨_,hrow,hd'⟩ hgv).1,?_,fun i=>M.rb id i vv g hv.1 hgv ⟨_,hrow,hd'⟩,fun i u hu' hl hug=>?_,fun i=>M.rm hv.1 hgv ⟨_,hrow,hd'⟩⟩
      ·rcases hrr.fix g hgv with ⟨hst,_⟩|⟨_,hn⟩
       ·cases hst
       ·exact hn
      ·obtain ⟨hl',hne⟩:=zsy hl
       exact hne (M.rr i id u vv g hu' hv.1 hug hgv hl' ⟨_,hrow,hd'⟩)
     obtain ⟨M1,E1⟩:=Mk.write hg (zfJ P _ hr) hfree
     obtain ⟨Γ',E',M',hv',hw⟩:=zeS M1 h3 (u:=v') (cs:=cs++news) (by simpa [apL,List.length_append] using ho') (by
       have:=zvc hR0 ho.1 hR
       simpa [apL] using this.mono E1.heap E1.R) (fun g hgv=>by
      rcases hat with hat|hat
      ·rw [hat] at hgv
       have hF:=(hfree g hgv).2
       exact ⟨hF.1,hF.2.1,hF.2.2⟩
      ·rw [hat] at hgv
       injection hgv with hgv
       subst hgv
       have hF:=Mk.free_new (Nat.le_refl _)
       exact ⟨hF.1,hF.2.1,hF.2.2⟩)
     exact ⟨Γ',_,E1.trans E',M',hv',by rw [hw];exact hr⟩
    ·cases h
   ·cases h
  ·cases h
 ·cases h
end
end Go.Proofs.YtpkkcjmblocjdaaGreat.AM
end
