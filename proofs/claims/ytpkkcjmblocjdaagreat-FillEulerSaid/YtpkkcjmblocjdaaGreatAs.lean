/- The abstract machine, 31: slices.SortFunc. -/
import Derived.Test.YtpkkcjmblocjdaaGreatAn
import Derived.Shelf.SlSortCmp.NoneTotal
set_option linter.unusedVariables false
set_option linter.unusedSimpArgs false
set_option linter.unusedSectionVars false
section
namespace Go.Proofs.YtpkkcjmblocjdaaGreat.AM
open Go.RowKit Go.Sort Go.Shelf
theorem zqX {W W':World} (h:Go.RowKit.Below W.heap.size W W') (hd:W.drawn≤W'.drawn):∃q os,W'=grow (W.drewN q) os:=by
 refine ⟨W'.drawn-W.drawn,W'.heap.extract W.heap.size W'.heap.size,?_⟩
 have hh:W'.heap=W.heap++W'.heap.extract W.heap.size W'.heap.size:=by
  apply Array.ext_getElem?
  intro i
  by_cases hi:i<W.heap.size
  ·rw [Array.getElem?_append_left hi,h.block i hi]
  ·rw [Array.getElem?_append_right (by omega)]
   by_cases h2:i<W'.heap.size
   ·rw [Array.getElem?_extract]
    rw [show W.heap.size+(i-W.heap.size)=i by omega,if_pos (by omega)]
   ·rw [Array.getElem?_eq_none (by omega),Array.getElem?_eq_none (by rw [Array.size_extract];omega)]
 have e:W.drawn+(W'.drawn-W.drawn)=W'.drawn:=by omega
 cases W with
 |mk a b c d f =>
  cases W' with
  |mk a' b' c' d' f' =>
   simp only [grow,World.drewN] at *
   have h1:=h.os
   have h2:=h.tape
   have h3:=h.output
   simp only at h1 h2 h3
   subst h1
   subst h2
   subst h3
   rw [e,←hh]
section
variable {κ:Kd} (hf:κ.lfs.all Kd.isOne=true)
theorem zow [Inhabited κ.T] (xs:List κ.T):(flatK κ.vs κ.size xs.toArray).toList=xs.flatMap κ.vs:=by
 have hpos:=ZX κ
 apply List.ext_getElem?
 intro q
 by_cases hq:q<List.length (α:=κ.T) xs*κ.size
 ·have hi:q / κ.size<List.length (α:=κ.T) xs:=(Nat.div_lt_iff_lt_mul hpos).2 hq
  have hj:q % κ.size<κ.size:=Nat.mod_lt _ hpos
  have he:q / κ.size*κ.size+q % κ.size=q:=by rw [Nat.mul_comm];exact Nat.div_add_mod q κ.size
  have h2:=zat xs (q / κ.size) (q % κ.size) _ (List.getElem?_eq_getElem hi) hj
  rw [he] at h2
  rw [h2]
  have hs:q<(flatK κ.vs κ.size xs.toArray).size:=by rw [size_flatK];simpa using hq
  have h3:=get_flatK κ.vs κ.size xs.toArray q (by simpa using hq)
  rw [getElem!_pos _ q hs] at h3
  rw [Array.getElem?_toList,Array.getElem?_eq_getElem hs,h3]
  have h4:(xs.toArray)[q / κ.size]! = xs[q / κ.size]:=by rw [getElem!_pos _ _ (by simpa using hi)];simp
  rw [h4,getElem!_pos _ _ (by rw [XW];exact hj),List.getElem?_eq_getElem]
 ·rw [List.getElem?_eq_none (by rw [Array.length_toList,size_flatK];simpa using hq),List.getElem?_eq_none (by rw [XK];omega)]
include hf in
theorem zsW [Inhabited κ.T] {w:World} {g:Nat} {cur:Array Value} {ty:TypeId} {xs:List κ.T} (hb:w.heap[g]?=some (.cells cur ty (0,0))) (hl:List.length (α:=κ.T) xs*κ.size≤cur.size) (ht:cur.toList.take (List.length (α:=κ.T) xs*κ.size)=xs.flatMap κ.vs):HoldsK κ.vs κ.size w g 0 xs.toArray:=by
 intro j hj
 have hj':j<List.length (α:=κ.T) xs*κ.size:=by simpa using hj
 refine ⟨?_,by simp [World.frozen?,hb]⟩
 have h1:(cur.toList.take (List.length (α:=κ.T) xs*κ.size))[j]?=(xs.flatMap κ.vs)[j]?:=by rw [ht]
 rw [List.getElem?_take_of_lt hj',←zow] at h1
 simp only [World.cell?,hb,Nat.zero_add]
 simp only [Option.isSome_none,Bool.false_eq_true,if_false]
 rw [←Array.getElem?_toList,h1,Array.getElem?_toList,Array.getElem?_eq_getElem hj,getElem!_pos _ j hj]
 rfl
theorem zwz [Inhabited κ.T] {w:World} {g n:Nat} {os:Array Obj} {cur:Array Value} {e:TypeId} {fr:Nat×Nat} (d:Array κ.T) (hb:w.heap[g]?=some (.cells cur e fr)) :
  (sortWorldK κ.vs κ.size w g 0 n d os).heap[g]?=some (.cells (putCells id 0 (flatK κ.vs κ.size d) cur) e fr):=by
 have hg:g<w.heap.size:=(Array.getElem?_eq_some_iff.1 hb).1
 unfold sortWorldK putRowK
 rw [heap_grow_old _ _ (by simpa using hg)]
 simp [putRow,mapBlock,Sort.ahead,Array.getElem?_modify,hb,onCells]
theorem zoA [Inhabited κ.T] {w:World} {g n:Nat} {os:Array Obj} (d:Array κ.T):w.grownBy (sortWorldK κ.vs κ.size w g 0 n d os) (some g):=by
 unfold sortWorldK putRowK
 refine ⟨rfl,rfl,rfl,by simp,fun k hk hne=>?_⟩
 rw [heap_grow_old _ _ (by simpa using hk)]
 have:g≠k:=fun e=>hne (by rw [e])
 simp [putRow,mapBlock,Sort.ahead,Array.getElem?_modify,this]
theorem zv3 [Inhabited κ.T] (cur:Array Value) (xs:List κ.T) (h:List.length (α:=κ.T) xs*κ.size≤cur.size):(putCells id 0 (flatK κ.vs κ.size xs.toArray) cur).toList.take (List.length (α:=κ.T) xs*κ.size)=xs.flatMap κ.vs:=by
 rw [←zow]
 apply List.ext_getElem?
 intro j
 by_cases hj:j<List.length (α:=κ.T) xs*κ.size
 ·have hs:j<(flatK κ.vs κ.size xs.toArray).size:=by rw [size_flatK];simpa using hj
  rw [List.getElem?_take_of_lt hj,Array.getElem?_toList,Array.getElem?_toList]
  have hc:j<cur.size:=by omega
  unfold putCells
  rw [Array.getElem?_mapIdx,Array.getElem?_eq_getElem hc]
  simp only [Option.map_some,Nat.sub_zero,id]
  rw [if_pos ⟨Nat.zero_le _,by omega⟩,getElem!_pos _ j hs,Array.getElem?_eq_getElem hs]
 ·rw [List.getElem?_take_eq_none (by omega),List.getElem?_eq_none (by rw [Array.length_toList,size_flatK];simpa using hj)]
end
theorem zql:∀{κ:Kd} {x:κ.T},κ.lfs.all Kd.isOne=true→∀v∈κ.vs x,v.oneCell'=true
 |.int k,x,_,v,hv=>by simp only [Kd.vs,List.mem_singleton] at hv;rw [hv];rfl
 |.bool,x,_,v,hv=>by simp only [Kd.vs,List.mem_singleton] at hv;rw [hv];rfl
 |.str,x,_,v,hv=>by simp only [Kd.vs,List.mem_singleton] at hv;rw [hv];rfl
 |.pair a b,x,hl,v,hv=>by
  simp only [Kd.lfs,List.all_append,Bool.and_eq_true] at hl
  simp only [Kd.vs,List.mem_append] at hv
  rcases hv with hv|hv
  ·exact zql hl.1 v hv
  ·exact zql hl.2 v hv
 |.sl e,x,hl,v,hv=>by simp [Kd.lfs,Kd.isOne] at hl
 |.mp k v',x,hl,v,hv=>by simp [Kd.lfs,Kd.isOne] at hl
theorem zwi {P:Program} {ρ:Ren} (L:SlLaysF0.n6 P ρ) {ka kb:Kd} (hf:(Kd.pair ka kb).lfs.all Kd.isOne=true)
  (aE:∀w,(isAgg (ρ.t 24)).run P w=.ok true w) (zE:∀w,(Go.sizeOf (ρ.t 24)).run P w=.ok (Kd.pair ka kb).size w)
  {h : Nat} {f : Func} (hfn : P.funcs[h]? = some f) (hb : f.body.isSome = true) (hname : (f.name == "runtime.NumGoroutine") = false)
  {cf:(Kd.pair ka kb).T→(Kd.pair ka kb).T→Int} (hO:SWO (ltOf cf)) (hT:∀x y,ltOf cf x y=false→ltOf cf y x=false→x=y)
  {F:shT [.d (.pair ka kb),.d (.pair ka kb)]→Option (kdT [.int .i64])} (ht:zv P h [.d (.pair ka kb),.d (.pair ka kb)] [.int .i64] F) (hF:∀x y,F (x,y)=some (cf x y)):zmy P (ρ.f 6) h (.pair ka kb) cf:=by
 letI:Inhabited (Kd.pair ka kb).T:=⟨(Kd.pair ka kb).dflt⟩
 obtain ⟨c,hc⟩:=Option.isSome_iff_exists.1 hb
 have eg:∀args w,(callFunc h args).run P w=.ok (.enter h args) w:=fun args w=>Zv hfn hname hc args w
 have cmp:∀(x y:(Kd.pair ka kb).T) (W:World),Calls P h #[.agg ((Kd.pair ka kb).vs x).toArray,.agg ((Kd.pair ka kb).vs y).toArray] W fun e w'=>e=.returned (.int .i64 (cf x y))∧∃q os',w'=grow (W.drewN q) os':=by
  intro x y W
  have hr:zq (Qo W fun _=>False) (zdU [.d (.pair ka kb),.d (.pair ka kb)] (x,y)) [.agg ((Kd.pair ka kb).vs x).toArray,.agg ((Kd.pair ka kb).vs y).toArray]:=by
   show zq _ [(Kd.pair ka kb).av x,(Kd.pair ka kb).av y] _
   simp only [zq,Kd.av,zf]
   exact ⟨_,_,rfl,⟨_,rfl,qd.cells (Γ:=Qo W fun _=>False) (zia hf)⟩,_,_,rfl,⟨_,rfl,qd.cells (Γ:=Qo W fun _=>False) (zia hf)⟩,rfl⟩
  rcases ht (x,y) _ (hF x y) W _ _ (fun b hb=>hb.elim) hr with ⟨_,h2⟩|⟨u,w',h2,_⟩
  ·refine Calls.mono h2 fun e W' he=>?_
   obtain ⟨v,rfl,⟨hB,hd⟩,R',_,_,_,hv⟩:=he
   replace hv:zf (Qo W' R') (.int .i64 (cf x y)) v:=hv
   simp only [zf] at hv
   exact ⟨by rw [hv],zqX hB hd⟩
  ·rw [eg] at h2
   cases h2
 refine ⟨hf,fun us w=>L.f6.enters rfl us w,fun p cap fv w=>AnyF.slices_SortFunc_none L p cap fv w,fun g cap xs cur ty w hb hl htk hpos hlt=>?_⟩
 have hg:g<w.heap.size:=(Array.getElem?_eq_some_iff.1 hb).1
 have hcall:=AnyQ.slices_SortFunc_total L (Kd.pair ka kb).size aE zE (Kd.pair ka kb).vs (XW _) (fun x v hv=>zql hf v hv) cf hO h #[] g 0 cap xs.toArray w eg (fun m os dk _ x y=>cmp x y _) (zsW hf hb hl htk) hg (by simp;omega) hT
 have hsz:(xs.toArray).size=List.length (α:=(Kd.pair ka kb).T) xs:=by simp
 rw [hsz] at hcall
 refine Calls.mono hcall fun e w' ⟨he,n,os,hw⟩=>⟨he,?_⟩
 have hm:((xs.toArray).toList.mergeSort fun x y=>!(ltOf cf) y x)=Y0 cf xs:=rfl
 rw [hm] at hw
 subst hw
 refine ⟨zoA _,Nat.le_add_right _ _,_,zwz _ hb,by simp [putCells],?_⟩
 rw [show List.length (α:=(Kd.pair ka kb).T) xs=(Y0 cf xs).length from (zeY cf xs).symm]
 exact zv3 _ _ (by rw [zeY];exact hl)
end Go.Proofs.YtpkkcjmblocjdaaGreat.AM
end
