/- The reference's numbers: sign and digits. -/
import Derived.Test.YtpkkcjmblocjdaaGreatH4
set_option linter.unusedVariables false
set_option linter.unusedSimpArgs false
set_option linter.unusedSectionVars false
namespace Go.Proofs.YtpkkcjmblocjdaaGreat.Pure
open Go.RowKit Go.Proofs.YtpkkcjmblocjdaaGreat.AM
def nat:List Int→Int
 |[]=>0
 |d::r=>d+65536*nat r
def Dig (ds:List Int):Prop:=∀d∈ds,0≤d∧d<65536
abbrev Nm:Type:=Bool×List Int
def val (x:Nm):Int:=if x.1=true then -(nat x.2) else nat x.2
structure Ok (x:Nm):Prop where
 dig:Dig x.2
 top:∀d,x.2.getLast?=some d→d≠0
 sign:x.1=true→x.2≠[]
theorem JA:∀{ds:List Int},Dig ds→0≤nat ds
 |[],_=>Int.le_refl 0
 |d::r,h=>by
  have h1:=h d List.mem_cons_self
  have h2:=JA (ds:=r) fun x hx=>h x (List.mem_cons_of_mem _ hx)
  simp only [nat]
  omega
theorem zhe:∀(xs ys:List Int),nat (xs++ys)=nat xs+65536^xs.length*nat ys
 |[],ys=>by simp [nat]
 |x::xs,ys=>by
  simp only [List.cons_append,nat,zhe xs ys,List.length_cons,Int.pow_succ]
  grind
theorem zoz:∀{ds:List Int},Dig ds→nat ds=0→∀d∈ds,d=0
 |[],_,_,d,hd=>by cases hd
 |x::r,h,h0,d,hd=>by
  have h1:=h x List.mem_cons_self
  have hr:Dig r:=fun y hy=>h y (List.mem_cons_of_mem _ hy)
  have h2:=JA hr
  simp only [nat] at h0
  rcases List.mem_cons.1 hd with rfl|hd
  ·omega
  ·exact zoz hr (by omega) d hd
theorem zsm {x:Nm} (h:Ok x):val x=0↔x.2=[]:=by
 constructor
 ·intro h0
  have hn:nat x.2=0:=by unfold val at h0;split at h0<;>omega
  cases hl:x.2.getLast? with
  |none=>simpa using hl
  |some d=>exact absurd (zoz h.dig hn d (List.mem_of_getLast? hl)) (h.top d hl)
 ·intro h0
  unfold val
  rw [h0]
  simp [nat]
theorem zx8 {x:Nm} (h:Ok x):sg (val x)=if x.2=[] then 0 else if x.1=true then -1 else 1:=by
 have hn:=JA h.dig
 by_cases h0:x.2=[]
 ·rw [(zsm h).2 h0,if_pos h0];rfl
 ·have hz:val x≠0:=fun e=>h0 ((zsm h).1 e)
  rw [if_neg h0]
  unfold val at hz ⊢
  by_cases h1:x.1=true
  ·rw [if_pos h1] at hz ⊢
   rw [if_pos h1,sg,if_neg (by omega),if_pos (by omega)]
  ·rw [if_neg h1] at hz ⊢
   rw [if_neg h1,sg,if_pos (by omega)]
theorem zok (k:Nat) {x:Nm} (h:Ok x):zW k x=some (sg (val x)):=by
 rw [zx8 h]
 unfold zW
 by_cases h0:x.2=[]
 ·rw [zk (by rw [h0];rfl),if_pos h0]
 ·have:x.2.length≠0:=fun e=>h0 (List.eq_nil_of_length_eq_zero e)
  rw [zg (by omega),if_neg h0]
  by_cases h1:x.1=true
  ·rw [Kh h1,if_pos h1]
  ·rw [Qx (by simpa using h1),if_neg h1]
theorem zy0 (k:Nat) {x:Nm} (h:Ok x):∃y,qm k x=some y∧Ok y∧val y=-(val x):=by
 unfold qm
 simp only [zx]
 by_cases h1:x.1=true
 ·refine ⟨(false,x.2),by rw [Qx (by simp [h1])],⟨h.dig,h.top,fun e=>by cases e⟩,?_⟩
  unfold val
  rw [if_pos h1]
  simp
 ·refine ⟨(decide ((x.2.length:Int)>0),x.2),by rw [Kh (by simp [h1])],⟨h.dig,h.top,fun e=>?_⟩,?_⟩
  ·have:=of_decide_eq_true e
   intro e'
   rw [e'] at this
   simp at this
  ·unfold val
   rw [if_neg h1]
   by_cases h2:x.2=[]
   ·rw [h2];simp [nat]
   ·have:x.2.length≠0:=fun e=>h2 (List.eq_nil_of_length_eq_zero e)
    dsimp only
    rw [if_pos (decide_eq_true (by omega))]
def tr (neg:Bool) (ds:List Int):Nat→Nm
 |0=>(false,[])
 |n+1=>if ds.getD n 0=0 then tr neg ds n else (neg,ds.take (n+1))
theorem zip {α ρ:Type} {f:α→(α→Option ρ)→Option ρ} (st:Nat→α) (P:Nat→Option ρ) (h0:∀next,f (st 0) next=P 0) (n:Nat) (hs:∀i,i<n→∀next,next (st i)=P i→f (st (i+1)) next=P (i+1)) :
  ∀(q i:Nat),i≤n→i<q→zw f q (st i)=P i
 |0,i,_,h=>by omega
 |q+1,0,_,_=>by rw [q6];exact h0 _
 |q+1,i+1,hi,h=>by
  rw [q6]
  exact hs i (by omega) _ (zip st P h0 n hs q i (by omega) (by omega))
theorem zvz (neg:Bool) (ds:List Int):∀n,n≤ds.length→nat (tr neg ds n).2=nat (ds.take n)
 |0,_=>by simp [tr]
 |n+1,h=>by
  simp only [tr]
  split
  ·rename_i h0
   rw [zvz neg ds n (by omega),List.take_succ_eq_append_getElem (by omega),zhe]
   have:ds[n]=0:=by simpa [List.getD_eq_getElem?_getD,show n<ds.length by omega] using h0
   rw [this]
   simp [nat]
  ·rfl
theorem zmf {neg:Bool} {ds:List Int} (hd:Dig ds):∀n,n≤ds.length→Ok (tr neg ds n)
 |0,_=>⟨fun d h=>by simp [tr] at h,fun d h=>by simp [tr] at h,fun h=>by simp [tr] at h⟩
 |n+1,h=>by
  simp only [tr]
  split
  ·exact zmf hd n (by omega)
  ·rename_i h0
   refine ⟨fun d hx=>hd d (List.mem_of_mem_take hx),fun d hx=>?_,fun _ e=>?_⟩
   ·have e:ds.take (n+1)=ds.take n++[ds[n]]:=List.take_succ_eq_append_getElem (by omega)
    have hx':(ds.take (n+1)).getLast?=some d:=hx
    rw [e,List.getLast?_append] at hx'
    simp at hx'
    have:ds.getD n 0=ds[n]:=by simp [List.getD_eq_getElem?_getD,show n<ds.length by omega]
    rw [this] at h0
    rw [←hx'];exact h0
   ·have e':ds.take (n+1)=[]:=e
    have:=congrArg List.length e'
    rw [List.length_take] at this
    simp at this
    rw [this] at h
    simp at h
theorem zkI {neg:Bool} {ds:List Int} (hd:Dig ds) (n:Nat) (hn:n≤ds.length):val (tr neg ds n)=if neg=true then -(nat (ds.take n)) else nat (ds.take n):=by
 have h1:=zvz neg ds n hn
 have h2:∀n,(tr neg ds n).1=neg∨(tr neg ds n).2=[]:=by
  intro n
  induction n with
  |zero=>exact .inr rfl
  |succ n ih =>
   simp only [tr]
   split
   ·exact ih
   ·exact .inl rfl
 unfold val
 rw [h1]
 rcases h2 n with h|h
 ·rw [h]
 ·rw [h] at h1
  have:nat (ds.take n)=0:=by rw [←h1];rfl
  rw [this]
  simp
theorem zk5 (m:Nat) (neg:Bool) (ds:List Int) (hl:ds.length<m) (hl2:ds.length<4294967296):zu m neg ds=some (tr neg ds ds.length):=by
 unfold zu
 refine zip (fun i=>(neg,ds,(false,[]),(i:Int))) (fun i=>some (tr neg ds i)) ?_ ds.length ?_ m ds.length (Nat.le_refl _) hl
 ·intro next
  dsimp only
  simp only [zx]
  rw [zg (show ¬((0:Nat):Int)>0 by omega)]
  simp only [cF]
  have e0:tkL ds ((0:Nat):Int)=[]:=by simp [tkL]
  have g1:decide ((0:Int)≤((0:Nat):Int))=true:=decide_eq_true (by omega)
  have g2:decide (((0:Nat):Int)≤(ds.length:Int))=true:=decide_eq_true (by omega)
  rw [e0,g1,g2]
  cases neg<;>rfl
 ·intro i hi next hn
  dsimp only at hn ⊢
  simp only [zx]
  rw [zk (show ((i+1:Nat):Int)>0 by omega),zl (x:=((i+1:Nat):Int)-1) (by omega) (by omega)]
  have e1:((i+1:Nat):Int)-1=(i:Int):=by omega
  rw [e1,zP (zA ⟨by omega,by omega⟩),zY _ ds i hi]
  have eg:ds.getD i 0=ds[i]:=by simp [List.getD_eq_getElem?_getD,hi]
  by_cases h0:ds[i]=0
  ·rw [zk h0,hn]
   simp only [tr]
   rw [if_pos (by rw [eg];exact h0)]
  ·rw [zg h0]
   simp only [tr]
   rw [if_neg (by rw [eg];exact h0)]
   have e0:tkL ds ((i+1:Nat):Int)=ds.take (i+1):=by simp [tkL]
   have g1:decide ((0:Int)≤((i+1:Nat):Int))=true:=decide_eq_true (by omega)
   have g2:decide (((i+1:Nat):Int)≤(ds.length:Int))=true:=decide_eq_true (by omega)
   have g3:decide (((i+1:Nat):Int)>0)=true:=decide_eq_true (by omega)
   rw [e0,g1,g2,g3]
   cases neg<;>rfl
end Go.Proofs.YtpkkcjmblocjdaaGreat.Pure
