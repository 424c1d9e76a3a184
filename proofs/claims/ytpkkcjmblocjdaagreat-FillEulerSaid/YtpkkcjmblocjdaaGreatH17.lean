/- The reference's numbers: out of any word. -/
import Derived.Test.YtpkkcjmblocjdaaGreatH16
set_option linter.unusedVariables false
set_option linter.unusedSimpArgs false
set_option linter.unusedSectionVars false
namespace Go.Proofs.YtpkkcjmblocjdaaGreat.Pure
open Go.RowKit Go.Proofs.YtpkkcjmblocjdaaGreat.AM
theorem zoG (k:Nat) (a:Int) (f:Int×(Bool×List Int)×List Int×Int→(Int×(Bool×List Int)×List Int×Int→Option Nm)→Option Nm)
  (h0:∀z ds next,f (a,z,ds,0) next=bnd (zu k (decide (a<0)) ds) fun r=>some (r.1,r.2))
  (hs:∀z ds x next,x≠0→ds.length<1000→-9223372036854775808≤x→x≤9223372036854775807→f (a,z,ds,x) next=next (a,z,ds++[((x.tmod 65536).natAbs:Int)],x.tdiv 65536)) (m:Nat) :
  ∀(q:Nat) (x:Int) (z:Nm) (ds:List Int),x.natAbs<65536^q→ds.length+q≤900→-9223372036854775808≤x→x≤9223372036854775807 →
   ∃es,zw f (m+q+1) (a,z,ds,x)=(bnd (zu k (decide (a<0)) (ds++es)) fun r=>some (r.1,r.2))∧Dig es∧nat es=(x.natAbs:Int)∧es.length≤q:=by
 have zero:∀(q:Nat) (z:Nm) (ds:List Int),∃es,zw f (q+1) (a,z,ds,0)=(bnd (zu k (decide (a<0)) (ds++es)) fun r=>some (r.1,r.2))∧Dig es∧nat es=((0:Int).natAbs:Int)∧es.length≤0:=by
  intro q z ds
  refine ⟨[],?_,fun d h=>(by cases h),rfl,Nat.le_refl _⟩
  rw [q6,h0,List.append_nil]
 intro q
 induction q with
 |zero =>
  intro x z ds hx _ _ _
  have:x=0:=by simp at hx;omega
  subst this
  obtain ⟨es,h1,h2,h3,h4⟩:=zero m z ds
  exact ⟨es,h1,h2,h3,h4⟩
 |succ q ih =>
  intro x z ds hx hl hlo hhi
  by_cases h:x=0
  ·subst h
   obtain ⟨es,h1,h2,h3,h4⟩:=zero (m+(q+1)) z ds
   exact ⟨es,h1,h2,h3,by omega⟩
  ·have hd:(x.tdiv 65536).natAbs=x.natAbs / 65536:=by rw [Int.natAbs_tdiv];rfl
   have hm:(x.tmod 65536).natAbs=x.natAbs % 65536:=by rw [Int.natAbs_tmod];rfl
   obtain ⟨es,h1,h2,h3,h4⟩:=ih (x.tdiv 65536) z (ds++[((x.tmod 65536).natAbs:Int)]) (by rw [hd];rw [Nat.pow_succ] at hx;omega) (by simp;omega) (by omega) (by omega)
   refine ⟨((x.tmod 65536).natAbs:Int)::es,?_,?_,?_,by simp;omega⟩
   ·rw [show m+(q+1)+1=(m+q+1)+1 by omega,q6,hs z ds x _ h (by omega) hlo hhi,h1,List.append_assoc]
    rfl
   ·intro d hd'
    rcases List.mem_cons.1 hd' with rfl|hd'
    ·rw [hm];omega
    ·exact h2 d hd'
   ·simp only [nat]
    rw [h3,hm,hd]
    omega
theorem zq3 (m:Nat) (a:Int) (h:-9223372036854775808≤a∧a≤9223372036854775807) (f:Int×(Bool×List Int)×List Int×Int→(Int×(Bool×List Int)×List Int×Int→Option Nm)→Option Nm)
  (h0:∀z ds next,f (a,z,ds,0) next=bnd (zu (m+10) (decide (a<0)) ds) fun r=>some (r.1,r.2))
  (hs:∀z ds x next,x≠0→ds.length<1000→-9223372036854775808≤x→x≤9223372036854775807→f (a,z,ds,x) next=next (a,z,ds++[((x.tmod 65536).natAbs:Int)],x.tdiv 65536)) :
  ∃y,zw f (m+10) (a,(false,[]),[],a)=some y∧Ok y∧val y=a∧y.2.length≤4:=by
 obtain ⟨es,h1,h2,h3,h4⟩:=zoG (m+10) a f h0 hs (m+5) 4 a (false,[]) [] (by omega) (by simp) (by omega) (by omega)
 rw [h1,List.nil_append,zk5 (m+10) _ es (by omega) (by omega),zr]
 refine ⟨_,rfl,zmf h2 _ (Nat.le_refl _),?_,?_⟩
 ·show val (tr (decide (a<0)) es es.length)=a
  rw [zkI h2 _ (Nat.le_refl _),List.take_length,h3]
  by_cases ha:a<0
  ·rw [if_pos (decide_eq_true ha)];omega
  ·rw [if_neg (by simp [ha])];omega
 ·have:∀n,(tr (decide (a<0)) es n).2.length≤n:=by
   intro n
   induction n with
   |zero=>simp [tr]
   |succ n ih =>
    simp only [tr]
    split
    ·omega
    ·simp;omega
  exact Nat.le_trans (this es.length) h4
theorem Q6 (m:Nat) (a:Int) (h:-9223372036854775808≤a∧a≤9223372036854775807):∃y,zJ (m+10) a=some y∧Ok y∧val y=a∧y.2.length≤4:=by
 unfold zJ Qc
 refine zq3 m a h _ (fun z ds next=>rfl) (fun z ds x next hx hl hlo hhi=>?_)
 dsimp only
 rw [Kh (by simp [hx])]
 simp only [zx]
 have ht:-65536<x.tmod 65536∧x.tmod 65536<65536:=by
  have hm:(x.tmod 65536).natAbs=x.natAbs % 65536:=by rw [Int.natAbs_tmod];rfl
  omega
 have hd:(x.tdiv 65536).natAbs=x.natAbs / 65536:=by rw [Int.natAbs_tdiv];rfl
 rw [zl (x:=x.tdiv 65536) (by omega) (by omega),zl (x:=0-x.tmod 65536) (by omega) (by omega)]
 have hf:few (ds.length+1)=true:=by unfold few;exact decide_eq_true (by omega)
 rw [hf]
 by_cases hn:x.tmod 65536<0
 ·rw [zk hn]
  have:(0-x.tmod 65536)=((x.tmod 65536).natAbs:Int):=by omega
  rw [this];rfl
 ·rw [zg hn]
  have:x.tmod 65536=((x.tmod 65536).natAbs:Int):=by omega
  rw [←this];rfl
end Go.Proofs.YtpkkcjmblocjdaaGreat.Pure
