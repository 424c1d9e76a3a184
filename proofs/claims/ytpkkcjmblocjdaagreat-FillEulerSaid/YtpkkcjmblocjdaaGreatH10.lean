/- The reference's numbers: a sum of one sign; which one is greater. -/
import Derived.Test.YtpkkcjmblocjdaaGreatH9
set_option linter.unusedVariables false
set_option linter.unusedSimpArgs false
set_option linter.unusedSectionVars false
namespace Go.Proofs.YtpkkcjmblocjdaaGreat.Pure
open Go.RowKit Go.Proofs.YtpkkcjmblocjdaaGreat.AM
theorem znX (neg:Bool) (ds:List Int):∀n,(tr neg ds n).2.length≤n
 |0=>by simp [tr]
 |n+1=>by
  simp only [tr]
  split
  ·have:=znX neg ds n;omega
  ·simp;omega
theorem zuO (m:Nat) (a b:Nm) (ha:Ok a) (hb:Ok b) (hs:a.1=b.1) (la:a.2.length≤40) (lb:b.2.length≤40) (f:PSt→(PSt→Option Nm)→Option Nm)
  (hend:∀z acc (i:Nat) next,¬i<a.2.length→¬i<b.2.length→f (a,b,z,acc,0,(i:Int)) next=bnd (zu (m+100) a.1 acc) fun r=>some (r.1,r.2))
  (hstep:∀z acc c (i:Nat) next,(i<a.2.length∨i<b.2.length∨c>0)→acc.length=i→i≤40→0≤c→c≤1→f (a,b,z,acc,c,(i:Int)) next=next (a,b,z,acc++[(dg a.2 i+dg b.2 i+c) % 65536],(dg a.2 i+dg b.2 i+c) / 65536,((i+1:Nat):Int))) :
  ∃y,zw f (m+100) (a,b,(false,[]),[],0,0)=some y∧Ok y∧val y=val a+val b∧y.2.length≤41:=by
 obtain ⟨es,h1,h2,h3,h4⟩:=zs0 (m+100) a b ha.dig hb.dig f 40 la lb hend hstep (m+58) 41 0 (false,[]) [] 0 (by omega) rfl (fun d h=>by cases h) (by omega) (by omega) (by omega) (by simp [nat])
 rw [show ((0:Nat):Int)=0 from rfl] at h1
 rw [h1,zk5 (m+100) _ es (by omega) (by omega),zr]
 refine ⟨_,rfl,zmf h2 _ (Nat.le_refl _),?_,Nat.le_trans (znX _ _ _) h4⟩
 show val (tr a.1 es es.length)=_
 rw [zkI h2 _ (Nat.le_refl _),List.take_length,h3]
 unfold val
 rw [←hs]
 split<;>omega
theorem zti (m:Nat) (a b:Nm) (ha:Ok a) (hb:Ok b) (hs:a.1=b.1) (la:a.2.length≤40) (lb:b.2.length≤40):∃y,zD (m+100) a b=some y∧Ok y∧val y=val a+val b∧y.2.length≤41:=by
 unfold zD Zl
 rw [Kh (by rw [hs];simp)]
 refine zuO m a b ha hb hs la lb _ (fun z acc i next h1 h2=>?_) (fun z acc c i next h1 h2 h3 h4 h5=>?_)
 ·dsimp only
  simp only [zx]
  rw [zg (show ¬(i:Int)<(a.2.length:Int) by omega),zg (show ¬(i:Int)<(b.2.length:Int) by omega)]
  rfl
 ·dsimp only
  simp only [zx]
  rw [zjH,zjH]
  simp only [zr]
  have ra:=jI ha.dig i
  have rb:=jI hb.dig i
  rw [zl (x:=dg a.2 i+dg b.2 i) (by omega) (by omega),zl (x:=dg a.2 i+dg b.2 i+c) (by omega) (by omega),zoF (by omega),zo8 (by omega),zl (x:=(dg a.2 i+dg b.2 i+c) / 65536) (by omega) (by omega),zl (x:=(i:Int)+1) (by omega) (by omega)]
  have hf:few (acc.length+1)=true:=by unfold few;exact decide_eq_true (by omega)
  rw [hf]
  by_cases q1:i<a.2.length
  ·rw [zk (show (i:Int)<(a.2.length:Int) by omega)];rfl
  ·rw [zg (show ¬(i:Int)<(a.2.length:Int) by omega)]
   by_cases q2:i<b.2.length
   ·rw [zk (show (i:Int)<(b.2.length:Int) by omega)];rfl
   ·rw [zg (show ¬(i:Int)<(b.2.length:Int) by omega),decide_eq_true (show c>0 by omega)];rfl
end Go.Proofs.YtpkkcjmblocjdaaGreat.Pure
