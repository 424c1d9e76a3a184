/- The reference's numbers: sums. -/
import Derived.Test.YtpkkcjmblocjdaaGreatH12
set_option linter.unusedVariables false
set_option linter.unusedSimpArgs false
set_option linter.unusedSectionVars false
namespace Go.Proofs.YtpkkcjmblocjdaaGreat.Pure
open Go.RowKit Go.Proofs.YtpkkcjmblocjdaaGreat.AM
theorem zzM {a b:Nm} (ha:Ok a) (hb:Ok b) (h:nat b.2≤nat a.2):b.2.length≤a.2.length:=by
 apply Decidable.byContradiction
 intro hn
 obtain ⟨n,hn'⟩:∃n,b.2.length=n+1:=⟨b.2.length-1,by omega⟩
 have h1:=zeQ ha.dig
 have h2:=znw hb hn'
 have h3:=zj6 (show a.2.length≤n by omega)
 omega
theorem ztn (m:Nat) (a b:Nm) (ha:Ok a) (hb:Ok b) (hlt:nat b.2≤nat a.2) (la:a.2.length≤40) (f:MSt→(MSt→Option Nm)→Option Nm)
  (hend:∀z acc c next,f (z,acc,c,a,b,(a.2.length:Int)) next=bnd (zu (m+100) a.1 acc) fun r=>some (r.1,r.2))
  (hstep:∀z acc c (i:Nat) next,i<a.2.length→acc.length=i→0≤c→c≤1→f (z,acc,c,a,b,(i:Int)) next=next (z,acc++[(dg a.2 i-dg b.2 i-c) % 65536],(if dg a.2 i-dg b.2 i-c<0 then 1 else 0),a,b,((i+1:Nat):Int))) :
  ∃y,zw f (m+100) ((false,[]),[],0,a,b,0)=some y∧Ok y∧val y=(if a.1=true then -(nat a.2-nat b.2) else nat a.2-nat b.2)∧y.2.length≤a.2.length:=by
 obtain ⟨es,h1,h2,h3,h4⟩:=zsH (m+100) a b ha hb hlt (zzM ha hb hlt) f hend hstep (m+99-a.2.length) a.2.length 0 (false,[]) [] 0 (by omega) rfl (fun d h=>by cases h) (by omega) (by omega) (by simp [nat])
 rw [show m+99-a.2.length+a.2.length+1=m+100 by omega,show ((0:Nat):Int)=0 from rfl] at h1
 rw [h1,zk5 (m+100) _ es (by omega) (by omega),zr]
 refine ⟨_,rfl,zmf h2 _ (Nat.le_refl _),?_,Nat.le_trans (znX _ _ _) (by omega)⟩
 show val (tr a.1 es es.length)=_
 rw [zkI h2 _ (Nat.le_refl _),List.take_length,h3]
theorem zou (p q:Bool) (x y:Int) (h:¬p=q):(if p=true then -x else x)+(if q=true then -y else y)=if p=true then -(x-y) else x-y:=by
 cases p<;>cases q<;>simp at h ⊢<;>omega
theorem ziW (m:Nat) (a b:Nm) (ha:Ok a) (hb:Ok b) (la:a.2.length≤40) (lb:b.2.length≤40):∃y,zD (m+100) a b=some y∧Ok y∧val y=val a+val b∧y.2.length≤41:=by
 by_cases hs:a.1=b.1
 ·exact zti m a b ha hb hs la lb
 obtain ⟨r,hr,hlt⟩:=zuE m a b ha hb (by omega) (by omega)
 have step:∀(x y:Nm),Ok x→Ok y→x.2.length≤40→∀(acc:List Int) (c:Int) (i:Nat),acc.length=i→i<x.2.length→0≤c→c≤1 →
   (dg x.2 i-dg y.2 i-c<0→(dg x.2 i-dg y.2 i-c) % 65536=dg x.2 i-dg y.2 i-c+65536)∧(¬dg x.2 i-dg y.2 i-c<0→(dg x.2 i-dg y.2 i-c) % 65536=dg x.2 i-dg y.2 i-c):=by
  intro x y hx hy hl acc c i _ _ _ _
  have rx:=jI hx.dig i
  have ry:=jI hy.dig i
  constructor<;>intro _<;>omega
 unfold zD Zl
 rw [Qx (by simpa using hs),hr,zr]
 simp only [zx]
 have body:∀(x y:Nm),Ok x→Ok y→nat y.2≤nat x.2→x.2.length≤40→∀f:MSt→(MSt→Option Nm)→Option Nm,
   (∀z acc c (i:Int) next,f (z,acc,c,x,y,i) next=(bif decide (i<(x.2.length:Int)) then gd (inb i x.2.length) (bnd (qG (m+100) y.2 i) fun r32=>bif decide ((w64 ((w64 ((rdD 0 x.2 i)-r32))-c))<0) then gd (few (acc.length+1)) (next (z,acc++[w64 ((w64 ((w64 ((rdD 0 x.2 i)-r32))-c))+65536)],1,x,y,w64 (i+1))) else gd (few (acc.length+1)) (next (z,acc++[w64 ((w64 ((rdD 0 x.2 i)-r32))-c)],0,x,y,w64 (i+1)))) else bnd (zu (m+100) x.1 acc) fun r41=>some (r41.1,r41.2))) →
   ∀v:Int,v=(if x.1=true then -(nat x.2-nat y.2) else nat x.2-nat y.2)→∃w,zw f (m+100) ((false,[]),[],0,x,y,0)=some w∧Ok w∧val w=v∧w.2.length≤41:=by
  intro x y hx hy hle hl f hf v hv
  suffices H:∃w,zw f (m+100) ((false,[]),[],0,x,y,0)=some w∧Ok w∧val w=(if x.1=true then -(nat x.2-nat y.2) else nat x.2-nat y.2)∧w.2.length≤x.2.length by
   obtain ⟨w,h1,h2,h3,h4⟩:=H
   exact ⟨w,h1,h2,h3.trans hv.symm,by omega⟩
  refine ztn m x y hx hy hle hl f (fun z acc c next=>?_) (fun z acc c i next hi hla hc0 hc1=>?_)
  ·rw [hf,zg (by omega)]
  ·have rx:=jI hx.dig i
   have ry:=jI hy.dig i
   have ex:rdD 0 x.2 (i:Int)=dg x.2 i:=by rw [zY _ _ i hi];unfold dg;simp [List.getD_eq_getElem?_getD,hi]
   obtain ⟨s1,s2⟩:=step x y hx hy hl acc c i hla hi hc0 hc1
   have hfw:few (acc.length+1)=true:=by unfold few;exact decide_eq_true (by omega)
   rw [hf,zk (by omega),zP (zA ⟨by omega,by omega⟩),zjH,zr,ex,hfw,zl (x:=dg x.2 i-dg y.2 i) (by omega) (by omega),zl (x:=dg x.2 i-dg y.2 i-c) (by omega) (by omega),zl (x:=dg x.2 i-dg y.2 i-c+65536) (by omega) (by omega),zl (x:=(i:Int)+1) (by omega) (by omega)]
   by_cases h:dg x.2 i-dg y.2 i-c<0
   ·rw [zk h,if_pos h,s1 h];rfl
   ·rw [zg h,if_neg h,s2 h];rfl
 by_cases h:r<0
 ·rw [zk h]
  refine body b a hb ha (by have:=hlt.1 h;omega) lb _ (fun z acc c i next=>rfl) (val a+val b) ?_
  rw [Int.add_comm]
  exact zou b.1 a.1 _ _ (fun e=>hs e.symm)
 ·rw [zg h]
  refine body a b ha hb (by
   have:¬nat a.2<nat b.2:=fun e=>h (hlt.2 e)
   omega) la _ (fun z acc c i next=>rfl) (val a+val b) ?_
  exact zou a.1 b.1 _ _ hs
end Go.Proofs.YtpkkcjmblocjdaaGreat.Pure
