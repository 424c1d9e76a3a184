/- The abstract machine, 21: two operations, in either order. -/
import Derived.Test.YtpkkcjmblocjdaaGreatAd
import Derived.LoopN
set_option linter.unusedVariables false
set_option linter.unusedSimpArgs false
set_option linter.unusedSectionVars false
section
namespace Go.Proofs.YtpkkcjmblocjdaaGreat.AM
open Go.RowKit
def gst (ops:Array Oper) (o:Oper) (s:St):Option Bool:=match o.guard with
 |none=>some true
 |some (j,want)=>match znI ops j with
  |some d=>match s.tm d with
   |.bool b=>some (b==want)
   |.tup []=>some false
   |_=>none
  |none=>none
theorem zhA (cl:∀ρ,Jz ρ) (tb:Tb) (ops:Array Oper) (o:Oper) (s:St):Kx cl tb ops o s=match gst ops o s with
  |some true=>(opD cl tb o s.ev s.m).map fun p=>s.put o.dst p.1 p.2
  |some false=>some (s.put o.dst (.tup []) s.m)
  |none=>none:=by
 unfold Kx gst
 cases o.guard with
 |none=>simp only;cases opD cl tb o s.ev s.m<;>rfl
 |some jw =>
  obtain ⟨j,want⟩:=jw
  simp only
  cases znI ops j with
  |none=>rfl
  |some d =>
   simp only
   cases hd:s.tm d
   case bool b =>
    simp only
    cases b==want
    ·rfl
    ·simp only [cond];cases opD cl tb o s.ev s.m<;>rfl
   case tup vs=>cases vs<;>rfl
   all_goals rfl
theorem zry (ops:Array Oper) (j:Nat):znI ops j=(ops[j]?).bind (·.dst):=by
 unfold znI
 rw [Array.getElem?_toList]
 cases ops[j]?<;>rfl
theorem zlB (s:St) (d:Option Nat) (v:AV) (m:Mem) (i:Nat):(s.put d v m).tm i=if d=some i then v else s.tm i:=by
 cases d with
 |none=>simp [St.put]
 |some d =>
  simp only [St.put,zgF,Option.some.injEq]
  by_cases h:i=d
  ·subst h;simp
  ·rw [if_neg h,if_neg (Ne.symm h)]
theorem zi4 (s:St) (d:Option Nat) (v:AV) (m:Mem):(s.put d v m).m=m:=by cases d<;>rfl
theorem zuo {s:St} {d:Option Nat} {v:AV} {m:Mem} {ops:Array Oper} {o:Oper} (h:∀i,d=some i→i∉o.looksAt ops):∀x∈o.op.operands.toList,(s.put d v m).ev x=s.ev x:=by
 intro x hx
 cases x with
 |tmp t =>
  show (s.put d v m).tm t=s.tm t
  rw [zlB,if_neg]
  intro e
  exact h t e (List.mem_append_left _ (List.mem_filterMap.2 ⟨.tmp t,hx,rfl⟩))
 |_=>rfl
theorem zfy {s:St} {d:Option Nat} {v:AV} {m:Mem} {ops:Array Oper} {o:Oper} (h:∀i,d=some i→i∉o.looksAt ops):gst ops o (s.put d v m)=gst ops o s:=by
 unfold gst
 cases hg:o.guard with
 |none=>rfl
 |some jw =>
  obtain ⟨j,want⟩:=jw
  simp only
  cases hd:znI ops j with
  |none=>rfl
  |some e =>
   simp only
   rw [zlB,if_neg]
   intro he
   refine h e he (List.mem_append_right _ ?_)
   rw [hg]
   simp only
   rw [←zry,hd]
   simp
theorem zjN {s:St} {d e:Option Nat} {u v:AV} {m m' m2 m3:Mem} (h:∀i,d=some i→e≠some i) (hm:m'=m3):(s.put d u m).put e v m'=(s.put e v m2).put d u m3:=by
 subst hm
 cases d with
 |none=>cases e<;>rfl
 |some d =>
  cases e with
  |none=>rfl
  |some e =>
   simp only [St.put]
   rw [zep _ _ _ (fun e'=>h d rfl (by rw [e']))]
theorem znp {m:Mem} {o:Oper} {ops:Array Oper} {d:Nat} (h:d∉o.looksAt ops):XD m o (m.id d)=false:=by
 unfold XD Mem.id
 rw [Bool.or_eq_false_iff]
 constructor
 ·cases hb:Nat.blt (m.ep*4096+d) (m.ep*4096) with
  |false=>rfl
  |true=>simp only [Nat.blt,Nat.ble_eq] at hb;omega
 ·rw [List.any_eq_false]
  intro x hx
  cases x with
  |tmp t =>
   simp only
   intro hb
   have:=Nat.eq_of_beq_eq_true hb
   obtain rfl:d=t:=by omega
   exact h (List.mem_append_left _ (List.mem_filterMap.2 ⟨.tmp d,hx,rfl⟩))
  |_=>simp
section
variable {cl:∀ρ,Jz ρ} (hcl:zdL cl) (hcc:zmY cl) {tb:Tb} {ops:Array Oper}
include hcl hcc
theorem zxg {x y:Oper} (hap:x.apart ops y=true) (hm:zvt (cls tb x) (cls tb y)=true) {ex ey:Operand→AV} {m m1 m2:Mem} {u v:AV} (h1:opD cl tb x ex m=some (u,m1)) (h2:opD cl tb y ey m1=some (v,m2)) :
  ∃m1',opD cl tb y ey m=some (v,m1')∧opD cl tb x ex m1'=some (u,m2):=by
 obtain ⟨a1,a2,a3⟩:=Oper.apart_spec hap
 by_cases hx0:cls tb x=0
 ·obtain ⟨rfl,hr⟩:=zze hcl hx0 h1
  exact ⟨m2,h2,hr m2⟩
 by_cases hy0:cls tb y=0
 ·obtain ⟨rfl,hr⟩:=zze hcl hy0 h2
  exact ⟨m,hr m,h1⟩
 have hx4:cls tb x≠4:=by intro e;rw [e] at hm;revert hm;cases hq:cls tb y with
  |zero=>exact absurd hq hy0
  |succ n=>intro hm;cases hm
 have hy4:cls tb y≠4:=by
  intro e;rw [e] at hm
  revert hm hx0
  generalize cls tb x=q
  intro hm hq
  match q,hm with
  |0,_=>exact hq rfl
  |1,hm=>cases hm
  |2,hm=>cases hm
  |3,hm=>cases hm
  |n+4,hm=>cases hm
 obtain ⟨a,rfl,fa⟩:=zrS hcl hcc hx4 h1
 obtain ⟨b,rfl,fb⟩:=zrS hcl hcc hy4 h2
 have ep1:=zyL a m
 have xid:∀i,a.id?=some i→XD m y i=false:=by
  intro i hi
  obtain ⟨d,hd,rfl,_⟩:=fa.id i hi
  exact znp (a1 d hd)
 have yid:∀i,b.id?=some i→XD m x i=false:=by
  intro i hi
  obtain ⟨d,hd,rfl,_⟩:=fb.id i hi
  rw [show (a.ap m).id d=m.id d by unfold Mem.id;rw [ep1]]
  exact znp (a3 d hd)
 have hnew:∀i,b.id?=some i→m.new i=true∧a.id?≠some i:=by
  intro i hi
  obtain ⟨d,hd,rfl,hn⟩:=fb.id i hi
  exact zsL hn
 have r1:opD cl tb y ey m=some (v,b.ap m):=by
  refine fb.replay m ⟨ep1.symm,(zvy a m).symm⟩ (fun i hi=>(zhB a m i fun e=>?_).symm) fun i hi=>(hnew i hi).1
  rw [QK ep1,xid i e] at hi
  cases hi
 have r2:opD cl tb x ex (b.ap m)=some (u,a.ap (b.ap m)):=by
  refine fa.replay (b.ap m) ⟨zyL b m,zvy b m⟩ (fun i hi=>zhB b m i fun e=>?_) fun i hi=>?_
  ·rw [yid i e] at hi
   cases hi
  ·obtain ⟨d,hd,rfl,hn⟩:=fa.id i hi
   exact zz2 hn fun e=>(hnew _ e).2 hi
 have hab:a.apart b:=by
  have ne:∀i j,a.id?=some i→b.id?=some j→i≠j:=fun i j hi hj e=>(hnew j hj).2 (e ▸ hi)
  have fx:=fa.fixed
  have fy:=fb.fixed
  cases a<;>cases b<;>try trivial
  case box.box i _ j _=>exact ne i j rfl rfl
  case row.row i _ j _=>exact ne i j rfl rfl
  case fix.row F G j _ =>
   intro hj
   have:=(fx F G rfl).1 j hj
   rw [yid j rfl] at this
   cases this
  case row.fix j _ F G =>
   intro hj
   have:=(fy F G rfl).1 j hj
   rw [QK ep1,xid j rfl] at this
   cases this
  case fix.box F G j _ =>
   intro hj
   have:=(fx F G rfl).2 j hj
   rw [yid j rfl] at this
   cases this
  case box.fix j _ F G =>
   intro hj
   have:=(fy F G rfl).2 j hj
   rw [QK ep1,xid j rfl] at this
   cases this
 exact ⟨b.ap m,r1,by rw [r2,zxf hab]⟩
theorem zre {x:Oper} {ev:Operand→AV} (h:zkE x ev=true) {m:Mem} {v:AV} {m':Mem} (ho:opD cl tb x ev m=some (v,m')):m'=m∧∀m2,opD cl tb x ev m2=some (v,m2):=by
 unfold zkE at h
 split at h
 ·rename_i t a hop
  split at h
  ·rename_i cs ha
   have e:∀m,opD cl tb x ev m=Kc tb x m zM t (.kptr cs):=fun m=>by simp only [opD,opK,hop,ha]
   rw [e] at ho
   unfold Kc at ho
   simp only at ho
   split at ho
   ·rename_i y hy
    obtain ⟨rfl,rfl⟩:=zn ho
    refine ⟨rfl,fun m2=>?_⟩
    rw [e]
    unfold Kc
    simp only [hy]
    rfl
   ·cases ho
  ·cases h
 ·rename_i t a lo hi hop
  have e:∀m,opD cl tb x ev m=QA tb x m zM t (ev a) (lo.map ev) (hi.map ev):=fun m=>by simp only [opD,opK,hop]
  have gdk:∀{lo' hi':Option Int} {n:Nat} {v' v'':AV} {m1 m1':Mem},XE lo' hi' n (zM v' m1)=some (v'',m1')→v''=v'∧m1'=m1∧∀m2,XE lo' hi' n (zM v' m2)=some (v',m2):=by
   intro lo' hi' n v' v'' m1 m1' hg
   have key:∀m2,XE lo' hi' n (zM v' m2)=(XE lo' hi' n (some ())).bind fun _=>zM v' m2:=fun m2=>(znx lo' hi' n (some ()) _).symm ▸ rfl
   rw [key] at hg
   cases hq:XE lo' hi' n (some ()) with
   |none=>rw [hq] at hg;cases hg
   |some u =>
    rw [hq] at hg
    obtain ⟨rfl,rfl⟩:=zn hg
    exact ⟨rfl,rfl,fun m2=>by rw [key,hq];rfl⟩
  rw [e] at ho
  simp only [e]
  split at h
  ·rename_i e0 xs ha
   rw [ha] at ho
   simp only [ha]
   unfold QA at ho ⊢
   split at ho
   ·rename_i lo' hi' hlo hhi
    split at ho
    ·rename_i et e' xs' hd hx
     obtain ⟨hsz,ho⟩:=zm ho
     obtain ⟨rfl,rfl,hg⟩:=gdk ho
     refine ⟨rfl,fun m2=>?_⟩
     simp only [hsz,cond]
     exact hg m2
    ·rename_i hx;cases hx
    ·rename_i hx;cases hx
    ·rename_i hx;cases hx
    ·cases ho
   ·cases ho
  ·rename_i ha
   rw [ha] at ho
   simp only [ha]
   unfold QA at ho ⊢
   split at ho
   ·rename_i lo' hi' hlo hhi
    split at ho
    ·rename_i hx;cases hx
    ·rename_i hx;cases hx
    ·rename_i et hd hx
     obtain ⟨hsz,ho⟩:=zm ho
     obtain ⟨rfl,rfl,hg⟩:=gdk ho
     refine ⟨rfl,fun m2=>?_⟩
     simp only [hsz,cond]
     exact hg m2
    ·rename_i hx;cases hx
    ·cases ho
   ·cases ho
  ·cases h
 ·cases h
def ztc (m m2:Mem):Bool×Nat→Prop
 |(true,id)=>(m.box id).map YZ.cs=(m2.box id).map YZ.cs
 |(false,id)=>(m.row id).map ZF.view=(m2.row id).map ZF.view
omit hcl hcc in
theorem ztc.symm {m m2:Mem} {r:Bool×Nat} (h:ztc m m2 r):ztc m2 m r:=by
 obtain ⟨b,i⟩:=r
 cases b<;>exact Eq.symm h
theorem zmo {x:Oper} {ev:Operand→AV} {r:Bool×Nat} (hr:zos x ev=some r) {m:Mem} {v:AV} {m':Mem} (ho:opD cl tb x ev m=some (v,m')) :
  m'=m∧XD m x r.2=true∧(r.1=false→m.row r.2≠none)∧∀m2:Mem,m2.ep=m.ep→ztc m m2 r→opD cl tb x ev m2=some (v,m2):=by
 unfold zos at hr
 split at hr
 ·rename_i t a hop
  have e:∀m,opD cl tb x ev m=Kc tb x m zM t (ev a):=fun m=>by simp only [opD,opK,hop]
  rw [e] at ho
  simp only [e]
  split at hr
  ·rename_i id off ha
   injection hr with hr
   subst hr
   rw [ha] at ho
   simp only [ha]
   unfold Kc at ho
   simp only at ho
   split at ho
   ·rename_i b hb
    split at ho
    ·rename_i y hy
     obtain ⟨hk,ho⟩:=zm ho
     obtain ⟨rfl,rfl⟩:=zn ho
     refine ⟨rfl,hk,fun h=>(by cases h),fun m2 hep hh=>?_⟩
     have hh':(m'.box id).map YZ.cs=(m2.box id).map YZ.cs:=hh
     rw [hb] at hh'
     cases h2:m2.box id with
     |none=>rw [h2] at hh';cases hh'
     |some c =>
      rw [h2] at hh'
      simp only [Option.map_some,Option.some.injEq] at hh'
      unfold Kc
      simp only [h2,←hh',hy,QK (o:=x) (i:=id) hep,hk]
      rfl
    ·cases ho
   ·cases ho
  ·rename_i id e0 i off ha
   injection hr with hr
   subst hr
   rw [ha] at ho
   simp only [ha]
   unfold Kc at ho
   simp only at ho
   split at ho
   ·cases ho
   ·rename_i e' xs et st hdead hrow
    split at ho
    ·rename_i y hy
     obtain ⟨hk,ho⟩:=zm ho
     obtain ⟨rfl,rfl⟩:=zn ho
     simp only [Bool.and_eq_true] at hk
     refine ⟨rfl,hk.2,fun _ h=>(by rw [hrow] at h;cases h),fun m2 hep hh=>?_⟩
     have hh':(m'.row id).map ZF.view=(m2.row id).map ZF.view:=hh
     have ha2:Q8 { m' with box:=m2.box } m2 id:=⟨rfl,hh'⟩
     obtain ⟨st',h2,hs⟩:=ha2.row (show ({ m' with box:=m2.box }:Mem).row id=_ from hrow)
     have hst:st'≠.dead:=fun q=>hdead (hs.1 q)
     unfold Kc
     cases st' with
     |dead=>exact absurd rfl hst
     |own =>
      simp only [h2,hy,QK (o:=x) (i:=id) hep,hk.1,hk.2,Bool.and_self]
      rfl
     |fixed =>
      simp only [h2,hy,QK (o:=x) (i:=id) hep,hk.1,hk.2,Bool.and_self]
      rfl
    ·cases ho
   ·cases ho
  ·cases hr
 ·cases hr
omit hcl hcc in
theorem zqG {o:Oper} {M m:Mem} {e:Kd} {t:Nat} {xs:List e.T} {v:AV} {m':Mem} (h:K5 o zM e t xs M=some (v,m')):∃d,o.dst=some d∧M.new (M.id d)=true∧m'={ M with row:=upd M.row (M.id d) (some ⟨e,xs,t,.own⟩) }:=by
 unfold K5 at h
 split at h
 ·rename_i d hd
  obtain ⟨hn,h⟩:=zm h
  obtain ⟨rfl,rfl⟩:=zn h
  exact ⟨d,hd,hn,rfl⟩
 ·cases h
omit hcl hcc in
theorem ztS (m:Mem) (id j:Nat) (h:j≠id):(m.kill id).row j=m.row j∧(m.kill id).box=m.box∧(m.kill id).ep=m.ep:=by
 unfold Mem.kill
 split
 ·exact ⟨zC _ _ h,rfl,rfl⟩
 ·exact ⟨rfl,rfl,rfl⟩
omit hcl hcc in
theorem zwq (m:Mem) (id j:Nat) (h:(m.kill id).new j=true):m.new j=true:=by
 unfold Mem.kill at h
 split at h
 ·rename_i e xs t st hr
  unfold Mem.new at h ⊢
  simp only [zgF] at h
  by_cases hj:j=id
  ·subst hj
   rw [if_pos rfl] at h
   split at h
   ·rename_i h1 h2 h3;cases h2
   ·cases h
  ·rw [if_neg hj] at h
   exact h
 ·exact h
theorem zc5 {y:Oper} {ev:Operand→AV} {w:Bool×Option Nat} (hw:zkV y ev=some w) {m:Mem} {v:AV} {m':Mem} (ho:opD cl tb y ev m=some (v,m')) {r:Bool×Nat} (hrw:rwB (some r) (some w)=true)
  (hne:∀d,y.dst=some d→m.new (m.id d)=true→r≠(false,m.id d)):m'.ep=m.ep∧ztc m m' r:=by
 unfold zkV at hw
 split at hw
 ·rename_i t a z hop
  have e:opD cl tb y ev m=zdt tb m zM t (ev a) (ev z):=by simp only [opD,opK,hop]
  rw [e] at ho
  split at hw
  ·rename_i id off ha
   injection hw with hw
   subst hw
   rw [ha] at ho
   unfold zdt at ho
   simp only at ho
   split at ho
   ·rename_i cs hb
    split at ho
    ·obtain ⟨_,ho⟩:=zm ho
     split at ho
     ·obtain ⟨rfl,rfl⟩:=zn ho
      refine ⟨rfl,?_⟩
      obtain ⟨b,i⟩:=r
      cases b
      ·rfl
      ·have hi:i≠id:=by
        intro q;subst q;simp [rwB] at hrw
       show (m.box i).map YZ.cs=(upd m.box id _ i).map YZ.cs
       rw [zC _ _ hi]
     ·cases ho
    ·cases ho
   ·cases ho
  ·rename_i id e0 i off ha
   injection hw with hw
   subst hw
   rw [ha] at ho
   unfold zdt at ho
   simp only at ho
   split at ho
   ·rename_i e' xs et hrow
    split at ho
    ·obtain ⟨_,ho⟩:=zm ho
     split at ho
     ·split at ho
      ·obtain ⟨_,ho⟩:=zm ho
       obtain ⟨rfl,rfl⟩:=zn ho
       rw [X0]
       refine ⟨rfl,?_⟩
       obtain ⟨b,j⟩:=r
       cases b
       ·have hi:j≠id:=by
         intro q;subst q;simp [rwB] at hrw
        show (m.row j).map ZF.view=(upd (Jx m.row _) id _ j).map ZF.view
        rw [zC _ _ hi,zg3]
       ·rfl
      ·cases ho
     ·cases ho
    ·cases ho
   ·cases ho
  ·cases hw
 ·rename_i c hop
  split at hw
  ·rename_i v1 x1 hc hargs
   have e:opD cl tb y ev m=zcc (cl _) tb c ev m y zM:=by simp only [opD,opK,hop]
   rw [e] at ho
   simp only [zcc,hc,hargs] at ho
   split at ho
   ·rename_i v2 x2 t u ha ht
    obtain ⟨_,ho⟩:=zm ho
    simp only [List.cons.injEq,and_true] at ha
    obtain ⟨rfl,rfl⟩:=ha
    have key:∀(M:Mem) (e:Kd) (t:Nat) (xs:List e.T),K5 y zM e t xs M=some (v,m')→M.ep=m.ep→(∀j,M.new j=true→m.new j=true)→(∀i,r=(true,i)→M.box i=m.box i)→(∀i,r=(false,i)→M.row i=m.row i)→m'.ep=m.ep∧ztc m m' r:=by
     intro M e t xs h hep hnew hb hr
     obtain ⟨d,hd,hn,rfl⟩:=zqG (m:=m) h
     refine ⟨hep,?_⟩
     have hid:M.id d=m.id d:=by unfold Mem.id;rw [hep]
     obtain ⟨b,i⟩:=r
     cases b
     ·show (m.row i).map ZF.view=(upd M.row (M.id d) _ i).map ZF.view
      have hi:i≠M.id d:=by
       intro q
       rw [hid] at q hn
       exact hne d hd (hnew _ hn) (by rw [q])
      rw [zC _ _ hi,hr i rfl]
     ·show (m.box i).map YZ.cs=(M.box i).map YZ.cs
      rw [hb i rfl]
    split at hw
    ·rename_i id e0 n hv
     injection hw with hw
     subst hw
     rw [hv] at ho
     unfold zbl at ho
     split at ho
     ·rename_i et hd
      simp only at ho
      split at ho
      ·split at ho
       ·obtain ⟨_,ho⟩:=zm ho
        obtain ⟨_,ho⟩:=jb ho
        refine key _ _ _ _ ho ?_ (fun j hj=>zwq m id j hj) (fun i hi=>?_) fun i hi=>?_
        ·unfold Mem.kill;split<;>rfl
        ·unfold Mem.kill;split<;>rfl
        ·subst hi
         have hi:i≠id:=by
          intro q;subst q;simp [rwB] at hrw
         exact (ztS m id i hi).1
       ·cases ho
      ·cases ho
     ·cases ho
    ·rename_i hv
     injection hw with hw
     subst hw
     rw [hv] at ho
     unfold zbl at ho
     split at ho
     ·simp only at ho
      split at ho
      ·split at ho
       ·obtain ⟨_,ho⟩:=jb ho
        exact key _ _ _ _ ho rfl (fun _ h=>h) (fun _ _=>rfl) fun _ _=>rfl
       ·cases ho
      ·cases ho
     ·cases ho
    ·cases hw
   ·cases ho
  ·cases hw
 ·cases hw
theorem zwc {x y:Oper} (hap:x.apart ops y=true) {ev:Operand→AV} (hd:zlI x y ev=true) {m m1 m2:Mem} {u v:AV} (h1:opD cl tb x ev m=some (u,m1)) (h2:opD cl tb y ev m1=some (v,m2)) :
  ∃m1',opD cl tb y ev m=some (v,m1')∧opD cl tb x ev m1'=some (u,m2):=by
 obtain ⟨a1,a2,a3⟩:=Oper.apart_spec hap
 simp only [zlI,Bool.or_eq_true] at hd
 rcases hd with ((hd|hd)|hd)|hd
 ·obtain ⟨rfl,hr⟩:=zre hcl hcc hd h1
  exact ⟨m2,h2,hr m2⟩
 ·obtain ⟨rfl,hr⟩:=zre hcl hcc hd h2
  exact ⟨m,hr m,h1⟩
 ·cases hr:zos x ev with
  |none=>rw [hr] at hd;cases hw:zkV y ev<;>rw [hw] at hd<;>cases hd
  |some r =>
   cases hw:zkV y ev with
   |none=>rw [hr,hw] at hd;obtain ⟨b,i⟩:=r;cases b<;>cases hd
   |some w =>
    rw [hr,hw] at hd
    obtain ⟨rfl,hk,hrow,hrep⟩:=zmo hcl hcc hr h1
    obtain ⟨hep,hh⟩:=zc5 hcl hcc hw h2 hd fun d hdst hn e=>by
     have:=hrow (by rw [e])
     rw [e] at this
     exact this (zfC hn)
    exact ⟨m2,h2,hrep m2 hep hh⟩
 ·cases hr:zos y ev with
  |none=>rw [hr] at hd;cases hw:zkV x ev<;>rw [hw] at hd<;>cases hd
  |some r =>
   cases hw:zkV x ev with
   |none=>rw [hr,hw] at hd;obtain ⟨b,i⟩:=r;cases b<;>cases hd
   |some w =>
    rw [hr,hw] at hd
    obtain ⟨rfl,hk,hrow,hrep⟩:=zmo hcl hcc hr h2
    have hne:∀d,x.dst=some d→m.new (m.id d)=true→r≠(false,m.id d):=by
     intro d hdst hn e
     have hep:m2.ep=m.ep:=by
      obtain ⟨wb,wo⟩:=w
      cases wb
      ·exact (zc5 hcl hcc hw h1 (r:=(true,0)) (by cases wo<;>rfl) fun d _ _ e=>by cases e).1
      ·cases wo with
       |none=>obtain ⟨b,i⟩:=r;cases b<;>cases hd
       |some j=>exact (zc5 hcl hcc hw h1 (r:=(true,j+1)) (by show (!(Nat.beq (j+1) j))=true;rw [zvf (by omega)];rfl) fun d _ _ e=>by cases e).1
     rw [e] at hk
     have:=znp (m:=m) (o:=y) (ops:=ops) (d:=d) (a1 d hdst)
     rw [QK hep,this] at hk
     cases hk
    obtain ⟨hep,hh⟩:=zc5 hcl hcc hw h1 hd hne
    exact ⟨m,hrep m hep.symm hh.symm,h1⟩
theorem ztF {x y:Oper} (hap:x.apart ops y=true) {s s1 s2:St} (hm:zvt (cls tb x) (cls tb y)=true∨zlI x y s.ev=true) (h1:Kx cl tb ops x s=some s1) (h2:Kx cl tb ops y s1=some s2) :
  ∃s1',Kx cl tb ops y s=some s1'∧Kx cl tb ops x s1'=some s2:=by
 obtain ⟨a1,a2,a3⟩:=Oper.apart_spec hap
 have evy:∀u m m',opD cl tb y (s.put x.dst u m).ev m'=opD cl tb y s.ev m':=fun u m m'=>zmF y m' (zuo a1)
 have evx:∀u m m',opD cl tb x (s.put y.dst u m).ev m'=opD cl tb x s.ev m':=fun u m m'=>zmF x m' (zuo a3)
 rw [zhA] at h1 h2
 simp only [zhA]
 cases gx:gst ops x s with
 |none=>rw [gx] at h1;cases h1
 |some bx =>
  rw [gx] at h1
  cases bx with
  |false =>
   simp only [Option.some.injEq] at h1
   subst h1
   rw [zfy a1] at h2
   cases gy:gst ops y s with
   |none=>rw [gy] at h2;cases h2
   |some by' =>
    rw [gy] at h2
    cases by' with
    |false =>
     simp only [Option.some.injEq] at h2
     subst h2
     refine ⟨_,rfl,?_⟩
     rw [zfy a3,gx]
     simp only [Option.some.injEq,zi4]
     exact (zjN a2 rfl).symm
    |true =>
     simp only [zi4,evy] at h2
     cases ho:opD cl tb y s.ev s.m with
     |none=>rw [ho] at h2;cases h2
     |some p =>
      rw [ho] at h2
      simp only [Option.map_some,Option.some.injEq] at h2
      subst h2
      refine ⟨_,rfl,?_⟩
      rw [zfy a3,gx]
      simp only [Option.some.injEq,zi4]
      exact (zjN a2 rfl).symm
  |true =>
   cases hx:opD cl tb x s.ev s.m with
   |none=>rw [hx] at h1;cases h1
   |some p =>
    rw [hx] at h1
    simp only [Option.map_some,Option.some.injEq] at h1
    subst h1
    rw [zfy a1] at h2
    cases gy:gst ops y s with
    |none=>rw [gy] at h2;cases h2
    |some by' =>
     rw [gy] at h2
     cases by' with
     |false =>
      simp only [Option.some.injEq] at h2
      subst h2
      refine ⟨_,rfl,?_⟩
      rw [zfy a3,gx]
      simp only [zi4,evx,hx,Option.map_some,Option.some.injEq]
      exact (zjN a2 rfl).symm
     |true =>
      simp only [zi4,evy] at h2
      cases hy:opD cl tb y s.ev p.2 with
      |none=>rw [hy] at h2;cases h2
      |some q =>
       rw [hy] at h2
       simp only [Option.map_some,Option.some.injEq] at h2
       subst h2
       obtain ⟨m1',r1,r2⟩:∃m1',opD cl tb y s.ev s.m=some (q.1,m1')∧opD cl tb x s.ev m1'=some (p.1,q.2):=hm.elim (fun hm=>zxg hcl hcc hap hm (u:=p.1) (m1:=p.2) (v:=q.1) (m2:=q.2) hx hy) fun hm=>zwc hcl hcc hap hm (u:=p.1) (m1:=p.2) (v:=q.1) (m2:=q.2) hx hy
       rw [r1]
       refine ⟨_,rfl,?_⟩
       rw [zfy a3,gx]
       simp only [zi4,evx,r2,Option.map_some,Option.some.injEq]
       exact (zjN a2 rfl).symm
end
end Go.Proofs.YtpkkcjmblocjdaaGreat.AM
end
section
namespace Go.Proofs.YtpkkcjmblocjdaaGreat.AM
open Go.RowKit
structure Inv (B:Nat) (w0:World) (Γ0:Gh) (n:Nat) (s:St) (a:Act) (w:World):Prop where
 ex:∃Γ:Gh,Γ.w=w∧Ext B Γ0 Γ∧zt B w0 Γ s.m∧∀i,zf Γ (s.tm i) (a.tmps.getD i undef)
 defers:a.defers=[]
 size:a.tmps.size=n
theorem zt.mem {B:Nat} {w0:World} {Γ:Gh} {m m':Mem} (M:zt B w0 Γ m) (hb:m'.box=m.box) (hr:m'.row=m.row) (hm:m'.map=m.map):zt B w0 Γ m':=by
 have hl:∀i,m'.live i↔m.live i:=fun i=>by unfold Mem.live;rw [hr]
 exact ⟨M.below,M.base,M.rlt,fun i b h=>by rw [hb];exact M.box i b h,fun i v h=>by rw [hr];exact M.row i v h,M.bb,
  fun i j u v g h1 h2 h3 h4 h5 h6=>M.rr i j u v g h1 h2 h3 h4 ((hl i).1 h5) ((hl j).1 h6),fun i j u g h1 h2 h3=>M.rb i j u g h1 h2 ((hl i).1 h3),fun i b h=>by rw [hm];exact M.map i b h,M.mm⟩
theorem Inv.tick {B:Nat} {w0:World} {Γ0:Gh} {n:Nat} {s:St} {a:Act} {w:World} (h:Inv B w0 Γ0 n s a w):Inv B w0 Γ0 n s.tick a w:=by
 obtain ⟨⟨Γ,h1,h2,h3,h4⟩,h5,h6⟩:=h
 exact ⟨⟨Γ,h1,h2,h3.mem rfl rfl rfl,h4⟩,h5,h6⟩
theorem Inv.drew {B:Nat} {w0:World} {Γ0:Gh} {n:Nat} {s:St} {a:Act} {w:World} (h:Inv B w0 Γ0 n s a w):Inv B w0 Γ0 n s a { w with drawn:=w.drawn+1 }:=by
 obtain ⟨⟨Γ,rfl,h2,h3,h4⟩,h5,h6⟩:=h
 obtain ⟨M,E⟩:=h3.grow (w':={ Γ.w with drawn:=Γ.w.drawn+1 }) ⟨rfl,rfl,rfl,Nat.le_refl _,fun _ _ _=>rfl⟩ (Nat.le_succ _)
 exact ⟨⟨_,rfl,h2.trans E,M,fun i=>(h4 i).ext E⟩,h5,h6⟩
theorem zwp {a:Act} {d:Nat} {u:Value} (h:d<a.tmps.size) (i:Nat):(a.put (some d) u).tmps.getD i undef=if i=d then u else a.tmps.getD i undef:=by
 simp only [Act.put,Array.getD_eq_getD_getElem?,Array.getElem?_setIfInBounds]
 by_cases e:d=i
 ·subst e;simp [h]
 ·rw [if_neg e,if_neg (Ne.symm e)]
theorem XM (a:Act) (d:Option Nat) (u:Value):(a.put d u).defers=a.defers:=by cases d<;>rfl
theorem zcj (a:Act) (d:Option Nat) (u:Value):(a.put d u).tmps.size=a.tmps.size:=by cases d<;>simp [Act.put]
def zb9 (n:Nat) (o:Oper):Bool:=match o.dst with
 |some d=>Nat.blt d n
 |none=>true
theorem zu9 {n:Nat} {o:Oper} (h:zb9 n o=true) {d:Nat} (hd:o.dst=some d):d<n:=by
 unfold zb9 at h
 rw [hd] at h
 simp only [Nat.blt,Nat.ble_eq] at h
 omega
theorem zg0 {Γ:Gh} {s:St} {a:Act} {o:Oper} (h:∀i,zf Γ (s.tm i) (a.tmps.getD i undef)) (hd:zb9 a.tmps.size o=true) {v:AV} {u:Value} (hv:zf Γ v u) (m:Mem):∀i,zf Γ ((s.put o.dst v m).tm i) ((a.put o.dst u).tmps.getD i undef):=by
 intro i
 rw [zlB]
 cases ho:o.dst with
 |none=>simpa [Act.put] using h i
 |some d =>
  rw [zwp (zu9 hd ho)]
  by_cases e:i=d
  ·subst e;simpa using hv
  ·rw [if_neg e,if_neg (fun e'=>e (Option.some.inj e').symm)]
   exact h i
section
variable {P:Program} {tb:Tb} (HT:Yz P tb) {cl:∀ρ,Jz ρ} (hcl:zdL cl) (hcc:zmY cl) (hok:zkF P cl) {B:Nat} {w0:World} {Γ0:Gh} {n:Nat} {ops:Array Oper} {Q:Exit→Act→World→Prop}
theorem zqN {Γ:Gh} {s:St} {a:Act} (h:∀i,zf Γ (s.tm i) (a.tmps.getD i undef)) {o:Oper} {b:Bool} (hg:gst ops o s=some b):Region.wanted o (yielded ops a.tmps)=b:=by
 unfold gst at hg
 unfold Region.wanted
 cases ho:o.guard with
 |none=>rw [ho] at hg;injection hg
 |some jw =>
  obtain ⟨j,want⟩:=jw
  rw [ho] at hg
  simp only at hg ⊢
  cases hd:znI ops j with
  |none=>rw [hd] at hg;cases hg
  |some d =>
   rw [hd] at hg
   simp only at hg
   have hr:=h d
   unfold yielded
   rw [←zry,hd]
   simp only [Option.bind_some]
   split at hg
   ·rename_i c hc
    rw [hc] at hr
    simp only [zf] at hr
    injection hg with hg
    subst hg
    rw [Array.getD_eq_getD_getElem?] at hr
    cases ht:a.tmps[d]? with
    |none=>rw [ht] at hr;simp [undef] at hr
    |some u =>
     rw [ht] at hr
     simp only [Option.getD_some] at hr
     subst hr
     cases c<;>cases want<;>rfl
   ·rename_i hc
    rw [hc] at hr
    simp only [zf,zq] at hr
    obtain ⟨vs,hr,rfl⟩:=hr
    injection hg with hg
    subst hg
    rw [Array.getD_eq_getD_getElem?] at hr
    cases ht:a.tmps[d]? with
    |none=>rfl
    |some u =>
     rw [ht] at hr
     simp only [Option.getD_some] at hr
     subst hr
     rfl
   ·cases hg
include HT hok in
theorem znq {i:Nat} {o:Oper} (hi:ops[i]?=some o) (hd:zb9 n o=true) {s s':St} (hs:Kx cl tb ops o s=some s') {a:Act} {w:World} (I:Inv B w0 Γ0 n s a w) {K:Act→World→Prop} (hK:∀a' w',Inv B w0 Γ0 n s' a' w'→K a' w'):wpOp P ops Q i K a w:=by
 obtain ⟨⟨Γ,rfl,E0,M,hr⟩,hdf,hsz⟩:=I
 rw [zhA] at hs
 unfold wpOp
 simp only [hi]
 cases hg:gst ops o s with
 |none=>rw [hg] at hs;cases hs
 |some b =>
  rw [hg] at hs
  rw [zqN hr hg]
  cases b with
  |true =>
   simp only [if_true]
   cases ho:opD cl tb o s.ev s.m with
   |none=>rw [ho] at hs;cases hs
   |some p =>
    obtain ⟨v,m'⟩:=p
    rw [ho] at hs
    simp only [Option.map_some,Option.some.injEq] at hs
    subst hs
    refine .inl (zAr HT hok M (zuU hr) ho fun Γ' u E M' hv=>hK _ _ ⟨⟨Γ',rfl,E0.trans E,by rw [zi4];exact M',zg0 (fun i=>(hr i).ext E) (by rw [hsz];exact hd) hv m'⟩,by rw [XM];exact hdf,by rw [zcj];exact hsz⟩)
  |false =>
   simp only [Option.some.injEq] at hs
   subst hs
   simp only [Bool.false_eq_true,if_false]
   exact hK _ _ ⟨⟨Γ,rfl,E0,by rw [zi4];exact M,zg0 hr (by rw [hsz];exact hd) (by simp only [zf];exact ⟨[],rfl,by simp only [zq]⟩) s.m⟩,by rw [XM];exact hdf,by rw [zcj];exact hsz⟩
def zea (cl:∀ρ,Jz ρ) (tb:Tb) (ops:Array Oper):List Nat→St→Option St
 |[],s=>some s
 |i::r,s=>match ops[i]? with
  |some o=>(Kx cl tb ops o s).bind (zea cl tb ops r)
  |none=>none
theorem zm0:∀(l:List Oper) (k:Nat) (s:St),(∀i,i<l.length→ops[k+i]?=l[i]?)→zoP cl tb ops l s=zea cl tb ops (List.range' k l.length) s
 |[],k,s,_=>rfl
 |o::r,k,s,h=>by
  have h0:=h 0 (by simp)
  simp only [Nat.add_zero,List.getElem?_cons_zero] at h0
  simp only [List.length_cons,List.range'_succ,zoP,zea,h0]
  cases Kx cl tb ops o s with
  |none=>rfl
  |some s' =>
   have h':∀i,i<r.length→ops[k+1+i]?=r[i]?:=by
    intro i hi
    have:=h (i+1) (by simpa using hi)
    rw [show k+1+i=k+(i+1) by omega]
    simpa using this
   exact zm0 r (k+1) s' h'
theorem zqn (s:St):zoP cl tb ops ops.toList s=zea cl tb ops (List.range ops.size) s:=by
 rw [zm0 ops.toList 0 s fun i hi=>by rw [Nat.zero_add,Array.getElem?_toList],List.range_eq_range',Array.length_toList]
include HT hok in
theorem zrV (hd:∀(i:Nat) (o:Oper),ops[i]?=some o→zb9 n o=true):∀(l:List Nat) {s sf:St},zea cl tb ops l s=some sf→∀{a:Act} {w:World},Inv B w0 Γ0 n s a w→(∀a' w',Inv B w0 Γ0 n sf a' w'→Q .normal a' w')→wpOps P ops Q l a w
 |[],s,sf,h,a,w,I,hQ=>by
  simp only [zea,Option.some.injEq] at h
  subst h
  exact hQ a w I
 |i::r,s,sf,h,a,w,I,hQ=>by
  rw [wpOps_cons]
  simp only [zea] at h
  cases hi:ops[i]? with
  |none=>rw [hi] at h;cases h
  |some o =>
   rw [hi] at h
   simp only at h
   cases hs:Kx cl tb ops o s with
   |none=>rw [hs] at h;cases h
   |some s' =>
    rw [hs] at h
    exact znq HT hok hi (hd i o hi) hs I fun a' w' I'=>zrV hd r h I' hQ
def ztQ (tb:Tb) (ops:Array Oper) (x y:Oper):Bool:=zvt (cls tb x) (cls tb y)&&x.apart ops y
def zv1 (ops:Array Oper) (j:Nat) (x:Oper):Prop:=∀k o,j≤k→ops[k]?=some o→∀d,o.dst=some d→Operand.tmp d∉x.op.operands.toList
def zxn (tb:Tb) (ops:Array Oper) (ev:Operand→AV) (j i:Nat):Prop:=∃x y,ops[j]?=some x∧ops[i]?=some y∧x.apart ops y=true∧(zvt (cls tb x) (cls tb y)=true∨(zlI x y ev=true∧zv1 ops j x∧zv1 ops i y))
theorem zjc {x:Oper} {ev ev':Operand→AV} (h:∀z∈x.op.operands.toList,ev z=ev' z):zkE x ev=zkE x ev':=by
 unfold zkE
 split
 ·rename_i t a ho
  rw [h a (by simp [ho,Op.operands])]
 ·rename_i t a lo hi ho
  rw [h a (by simp [ho,Op.operands])]
 ·rfl
theorem zkH {x:Oper} {ev ev':Operand→AV} (h:∀z∈x.op.operands.toList,ev z=ev' z):zos x ev=zos x ev':=by
 unfold zos
 split
 ·rename_i t a ho
  rw [h a (by simp [ho,Op.operands])]
 ·rfl
theorem zk8 {x:Oper} {ev ev':Operand→AV} (h:∀z∈x.op.operands.toList,ev z=ev' z):zkV x ev=zkV x ev':=by
 unfold zkV
 split
 ·rename_i t a y ho
  rw [h a (by simp [ho,Op.operands])]
 ·rename_i c ho
  split
  ·rename_i v z hc ha
   rw [h v (by
    have:v∈c.args.toList:=by rw [ha];simp
    simp only [ho,Op.operands,Call.operands]
    simp at this ⊢
    exact .inr this)]
  ·rfl
 ·rfl
theorem zqr {x y:Oper} {ev ev':Operand→AV} (hx:∀z∈x.op.operands.toList,ev z=ev' z) (hy:∀z∈y.op.operands.toList,ev z=ev' z):zlI x y ev=zlI x y ev':=by
 unfold zlI
 rw [zjc hx,zjc hy,zkH hx,zkH hy,zk8 hx,zk8 hy]
theorem zlF {o:Oper} {s s':St} (h:Kx cl tb ops o s=some s') {t:Nat} (ht:o.dst≠some t):s'.tm t=s.tm t:=by
 rw [zhA] at h
 split at h
 ·cases ho:opD cl tb o s.ev s.m with
  |none=>rw [ho] at h;cases h
  |some p =>
   rw [ho] at h
   simp only [Option.map_some,Option.some.injEq] at h
   subst h
   rw [zlB,if_neg ht]
 ·simp only [Option.some.injEq] at h
  subst h
  rw [zlB,if_neg ht]
 ·cases h
theorem zmX:∀(l:List Nat) {s sf:St},zea cl tb ops l s=some sf→∀t,(∀k∈l,∀o,ops[k]?=some o→o.dst≠some t)→sf.tm t=s.tm t
 |[],s,sf,h,t,_=>by
  simp only [zea,Option.some.injEq] at h
  rw [h]
 |k::l,s,sf,h,t,ht=>by
  simp only [zea] at h
  cases hk:ops[k]? with
  |none=>rw [hk] at h;cases h
  |some o =>
   rw [hk] at h
   simp only at h
   cases hs:Kx cl tb ops o s with
   |none=>rw [hs] at h;cases h
   |some s1 =>
    rw [hs] at h
    rw [zmX l h t (fun k hk=>ht k (List.mem_cons_of_mem _ hk)),zlF hs (ht k List.mem_cons_self o hk)]
theorem zrR {l:List Nat} {s sf:St} (h:zea cl tb ops l s=some sf) {x:Oper} (hx:∀k∈l,∀o,ops[k]?=some o→∀d,o.dst=some d→Operand.tmp d∉x.op.operands.toList):∀z∈x.op.operands.toList,s.ev z=sf.ev z:=by
 intro z hz
 cases z with
 |tmp t =>
  show s.tm t=sf.tm t
  rw [zmX l h t fun k hk o ho hd=>hx k hk o ho t hd hz]
 |_=>rfl
include hcl hcc in
theorem zAS {i:Nat} {y:Oper} (hi:ops[i]?=some y) {q:List Nat}:∀(p:List Nat) {s sf:St},(∀j∈p,zxn tb ops sf.ev j i)→(p++i::q).Pairwise (·<·)→zea cl tb ops (p++i::q) s=some sf →
  ∃s',Kx cl tb ops y s=some s'∧zea cl tb ops (p++q) s'=some sf
 |[],s,sf,_,_,h=>by
  simp only [List.nil_append,zea,hi] at h
  cases hs:Kx cl tb ops y s with
  |none=>rw [hs] at h;cases h
  |some s'=>rw [hs] at h;exact ⟨s',rfl,h⟩
 |j::p,s,sf,hp,hpw,h=>by
  obtain ⟨x,y',hj,hi',hap,hsw⟩:=hp j List.mem_cons_self
  rw [hi] at hi'
  injection hi' with hi'
  subst hi'
  have h0:=h
  rw [List.cons_append] at hpw
  have hpw':=List.pairwise_cons.1 hpw
  simp only [List.cons_append,zea,hj] at h ⊢
  cases hs:Kx cl tb ops x s with
  |none=>rw [hs] at h;cases h
  |some s1 =>
   rw [hs] at h
   replace h:zea cl tb ops (p++i::q) s1=some sf:=h
   obtain ⟨s2,h2,h3⟩:=zAS hi p (fun k hk=>hp k (List.mem_cons_of_mem _ hk)) hpw'.2 h
   have hsw':zvt (cls tb x) (cls tb y)=true∨zlI x y s.ev=true:=by
    rcases hsw with hsw|⟨hd,l1,l2⟩
    ·exact .inl hsw
    ·right
     have ex:=zrR h0 (x:=x) fun k hk o ho d hd=>by
      rcases List.mem_cons.1 hk with rfl|hk
      ·exact l1 k o (Nat.le_refl _) ho d hd
      ·exact l1 k o (Nat.le_of_lt (hpw'.1 k hk)) ho d hd
     have ey1:=zrR h (x:=y) fun k hk o ho d hd hz=>by
      rcases List.mem_append.1 hk with hk'|hk'
      ·obtain ⟨x2,y2,hx2,hy2,hap2,_⟩:=hp k (List.mem_cons_of_mem _ hk')
       rw [ho] at hx2
       injection hx2 with hx2
       subst hx2
       rw [hi] at hy2
       injection hy2 with hy2
       subst hy2
       exact (Oper.apart_spec hap2).1 d hd (List.mem_append_left _ (List.mem_filterMap.2 ⟨.tmp d,hz,rfl⟩))
      ·have hki:i≤k:=by
        rcases List.mem_cons.1 hk' with rfl|hk'
        ·exact Nat.le_refl _
        ·exact Nat.le_of_lt ((List.pairwise_cons.1 (List.pairwise_append.1 hpw'.2).2.1).1 k hk')
       exact l2 k o hki ho d hd hz
     have ey:∀z∈y.op.operands.toList,s.ev z=sf.ev z:=by
      intro z hz
      rw [←ey1 z hz]
      cases z with
      |tmp t =>
       show s.tm t=s1.tm t
       rw [zlF hs fun e=>(Oper.apart_spec hap).1 t e (List.mem_append_left _ (List.mem_filterMap.2 ⟨.tmp t,hz,rfl⟩))]
      |_=>rfl
     rw [zqr ex ey]
     exact hd
   obtain ⟨s',k1,k2⟩:=ztF hcl hcc hap hsw' hs h2
   exact ⟨s',k1,by rw [k2];exact h3⟩
inductive Anc (ops:Array Oper):Nat→Nat→Prop
 |one {i:Nat} {o:Oper} {e:Edge}:ops[i]?=some o→e∈o.after→Region.binds .any e=true→Anc ops e.on i
 |more {i j:Nat} {o:Oper} {e:Edge}:ops[i]?=some o→e∈o.after→Region.binds .any e=true→Anc ops j e.on→Anc ops j i
def znr (ops:Array Oper) (listed:Array Bool):Prop:=∀(i:Nat) (o:Oper),ops[i]?=some o→listed.getD i false=true→∀e∈o.after,Region.binds .any e=true→listed.getD e.on false=true
theorem znr.anc {listed:Array Bool} (h:znr ops listed) {j i:Nat} (ha:Anc ops j i):listed.getD i false=true→listed.getD j false=true:=by
 induction ha with
 |one hi he hb=>exact fun hl=>h _ _ hi hl _ he hb
 |more hi he hb _ ih=>exact fun hl=>ih (h _ _ hi hl _ he hb)
theorem ztm {listed:Array Bool} (h:znr ops listed) {j i:Nat} (hr:i∈Region.ready .any ops listed) (ha:Anc ops j i):listed.getD j false=true:=by
 obtain ⟨_,o,ho,hl⟩:=mem_ready.1 hr
 cases ha with
 |one hi he hb=>rw [hi] at ho;injection ho with ho;subst ho;exact hl _ he hb
 |more hi he hb ha=>rw [hi] at ho;injection ho with ho;subst ho;exact h.anc ha (hl _ he hb)
def rem (ops:Array Oper) (listed:Array Bool):List Nat:=(List.range ops.size).filter fun i=>!listed.getD i true
theorem zj7 {listed:Array Bool} {i:Nat} (h:i<listed.size):listed.getD i true=listed.getD i false:=by
 simp [Array.getD,h]
structure zu3 (tb:Tb) (ops:Array Oper) (n:Nat) (ev:Operand→AV):Prop where
 dst:∀(i:Nat) (o:Oper),ops[i]?=some o→zb9 n o=true
 back:∀(i:Nat) (o:Oper),ops[i]?=some o→∀e∈o.after,Region.binds .any e=true→e.on<i
 pair:∀i j,j<i→i<ops.size→Anc ops j i∨zxn tb ops ev j i
include HT hcl hcc hok in
theorem zvH {sf:St} (hO:zu3 tb ops n sf.ev):∀(fuel:Nat) (listed:Array Bool) {s:St} {a:Act} {w:World},listed.size=ops.size→znr ops listed→(rem ops listed).length=fuel→Inv B w0 Γ0 n s a w →
  zea cl tb ops (rem ops listed) s=some sf→(∀a' w',Inv B w0 Γ0 n sf a' w'→Q .normal a' w')→wpAny P .any ops Q fuel listed a w
 |0,listed,s,a,w,hsz,hC,hlen,I,h,hQ=>by
  have hnil:=List.eq_nil_of_length_eq_zero hlen
  rw [hnil] at h
  simp only [zea,Option.some.injEq] at h
  subst h
  refine ⟨?_,hQ a w I⟩
  rw [List.eq_nil_iff_forall_not_mem]
  intro i hi
  obtain ⟨h0,o,ho,_⟩:=mem_ready.1 hi
  have hlt:i<ops.size:=(Array.getElem?_eq_some_iff.1 ho).1
  have:i∈rem ops listed:=by
   unfold rem
   rw [List.mem_filter,List.mem_range]
   exact ⟨hlt,by rw [h0];rfl⟩
  rw [hnil] at this
  cases this
 |fuel+1,listed,s,a,w,hsz,hC,hlen,I,h,hQ=>by
  have hmem:∀i,i∈rem ops listed↔i<ops.size∧listed.getD i true=false:=by
   intro i
   unfold rem
   rw [List.mem_filter,List.mem_range]
   simp
  refine ⟨fun hnil=>?_,fun i hi=>?_⟩
  ·exfalso
   cases hrem:rem ops listed with
   |nil=>rw [hrem] at hlen;cases hlen
   |cons i r =>
    have him:i∈rem ops listed:=by rw [hrem];exact List.mem_cons_self
    obtain ⟨hlt,hl⟩:=(hmem i).1 him
    have hpw:(rem ops listed).Pairwise (·<·):=List.Pairwise.sublist List.filter_sublist List.pairwise_lt_range
    rw [hrem] at hpw
    have hfirst:=(List.pairwise_cons.1 hpw).1
    have hrdy:i∈Region.ready .any ops listed:=by
     rw [mem_ready]
     refine ⟨hl,ops[i],Array.getElem?_eq_getElem hlt,fun e he hb=>?_⟩
     have hlt':=hO.back i _ (Array.getElem?_eq_getElem hlt) e he hb
     rw [←zj7 (by omega)]
     cases hq:listed.getD e.on true with
     |true=>rfl
     |false =>
      have:e.on∈rem ops listed:=(hmem _).2 ⟨by omega,hq⟩
      rw [hrem] at this
      rcases List.mem_cons.1 this with hq|hq
      ·omega
      ·have:=hfirst _ hq;omega
    rw [hnil] at hrdy
    cases hrdy
  ·obtain ⟨hl,o,ho,haft⟩:=mem_ready.1 hi
   have hlt:i<ops.size:=(Array.getElem?_eq_some_iff.1 ho).1
   obtain ⟨p,q,hpq⟩:=List.append_of_mem ((hmem i).2 ⟨hlt,hl⟩)
   have hpw:(rem ops listed).Pairwise (·<·):=List.Pairwise.sublist List.filter_sublist List.pairwise_lt_range
   rw [hpq] at hpw
   have hpw0:=hpw
   rw [List.pairwise_append,List.pairwise_cons] at hpw
   obtain ⟨_,⟨hiq,_⟩,hpi⟩:=hpw
   have hp:∀j∈p,zxn tb ops sf.ev j i:=by
    intro j hj
    have hji:=hpi j hj i List.mem_cons_self
    rcases hO.pair i j hji hlt with ha|hs
    ·exfalso
     have h1:=ztm hC hi ha
     have h2:=((hmem j).1 (by rw [hpq];exact List.mem_append_left _ hj)).2
     rw [zj7 (by omega),h1] at h2
     cases h2
    ·exact hs
   rw [hpq] at h
   obtain ⟨s',hs',h'⟩:=zAS hcl hcc ho p hp hpw0 h
   have hrem':rem ops (listed.setIfInBounds i true)=p++q:=by
    have:rem ops (listed.setIfInBounds i true)=(rem ops listed).filter fun k=>decide (k≠i):=by
     unfold rem
     rw [List.filter_filter]
     apply List.filter_congr
     intro k hk
     by_cases e:k=i
     ·subst e
      have:(listed.setIfInBounds k true).getD k true=true:=by
       simp [Array.getD,hsz,hlt]
      simp [this]
     ·rw [getD_set_ne true (Ne.symm e)]
      simp [e]
    rw [this,hpq,List.filter_append,List.filter_cons_of_neg (by simp)]
    congr 1
    ·rw [List.filter_eq_self]
     intro k hk
     have:=hpi k hk i List.mem_cons_self
     simp
     omega
    ·rw [List.filter_eq_self]
     intro k hk
     have:=hiq k hk
     simp
     omega
   refine znq HT hok ho (hO.dst i o ho) hs' I fun a' w' I'=>zvH hO fuel _ (by simpa using hsz) (fun k ok hk hkl e he hb=>?_) ?_ I' (by rw [hrem'];exact h') hQ
   ·by_cases e':k=i
    ·subst e'
     rw [ho] at hk
     injection hk with hk
     subst hk
     exact getD_set_true (haft e he hb)
    ·rw [getD_set_ne false (Ne.symm e')] at hkl
     exact getD_set_true (hC k ok hk hkl e he hb)
   ·rw [hrem']
    rw [hpq] at hlen
    simp at hlen ⊢
    omega
include HT hcl hcc hok in
theorem ztl (hmix:P.follows .mixedOrders=true) {id:Nat} {dr:Bool} {s sf:St} (hd:∀(i:Nat) (o:Oper),ops[i]?=some o→zb9 n o=true) (hO:dr=true→zu3 tb ops n sf.ev) {a:Act} {w:World} (h:zoP cl tb ops ops.toList s=some sf) (I:Inv B w0 Γ0 n s a w)
  (hQ:∀a' w',Inv B w0 Γ0 n sf a' w'→Q .normal a' w'):(Code.region id ops dr).wp P Q a w:=by
 rw [zqn] at h
 cases dr with
 |false=>exact wp_region (zrV HT hok hd _ h I hQ)
 |true =>
  have hrem:rem ops (Array.replicate ops.size false)=List.range ops.size:=by
   unfold rem
   rw [List.filter_eq_self]
   intro i hi
   have:=List.mem_range.1 hi
   simp [Array.getD,this]
  refine wp_region_any hmix (zvH HT hcl hcc hok (hO rfl) ops.size _ (by simp) (fun i o ho hl e he hb=>?_) (by rw [hrem,List.length_range]) I.drew (by rw [hrem];exact h) hQ)
  have hlt:i<ops.size:=(Array.getElem?_eq_some_iff.1 ho).1
  simp [Array.getD,hlt] at hl
end
end Go.Proofs.YtpkkcjmblocjdaaGreat.AM
end
section
namespace Go.Proofs.YtpkkcjmblocjdaaGreat.AM
open Go.RowKit
def zjG:List Nat→Nat→Nat
 |[],_=>0
 |a::_,0=>a
 |_::r,i+1=>zjG r i
def zjl (ms:List Nat):List Edge→Nat
 |[]=>0
 |e::r=>cond (Region.binds .any e) (Nat.lor (zjl ms r) (Nat.lor (2^e.on) (zjG ms e.on))) (zjl ms r)
def zrx (i:Nat):List Edge→Bool
 |[]=>true
 |e::r=>(!(Region.binds .any e)||Nat.blt e.on i)&&zrx i r
def zkK (d:Nat):List Operand→Bool
 |[]=>false
 |.tmp t::r=>Nat.beq t d||zkK d r
 |_::r=>zkK d r
def ziA (l:List Operand):List Oper→Bool
 |[]=>true
 |o::r=>(match o.dst with
  |some d=>!(zkK d l)
  |none=>true)&&ziA l r
def zx7 (j i:Nat):List (Nat×Nat)→Bool
 |[]=>false
 |(a,b)::r=>(Nat.beq a j&&Nat.beq b i)||zx7 j i r
def zzX (ops:Array Oper) (ps:List (Nat×Nat)) (x y:Oper) (j i:Nat):Bool:=zx7 j i ps&&(x.apart ops y&&(ziA x.op.operands.toList (ops.toList.drop j)&&ziA y.op.operands.toList (ops.toList.drop i)))
def zwe (tb:Tb) (ops:Array Oper) (ps:List (Nat×Nat)) (y:Oper) (a i:Nat):List Oper→Nat→Bool
 |[],_=>true
 |x::r,j=>(Nat.testBit a j||(ztQ tb ops x y||zzX ops ps x y j i))&&zwe tb ops ps y a i r (j+1)
def zyk (tb:Tb) (ops:Array Oper) (ps:List (Nat×Nat)) (n:Nat):List Oper→List Oper→List Nat→Nat→Bool
 |[],_,_,_=>true
 |o::r,pre,ms,i=>zb9 n o&&zrx i o.after.toList&&zwe tb ops ps o (zjl ms o.after.toList) i pre 0&&zyk tb ops ps n r (pre++[o]) (ms++[zjl ms o.after.toList]) (i+1)
def zAI (tb:Tb) (n:Nat) (ops:Array Oper) (ps:List (Nat×Nat)):Bool:=zyk tb ops ps n ops.toList [] [] 0
theorem zcb {d:Nat}:∀{l:List Operand},zkK d l=false→Operand.tmp d∉l
 |[],_=>by simp
 |.tmp t::r,h=>by
  simp only [zkK,Bool.or_eq_false_iff] at h
  rw [List.mem_cons,not_or]
  refine ⟨fun e=>?_,zcb h.2⟩
  injection e with e
  subst e
  rw [Nat.beq_refl] at h
  cases h.1
 |.const _::r,h=>by
  rw [List.mem_cons,not_or]
  exact ⟨fun e=>(by cases e),zcb (l:=r) h⟩
 |.global _::r,h=>by
  rw [List.mem_cons,not_or]
  exact ⟨fun e=>(by cases e),zcb (l:=r) h⟩
 |.func _::r,h=>by
  rw [List.mem_cons,not_or]
  exact ⟨fun e=>(by cases e),zcb (l:=r) h⟩
theorem zmv {l:List Operand}:∀{os:List Oper},ziA l os=true→∀o∈os,∀d,o.dst=some d→Operand.tmp d∉l
 |[],_,o,ho=>by cases ho
 |a::r,h,o,ho=>by
  simp only [ziA,Bool.and_eq_true] at h
  rcases List.mem_cons.1 ho with rfl|ho
  ·intro d hd
   have h1:=h.1
   rw [hd] at h1
   exact zcb (by simpa using h1)
  ·exact zmv h.2 o ho
theorem zr9 {j i:Nat}:∀{ps:List (Nat×Nat)},zx7 j i ps=true→(j,i)∈ps
 |[],h=>by cases h
 |(a,b)::r,h=>by
  simp only [zx7,Bool.or_eq_true,Bool.and_eq_true] at h
  rcases h with ⟨h1,h2⟩|h
  ·rw [Nat.eq_of_beq_eq_true h1,Nat.eq_of_beq_eq_true h2];exact List.mem_cons_self
  ·exact List.mem_cons_of_mem _ (zr9 h)
theorem zn4:∀(l:List Oper) (i:Nat),zwr l i=l[i]?
 |[],_=>rfl
 |_::_,0=>rfl
 |_::r,i+1=>by simp [zwr,zn4 r i]
theorem zmK {ops:Array Oper} {ev:Operand→AV}:∀{ps:List (Nat×Nat)},zeq ops.toList ev ps=true→∀j i,(j,i)∈ps→∀x y,ops[j]?=some x→ops[i]?=some y→zlI x y ev=true
 |[],_,j,i,h=>by cases h
 |(a,b)::r,h,j,i,hm=>by
  simp only [zeq,Bool.and_eq_true] at h
  intro x y hx hy
  rcases List.mem_cons.1 hm with e|hm
  ·injection e with e1 e2
   subst e1
   subst e2
   have h1:=h.1
   rw [zn4,zn4,Array.getElem?_toList,Array.getElem?_toList,hx,hy] at h1
   exact h1
  ·exact zmK h.2 j i hm x y hx hy
theorem zpN {ops:Array Oper} {j:Nat} {x:Oper} (h:ziA x.op.operands.toList (ops.toList.drop j)=true):zv1 ops j x:=by
 intro k o hk ho d hd
 refine zmv h o ?_ d hd
 rw [←Array.getElem?_toList] at ho
 have:(ops.toList.drop j)[k-j]?=some o:=by
  rw [List.getElem?_drop,show j+(k-j)=k by omega]
  exact ho
 exact List.mem_of_getElem? this
theorem zoJ:∀(l:List Nat) (a i:Nat),zjG (l++[a]) i=if i<l.length then zjG l i else if i=l.length then a else 0
 |[],a,0=>by simp [zjG]
 |[],a,i+1=>by simp [zjG]
 |b::l,a,0=>by simp [zjG]
 |b::l,a,i+1=>by simp [zjG,zoJ l a i]
theorem zpa {i:Nat}:∀{l:List Edge},zrx i l=true→∀e∈l,Region.binds .any e=true→e.on<i
 |[],_,e,he,_=>by cases he
 |a::r,h,e,he,hb=>by
  simp only [zrx,Bool.and_eq_true,Bool.or_eq_true,Bool.not_eq_true'] at h
  rcases List.mem_cons.1 he with rfl|he
  ·rcases h.1 with h1|h1
   ·rw [h1] at hb;cases hb
   ·simp only [Nat.blt,Nat.ble_eq] at h1;omega
  ·exact zpa h.2 e he hb
theorem zsa {tb:Tb} {ops:Array Oper} {ps:List (Nat×Nat)} {y:Oper} {a i:Nat}:∀{l:List Oper} {j:Nat},zwe tb ops ps y a i l j=true→∀k x,l[k]?=some x→Nat.testBit a (j+k)=true∨ztQ tb ops x y=true∨zzX ops ps x y (j+k) i=true
 |[],j,_,k,x,hx=>by simp at hx
 |b::r,j,h,0,x,hx=>by
  simp only [zwe,Bool.and_eq_true,Bool.or_eq_true] at h
  obtain rfl:b=x:=by simpa using hx
  exact h.1
 |b::r,j,h,k+1,x,hx=>by
  simp only [zwe,Bool.and_eq_true] at h
  have:=zsa h.2 k x (by simpa using hx)
  rwa [show j+1+k=j+(k+1) by omega] at this
theorem zoI {ops:Array Oper} {ms:List Nat} {i:Nat} {o:Oper} (ho:ops[i]?=some o) (hms:∀k j,Nat.testBit (zjG ms k) j=true→Anc ops j k):∀{l:List Edge},(∀e∈l,e∈o.after)→∀j,Nat.testBit (zjl ms l) j=true→Anc ops j i
 |[],_,j,h=>by simp [zjl] at h
 |e::r,hl,j,h=>by
  have ih:=zoI ho hms (l:=r) (fun e he=>hl e (List.mem_cons_of_mem _ he)) j
  simp only [zjl] at h
  cases hb:Region.binds .any e with
  |false=>rw [hb] at h;exact ih h
  |true =>
   rw [hb] at h
   simp only [cond] at h
   have h':(zjl ms r ||| (2^e.on ||| zjG ms e.on)).testBit j=true:=h
   rw [Nat.testBit_or,Nat.testBit_or,Bool.or_eq_true,Bool.or_eq_true,Nat.testBit_two_pow] at h'
   rcases h' with h'|h'|h'
   ·exact ih h'
   ·have:=of_decide_eq_true h'
    subst this
    exact .one ho (hl e List.mem_cons_self) hb
   ·exact .more ho (hl e List.mem_cons_self) hb (hms _ _ h')
theorem zsu {tb:Tb} {ops:Array Oper} {ps:List (Nat×Nat)} {ev:Operand→AV} (hdy:zeq ops.toList ev ps=true) {n:Nat}:∀(r pre:List Oper) (ms:List Nat) (i:Nat),zyk tb ops ps n r pre ms i=true→ops.toList=pre++r→pre.length=i→ms.length=i→(∀k j,Nat.testBit (zjG ms k) j=true→Anc ops j k) →
  ∀k o,i≤k→ops[k]?=some o→zb9 n o=true∧(∀e∈o.after,Region.binds .any e=true→e.on<k)∧∀j,j<k→Anc ops j k∨zxn tb ops ev j k
 |[],pre,ms,i,_,hl,hp,_,_,k,o,hik,ho=>by
  rw [List.append_nil] at hl
  have:k<ops.size:=(Array.getElem?_eq_some_iff.1 ho).1
  rw [←Array.length_toList,hl] at this
  omega
 |y::r,pre,ms,i,h,hl,hp,hm,hms,k,o,hik,ho=>by
  simp only [zyk,Bool.and_eq_true] at h
  obtain ⟨⟨⟨h1,h2⟩,h3⟩,h4⟩:=h
  have hi:ops[i]?=some y:=by
   rw [←Array.getElem?_toList,hl,←hp]
   simp
  have hanc:=zoI hi hms (l:=y.after.toList) (fun e he=>by simpa using he)
  by_cases e:k=i
  ·subst e
   rw [hi] at ho
   injection ho with ho
   subst ho
   refine ⟨h1,fun e he hb=>zpa h2 e (by simpa using he) hb,fun j hj=>?_⟩
   have hx:pre[j]?=some (pre[j]'(by omega)):=List.getElem?_eq_getElem (by omega)
   have hx':ops[j]?=some (pre[j]'(by omega)):=by
    rw [←Array.getElem?_toList,hl,List.getElem?_append_left (by omega)]
    exact hx
   rcases zsa h3 j _ hx with h'|h'|h'
   ·exact .inl (hanc j (by simpa using h'))
   ·simp only [ztQ,Bool.and_eq_true] at h'
    exact .inr ⟨_,_,hx',hi,h'.2,.inl h'.1⟩
   ·rw [Nat.zero_add] at h'
    simp only [zzX,Bool.and_eq_true] at h'
    exact .inr ⟨_,_,hx',hi,h'.2.1,.inr ⟨zmK hdy j k (zr9 h'.1) _ _ hx' hi,zpN h'.2.2.1,zpN h'.2.2.2⟩⟩
  ·refine zsu hdy r (pre++[y]) _ (i+1) h4 (by rw [hl];simp) (by simp [hp]) (by simp [hm]) (fun k' j hk'=>?_) k o (by omega) ho
   rw [zoJ] at hk'
   split at hk'
   ·exact hms _ _ hk'
   ·split at hk'
    ·rename_i e'
     rw [hm] at e'
     subst e'
     exact hanc j hk'
    ·simp at hk'
theorem zyz {tb:Tb} {ops:Array Oper} {ps:List (Nat×Nat)} {ev:Operand→AV} {n:Nat} (h:zAI tb n ops ps=true) (hdy:zeq ops.toList ev ps=true):zu3 tb ops n ev:=by
 have key:=zsu hdy ops.toList [] [] 0 h rfl rfl rfl (fun k j hk=>by cases k<;>simp [zjG] at hk)
 exact ⟨fun i o ho=>(key i o (Nat.zero_le _) ho).1,fun i o ho=>(key i o (Nat.zero_le _) ho).2.1,fun i j hj hi=>(key i _ (Nat.zero_le _) (Array.getElem?_eq_getElem hi)).2.2 j hj⟩
def zra (n:Nat):List Oper→Bool
 |[]=>true
 |o::r=>zb9 n o&&zra n r
theorem zoS {n:Nat}:∀{l:List Oper},zra n l=true→∀o∈l,zb9 n o=true
 |[],_,o,ho=>by cases ho
 |a::r,h,o,ho=>by
  simp only [zra,Bool.and_eq_true] at h
  rcases List.mem_cons.1 ho with rfl|ho
  ·exact h.1
  ·exact zoS h.2 o ho
def zem (tb:Tb) (n:Nat):Code→Ann→Bool
 |.region _ ops dr,an=>zra n ops.toList&&cond dr (zAI tb n ops an.ps) true
 |.seq a b,an=>zem tb n a an.l&&zem tb n b an.r
 |.cond _ a b,an=>zem tb n a an.l&&zem tb n b an.r
 |.block _ a,an=>zem tb n a an.l
 |.loop a,an=>zem tb n a an.l
 |_,_=>true
end Go.Proofs.YtpkkcjmblocjdaaGreat.AM
end
section
namespace Go.Proofs.YtpkkcjmblocjdaaGreat.AM
open Go.RowKit
theorem zxD (κ:Kd):∀{cs r:List AV} {x:κ.T},Kd.dec κ cs=some (x,r)→cs.length=κ.size+r.length:=by
 induction κ with
 |pair a b iha ihb =>
  intro cs r x h
  simp only [Kd.dec] at h
  split at h
  ·rename_i y r1 ha
   split at h
   ·rename_i z r2 hb
    cases h
    rw [iha ha,ihb hb,Kd.size]
    omega
   ·cases h
  ·cases h
 |int k =>
  intro cs r x h
  cases cs with
  |nil=>simp [Kd.dec] at h
  |cons c cs =>
   cases c<;>simp only [Kd.dec] at h<;>try (cases h;done)
   split at h
   ·cases h;simp [Kd.size,Nat.add_comm]
   ·cases h
 |bool =>
  intro cs r x h
  cases cs with
  |nil=>simp [Kd.dec] at h
  |cons c cs =>
   cases c<;>simp only [Kd.dec] at h<;>try (cases h;done)
   cases h;simp [Kd.size,Nat.add_comm]
 |mp k v =>
  intro cs r x h
  cases cs with
  |nil=>simp [Kd.dec] at h
  |cons c cs =>
   cases c<;>simp only [Kd.dec] at h<;>try (cases h;done)
   ·split at h
    ·cases h;simp [Kd.size,Nat.add_comm]
    ·cases h
   ·cases h;simp [Kd.size,Nat.add_comm]
 |str =>
  intro cs r x h
  cases cs with
  |nil=>simp [Kd.dec] at h
  |cons c cs =>
   cases c<;>simp only [Kd.dec] at h<;>try (cases h;done)
   cases h;simp [Kd.size,Nat.add_comm]
 |sl e =>
  intro cs r x h
  cases cs with
  |nil=>simp [Kd.dec] at h
  |cons c cs =>
   cases c<;>simp only [Kd.dec] at h<;>try (cases h;done)
   ·cases h;simp [Kd.size,Nat.add_comm]
   ·split at h
    ·cases h;simp [Kd.size,Nat.add_comm]
    ·cases h
theorem zcV {Γ:Gh} {κ:Kd} {v:AV} {u:Value} {x:κ.T} (h:zbb κ v=some x) (hv:zf Γ v u):zf Γ (κ.av x) u:=by
 have one:∀{κ:Kd} {x:κ.T},(match Kd.dec κ [v] with
   |some (x,[])=>some x
   |_=>none)=some x→qd Γ.w Γ.R κ x [u]:=by
  intro κ x h
  split at h
  ·rename_i y hy
   injection h with h
   subst h
   obtain ⟨us,ws,e,h1,h2⟩:=KL hy (zq.one.2 ⟨u,rfl,hv⟩)
   simp only [zq] at h2
   subst h2
   rw [List.append_nil] at e
   subst e
   exact h1
  ·cases h
 unfold zbb at h
 split at h
 ·rename_i a b cs
  split at h
  ·rename_i y hd
   injection h with h
   subst h
   simp only [zf] at hv
   obtain ⟨vs,rfl,hvs⟩:=hv
   obtain ⟨us,ws,rfl,h1,h2⟩:=KL hd hvs
   simp only [zq] at h2
   subst h2
   simp only [Kd.av,zf,List.append_nil]
   exact ⟨us,rfl,h1.cells⟩
  ·cases h
 ·cases h
 ·cases h
 ·rename_i κ' v' hp _ _
  have:=one h
  cases κ
  case pair a b=>exact (hp _ _ rfl).elim
  all_goals simp only [qd] at this
  case sl e =>
   simp only [Kd.av,zf,qd]
   exact this
  case mp k v =>
   simp only [Kd.av,zf,qd]
   exact this
  all_goals (simp only [Kd.av,zf];simpa using this)
theorem zt.addBoxAt {B:Nat} {w0:World} {Γ:Gh} {m:Mem} (M:zt B w0 Γ m) {id blk:Nat} (hn:m.new id=true) {cs:List AV} {us:Array Value} {ty:TypeId} (hb0:Γ.w.heap[blk]?=some (.cells us ty (0,0))) (hB:B≤blk) (hr:zq Γ cs us.toList) (hF:Q3 Γ m blk) :
  zt B w0 { Γ with μ:=upd Γ.μ id (some blk) } { m with box:=upd m.box id (some ⟨cs,false⟩) }∧Ext B Γ { Γ with μ:=upd Γ.μ id (some blk) }:=by
 have hμ:=M.newμ hn
 have E:Ext B Γ { Γ with μ:=upd Γ.μ id (some blk) }:=⟨fun _ h=>h,fun _ _=>rfl,fun i b h=>by
  show upd Γ.μ id _ i=some b
  by_cases hi:i=id
  ·subst hi;rw [hμ] at h;cases h
  ·rw [zC _ _ hi];exact h,fun _ _ h=>h,fun _ _ h=>h,fun _ h=>.inl h,Nat.le_refl _⟩
 refine ⟨⟨M.below,M.base,M.rlt,fun i b hi=>?_,fun i u hu=>?_,fun i j b hi hj=>?_,M.rr,fun i j u g hu hg hl hj=>?_,fun i b hi=>?_,M.mm⟩,E⟩
 ·have hi':upd Γ.μ id (some blk) i=some b:=hi
  show ∃a,upd m.box id (some ⟨cs,false⟩) i=some a∧_
  by_cases h:i=id
  ·subst h
   rw [zU] at hi'
   injection hi' with hi'
   subst hi'
   exact ⟨_,zU _ _ _,hB,⟨us,ty,hb0,hr.ext E⟩,.inr ⟨rfl,hF.1⟩⟩
  ·rw [zC _ _ h] at hi' ⊢
   obtain ⟨a,ha,hb⟩:=M.box i b hi'
   exact ⟨a,ha,hb.keep E rfl fun h=>h⟩
 ·obtain ⟨a,ha,hb⟩:=M.row i u hu
  exact ⟨a,ha,fun hd=>(hb hd).keep E (fun _ _=>rfl) fun _ _ h=>h⟩
 ·have h1:upd Γ.μ id (some blk) i=some b:=hi
  have h2:upd Γ.μ id (some blk) j=some b:=hj
  by_cases ei:i=id<;>by_cases ej:j=id
  ·rw [ei,ej]
  ·subst ei
   rw [zU] at h1
   injection h1 with h1
   subst h1
   rw [zC _ _ ej] at h2
   exact absurd h2 (hF.2.1 j)
  ·subst ej
   rw [zU] at h2
   injection h2 with h2
   subst h2
   rw [zC _ _ ei] at h1
   exact absurd h1 (hF.2.1 i)
  ·rw [zC _ _ ei] at h1
   rw [zC _ _ ej] at h2
   exact M.bb i j b h1 h2
 ·have h2:upd Γ.μ id (some blk) j=some g:=hj
  by_cases ej:j=id
  ·subst ej
   rw [zU] at h2
   injection h2 with h2
   subst h2
   exact hF.2.2.1 i u hu hl hg
  ·rw [zC _ _ ej] at h2
   exact M.rb i j u g hu hg hl h2
 ·obtain ⟨c,hc,hb⟩:=M.map i b hi
  exact ⟨c,hc,hb.keep E rfl fun h=>h⟩
structure Bld (B:Nat) (w0:World) (Γ1:Gh) (m1:Mem) (own:List Nat) (base:Nat) (Γk:Gh) (mk:Mem):Prop where
 rel:zt B w0 Γk mk
 w:Γk.w=Γ1.w
 R:Γk.R=Γ1.R
 μ:∀i b,Γk.μ i=some b→∃j∈own,Γ1.μ j=some b
 ν:∀i v,Γk.ν i=some v→v.ownBlock=none∨∃j∈own,m1.live j∧Γ1.ν j=some v
 η:∀i b,Γk.η i=some b→∃j∈own,Γ1.η j=some b
 fresh:∀i,base≤i→mk.new i=true
theorem Bld.weak {B:Nat} {w0:World} {Γ1:Gh} {m1:Mem} {own own':List Nat} {base base':Nat} {Γk:Gh} {mk:Mem} (h:Bld B w0 Γ1 m1 own base Γk mk) (ho:∀j∈own,j∈own') (hb:base≤base'):Bld B w0 Γ1 m1 own' base' Γk mk :=
 ⟨h.rel,h.w,h.R,fun i b hi=>let ⟨j,hj,k⟩:=h.μ i b hi;⟨j,ho j hj,k⟩,fun i v hi=>(h.ν i v hi).imp id fun ⟨j,hj,k⟩=>⟨j,ho j hj,k⟩,fun i b hi=>let ⟨j,hj,k⟩:=h.η i b hi;⟨j,ho j hj,k⟩,fun i hi=>h.fresh i (by omega)⟩
theorem zcY {m:Mem} {id i:Nat} {a:ZF} (h:m.new i=true) (hi:i≠id):({ m with row:=upd m.row id (some a) }:Mem).new i=true:=by
 have h1:=zhu h
 have h2:=zfC h
 unfold Mem.new at h ⊢
 simp only [zC _ _ hi]
 exact h
theorem zqO {m:Mem} {id i:Nat} {a:YZ} (h:m.new i=true) (hi:i≠id):({ m with box:=upd m.box id (some a) }:Mem).new i=true:=by
 unfold Mem.new at h ⊢
 simp only [zC _ _ hi]
 exact h
theorem zgH {m:Mem} {id i:Nat} {a:ze1} (h:m.new i=true) (hi:i≠id):({ m with map:=upd m.map id (some a) }:Mem).new i=true:=by
 unfold Mem.new at h ⊢
 simp only [zC _ _ hi]
 exact h
theorem QT.same {B:Nat} {Γ Γ':Gh} {a:ze1} {b:Nat} (h:QT B Γ a b) (hw:Γ'.w=Γ.w) (hR:Γ'.R=Γ.R):QT B Γ' a b:=by
 obtain ⟨h1,h2,h3⟩:=h
 refine ⟨h1,?_,by rw [hR];exact h3⟩
 unfold zjR at *
 rw [hw,hR]
 exact h2
section
variable {B:Nat} {w0:World} {Γ1:Gh} {m1:Mem} (M1:zt B w0 Γ1 m1)
include M1 in
theorem Bld.map {own:List Nat} {base:Nat} {Γk:Gh} {mk:Mem} (b:Bld B w0 Γ1 m1 own base Γk mk) {id blk:Nat} {a:ze1} (hη:Γ1.η id=some blk) (hr:QT B Γ1 a blk) (ho:id∉own) :
  ∃Γk',Bld B w0 Γ1 m1 (id::own) (base+1) Γk' { mk with map:=upd mk.map base (some a) }∧Ext B Γk Γk'∧Γk'.η base=some blk:=by
 obtain ⟨M',E⟩:=b.rel.addMapAt (b.fresh base (Nat.le_refl _)) (hr.same b.w b.R) (fun i hi=>by
  obtain ⟨j,hj,hj2⟩:=b.η i blk hi
  have:=M1.mm j id blk hj2 hη
  subst this
  exact ho hj)
 refine ⟨{ Γk with η:=upd Γk.η base (some blk) },⟨M',b.w,b.R,fun i c hi=>let ⟨j,hj,k⟩:=b.μ i c hi;⟨j,List.mem_cons_of_mem _ hj,k⟩,fun i w hw=>(b.ν i w hw).imp (fun h=>h) fun ⟨j,hj,k⟩=>⟨j,List.mem_cons_of_mem _ hj,k⟩,fun i c hi=>?_,fun i hi=>zgH (b.fresh i (by omega)) (by omega)⟩,E,zU _ _ _⟩
 have hi':upd Γk.η base (some blk) i=some c:=hi
 by_cases e':i=base
 ·subst e'
  rw [zU] at hi'
  injection hi' with hi'
  subst hi'
  exact ⟨id,List.mem_cons_self,hη⟩
 ·rw [zC _ _ e'] at hi'
  obtain ⟨j,hj,k⟩:=b.η i c hi'
  exact ⟨j,List.mem_cons_of_mem _ hj,k⟩
theorem Bld.nil {own:List Nat} {base:Nat} {Γk:Gh} {mk:Mem} (b:Bld B w0 Γ1 m1 own base Γk mk) (e:Kd) (t:Nat) :
  ∃Γk',Bld B w0 Γ1 m1 own (base+1) Γk' { mk with row:=upd mk.row base (some ⟨e,[],t,.own⟩) }∧Ext B Γk Γk'∧zf Γk' (.row base e 0) (.slice none 0 0):=by
 have hn:=b.fresh base (Nat.le_refl _)
 have ho:∃cs,Γk.w.ownsRow B t e.size (.slice none 0 0) (List.length (α:=e.T) []) cs∧za9 Γk.w Γk.R e [] cs:=by
  refine ⟨[],?_,fun i x hx=>by simp at hx⟩
  exact ⟨by simp,.inl ⟨rfl,by simp⟩⟩
 obtain ⟨M',E⟩:=b.rel.addRow hn (a:=⟨e,[],t,.own⟩) (v:=.slice none 0 0) rfl ho (fun g hg=>by cases hg)
 refine ⟨_,⟨M',b.w,b.R,b.μ,fun i v hi=>?_,b.η,fun i hi=>zcY (b.fresh i (by omega)) (by omega)⟩,E,?_⟩
 ·have hi':upd Γk.ν base (some (.slice none 0 0)) i=some v:=hi
  by_cases e':i=base
  ·subst e'
   rw [zU] at hi'
   injection hi' with hi'
   subst hi'
   exact .inl rfl
  ·rw [zC _ _ e'] at hi'
   exact b.ν i v hi'
 ·simp only [zf]
  exact ⟨zU _ _ _,by simp⟩
include M1
theorem Bld.row {own:List Nat} {base:Nat} {Γk:Gh} {mk:Mem} (b:Bld B w0 Γ1 m1 own base Γk mk) {id:Nat} {e:Kd} {xs:List e.T} {t:Nat} (hr:m1.row id=some ⟨e,xs,t,.own⟩) {v:Value} (hν:Γ1.ν id=some v) (hid:id∉own) :
  ∃Γk',Bld B w0 Γ1 m1 (id::own) (base+1) Γk' { mk with row:=upd mk.row base (some ⟨e,xs,t,.own⟩) }∧Ext B Γk Γk'∧zf Γk' (.row base e (Yc xs)) v:=by
 have hn:=b.fresh base (Nat.le_refl _)
 have hd:(⟨e,xs,t,.own⟩:ZF).st≠.dead:=fun h=>by cases h
 have hl:m1.live id:=⟨_,hr,hd⟩
 have hrr:=M1.rowAt hν hr hd
 have ho:∃cs,Γk.w.ownsRow B t e.size v (List.length (α:=e.T) xs) cs∧za9 Γk.w Γk.R e xs cs:=by
  rw [b.w,b.R]
  exact hrr.own
 have hF:∀g,v.ownBlock=some g→Q3 Γk mk g:=by
  intro g hg
  refine ⟨?_,fun i hi=>?_,fun i u hu _ hgu=>?_,fun i hi=>?_⟩
  ·rw [b.R]
   rcases hrr.fix g hg with ⟨h,_⟩|⟨_,h⟩
   ·cases h
   ·exact h
  ·obtain ⟨j,_,hj⟩:=b.μ i g hi
   exact M1.rb id j v g hν hg hl hj
  ·rcases b.ν i u hu with h|⟨j,hj,hjl,hju⟩
   ·rw [h] at hgu;cases hgu
   ·have:=M1.rr id j v u g hν hju hg hgu hl hjl
    subst this
    exact hid hj
  ·obtain ⟨j,_,hj⟩:=b.η i g hi
   exact M1.rm hν hg hl hj
 obtain ⟨M',E⟩:=b.rel.addRow hn (a:=⟨e,xs,t,.own⟩) (v:=v) rfl ho hF
 refine ⟨_,⟨M',b.w,b.R,fun i c hi=>?_,fun i u hi=>?_,fun i c hi=>let ⟨j,hj,k⟩:=b.η i c hi;⟨j,List.mem_cons_of_mem _ hj,k⟩,fun i hi=>zcY (b.fresh i (by omega)) (by omega)⟩,E,?_⟩
 ·obtain ⟨j,hj,k⟩:=b.μ i c hi
  exact ⟨j,List.mem_cons_of_mem _ hj,k⟩
 ·have hi':upd Γk.ν base (some v) i=some u:=hi
  by_cases e':i=base
  ·subst e'
   rw [zU] at hi'
   injection hi' with hi'
   subst hi'
   exact .inr ⟨id,List.mem_cons_self,hl,hν⟩
  ·rw [zC _ _ e'] at hi'
   exact (b.ν i u hi').imp (fun h=>h) fun ⟨j,hj,k⟩=>⟨j,List.mem_cons_of_mem _ hj,k⟩
 ·simp only [zf]
  refine ⟨zU _ _ _,?_⟩
  obtain ⟨cs,ho,_⟩:=hrr.own
  rcases ho.2 with ⟨rfl,hn⟩|⟨g,cap,cur,rfl,_⟩
  ·exact .inl ⟨hn,rfl⟩
  ·exact .inr ⟨g,cap,rfl⟩
theorem Bld.rowDec {own:List Nat} {base:Nat} {Γk:Gh} {mk:Mem} (b:Bld B w0 Γ1 m1 own base Γk mk) {m:Mem} {Γ:Gh} {c:AV} (hm:∀i,i∈Js c→m1.row i=m.row i) (hν:Γ.ν=Γ1.ν) {e:Kd} {t:Nat} {xs:List e.T} (h:AM.rowDec m e t c=some xs) {u:Value} (hu:zf Γ c u) (hid:∀i∈Js c,i∉own) :
  ∃Γk',Bld B w0 Γ1 m1 (Js c++own) (base+1) Γk' { mk with row:=upd mk.row base (some ⟨e,xs,t,.own⟩) }∧Ext B Γk Γk'∧zf Γk' (.row base e (Yc xs)) u:=by
 unfold AM.rowDec at h
 split at h
 ·injection h with h
  subst h
  simp only [zf] at hu
  subst hu
  exact b.nil e t
 ·rename_i id e0 n0
  split at h
  ·rename_i e' ys t' hrow
   obtain ⟨ht,h2⟩:=zm h
   have:=Nat.eq_of_beq_eq_true ht
   subst this
   obtain ⟨rfl,rfl⟩:=Y3 h2
   simp only [zf] at hu
   rw [hν] at hu
   exact b.row M1 ((hm id (by simp [Js])).trans hrow) hu.1 (hid id (by simp [Js]))
  ·cases h
 ·cases h
end
end Go.Proofs.YtpkkcjmblocjdaaGreat.AM
end
section
namespace Go.Proofs.YtpkkcjmblocjdaaGreat.AM
open Go.RowKit
theorem zgd {id:Nat}:∀{F:List Nat} {r:Nat→Option ZF},id∉F→Jx r F id=r id
 |[],_,_=>rfl
 |j::F,r,h=>by
  have hj:id≠j:=fun e=>h (by rw [e];exact List.mem_cons_self)
  have hF:id∉F:=fun e=>h (List.mem_cons_of_mem _ e)
  simp only [Jx]
  rw [zgd hF]
  cases r j with
  |none=>rfl
  |some a=>exact zC _ _ hj
theorem zoa {m:Mem} {F:List Nat} {id:Nat} (h:id∉F):(m.fix F).row id=m.row id:=by
 rw [X0]
 exact zgd h
theorem zsB (m:Mem) (F:List Nat):(m.fix F).box=m.box:=by rw [X0]
theorem zcG:∀{a b:List Nat},zdE (a++b)=true→zdE a=true∧zdE b=true∧∀i∈a,i∉b
 |[],b,h=>⟨rfl,h,fun i hi=>by cases hi⟩
 |x::a,b,h=>by
  simp only [List.cons_append,zdE,Bool.and_eq_true,List.all_eq_true,Bool.not_eq_true'] at h ⊢
  obtain ⟨h1,h2,h3⟩:=zcG h.2
  have hx:∀y∈a++b,x≠y:=fun y hy e=>by
   have:=h.1 y hy
   rw [e,Nat.beq_refl] at this
   cases this
  refine ⟨⟨fun y hy=>h.1 y (List.mem_append_left _ hy),h1⟩,h2,fun i hi=>?_⟩
  rcases List.mem_cons.1 hi with rfl|hi
  ·exact fun hb=>hx i (List.mem_append_right _ hb) rfl
  ·exact h3 i hi
section
variable {B:Nat} {w0:World} {Γ:Gh} {R1:Nat→Prop} {m:Mem} {fx:List Nat} (M:zt B w0 Γ m) (M1:zt B w0 { Γ with R:=R1 } (m.fix fx)) (L:JU Γ { Γ with R:=R1 } m fx [])
include M L in
theorem zmA {κ:Kd} {cs:List AV} {us:List Value} {x:κ.T} (h:Kd.dec κ (cs.map (Jq m))=some (x,[])) (hr:zq Γ cs us) (hf:∀i∈(cs.take κ.size).flatMap Js,i∈fx) {Γk:Gh} (hw:Γk.w=Γ.w) (hR:Γk.R=R1):zq Γk (κ.cells x) us:=by
 have hl:cs.take κ.size=cs:=by
  apply List.take_of_length_le
  have:=zxD κ h
  simp at this
  omega
 rw [hl] at hf
 have h1:=za6 M (L.mono hf (by simp)) hr
 obtain ⟨u1,ws,e,h2,h3⟩:=KL h h1
 simp only [zq] at h3
 subst h3
 rw [List.append_nil] at e
 subst e
 have h4:qd Γk.w Γk.R κ x us:=by
  rw [hw,hR]
  exact h2
 exact h4.cells
omit M L in
include M1 in
theorem zgV {κ ν:Kd} {c:AV} {u:Value} {x:List (κ.T×ν.T)} {base:Nat} {Γk:Gh} {mk:Mem} {own:List Nat} (hd:zjg m κ ν c=some x) (hu:zf Γ c u) (b:Bld B w0 { Γ with R:=R1 } (m.fix fx) own base Γk mk) (ho:∀i∈mpC c,i∉own) :
  ∃Γk',Bld B w0 { Γ with R:=R1 } (m.fix fx) (mpC c++own) (base+1) Γk' { mk with map:=upd mk.map base (some ⟨κ,ν,x,.own,none⟩) }∧Ext B Γk Γk'∧zf Γk' (.mp base κ ν) u:=by
 unfold zjg at hd
 split at hd
 ·rename_i id k v
  split at hd
  ·rename_i κ' ν' es cur hm
   obtain ⟨rfl,rfl,rfl⟩:=zaU hd
   simp only [zf] at hu
   obtain ⟨blk,hη,rfl⟩:=hu
   have hm1:(m.fix fx).map id=some ⟨κ',ν',x,.own,cur⟩:=by rw [X0];exact hm
   have hmr:=M1.mapAt (i:=id) hη hm1
   have hr:QT B { Γ with R:=R1 } ⟨κ',ν',x,.own,none⟩ blk:=by
    refine ⟨hmr.base,.inl ⟨fun e=>(by cases e),hmr.map (fun e=>by cases e)⟩,?_⟩
    rcases hmr.fix with ⟨h,_⟩|⟨_,h⟩
    ·cases h
    ·exact .inr ⟨fun e=>(by cases e),h⟩
   obtain ⟨Γk',b',E,h'⟩:=b.map M1 (id:=id) hη hr (ho id (by simp [mpC]))
   refine ⟨Γk',b',E,?_⟩
   simp only [zf]
   exact ⟨blk,h',rfl⟩
  ·cases hd
 ·cases hd
include M M1 L
theorem zjM:∀(l:List SC) {cs:List AV} {us:List Value} {x:jM (l.map SC.T)} {base:Nat} {Γk:Gh} {mk:Mem} {own:List Nat},zh4 m l cs=some x→zq Γ cs us→Bld B w0 { Γ with R:=R1 } (m.fix fx) own base Γk mk →
  zdE (zgt l cs)=true→(∀i∈zgt l cs,i∉own∧i∉fx)→(∀i∈zsF l cs,i∈fx) →
  ∃Γk',Bld B w0 { Γ with R:=R1 } (m.fix fx) (zgt l cs++own) (base+l.length) Γk' (zcn base l x mk)∧Ext B Γk Γk'∧zq Γk' (zlY base l x) us
 |[],cs,us,x,base,Γk,mk,own,h,hr,b,hn,ho,hf=>by
  have hcs:cs=[]:=by
   cases cs with
   |nil=>rfl
   |cons c cs=>exact absurd (show (none:Option Unit)=some x from h) (by simp)
  subst hcs
  exact ⟨Γk,b,Ext.refl B Γk,by simpa only [zlY,zq] using hr⟩
 |[.d κ],cs,us,x,base,Γk,mk,own,h,hr,b,hn,ho,hf=>by
  replace h:(match Kd.dec κ (cs.map (Jq m)) with
   |some (x,[])=>some x
   |_=>none:Option κ.T)=some x:=h
  split at h
  ·rename_i y hy
   injection h with h
   subst h
   refine ⟨Γk,b.weak (fun j hj=>List.mem_append_right _ hj) (Nat.le_add_right _ _),Ext.refl B Γk,?_⟩
   exact zmA M L hy hr (fun i hi=>hf i (List.mem_append_left _ hi)) b.w b.R
  ·cases h
 |[.row e t],cs,us,x,base,Γk,mk,own,h,hr,b,hn,ho,hf=>by
  cases cs with
  |nil=>exact absurd (show (none:Option (List e.T))=some x from h) (by simp)
  |cons c cs =>
   cases cs with
   |cons c' cs=>exact absurd (show (none:Option (List e.T))=some x from h) (by simp)
   |nil =>
    replace h:rowDec m e t c=some x:=h
    obtain ⟨u,rfl,hu⟩:=zq.one.1 hr
    have hown:zgt [.row e t] [c]=Js c:=List.append_nil _
    rw [hown] at ho ⊢
    obtain ⟨Γk',b',E,hv⟩:=b.rowDec M1 (c:=c) (m:=m) (Γ:=Γ) (fun i hi=>zoa (ho i hi).2) rfl h hu (fun i hi=>(ho i hi).1)
    exact ⟨Γk',b',E,zq.one.2 ⟨u,rfl,hv⟩⟩
 |[.mp κ ν],cs,us,x,base,Γk,mk,own,h,hr,b,hn,ho,hf=>by
  cases cs with
  |nil=>exact absurd (show (none:Option (List (κ.T×ν.T)))=some x from h) (by simp)
  |cons c cs =>
   cases cs with
   |cons c' cs=>exact absurd (show (none:Option (List (κ.T×ν.T)))=some x from h) (by simp)
   |nil =>
    replace h:zjg m κ ν c=some x:=h
    obtain ⟨u,rfl,hu⟩:=zq.one.1 hr
    have hown:zgt [.mp κ ν] [c]=mpC c:=List.append_nil _
    rw [hown] at ho ⊢
    obtain ⟨Γk',b',E,hv⟩:=zgV M1 h hu b (fun i hi=>(ho i hi).1)
    exact ⟨Γk',b',E,zq.one.2 ⟨u,rfl,hv⟩⟩
 |.d κ::q::r,cs,us,x,base,Γk,mk,own,h,hr,b,hn,ho,hf=>by
  replace h:(match Kd.dec κ ((cs.take κ.size).map (Jq m)),zh4 m (q::r) (cs.drop κ.size) with
   |some (x,[]),some y=>some (x,y)
   |_,_=>none:Option (κ.T×jM ((q::r).map SC.T)))=some x:=h
  split at h
  ·rename_i y z hy hz
   injection h with h
   subst h
   have hrt:=hr.take κ.size
   have hrd:=hr.drop κ.size
   obtain ⟨Γk',b',E,hv⟩:=zjM (q::r) (base:=base+1) (own:=own) hz hrd (b.weak (fun _ h=>h) (Nat.le_succ _)) hn ho (fun i hi=>hf i (List.mem_append_right _ hi))
   refine ⟨Γk',b'.weak (fun _ h=>h) (by rw [List.length_cons,List.length_cons,List.length_cons];omega),E,?_⟩
   have h1:=zmA M L (Γk:=Γk') hy hrt (fun i hi=>hf i (List.mem_append_left _ (by rw [List.take_take,Nat.min_self] at hi;exact hi))) b'.w b'.R
   have:=h1.app hv
   rwa [List.take_append_drop] at this
  ·cases h
 |.row e t::q::r,cs,us,x,base,Γk,mk,own,h,hr,b,hn,ho,hf=>by
  cases cs with
  |nil=>exact absurd (show (none:Option (List e.T×jM ((q::r).map SC.T)))=some x from h) (by simp)
  |cons c cs =>
   replace h:(match rowDec m e t c,zh4 m (q::r) cs with
    |some x,some y=>some (x,y)
    |_,_=>none:Option (List e.T×jM ((q::r).map SC.T)))=some x:=h
   split at h
   ·rename_i y z hy hz
    injection h with h
    subst h
    simp only [zq] at hr
    obtain ⟨u,us',rfl,hu,hr⟩:=hr
    have hown:zgt (.row e t::q::r) (c::cs)=Js c++zgt (q::r) cs:=rfl
    rw [hown] at ho hn
    obtain ⟨_,hn2,hn3⟩:=zcG hn
    obtain ⟨Γ1,b1,E1,hv1⟩:=b.rowDec M1 (c:=c) (m:=m) (Γ:=Γ) (fun i hi=>zoa (ho i (List.mem_append_left _ hi)).2) rfl hy hu (fun i hi=>(ho i (List.mem_append_left _ hi)).1)
    obtain ⟨Γ2,b2,E2,hv2⟩:=zjM (q::r) hz hr b1 hn2 (fun i hi=>⟨fun h=>by
     rcases List.mem_append.1 h with h|h
     ·exact hn3 i h hi
     ·exact (ho i (List.mem_append_right _ hi)).1 h,(ho i (List.mem_append_right _ hi)).2⟩) (fun i hi=>hf i hi)
    refine ⟨Γ2,b2.weak (fun i hi=>?_) (by rw [List.length_cons,List.length_cons,List.length_cons];omega),E1.trans E2,?_⟩
    ·rw [hown]
     rcases List.mem_append.1 hi with hi|hi
     ·exact List.mem_append_left _ (List.mem_append_right _ hi)
     ·rcases List.mem_append.1 hi with hi|hi
      ·exact List.mem_append_left _ (List.mem_append_left _ hi)
      ·exact List.mem_append_right _ hi
    ·show zq Γ2 (.row base e (Yc (α:=e.T) y)::zlY (base+1) (q::r) z) (u::us')
     simp only [zq]
     exact ⟨u,us',rfl,hv1.ext E2,hv2⟩
   ·cases h
 |.mp κ ν::q::r,cs,us,x,base,Γk,mk,own,h,hr,b,hn,ho,hf=>by
  cases cs with
  |nil=>exact absurd (show (none:Option (List (κ.T×ν.T)×jM ((q::r).map SC.T)))=some x from h) (by simp)
  |cons c cs =>
   replace h:(match zjg m κ ν c,zh4 m (q::r) cs with
    |some x,some y=>some (x,y)
    |_,_=>none:Option (List (κ.T×ν.T)×jM ((q::r).map SC.T)))=some x:=h
   split at h
   ·rename_i y z hy hz
    injection h with h
    subst h
    simp only [zq] at hr
    obtain ⟨u,us',rfl,hu,hr⟩:=hr
    have hown:zgt (.mp κ ν::q::r) (c::cs)=mpC c++zgt (q::r) cs:=rfl
    rw [hown] at ho hn
    obtain ⟨_,hn2,hn3⟩:=zcG hn
    obtain ⟨Γ1,b1,E1,hv1⟩:=zgV M1 hy hu b (fun i hi=>(ho i (List.mem_append_left _ hi)).1)
    obtain ⟨Γ2,b2,E2,hv2⟩:=zjM (q::r) hz hr b1 hn2 (fun i hi=>⟨fun h=>by
     rcases List.mem_append.1 h with h|h
     ·exact hn3 i h hi
     ·exact (ho i (List.mem_append_right _ hi)).1 h,(ho i (List.mem_append_right _ hi)).2⟩) (fun i hi=>hf i hi)
    refine ⟨Γ2,b2.weak (fun i hi=>?_) (by rw [List.length_cons,List.length_cons,List.length_cons];omega),E1.trans E2,?_⟩
    ·rw [hown]
     rcases List.mem_append.1 hi with hi|hi
     ·exact List.mem_append_left _ (List.mem_append_right _ hi)
     ·rcases List.mem_append.1 hi with hi|hi
      ·exact List.mem_append_left _ (List.mem_append_left _ hi)
      ·exact List.mem_append_right _ hi
    ·show zq Γ2 (.mp base κ ν::zlY (base+1) (q::r) z) (u::us')
     simp only [zq]
     exact ⟨u,us',rfl,hv1.ext E2,hv2⟩
   ·cases h
omit M M1 L in
theorem zfK:∀(l:List SC) (base id:Nat) (x:jM (l.map SC.T)) (mk:Mem) (a:YZ),zcn base l x { mk with box:=upd mk.box id (some a) }={ zcn base l x mk with box:=upd (zcn base l x mk).box id (some a) }
 |[],_,_,_,_,_=>rfl
 |[.d _],_,_,_,_,_=>rfl
 |[.row _ _],_,_,_,_,_=>rfl
 |[.mp _ _],_,_,_,_,_=>rfl
 |.d _::q::r,base,id,x,mk,a=>zfK (q::r) (base+1) id x.2 mk a
 |.row e t::q::r,base,id,x,mk,a=>zfK (q::r) (base+1) id x.2 { mk with row:=upd mk.row base (some ⟨e,x.1,t,.own⟩) } a
 |.mp κ ν::q::r,base,id,x,mk,a=>zfK (q::r) (base+1) id x.2 { mk with map:=upd mk.map base (some ⟨κ,ν,x.1,.own,none⟩) } a
omit M M1 L in
theorem zfv:∀(l:List SC) (base id:Nat) (x:jM (l.map SC.T)) (mk:Mem),id<base→mk.new id=true→(zcn base l x mk).new id=true
 |[],_,_,_,_,_,h=>h
 |[.d _],_,_,_,_,_,h=>h
 |[.row _ _],_,_,_,_,hl,h=>zcY h (by omega)
 |[.mp _ _],_,_,_,_,hl,h=>zgH h (by omega)
 |.d _::q::r,base,id,x,mk,hl,h=>zfv (q::r) (base+1) id x.2 mk (by omega) h
 |.row e t::q::r,base,id,x,mk,hl,h=>zfv (q::r) (base+1) id x.2 _ (by omega) (zcY h (by omega))
 |.mp κ ν::q::r,base,id,x,mk,hl,h=>zfv (q::r) (base+1) id x.2 _ (by omega) (zgH h (by omega))
omit M1 M in
theorem zw4 {κ:Kd} {cs:List AV} {u:Value} {x:κ.T} {base:Nat} {Γk:Gh} {mk:Mem} {own:List Nat} (hd:(Sh.kp κ).dec m (.kptr cs)=some x) (hu:zf Γ (.kptr cs) u) (b:Bld B w0 { Γ with R:=R1 } (m.fix fx) own base Γk mk) :
  ∃Γk',Bld B w0 { Γ with R:=R1 } (m.fix fx) ([]++own) (base+64) Γk' mk∧Ext B Γk Γk'∧zf Γk' (.kptr (κ.cells x)) u:=by
 replace hd:(match Kd.dec κ cs with
  |some (x,[])=>some x
  |_=>none:Option κ.T)=some x:=hd
 split at hd
 ·rename_i y hy
  injection hd with hd
  subst hd
  refine ⟨Γk,b.weak (fun j hj=>List.mem_append_right _ hj) (by omega),Ext.refl B Γk,?_⟩
  simp only [zf] at hu
  obtain ⟨ad,us,rfl,hR,hpu,hl,hc⟩:=hu
  obtain ⟨u1,ws,e,h2,h3⟩:=KL hy hl
  simp only [zq] at h3
  subst h3
  rw [List.append_nil] at e
  subst e
  have h4:qd Γk.w Γk.R κ y us:=by
   rw [b.w,b.R]
   exact h2.mono (fun _ _=>rfl) L.R
  simp only [zf]
  refine ⟨ad,us,rfl,by rw [b.R];exact L.R _ hR,KO κ y,h4.cells,fun j w hj=>by rw [b.w];exact hc j w hj⟩
 ·cases hd
theorem zv6 {l:List SC} {id:Nat} {u:Value} {x:jM (l.map SC.T)} {base:Nat} {Γk:Gh} {mk:Mem} {own:List Nat} (hd:(Sh.box l).dec m (.ptr id 0)=some x) (hu:zf Γ (.ptr id 0) u) (b:Bld B w0 { Γ with R:=R1 } (m.fix fx) own base Γk mk)
  (hn:zdE ((Sh.box l).own m (.ptr id 0))=true) (ho:∀i∈(Sh.box l).own m (.ptr id 0),i∉own∧i∉fx) (hf:∀i∈(Sh.box l).fix m (.ptr id 0),i∈fx) (hp:zld.noPtrD (.box l) (.ptr id 0)=true) :
  ∃Γk',Bld B w0 { Γ with R:=R1 } (m.fix fx) ((Sh.box l).own m (.ptr id 0)++own) (base+64) Γk' ((Sh.box l).mem base x mk)∧Ext B Γk Γk'∧zf Γk' ((Sh.box l).av base x) u:=by
 replace hd:(match m.box id with
  |some ⟨cs,false⟩=>zh4 m l cs
  |_=>none:Option (jM (l.map SC.T)))=some x:=hd
 split at hd
 ·rename_i cs hb
  simp only [zf] at hu
  obtain ⟨blk,hμ,rfl⟩:=hu
  have hbr:=M.boxAt hμ hb
  obtain ⟨us,ty,hcell,hcs⟩:=hbr.cells
  have hown:(Sh.box l).own m (.ptr id 0)=id::zgt l cs:=by simp [Sh.own,hb]
  have hfix:(Sh.box l).fix m (.ptr id 0)=zsF l cs:=by simp [Sh.fix,hb]
  rw [hown] at hn ho
  rw [hfix] at hf
  have hnd:zdE ([id]++zgt l cs)=true:=hn
  obtain ⟨_,hn2,hn3⟩:=zcG hnd
  obtain ⟨Γ2,b2,E2,hv2⟩:=zjM M M1 L l (base:=base+1) hd hcs (b.weak (fun _ h=>h) (Nat.le_succ _)) hn2 (fun i hi=>ho i (List.mem_cons_of_mem _ hi)) hf
  have hnew:(zcn (base+1) l x mk).new base=true:=zfv l (base+1) base x mk (by omega) (b.fresh base (Nat.le_refl _))
  have hnR:¬R1 blk:=by
   have hbr1:=M1.boxAt (i:=id) hμ (by rw [zsB];exact hb)
   rcases hbr1.fix with ⟨h,_⟩|⟨_,h⟩
   ·cases h
   ·exact h
  have hF:Q3 Γ2 (zcn (base+1) l x mk) blk:=by
   refine ⟨by rw [b2.R];exact hnR,fun i hi=>?_,fun i w hw hl hg=>?_,fun i hi=>?_⟩
   ·obtain ⟨j,hj,hj2⟩:=b2.μ i blk hi
    have e:=M1.bb id j blk hμ hj2
    subst e
    rcases List.mem_append.1 hj with hj|hj
    ·exact hn3 id (by simp) hj
    ·exact (ho id List.mem_cons_self).1 hj
   ·rcases b2.ν i w hw with h|⟨j,hj,hjl,hjν⟩
    ·rw [h] at hg;cases hg
    ·exact M1.rb j id w blk hjν hg hjl hμ
   ·obtain ⟨j,_,hj2⟩:=b2.η i blk hi
    exact M1.bm hj2 hμ
  have hB:B≤blk:=hbr.base
  obtain ⟨M3,E3⟩:=b2.rel.addBoxAt hnew (cs:=zlY (base+1) l x) (us:=us) (ty:=ty) (by rw [b2.w];exact hcell) hB hv2 hF
  have hmem:(Sh.box l).mem base x mk={ zcn (base+1) l x mk with box:=upd (zcn (base+1) l x mk).box base (some ⟨zlY (base+1) l x,false⟩) }:=zfK l (base+1) base x mk _
  have hlen:l.length≤60:=Nat.le_of_ble_eq_true hp
  rw [hmem,hown]
  refine ⟨_,⟨M3,b2.w,b2.R,fun i c hi=>?_,fun i w hw=>?_,fun i c hi=>let ⟨j,hj,k⟩:=b2.η i c hi;⟨j,List.mem_cons_of_mem _ hj,k⟩,fun i hi=>zqO (b2.fresh i (by omega)) (by omega)⟩,E2.trans E3,?_⟩
  ·have hi':upd Γ2.μ base (some blk) i=some c:=hi
   by_cases e':i=base
   ·subst e'
    rw [zU] at hi'
    injection hi' with hi'
    subst hi'
    exact ⟨id,List.mem_cons_self,hμ⟩
   ·rw [zC _ _ e'] at hi'
    obtain ⟨j,hj,k⟩:=b2.μ i c hi'
    exact ⟨j,List.mem_cons_of_mem _ hj,k⟩
  ·exact (b2.ν i w hw).imp (fun h=>h) fun ⟨j,hj,k⟩=>⟨j,List.mem_cons_of_mem _ hj,k⟩
  ·simp only [Sh.av,zf]
   exact ⟨blk,zU _ _ _,rfl⟩
 ·cases hd
omit M1 M in
theorem zyi {f g:Nat} {la lb:List SP} {a c:List AV} {u:Value} {x:jM (la.map SP.T)×jM (lb.map SP.T)} {base:Nat} {Γk:Gh} {mk:Mem} {own:List Nat} (hd:(Sh.fn f la lb).dec m (.fn g a c)=some x) (hu:zf Γ (.fn g a c) u) (b:Bld B w0 { Γ with R:=R1 } (m.fix fx) own base Γk mk) :
  ∃Γk',Bld B w0 { Γ with R:=R1 } (m.fix fx) ([]++own) (base+64) Γk' mk∧Ext B Γk Γk'∧zf Γk' (.fn f (zgB la x.1) (zgB lb x.2)) u:=by
 replace hd:cond (Nat.beq f g) (match zer la a,zer lb c with
  |some x,some y=>some (x,y)
  |_,_=>none) (none:Option (jM (la.map SP.T)×jM (lb.map SP.T)))=some x:=hd
 obtain ⟨hg,hd2⟩:=zm hd
 clear hd
 have:=Nat.eq_of_beq_eq_true hg
 subst this
 split at hd2
 ·rename_i y z hy hz
  injection hd2 with hd2
  subst hd2
  simp only [zf] at hu
  obtain ⟨us,vs,rfl,h1,h2⟩:=hu
  have key:∀(p:SP) (v:AV) (u:Value) (x:p.T),p.dec v=some x→zf Γ v u→zf Γk (p.av x) u:=by
   intro p v u x hp hv
   cases p with
   |d κ =>
    simp only [SP.dec] at hp
    have h2:=zev hp hv
    have h3:=zcV hp hv
    show zf Γk (κ.av x) u
    cases κ with
    |pair a c =>
     simp only [Kd.av,zf] at h3 ⊢
     obtain ⟨vs,rfl,_⟩:=h3
     have h4:qd Γk.w Γk.R (.pair a c) x vs:=by
      rw [b.w,b.R]
      exact qd.mono (fun _ _=>rfl) L.R (by simpa [Value.cells] using h2)
     exact ⟨vs,rfl,h4.cells⟩
    |sl e =>
     simp only [Kd.av,zf] at h3 ⊢
     rw [b.w,b.R]
     exact h3.mono (fun _ _=>rfl) L.R
    |mp k v =>
     simp only [Kd.av,zf] at h3 ⊢
     rw [b.w,b.R]
     exact h3.mono (fun _ _=>rfl) L.R
    |_=>simpa only [Kd.av,zf] using h3
   |kp κ =>
    cases v<;>simp only [SP.dec] at hp<;>try (cases hp;done)
    rename_i cs
    split at hp
    ·rename_i y hy
     injection hp with hp
     subst hp
     simp only [zf] at hv
     obtain ⟨ad,us,rfl,hR,hpu,hl,hc⟩:=hv
     obtain ⟨u1,ws,e,h2,h3⟩:=KL hy hl
     simp only [zq] at h3
     subst h3
     rw [List.append_nil] at e
     subst e
     have h4:qd Γk.w Γk.R κ y us:=by
      rw [b.w,b.R]
      exact h2.mono (fun _ _=>rfl) L.R
     simp only [SP.av,zf]
     refine ⟨ad,us,rfl,by rw [b.R];exact L.R _ hR,KO κ y,h4.cells,fun j w hj=>by rw [b.w];exact hc j w hj⟩
    ·cases hp
  have keys:∀(l:List SP) (cs:List AV) (us:List Value) (x:jM (l.map SP.T)),zer l cs=some x→zq Γ cs us→zq Γk (zgB l x) us:=by
   intro l
   induction l with
   |nil =>
    intro cs us x hx hr
    cases cs with
    |nil=>simpa only [zgB,zq] using hr
    |cons c cs=>exact absurd (show (none:Option Unit)=some x from hx) (by simp)
   |cons p l ih =>
    intro cs us x hx hr
    cases l with
    |nil =>
     cases cs with
     |nil=>exact absurd (show (none:Option p.T)=some x from hx) (by simp)
     |cons c cs =>
      cases cs with
      |cons c' cs=>exact absurd (show (none:Option p.T)=some x from hx) (by simp)
      |nil =>
       replace hx:p.dec c=some x:=hx
       obtain ⟨u,rfl,hu⟩:=zq.one.1 hr
       exact zq.one.2 ⟨u,rfl,key p c u x hx hu⟩
    |cons q l =>
     cases cs with
     |nil=>exact absurd (show (none:Option (p.T×jM ((q::l).map SP.T)))=some x from hx) (by simp)
     |cons c cs =>
      replace hx:(match p.dec c,zer (q::l) cs with
       |some x,some y=>some (x,y)
       |_,_=>none:Option (p.T×jM ((q::l).map SP.T)))=some x:=hx
      split at hx
      ·rename_i y z hy hz
       injection hx with hx
       subst hx
       simp only [zq] at hr
       obtain ⟨u,us',rfl,hu,hr⟩:=hr
       show zq Γk (p.av y::zgB (q::l) z) (u::us')
       simp only [zq]
       exact ⟨u,us',rfl,key p c u y hy hu,ih cs us' z hz hr⟩
      ·cases hx
  refine ⟨Γk,b.weak (fun j hj=>List.mem_append_right _ hj) (by omega),Ext.refl B Γk,?_⟩
  show zf Γk (.fn f (zgB la y) (zgB lb z)) _
  simp only [zf]
  exact ⟨us,vs,rfl,keys la a us y hy h1,keys lb c vs z hz h2⟩
 ·cases hd2
omit M L in
theorem zxo {κ ν k v:Kd} {id:Nat} {u:Value} {x:List (κ.T×ν.T)} {base:Nat} {Γk:Gh} {mk:Mem} {own:List Nat} (hd:(Sh.it κ ν).dec m (.it id k v)=some x) (hu:zf Γ (.it id k v) u) (b:Bld B w0 { Γ with R:=R1 } (m.fix fx) own base Γk mk) (ho:id∉own) :
  ∃Γk',Bld B w0 { Γ with R:=R1 } (m.fix fx) ([id]++own) (base+64) Γk' { mk with map:=upd mk.map base (some ⟨κ,ν,x,.iter,none⟩) }∧Ext B Γk Γk'∧zf Γk' (.it base κ ν) u:=by
 replace hd:(match m.map id with
  |some ⟨κ',ν',es,.iter,_⟩=>zgp κ' ν' κ ν es
  |_=>none:Option (List (κ.T×ν.T)))=some x:=hd
 split at hd
 ·rename_i κ' ν' es cur hm
  obtain ⟨rfl,rfl,rfl⟩:=zaU hd
  simp only [zf] at hu
  obtain ⟨blk,hη,rfl⟩:=hu
  have hm1:(m.fix fx).map id=some ⟨κ',ν',x,.iter,cur⟩:=by rw [X0];exact hm
  have hmr:=M1.mapAt (i:=id) hη hm1
  have hr:QT B { Γ with R:=R1 } ⟨κ',ν',x,.iter,none⟩ blk:=by
   refine ⟨hmr.base,.inr ⟨rfl,?_⟩,?_⟩
   ·obtain ⟨h1,h2⟩:=hmr.iter rfl
    refine ⟨h1,h2.imp (fun ⟨a,b,_⟩=>⟨a,b,rfl⟩) fun ⟨bm,zaj,es,cl,h3,h4,h5,h6,h7,_⟩=>⟨bm,zaj,es,cl,h3,h4,h5,h6,h7,fun p hp=>by cases hp⟩⟩
   ·rcases hmr.fix with ⟨h,_⟩|⟨_,h⟩
    ·cases h
    ·exact .inr ⟨fun e=>(by cases e),h⟩
  obtain ⟨Γk',b',E,h'⟩:=b.map M1 (id:=id) hη hr ho
  refine ⟨Γk',b'.weak (fun _ h=>h) (by omega),E,?_⟩
  simp only [zf]
  exact ⟨blk,h',rfl⟩
 ·cases hd
omit M M1 L in
theorem zr7 {Γ':Gh}:∀{l:List Nat} {cs:List AV} {us:List Value},zp8 l cs=true→zq Γ cs us→zq Γ' (l.map fun f=>.fn f [] []) us
 |[],[],us,_,h=>by simpa only [zq,List.map_nil] using h
 |f::l,c::cs,us,hc,h=>by
  unfold zp8 at hc
  split at hc
  ·rename_i e1 e2
   cases e1
  ·rename_i f' r g q e1 e2
   injection e1 with e1 e1'
   injection e2 with e2 e2'
   subst e1
   subst e1'
   subst e2
   subst e2'
   simp only [Bool.and_eq_true] at hc
   have:=Nat.eq_of_beq_eq_true hc.1
   subst this
   simp only [zq] at h
   obtain ⟨u,us',rfl,hu,h⟩:=h
   simp only [List.map_cons,zq]
   refine ⟨u,us',rfl,?_,zr7 hc.2 h⟩
   simp only [zf,zq] at hu ⊢
   exact hu
  ·cases hc
 |[],_::_,us,hc,_=>by simp [zp8] at hc
 |_::_,[],us,hc,_=>by simp [zp8] at hc
theorem zss {h:Sh} {v:AV} {u:Value} {x:h.T} {base:Nat} {Γk:Gh} {mk:Mem} {own:List Nat} (hd:h.dec m v=some x) (hu:zf Γ v u) (b:Bld B w0 { Γ with R:=R1 } (m.fix fx) own base Γk mk)
  (hn:zdE (h.own m v)=true) (ho:∀i∈h.own m v,i∉own∧i∉fx) (hf:∀i∈h.fix m v,i∈fx) (hp:zld.noPtrD h v=true) :
  ∃Γk',Bld B w0 { Γ with R:=R1 } (m.fix fx) (h.own m v++own) (base+64) Γk' (h.mem base x mk)∧Ext B Γk Γk'∧zf Γk' (h.av base x) u:=by
 cases h with
 |d κ =>
  replace hd:zbb κ (QY m v)=some x:=hd
  have hpp:K2 v=[]:=zkw (by have hp':(!(zhS v))=true:=hp;simpa using hp')
  have h1:=zcl M (L.mono hf (by rw [hpp];simp)) hu
  refine ⟨Γk,b.weak (fun j hj=>List.mem_append_right _ hj) (by omega),Ext.refl B Γk,?_⟩
  have h2:=zev hd h1
  have h3:=zcV hd h1
  show zf Γk (κ.av x) u
  cases κ with
  |pair a c =>
   simp only [Kd.av,zf] at h3 ⊢
   obtain ⟨vs,rfl,_⟩:=h3
   have h4:qd Γk.w Γk.R (.pair a c) x vs:=by
    rw [b.w,b.R]
    simpa [Value.cells] using h2
   exact ⟨vs,rfl,h4.cells⟩
  |sl e =>
   simp only [Kd.av,zf] at h3 ⊢
   rw [b.w,b.R]
   exact h3
  |mp k v =>
   simp only [Kd.av,zf] at h3 ⊢
   rw [b.w,b.R]
   exact h3
  |_=>simpa only [Kd.av,zf] using h3
 |kp κ =>
  cases v
  case kptr cs=>exact zw4 L hd hu b
  all_goals exact absurd (show (none:Option κ.T)=some x from hd) (by simp)
 |row e t =>
  replace hd:rowDec m e t v=some x:=hd
  obtain ⟨Γk',b',E,hv⟩:=b.rowDec M1 (c:=v) (m:=m) (Γ:=Γ) (fun i hi=>zoa (ho i hi).2) rfl hd hu (fun i hi=>(ho i hi).1)
  exact ⟨Γk',b'.weak (fun _ h=>h) (by omega),E,hv⟩
 |box l =>
  cases v
  case ptr id off =>
   cases off with
   |succ n=>exact absurd (show (none:Option (jM (l.map SC.T)))=some x from hd) (by simp)
   |zero=>exact zv6 M M1 L hd hu b hn ho hf hp
  all_goals exact absurd (show (none:Option (jM (l.map SC.T)))=some x from hd) (by simp)
 |fn f la lb =>
  cases v
  case fn g a c=>exact zyi L hd hu b
  all_goals exact absurd (show (none:Option (jM (la.map SP.T)×jM (lb.map SP.T)))=some x from hd) (by simp)
 |mp κ ν =>
  replace hd:zjg m κ ν v=some x:=hd
  obtain ⟨Γk',b',E,hv⟩:=zgV M1 hd hu b (fun i hi=>(ho i hi).1)
  exact ⟨Γk',b'.weak (fun _ h=>h) (by omega),E,hv⟩
 |it κ ν =>
  cases v
  case it id k v=>exact zxo M1 hd hu b (ho id (by simp [Sh.own])).1
  all_goals exact absurd (show (none:Option (List (κ.T×ν.T)))=some x from hd) (by simp)
 |mpf κ ν =>
  refine ⟨Γk,b.weak (fun j hj=>List.mem_append_right _ hj) (by omega),Ext.refl B Γk,?_⟩
  show zf Γk (.fmp κ ν x) u
  cases v
  case mp id k v =>
   replace hd:(match m.map id with
    |some ⟨κ',ν',es,.froz,_⟩=>zgp κ' ν' κ ν es
    |_=>none:Option (List (κ.T×ν.T)))=some x:=hd
   split at hd
   ·rename_i κ' ν' es cur hm
    obtain ⟨rfl,rfl,rfl⟩:=zaU hd
    simp only [zf] at hu
    obtain ⟨blk,hη,rfl⟩:=hu
    have hr:=M.mapAt hη hm
    have hb:Γ.R blk:=by
     rcases hr.fix with ⟨_,h⟩|⟨h,_⟩
     ·exact h
     ·exact absurd rfl h
    have:=AM.zsd hr (fun e=>by cases e) (L.R _ hb)
    simp only [zf]
    rw [b.w,b.R]
    exact this
   ·cases hd
  case fmp k v es =>
   replace hd:zgp k v κ ν es=some x:=hd
   obtain ⟨rfl,rfl,rfl⟩:=zaU hd
   simp only [zf] at hu ⊢
   rw [b.w,b.R]
   exact hu.mono (fun _ _=>rfl) L.R
  all_goals exact absurd (show (none:Option (List (κ.T×ν.T)))=some x from hd) (by simp)
 |con l =>
  cases v
  case agg cs =>
   replace hd:cond (zp8 l cs) (some ()) none=some x:=hd
   obtain ⟨hc,_⟩:=zm hd
   refine ⟨Γk,b.weak (fun j hj=>List.mem_append_right _ hj) (by omega),Ext.refl B Γk,?_⟩
   show zf Γk (.agg (l.map fun f=>.fn f [] [])) u
   simp only [zf] at hu ⊢
   obtain ⟨vs,rfl,hvs⟩:=hu
   exact ⟨vs,rfl,zr7 hc hvs⟩
  all_goals exact absurd (show (none:Option Unit)=some x from hd) (by simp)
theorem zpp:∀(c:Cut) {s s':St} {x:c.T} {base:Nat} {Γk:Gh} {own:List Nat} {tv:Nat→Value},s.m=m→zog s c=some x→(∀i,zf Γ (s.tm i) (tv i))→Bld B w0 { Γ with R:=R1 } (m.fix fx) own base Γk s'.m→(∀i,zf Γk (s'.tm i) (tv i)) →
  zdE (c.flatMap fun p=>p.2.own m (s.tm p.1))=true→(∀i∈(c.flatMap fun p=>p.2.own m (s.tm p.1)),i∉own∧i∉fx)→(∀i∈(c.flatMap fun p=>p.2.fix m (s.tm p.1)),i∈fx)→(c.all fun p=>zld.noPtrD p.2 (s.tm p.1))=true →
  ∃own' base' Γk',Bld B w0 { Γ with R:=R1 } (m.fix fx) own' base' Γk' (znh base c x s').m∧∀i,zf Γk' ((znh base c x s').tm i) (tv i)
 |[],s,s',x,base,Γk,own,tv,hm,h,ht,b,ht',hn,ho,hf,hp=>⟨own,base,Γk,b,ht'⟩
 |[(j,sh)],s,s',x,base,Γk,own,tv,hm,h,ht,b,ht',hn,ho,hf,hp=>by
  replace h:sh.dec s.m (s.tm j)=some x:=h
  rw [hm] at h
  simp only [List.flatMap_cons,List.flatMap_nil,List.append_nil,List.all_cons,List.all_nil,Bool.and_true] at hn ho hf hp
  obtain ⟨Γk',b',E,hv⟩:=zss M M1 L h (ht j) b hn ho hf hp
  refine ⟨_,_,Γk',b',fun i=>?_⟩
  show zf Γk' (upd s'.tm j (sh.av base x) i) (tv i)
  rw [zgF]
  split
  ·rename_i e;subst e;exact hv
  ·exact (ht' i).ext E
 |(j,sh)::q::r,s,s',x,base,Γk,own,tv,hm,h,ht,b,ht',hn,ho,hf,hp=>by
  replace h:(match sh.dec s.m (s.tm j),zog s (q::r) with
   |some x,some y=>some (x,y)
   |_,_=>none:Option (sh.T×Cut.T (q::r)))=some x:=h
  split at h
  ·rename_i y z hy hz
   injection h with h
   subst h
   rw [hm] at hy
   rw [List.flatMap_cons] at hn ho hf
   rw [List.all_cons,Bool.and_eq_true] at hp
   obtain ⟨hn1,hn2,hn3⟩:=zcG hn
   obtain ⟨Γ1,b1,E1,hv1⟩:=zss M M1 L hy (ht j) b hn1 (fun i hi=>ho i (List.mem_append_left _ hi)) (fun i hi=>hf i (List.mem_append_left _ hi)) hp.1
   exact zpp (q::r) (s:=s) (s':=⟨upd s'.tm j (sh.av base y),sh.mem base y s'.m⟩) (x:=z) hm hz ht b1 (fun i=>by
    show zf Γ1 (upd s'.tm j (sh.av base y) i) (tv i)
    rw [zgF]
    split
    ·rename_i e;subst e;exact hv1
    ·exact (ht' i).ext E1) hn2 (fun i hi=>⟨fun h=>by
     rcases List.mem_append.1 h with h|h
     ·exact hn3 i h hi
     ·exact (ho i (List.mem_append_right _ hi)).1 h,(ho i (List.mem_append_right _ hi)).2⟩) (fun i hi=>hf i (List.mem_append_right _ hi)) hp.2
  ·cases h
end
structure zjm (Γ0:Gh):Prop where
 μ:∀i,Γ0.μ i=none
 ν:∀i,Γ0.ν i=none
 η:∀i,Γ0.η i=none
theorem zn3 {B:Nat} {w0:World} {Γ0:Gh} {n:Nat} (h0:zjm Γ0) {ρ:Type} {c:Cut} {s:St} {a:Act} {w:World} {k:c.T→Option ρ} {r:ρ} (h:ztt c s k=some r) (I:Inv B w0 Γ0 n s a w):∃x,k x=some r∧Inv B w0 Γ0 n (zvF c x) a w:=by
 unfold ztt at h
 obtain ⟨hok,h2⟩:=zm h
 clear h
 split at h2
 ·rename_i x hx
  refine ⟨x,h2,?_⟩
  obtain ⟨⟨Γ,rfl,E0,M,hr⟩,hd,hs⟩:=I
  unfold zld at hok
  simp only [Bool.and_eq_true] at hok
  obtain ⟨⟨⟨hn,hfo⟩,hp⟩,_⟩:=hok
  obtain ⟨R1,M1,E1,hR⟩:=M.fixL (c.flatMap fun p=>p.2.fix s.m (s.tm p.1))
  have L:JU Γ { Γ with R:=R1 } s.m (c.flatMap fun p=>p.2.fix s.m (s.tm p.1)) [] :=
   ⟨rfl,fun b hb=>(hR b).2 (.inl hb),fun b hb=>(hR b).2 (.inr hb),fun i hi=>by cases hi⟩
  have b0:Bld B w0 { Γ with R:=R1 } (s.m.fix (c.flatMap fun p=>p.2.fix s.m (s.tm p.1))) [] 0 ⟨Γ.w,R1,fun _=>none,fun _=>none,fun _=>none⟩ { Mem.clear with ep:=c.length+1 }:=by
   refine ⟨⟨M1.below,M1.base,M1.rlt,fun i b h=>(by cases h),fun i b h=>(by cases h),fun i j b h=>(by cases h),fun i j u v g h=>(by cases h),fun i j u g h=>(by cases h),fun i b h=>(by cases h),fun i j b h=>(by cases h)⟩,rfl,rfl,fun i b h=>(by cases h),fun i b h=>(by cases h),fun i b h=>(by cases h),fun i _=>rfl⟩
  obtain ⟨own',base',Γk',b',ht⟩:=zpp M M1 L c (s:=s) (s':=⟨fun _=>.dead,{ Mem.clear with ep:=c.length+1 }⟩) (tv:=fun i=>a.tmps.getD i undef) rfl hx hr b0 (fun i=>by simp only [zf]) hn
   (fun i hi=>⟨by simp,fun hif=>by
    have:=List.all_eq_true.1 (List.all_eq_true.1 hfo i hif) i hi
    rw [Nat.beq_refl] at this
    cases this⟩) (fun i hi=>hi) hp
  have E01:=E0.trans E1
  refine ⟨⟨Γk',b'.w,⟨fun b hb=>?_,fun b hb=>?_,fun i b hi=>?_,fun i b hi=>?_,fun i b hi=>?_,fun b hb=>?_,by rw [b'.w];exact E01.drn⟩,b'.rel,ht⟩,hd,hs⟩
  ·rw [b'.R];exact E01.R b hb
  ·rw [b'.w];exact E01.heap b hb
  ·rw [h0.μ] at hi;cases hi
  ·rw [h0.ν] at hi;cases hi
  ·rw [h0.η] at hi;cases hi
  ·rw [b'.R] at hb;exact E01.new b hb
 ·cases h2
end Go.Proofs.YtpkkcjmblocjdaaGreat.AM
end
section
namespace Go.Proofs.YtpkkcjmblocjdaaGreat.AM
open Go.RowKit
structure KOk (B:Nat) (w0:World) (Γ0:Gh) (n:Nat) {ρ:Type} (K:KS ρ) (r:ρ) (Q:Exit→Act→World→Prop):Prop where
 norm:∀s a w,K.norm s=some r→Inv B w0 Γ0 n s a w→Q .normal a w
 ex:∀id s a w,K.ex id s=some r→Inv B w0 Γ0 n s a w→Q (.exit id) a w
 ret:∀s a w,K.ret s=some r→Inv B w0 Γ0 n s a w→Q .ret a w
section
variable {P:Program} {tb:Tb} (HT:Yz P tb) {cl:∀ρ,Jz ρ} (hcl:zdL cl) (hcc:zmY cl) (hok:zkF P cl) (hmix:P.follows .mixedOrders=true) {B:Nat} {w0:World} {Γ0:Gh} {n:Nat} {ρ:Type} {N:Nat}
theorem zmk {j:Option Cut} (h0:zjm Γ0∨j=none) {K:KS ρ} {f:KS ρ→Option ρ} {r:ρ} {Q:Exit→Act→World→Prop} (h:jn j K f=some r) (hK:KOk B w0 Γ0 n K r Q):∃K',f K'=some r∧KOk B w0 Γ0 n K' r Q:=by
 cases j with
 |none=>exact ⟨K,h,hK⟩
 |some c =>
  have h0:zjm Γ0:=h0.resolve_right (fun e=>by cases e)
  refine ⟨_,h,⟨fun s a w hs I=>?_,hK.ex,hK.ret⟩⟩
  obtain ⟨x,hx,I'⟩:=zn3 h0 hs I
  exact hK.norm _ a w hx I'
theorem zmQ {s:St} {x:Operand} {b:Bool} (h:s.ev x=.bool b):s.litO x b=s:=by
 cases x with
 |tmp d=>exact zpq h
 |_=>rfl
theorem zyj {α:Type} {b:Bool} {x y:Option α} {r:α} (h:br b x y=some r):(if b then x else y)=some r:=by cases b<;>exact h
theorem zoD {α ρ:Type} {es:List α} {k0:Option ρ} {k1:α→List α→Option ρ} {y:ρ} (h:nxt es k0 k1=some y):(es=[]∧k0=some y)∨(∀(j:Nat) (e:α),es[j]?=some e→k1 e (es.eraseIdx j)=some y):=by
 cases es with
 |nil=>exact .inl ⟨rfl,h⟩
 |cons e r =>
  refine .inr ?_
  unfold nxt at h
  simp only at h
  split at h
  ·rename_i hc
   injection h with h
   rw [←h]
   exact hc.choose_spec
  ·cases h
theorem zu2 {l:List Oper} {dr:Bool} {t a b:Nat} (h:zhZ l dr=some (t,a,b)):dr=false∧∃o1 o2,l=[o1,o2]∧o1.dst=some a∧o1.op=.next (.tmp t) false∧o1.guard=none∧o2.dst=some b∧o2.op=.extract (.tmp a) 0∧o2.guard=none:=by
 unfold zhZ at h
 split at h
 ·rename_i a0 t0 _ _ _ b0 a' _ _ _
  obtain ⟨hc,h⟩:=zm h
  simp only [Option.some.injEq,Prod.mk.injEq] at h
  obtain ⟨rfl,rfl,rfl⟩:=h
  simp only [Bool.and_eq_true] at hc
  have:=Nat.eq_of_beq_eq_true hc.1.1.1
  subst this
  exact ⟨rfl,_,_,rfl,rfl,rfl,rfl,rfl,rfl,rfl⟩
 ·cases h
include HT hok in
theorem zwX {id:Nat} {ops:Array Oper} {dr:Bool} {t a b:Nat} (hnb:zhZ ops.toList dr=some (t,a,b)) (hds:∀(i:Nat) (o:Oper),ops[i]?=some o→zb9 n o=true) {s:St} {k:St→Option ρ} {r:ρ} (h:zoH t a b s k=some r) {Q:Exit→Act→World→Prop} {ac:Act} {w:World} (I:Inv B w0 Γ0 n s ac w)
  (hQ:∀s' a' w',k s'=some r→Inv B w0 Γ0 n s' a' w'→Q .normal a' w'):(Code.region id ops dr).wp P Q ac w:=by
 obtain ⟨rfl,o1,o2,hl,h1,h2,h3,h4,h5,h6⟩:=zu2 hnb
 have e0:ops[0]?=some o1:=by rw [←Array.getElem?_toList,hl];rfl
 have e1:ops[1]?=some o2:=by rw [←Array.getElem?_toList,hl];rfl
 have hsz:ops.size=2:=by rw [←Array.length_toList,hl];rfl
 refine wp_region ?_
 rw [hsz,show List.range 2=[0,1] from rfl,wpOps_cons]
 have second:∀(c:Bool) (vs:List AV) (m':Mem) (a':Act) (w':World),Inv B w0 Γ0 n (s.put (some a) (.tup (.bool c::vs)) m') a' w'→k ⟨upd (upd s.tm a (.tup (.bool c::vs))) b (.bool c),m'⟩=some r→wpOps P ops Q [1] a' w':=by
  intro c vs m' a' w' I' hk
  rw [wpOps_cons]
  have hst:Kx cl tb ops o2 (s.put (some a) (.tup (.bool c::vs)) m')=some ⟨upd (upd s.tm a (.tup (.bool c::vs))) b (.bool c),m'⟩:=by
   unfold Kx
   rw [h6]
   simp only
   have:opD cl tb o2 (s.put (some a) (.tup (.bool c::vs)) m').ev (s.put (some a) (.tup (.bool c::vs)) m').m=some (.bool c,m'):=by
    unfold opD opK
    rw [h5]
    simp only [St.put,St.ev,zU]
    rfl
   rw [this,h4]
   rfl
  exact znq HT hok e1 (hds 1 o2 e1) hst I' fun a2 w2 I2=>hQ _ a2 w2 hk I2
 obtain ⟨⟨Γ,rfl,E0,M,hr⟩,hdf,hsz'⟩:=I
 have hd1:=hds 0 o1 e0
 unfold wpOp
 simp only [e0]
 rw [show Region.wanted o1 (yielded ops ac.tmps)=true from by simp [Region.wanted,h3]]
 simp only [if_true]
 refine .inl ?_
 unfold zoH at h
 split at h
 ·rename_i id' k' v' hit
  split at h
  ·rename_i κ ν es cur hm
   have hx:=hr t
   rw [hit] at hx
   have hev:ac.eval (.tmp t)=ac.tmps.getD t undef:=rfl
   generalize ac.tmps.getD t undef=vx at hx hev
   rcases zwU (P:=P) M hm hx o1.type with ⟨hes,hrun⟩|⟨j,p,Γ',u1,u2,hj,E,M',hv1,hv2,hrun⟩
   ·rcases zoD h with ⟨_,hk⟩|hk
    ·refine jL (u:=.tuple #[.bool false]) (w':=Γ.w) ?_ ?_
     ·simp only [execOp,h2]
      rw [hev]
      simp [hrun,Result.andThen]
     ·refine second false [] s.m _ _ ⟨⟨Γ,rfl,E0,M,?_⟩,by rw [XM];exact hdf,by rw [zcj];exact hsz'⟩ hk
      rw [h1]
      have:=zg0 (o:=o1) hr (by rw [hsz'];exact hd1) (v:=.tup [.bool false]) (u:=.tuple #[.bool false]) (by simp only [zf,zq];exact ⟨[.bool false],rfl,.bool false,[],rfl,rfl,rfl⟩) s.m
      rw [h1] at this
      exact this
    ·subst hes
     rw [nxt] at h
     refine jL (u:=.tuple #[.bool false]) (w':=Γ.w) ?_ ?_
     ·simp only [execOp,h2]
      rw [hev]
      simp [hrun,Result.andThen]
     ·refine second false [] s.m _ _ ⟨⟨Γ,rfl,E0,M,?_⟩,by rw [XM];exact hdf,by rw [zcj];exact hsz'⟩ h
      have:=zg0 (o:=o1) hr (by rw [hsz'];exact hd1) (v:=.tup [.bool false]) (u:=.tuple #[.bool false]) (by simp only [zf,zq];exact ⟨[.bool false],rfl,.bool false,[],rfl,rfl,rfl⟩) s.m
      rw [h1] at this ⊢
      exact this
   ·rcases zoD h with ⟨hes,_⟩|hk
    ·rw [hes] at hj
     simp at hj
    ·refine jL (u:=.tuple #[.bool true,u1,u2]) (w':=Γ'.w) ?_ ?_
     ·simp only [execOp,h2]
      rw [hev]
      simp [hrun,Result.andThen]
     ·refine second true [κ.av p.1,ν.av p.2] _ _ _ ⟨⟨Γ',rfl,E0.trans E,M',?_⟩,by rw [XM];exact hdf,by rw [zcj];exact hsz'⟩ (hk j p hj)
      have:=zg0 (o:=o1) (fun i=>(hr i).ext E) (by rw [hsz'];exact hd1) (v:=.tup [.bool true,κ.av p.1,ν.av p.2]) (u:=.tuple #[.bool true,u1,u2]) (by simp only [zf,zq];exact ⟨[.bool true,u1,u2],rfl,.bool true,[u1,u2],rfl,rfl,u1,[u2],rfl,hv1,u2,[],rfl,hv2,rfl⟩) { s.m with map:=upd s.m.map id' (some ⟨κ,ν,es.eraseIdx j,.iter,some p⟩) }
      rw [h1] at this ⊢
      exact this
  ·cases h
 ·cases h
theorem zid {an:Ann} (h:zjm Γ0∨an=.leaf):zjm Γ0∨an.j=none:=h.imp_right fun e=>by rw [e];rfl
theorem zj4 {an:Ann} (h:zjm Γ0∨an=.leaf):zjm Γ0∨an.l=.leaf:=h.imp_right fun e=>by rw [e];rfl
theorem zvE {an:Ann} (h:zjm Γ0∨an=.leaf):zjm Γ0∨an.r=.leaf:=h.imp_right fun e=>by rw [e];rfl
include HT hcl hcc hok hmix
theorem zlf:∀(c:Code) (an:Ann) (h0:zjm Γ0∨an=.leaf) {s:St} {K:KS ρ} {r:ρ} {Q:Exit→Act→World→Prop} {a:Act} {w:World},zem tb n c an=true→Zm (cl ρ) tb N c an s K=some r→Inv B w0 Γ0 n s a w→KOk B w0 Γ0 n K r Q→c.wp P Q a w:=by
 intro c
 induction c with
 |skip =>
  intro an h0 s K r Q a w hb h I hK
  unfold Zm at h
  obtain ⟨K',h,hK'⟩:=zmk (zid h0) h hK
  exact wp_skip (hK'.norm s a w h I)
 |region id ops dr =>
  intro an h0 s K r Q a w hb h I hK
  unfold Zm at h
  obtain ⟨K',h,hK'⟩:=zmk (zid h0) h hK
  simp only [zem,Bool.and_eq_true] at hb
  have hds:∀(i:Nat) (o:Oper),ops[i]?=some o→zb9 n o=true:=fun i o ho=>zoS hb.1 o (by simpa using Array.mem_of_getElem? ho)
  cases hnb:zhZ ops.toList dr with
  |some tab =>
   obtain ⟨t,a',b'⟩:=tab
   rw [hnb] at h
   exact zwX HT hok hnb hds h I.tick fun s' a' w' hs' I'=>hK'.norm s' a' w' hs' I'
  |none =>
  rw [hnb] at h
  simp only at h
  rw [zoi hcl] at h
  cases hr:zoP cl tb ops ops.toList s.tick with
  |none=>rw [hr] at h;cases h
  |some sf =>
   rw [hr] at h
   have h':zeq ops.toList sf.ev an.ps=true∧K'.norm sf=some r:=by
    replace h:dyK ops an.ps K'.norm sf=some r:=h
    revert h
    generalize an.ps=ps
    intro h
    cases ps with
    |nil=>exact ⟨rfl,h⟩
    |cons p ps =>
     obtain ⟨h1,h2⟩:=zm (show cond (zeq ops.toList sf.ev (p::ps)) (K'.norm sf) none=some r from h)
     exact ⟨h1,h2⟩
   exact ztl HT hcl hcc hok hmix hds (fun hdr=>zyz (by have:=hb.2;rw [hdr] at this;exact this) h'.1) hr I.tick fun a' w' I'=>hK'.norm sf a' w' h'.2 I'
 |seq x y ihx ihy =>
  intro an h0 s K r Q a w hb h I hK
  unfold Zm at h
  obtain ⟨K',h,hK'⟩:=zmk (zid h0) h hK
  simp only [zem,Bool.and_eq_true] at hb
  refine wp_seq (ihx an.l (zj4 h0) hb.1 h I ⟨fun s' a' w' hs I'=>ihy an.r (zvE h0) hb.2 hs I' hK',fun id s' a' w' hs I'=>hK'.ex id s' a' w' hs I',fun s' a' w' hs I'=>hK'.ret s' a' w' hs I'⟩)
 |cond c x y ihx ihy =>
  intro an h0 s K r Q a w hb h I hK
  unfold Zm at h
  obtain ⟨K',h,hK'⟩:=zmk (zid h0) h hK
  simp only [zem,Bool.and_eq_true] at hb
  split at h
  ·rename_i t ht
   obtain ⟨⟨Γ,rfl,_,_,hr⟩,_⟩:=id I
   have hev:=zuU hr c
   rw [ht] at hev
   simp only [zf] at hev
   have h:=zyj h
   cases t with
   |true => 
    rw [zmQ ht] at h
    exact wp_cond_true hev (ihx an.l (zj4 h0) hb.1 h I hK')
   |false =>
    simp only [Bool.false_eq_true,if_false] at h
    rw [zmQ ht] at h
    exact wp_cond_false hev (ihy an.r (zvE h0) hb.2 h I hK')
  ·cases h
 |block id c ih =>
  intro an h0 s K r Q a w hb h I hK
  unfold Zm at h
  obtain ⟨K',h,hK'⟩:=zmk (zid h0) h hK
  refine wp_block (ih an.l (zj4 h0) hb h I ⟨fun s' a' w' hs I'=>hK'.norm s' a' w' hs I',fun j s' a' w' hs I'=>?_,fun s' a' w' hs I'=>hK'.ret s' a' w' hs I'⟩)
  show if j=id then Q .normal a' w' else Q (.exit j) a' w'
  replace hs:cond (Nat.beq j id) (K'.norm s') (K'.ex j s')=some r:=hs
  cases hj:Nat.beq j id with
  |true =>
   rw [hj] at hs
   rw [if_pos (Nat.eq_of_beq_eq_true hj)]
   exact hK'.norm s' a' w' hs I'
  |false =>
   rw [hj] at hs
   rw [if_neg (fun e=>by rw [e,Nat.beq_refl] at hj;cases hj)]
   exact hK'.ex j s' a' w' hs I'
 |loop c ih =>
  intro an h0 s K r Q a w hb h I hK
  unfold Zm at h
  obtain ⟨K',h,hK'⟩:=zmk (zid h0) h hK
  split at h
  ·rename_i ct hlp
   have h1:zjm Γ0:=h0.resolve_right (fun e=>by rw [e] at hlp;cases hlp)
   obtain ⟨x,hx,I'⟩:=zn3 h1 h I
   have key:∀(q:Nat) (x:ct.T) (a:Act) (w:World),zw (fun x next=>Zm (cl ρ) tb N c an.l (zvF ct x) { K' with norm:=fun s'=>ztt ct s' next }) q x=some r→Inv B w0 Γ0 n (zvF ct x) a w→Code.rounds P c Q q a w:=by
    intro q
    induction q with
    |zero=>intro x a w h _;cases h
    |succ q ihq =>
     intro x a w h I
     refine ih an.l (zj4 h0) hb h I ⟨fun s' a' w' hs I'=>?_,hK'.ex,hK'.ret⟩
     obtain ⟨y,hy,I''⟩:=zn3 h1 hs I'
     exact ihq y a' w' hy I''
   exact wp_loop_rounds N (key N x a w hx I')
  ·have key:∀(q:Nat) (s:St) (a:Act) (w:World),zw (fun s next=>Zm (cl ρ) tb N c an.l s { K' with norm:=next }) q s=some r→Inv B w0 Γ0 n s a w→Code.rounds P c Q q a w:=by
    intro q
    induction q with
    |zero=>intro x a w h _;cases h
    |succ q ihq =>
     intro x a w h I
     exact ih an.l (zj4 h0) hb h I ⟨fun s' a' w' hs I'=>ihq s' a' w' hs I',hK'.ex,hK'.ret⟩
   exact wp_loop_rounds 32 (key 32 s a w h I)
 |exit id =>
  intro an h0 s K r Q a w hb h I hK
  unfold Zm at h
  exact wp_exit (hK.ex id s a w h I)
 |ret =>
  intro an h0 s K r Q a w hb h I hK
  unfold Zm at h
  exact wp_ret (hK.ret s a w h I)
 |rangeFunc=>intro an h0 s K r Q a w hb h;unfold Zm at h;cases h
 |scope=>intro an h0 s K r Q a w hb h;unfold Zm at h;cases h
 |label=>intro an h0 s K r Q a w hb h;unfold Zm at h;cases h
 |goto=>intro an h0 s K r Q a w hb h;unfold Zm at h;cases h
 |refuse=>intro an h0 s K r Q a w hb h;unfold Zm at h;cases h
end
end Go.Proofs.YtpkkcjmblocjdaaGreat.AM
end
