/- The abstract machine, 16: stores. -/
import Derived.Test.YtpkkcjmblocjdaaGreatX
import Derived.WideKeyRuns
import Derived.MapKept
import Derived.Maps.RangeRun
import Derived.Orders
set_option linter.unusedVariables false
set_option linter.unusedSimpArgs false
set_option linter.unusedSectionVars false
section
namespace Go.Proofs.YtpkkcjmblocjdaaGreat.AM
open Go.RowKit
theorem zmi:∀(l:List Nat) (m:Mem) {id:Nat},(l.all fun j=>!(Nat.beq j id))=true→(m.fix l).row id=m.row id
 |[],m,id,_=>rfl
 |j::l,m,id,h=>by
  simp only [List.all_cons,Bool.and_eq_true,Bool.not_eq_true'] at h
  have hne:id≠j:=fun e=>by rw [e,Nat.beq_refl] at h;exact absurd h.1 (by simp)
  simp only [Mem.fix]
  rw [zmi l _ h.2]
  split
  ·exact zC _ _ hne
  ·rfl
theorem zhy {P:Program} {w:World} {t:TypeId} {fi:TypeInfo} (hfi:P.info? t=some fi) {g off:Nat} {ty:TypeId} {cur:Array Value} (hg:w.heap[g]?=some (.cells cur ty (0,0))) {v:Value} (hs:v.cells.size=fi.size) (hle:off+v.cells.size≤cur.size) (h1:∀u∈v.cells.toList,u.oneCell'=true) :
  (Instr.storeAt t (.pointer (some ⟨g,off,none⟩)) v).run P w=.ok () (w.setRow g (cur.toList.take off++v.cells.toList++cur.toList.drop (off+v.cells.size)).toArray):=by
 have hst:=run_storeCells_at P g off ty v.cells.toList 0 cur w hg (by simpa using hle) h1
 simp only [Nat.add_zero,Array.length_toList] at hst
 simp only [Instr.storeAt,Instr.sureAddr,storeVar,Sem.run_bind,Sem.run_pure,Result.andThen_ok,js hfi,hs,ne_eq,not_true_eq_false,if_false]
 simpa [hs] using hst
theorem zeO (w:World) (g:Nat) (cs:Array Value):w.grownBy (w.setRow g cs) (some g) :=
 ⟨rfl,rfl,rfl,by simp,fun k _ hk=>setRow_other w g k cs (fun e=>hk (by rw [e]))⟩
theorem zwA {α:Type} {cs us vs:List α} {s i off:Nat} (hus:us.length=s) (hle:i*s+s≤cs.length) (hu:∀(j:Nat) u,us[j]?=some u→cs[i*s+j]?=some u) (hoff:off+vs.length≤s) :
  cs.take (i*s+off)++vs++cs.drop (i*s+off+vs.length)=cs.take (i*s)++(us.take off++vs++us.drop (off+vs.length))++cs.drop (i*s+s):=by
 have he:us=(cs.drop (i*s)).take s:=by
  apply List.ext_getElem?
  intro j
  by_cases hj:j<s
  ·have h1:j<us.length:=by omega
   rw [List.getElem?_take,if_pos hj,List.getElem?_drop,List.getElem?_eq_getElem h1,hu j _ (List.getElem?_eq_getElem h1)]
  ·rw [List.getElem?_eq_none (by omega),List.getElem?_eq_none (by simp;omega)]
 subst he
 apply List.ext_getElem?
 intro k
 by_cases h1:k<i*s
 ·rw [List.append_assoc,List.getElem?_append_left (by simp;omega),List.append_assoc,List.getElem?_append_left (by simp;omega),List.getElem?_take,List.getElem?_take,if_pos (by omega),if_pos h1]
 ·by_cases h2:k<i*s+off
  ·rw [List.append_assoc,List.getElem?_append_left (by simp;omega),List.append_assoc,List.getElem?_append_right (by simp;omega),List.append_assoc,List.append_assoc,List.getElem?_append_left (by simp;omega)]
   simp only [List.getElem?_take,List.getElem?_drop,List.length_take]
   rw [if_pos h2,if_pos (by omega),if_pos (by omega)]
   congr 1
   omega
  ·by_cases h3:k<i*s+off+vs.length
   ·rw [List.append_assoc,List.getElem?_append_right (by simp;omega),List.getElem?_append_left (by simp;omega),List.append_assoc,List.getElem?_append_right (by simp;omega),List.append_assoc,List.append_assoc,List.getElem?_append_right (by simp;omega),List.getElem?_append_left (by simp;omega)]
    simp only [List.length_take,List.length_drop]
    congr 1
    omega
   ·by_cases h4:k<i*s+s
    ·rw [List.getElem?_append_right (by simp;omega),List.append_assoc,List.getElem?_append_right (by simp;omega),List.getElem?_append_left (by simp;omega),List.getElem?_append_right (by simp;omega)]
     simp only [List.getElem?_take,List.getElem?_drop,List.length_take,List.length_append,List.length_drop]
     rw [if_pos (by omega)]
     congr 1
     omega
    ·rw [List.getElem?_append_right (by simp;omega),List.getElem?_append_right (by simp;omega)]
     simp only [List.getElem?_drop,List.length_take,List.length_append,List.length_drop]
     congr 1
     omega
section
variable {P:Program} {B:Nat} {w0:World} {Γ:Gh} {m:Mem} (M:zt B w0 Γ m) {tb:Tb} (HT:Yz P tb)
include M HT
theorem zun {t:Nat} {a x r:AV} {va vx:Value} {m':Mem} (h:zdt tb m zM t a x=some (r,m')) (ha:zf Γ a va) (hx:zf Γ x vx) :
  r=.tup []∧∃Γ',Ext B Γ Γ'∧zt B w0 Γ' m'∧(Instr.storeAt t va vx).run P Γ.w=.ok () Γ'.w:=by
 unfold zdt at h
 split at h
 ·rename_i id off
  split at h
  ·rename_i cs hb
   split at h
   ·rename_i vs hvs
    obtain ⟨hn,h⟩:=zm h
    split at h
    ·rename_i cs' hput
     obtain ⟨rfl,rfl⟩:=zn h
     obtain ⟨hv1,hv2,_⟩:=zcT hvs hx
     simp only [Bool.and_eq_true] at hn
     have hn':=Nat.eq_of_beq_eq_true hn.1
     have hz:0<(tb.at t).size:=by have:=hn.2;simp only [Nat.blt,Nat.ble_eq] at this;omega
     have hlen:=hv1.len
     simp only [zf] at ha
     obtain ⟨blk,hμ,rfl⟩:=ha
     obtain ⟨us,ty,hcell,hl⟩:=(M.boxAt hμ hb).cells
     obtain ⟨hle,hr⟩:=zft hput hv1 hl
     ·obtain ⟨⟨fi,z,hfi,_,hfs,_⟩,_⟩:=Yu HT hz
      have hrun:=zhy (P:=P) (t:=t) hfi hcell (v:=vx) (off:=off) (by rw [hfs,←hn',←hlen,Array.length_toList]) (by simpa using hle) hv2
      obtain ⟨M',E'⟩:=M.setBox hμ hb rfl (zeO Γ.w blk _) (Nat.le_refl _) (setRow_heap Γ.w blk us (us.toList.take off++vx.cells.toList++us.toList.drop (off+vx.cells.size)).toArray ty (0,0) hcell) (cs:=cs') (by rw [List.toList_toArray];simpa using hr)
      exact ⟨rfl,_,E',M',hrun⟩
    ·cases h
   ·cases h
  ·cases h
 ·rename_i id e0 i off
  split at h
  ·rename_i e xs et hrow
   split at h
   ·rename_i vs hvs
    obtain ⟨hn,h⟩:=zm h
    split at h
    ·rename_i cs' hput
     split at h
     ·rename_i y hy
      obtain ⟨hc,h⟩:=zm h
      obtain ⟨rfl,rfl⟩:=zn h
      simp only [Bool.and_eq_true,Bool.not_eq_true'] at hc hn
      have hn':=Nat.eq_of_beq_eq_true hn.1.1
      have hsz:e0.size=e.size:=Nat.eq_of_beq_eq_true hn.1.2
      have hz:0<(tb.at t).size:=by have:=hn.2;simp only [Nat.blt,Nat.ble_eq] at this;omega
      obtain ⟨R',M1,E1,hR'⟩:=M.fixL (Zo m x)
      have L:JU Γ { Γ with R:=R' } m (Zo m x) (Z9 x):=⟨rfl,E1.R,fun b hb=>(hR' b).2 (.inr hb),fun i hi=>by rw [zmG hc.2] at hi;cases hi⟩
      have hxl:=zll M L hx
      obtain ⟨hv1,hv2,_⟩:=zcT hvs hxl
      have hlen:=hv1.len
      simp only [zf] at ha
      obtain ⟨g,n,c,hν,hi,rfl⟩:=ha
      have hrow1:(m.fix (Zo m x)).row id=some ⟨e,xs,et,.own⟩:=by rw [zmi _ _ hc.1];exact hrow
      have hd':(⟨e,xs,et,.own⟩:ZF).st≠.dead:=fun e=>by cases e
      have hrr:=M1.rowAt (Γ:={ Γ with R:=R' }) hν hrow1 hd'
      obtain ⟨cs,ho,hR0⟩:=hrr.own
      obtain ⟨A,c',he⟩:=zpH ho
      injection he with _ hnn _
      subst hnn
      dsimp only at ho hR0 hi
      obtain ⟨us,hus,hcs⟩:=hR0 _ _ (zp4 e.dflt xs i hi)
      obtain ⟨hle,hr⟩:=zft hput hv1 hus.cells
      obtain ⟨us1,ws,hue,hut,hwr⟩:=KL hy hr
      simp only [zq] at hwr
      subst hwr
      rw [List.append_nil] at hue
      have huslen:=hus.len
      have hcl:=ho.1
      have hile:i.toNat*e.size+e.size≤cs.length:=by
       rw [hcl,←Nat.succ_mul]
       exact Nat.mul_le_mul_right _ hi
      ·obtain ⟨⟨fi,z,hfi,_,hfs,_⟩,_⟩:=Yu HT hz
       rcases ho.2 with ⟨hh,_⟩|⟨g',cap,cur,hh,hb,hg,hnc,hcm,hcsz,htake⟩
       ·cases hh
       ·simp only [Value.slice.injEq,Option.some.injEq,Addr.mk.injEq,and_true,true_and] at hh
        obtain ⟨rfl,rfl⟩:=hh
        have hcurlen:List.length (α:=e.T) xs*e.size≤cur.size:=by rw [hcsz];exact Nat.mul_le_mul_right _ hnc
        have hvsz:(vx.cells.toList).length=vx.cells.size:=by simp
        have hrun:=zhy (P:=P) (t:=t) hfi hg (v:=vx) (off:=i.toNat*e.size+off) (by rw [hfs,←hn',←hlen,Array.length_toList]) (by omega) hv2
        have hput':=zwA (cs:=cs) (us:=us) (vs:=vx.cells.toList) (s:=e.size) (i:=i.toNat) (off:=off) huslen hile hcs (by omega)
        have hR1:=zoU hR0 hcl hut hi
        rw [←hue,←hput'] at hR1
        rw [hvsz] at hput' hR1
        have hle2:i.toNat*e.size+off+vx.cells.size≤List.length (α:=e.T) xs*e.size:=by omega
        have htk:(cur.toList.take (i.toNat*e.size+off)++vx.cells.toList++cur.toList.drop (i.toNat*e.size+off+vx.cells.size)).take (List.length (α:=e.T) xs*e.size)=cs.take (i.toNat*e.size+off)++vx.cells.toList++cs.drop (i.toNat*e.size+off+vx.cells.size):=by
         rw [←htake,List.take_append,List.take_append,List.take_take,List.take_take,List.take_drop]
         have h1:(cur.toList.take (i.toNat*e.size+off)).length=i.toNat*e.size+off:=by simp;omega
         rw [List.length_append,h1,hvsz,List.take_of_length_le (l:=vx.cells.toList) (by omega)]
         congr 1
         ·congr 2<;>omega
         ·congr 2
          omega
        obtain ⟨M2,E2⟩:=M1.setRow (Γ:={ Γ with R:=R' }) hν hrow1 rfl rfl (w':=Γ.w.setRow g (cur.toList.take (i.toNat*e.size+off)++vx.cells.toList++cur.toList.drop (i.toNat*e.size+off+vx.cells.size)).toArray) (zeO Γ.w g _) (Nat.le_refl _) (xs:=stL xs i y) ⟨_,⟨by rw [←htk,List.length_take];simp [stL];omega,.inr ⟨g,c,_,by simp [stL],hb,setRow_heap Γ.w g cur _ et (0,0) hg,by simpa [stL] using hnc,hcm,by rw [List.size_toArray,zla cur.toList vx.cells.toList _ _ hvsz (by simp;omega),Array.length_toList,hcsz],by rw [List.toList_toArray];simpa [stL] using htk⟩⟩,hR1⟩
        rw [hsz]
        exact ⟨rfl,_,E1.trans E2,M2,hrun⟩
     ·cases h
    ·cases h
   ·cases h
  ·cases h
 ·cases h
end
end Go.Proofs.YtpkkcjmblocjdaaGreat.AM
end
section
namespace Go.Proofs.YtpkkcjmblocjdaaGreat.AM
open Go.RowKit
theorem zqg:∀{ks qs:List Kd},lfB ks qs=true→ks=qs∧qs.all Kd.isOne=true
 |[],[],_=>⟨rfl,rfl⟩
 |.int j::r,.int k::q,h=>by
  simp only [lfB,Bool.and_eq_true] at h
  obtain ⟨h1,h2⟩:=zqg h.2
  refine ⟨by rw [zaY h.1,h1],?_⟩
  simp only [List.all_cons,h2,Kd.isOne,Bool.and_self]
 |.bool::r,.bool::q,h=>by
  simp only [lfB] at h
  obtain ⟨h1,h2⟩:=zqg h
  refine ⟨by rw [h1],?_⟩
  simp only [List.all_cons,h2,Kd.isOne,Bool.and_self]
 |[],.int _::_,h=>by simp [lfB] at h
 |[],.bool::_,h=>by simp [lfB] at h
 |[],.str::_,h=>by simp [lfB] at h
 |[],.pair _ _::_,h=>by simp [lfB] at h
 |[],.sl _::_,h=>by simp [lfB] at h
 |.int _::_,[],h=>by simp [lfB] at h
 |.bool::_,[],h=>by simp [lfB] at h
 |.str::_,_,h=>by simp [lfB] at h
 |.pair _ _::_,_,h=>by simp [lfB] at h
 |.sl _::_,_,h=>by simp [lfB] at h
 |.int _::_,.bool::_,h=>by simp [lfB] at h
 |.int _::_,.str::_,h=>by simp [lfB] at h
 |.int _::_,.pair _ _::_,h=>by simp [lfB] at h
 |.int _::_,.sl _::_,h=>by simp [lfB] at h
 |.bool::_,.int _::_,h=>by simp [lfB] at h
 |.bool::_,.str::_,h=>by simp [lfB] at h
 |.bool::_,.pair _ _::_,h=>by simp [lfB] at h
 |.bool::_,.sl _::_,h=>by simp [lfB] at h
theorem zi0 {w:World} {R:Nat→Prop}:∀{κ:Kd} {x:κ.T} {vs:List Value},κ.lfs.all Kd.isOne=true→qd w R κ x vs→vs=κ.vs x
 |.int k,x,vs,_,h=>by simpa only [qd,Kd.vs] using h
 |.bool,x,vs,_,h=>by simpa only [qd,Kd.vs] using h
 |.str,x,vs,_,h=>by simpa only [qd,Kd.vs] using h
 |.pair a b,x,vs,hl,h=>by
  simp only [Kd.lfs,List.all_append,Bool.and_eq_true] at hl
  simp only [qd] at h
  obtain ⟨v1,v2,rfl,h1,h2⟩:=h
  simp only [Kd.vs,zi0 hl.1 h1,zi0 hl.2 h2]
 |.sl e,x,vs,hl,h=>by simp [Kd.lfs,Kd.isOne] at hl
 |.mp k v,x,vs,hl,h=>by simp [Kd.lfs,Kd.isOne] at hl
theorem zia {w:World} {R:Nat→Prop}:∀{κ:Kd} {x:κ.T},κ.lfs.all Kd.isOne=true→qd w R κ x (κ.vs x)
 |.int k,x,_=>by simp only [qd,Kd.vs]
 |.bool,x,_=>by simp only [qd,Kd.vs]
 |.str,x,_=>by simp only [qd,Kd.vs]
 |.pair a b,x,hl=>by
  simp only [Kd.lfs,List.all_append,Bool.and_eq_true] at hl
  simp only [qd,Kd.vs]
  exact ⟨_,_,rfl,zia hl.1,zia hl.2⟩
 |.sl e,x,hl=>by simp [Kd.lfs,Kd.isOne] at hl
 |.mp k v,x,hl=>by simp [Kd.lfs,Kd.isOne] at hl
theorem zi1:∀{ks qs:List Kd} {us vs:List Value},qz ks us=true→qz qs vs=true→qz (ks++qs) (us++vs)=true
 |[],qs,[],vs,_,h=>h
 |k::ks,qs,u::us,vs,h,h'=>by
  simp only [qz,Bool.and_eq_true] at h
  simp only [List.cons_append,qz,h.1,zi1 h.2 h',Bool.and_self]
 |[],_,_::_,_,h,_=>by simp [qz] at h
 |_::_,_,[],_,h,_=>by simp [qz] at h
theorem zaW:∀{κ:Kd} {x:κ.T},κ.lfs.all Kd.isOne=true→qz κ.lfs (κ.vs x)=true
 |.int k,x,_=>by simp only [Kd.lfs,Kd.vs,qz,XA,zyA,Bool.and_self]
 |.bool,x,_=>by simp only [Kd.lfs,Kd.vs,qz,XA,Bool.and_self]
 |.str,x,h=>by simp [Kd.lfs,Kd.isOne] at h
 |.pair a b,x,h=>by
  simp only [Kd.lfs,List.all_append,Bool.and_eq_true] at h
  simp only [Kd.lfs,Kd.vs]
  exact zi1 (zaW h.1) (zaW h.2)
 |.sl e,x,h=>by simp [Kd.lfs,Kd.isOne] at h
 |.mp k v,x,h=>by simp [Kd.lfs,Kd.isOne] at h
theorem XW:∀(κ:Kd) (x:κ.T),(κ.vs x).length=κ.size
 |.int k,x=>rfl
 |.bool,x=>rfl
 |.str,x=>rfl
 |.pair a b,x=>by simp only [Kd.vs,List.length_append,XW a x.1,XW b x.2,Kd.size]
 |.sl e,x=>rfl
 |.mp k v,x=>rfl
theorem zqt:∀{κ:Kd} {x y:κ.T},κ.lfs.all Kd.isOne=true→eqC (κ.vs x) (κ.vs y)=κ.eqT x y
 |.int k,x,y,_=>by
  simp only [Kd.vs,eqC,eq1,Kd.eqT,zpg,Bool.and_true]
  rfl
 |.bool,x,y,_=>by
  simp only [Kd.vs,eqC,eq1,Kd.eqT,zvD,Bool.and_true]
 |.str,x,y,h=>by simp [Kd.lfs,Kd.isOne] at h
 |.pair a b,x,y,h=>by
  simp only [Kd.lfs,List.all_append,Bool.and_eq_true] at h
  simp only [Kd.vs,Kd.eqT]
  rw [zjY (by rw [XW,XW]),zqt h.1,zqt h.2]
 |.sl e,x,y,h=>by simp [Kd.lfs,Kd.isOne] at h
 |.mp k v,x,y,h=>by simp [Kd.lfs,Kd.isOne] at h
theorem zes {P:Program} (w:World) (em:Bool):∀(d:Nat) (t:TypeId) (ks:List Kd),Kf P d t=some ks→∀(cs:List Value),qz ks cs=true→∀d',d≤d' →
  (Instr.checkKey em d' t (YH P t cs)).run P w=.ok () w:=by
 intro d
 induction d with
 |zero=>intro t ks h;simp [Kf] at h
 |succ d ih =>
  intro t ks h cs hc d' hd'
  obtain ⟨e',rfl⟩:∃e',d'=e'+1:=⟨d'-1,by omega⟩
  simp only [Kf] at h
  split at h
  ·rename_i k hu
   cases hb:Nat.beq (P.cellsOf t) 1<;>simp [hb] at h
   subst h
   obtain ⟨v,rfl⟩:∃v,cs=[v]:=List.length_eq_one_iff.1 (jr hc)
   have ha:qZ P t=false:=by simp [qZ,hu]
   cases v<;>simp [qz,XA] at hc
   simp [Instr.checkKey,YH,ha,run_underlying hu]
  ·rename_i hu
   cases hb:Nat.beq (P.cellsOf t) 1<;>simp [hb] at h
   subst h
   obtain ⟨v,rfl⟩:∃v,cs=[v]:=List.length_eq_one_iff.1 (jr hc)
   have ha:qZ P t=false:=by simp [qZ,hu]
   cases v<;>simp [qz,XA] at hc
   simp [Instr.checkKey,YH,ha,run_underlying hu]
  ·rename_i fs hu
   cases hs:P.stoodInHeld t<;>simp [hs] at h
   have ha:qZ P t=true:=by simp [qZ,hu]
   simp only [YH,ha,if_true]
   rw [Instr.checkKey]
   simp only [Sem.run_bind,run_underlying hu,Result.andThen_ok]
   rw [←Array.forIn_toList]
   have key:∀(gs:List Field) (o:Nat) (qs:List Kd),Kf.leafsF P (Kf P d) o gs=some qs→qz qs (cs.drop o)=true →
     (forIn (m := Sem) gs PUnit.unit (fun f _ => if f.name ≠ "_" then (do
      let x ←part f.type cs.toArray f.offset
      Instr.checkKey em e' f.type x
      pure (ForInStep.yield PUnit.unit)) else pure (ForInStep.yield PUnit.unit))).run P w=.ok PUnit.unit w:=by
    intro gs
    induction gs with
    |nil=>intro o qs _ _;simp
    |cons g gs ihg =>
     intro o qs hq h1
     simp only [Kf.leafsF] at hq
     split at hq
     ·rename_i ks' hl hsome hoff hname
      cases hsz':Nat.beq (P.cellsOf g.type) ks'.length&&Nat.blt 0 ks'.length<;>simp only [hsz',cond] at hq
      ·cases hq
      have hsz:=(Bool.and_eq_true _ _ ▸ hsz').1
      split at hq
      ·rename_i r hr
       simp only [Option.some.injEq] at hq
       subst hq
       obtain ⟨i,hi⟩:=Option.isSome_iff_exists.1 hsome
       have hisz:i.size=ks'.length:=by rw [←zaM hi];exact Nat.eq_of_beq_eq_true hsz
       have hoff':g.offset=o:=Nat.eq_of_beq_eq_true hoff
       obtain ⟨hsc,u,hu'⟩:=zaf hl
       have hlen1:=jr h1
       rw [List.length_append,List.length_drop] at hlen1
       have m1:=KP h1
       rw [List.drop_drop] at m1
       have hpos:0<ks'.length:=by have:=(Bool.and_eq_true _ _ ▸ hsz').2;simp only [Nat.blt,Nat.ble_eq] at this;omega
       have p1:=J1 hu' hi cs o (by omega) (fun hf=>by rw [hisz];exact hsc hf) w
       rw [hisz] at p1
       have he:=ih g.type ks' hl _ m1.1 e' (by omega)
       have hrest:=ihg (o+ks'.length) r hr m1.2
       have hn' : g.name ≠ "_" := by simpa using hname
       simp only [List.forIn_cons,Sem.run_bind,hn',ne_eq,not_false_eq_true,if_true,Result.andThen_ok,hoff',p1,he,Sem.run_pure]
       exact hrest
      ·cases hq
     ·cases hq
   refine (congrArg (fun r:Result PUnit=>r.andThen fun a w'=>(pure ():Sem Unit).run P w') (key fs.toList 0 ks h (by simpa using hc))).trans ?_
   simp
  ·rename_i n e hu
   split at h
   ·rename_i ks' hl
    cases hb:Nat.beq (P.cellsOf e) ks'.length&&(P.info? e).isSome<;>simp [hb] at h
    subst h
    have hb':Nat.beq (P.cellsOf e) ks'.length=true∧(P.info? e).isSome=true:=by simpa using hb
    obtain ⟨i,hi⟩:=Option.isSome_iff_exists.1 hb'.2
    have hisz:i.size=ks'.length:=by rw [←zaM hi];exact Nat.eq_of_beq_eq_true hb'.1
    obtain ⟨hsc,u,hu'⟩:=zaf hl
    have ha:qZ P t=true:=by simp [qZ,hu]
    simp only [YH,ha,if_true]
    rw [Instr.checkKey]
    simp only [Sem.run_bind,run_underlying hu,Result.andThen_ok]
    simp only [Std.Legacy.Range.forIn_eq_forIn_range',Std.Legacy.Range.size,Nat.sub_zero,Nat.add_one_sub_one,Nat.div_one]
    have key:∀(q o:Nat),qz (List.replicate q ks').flatten (cs.drop (o*ks'.length))=true →
      (forIn (m:=Sem) (List.range' o q) PUnit.unit (fun j _=>do
       Instr.checkKey em e' e (←part e cs.toArray (j*(←sizeOf e)))
       pure (ForInStep.yield PUnit.unit))).run P w=.ok PUnit.unit w:=by
     intro q
     induction q with
     |zero=>intro o _;simp
     |succ q ihq =>
      intro o h1
      rw [List.replicate_succ,List.flatten_cons] at h1
      have hlen1:=jr h1
      rw [List.length_append,List.length_drop] at hlen1
      have m1:=KP h1
      have ho:o*ks'.length+ks'.length=(o+1)*ks'.length:=by rw [Nat.add_mul,Nat.one_mul]
      rw [List.drop_drop,ho] at m1
      have hle1:o*ks'.length+i.size≤cs.length:=by
       rcases Nat.eq_zero_or_pos ks'.length with hz|hz
       ·rw [hisz,hz];simp
       ·omega
      have p1:=J1 hu' hi cs (o*ks'.length) hle1 (fun hf=>by rw [hisz];exact hsc hf) w
      rw [hisz] at p1
      have he:=ih e ks' hl _ m1.1 e' (by omega)
      have hrest:=ihq (o+1) m1.2
      rw [List.range'_succ]
      simp only [List.forIn_cons,Sem.run_bind,js hi,hisz,Result.andThen_ok,p1,he,Sem.run_pure]
      exact hrest
    have:=key n 0 (by simpa using hc)
    simp at this ⊢
    rw [this]
    rfl
   ·cases h
  ·cases h
theorem znd {P:Program} (w:World) {κ ν:Kd} {kt:TypeId} (hl:Kf P 8 kt=some κ.lfs) (ho:κ.lfs.all Kd.isOne=true) (ha:qZ P kt=true) (key:κ.T) :
  ∀(ps:List (κ.T×ν.T)) (es:List MapEntry) (i:Nat),JP κ ν ps es→∃r,(Instr.findAsking kt (.agg (κ.vs key).toArray) es i).run P w=.ok r w ∧
   ((r=none∧hsM κ ν ps key=false∧lkM κ ν ps key=ν.dflt)∨∃j v,r=some (j,v)∧hsM κ ν ps key=true∧ν.vs (lkM κ ν ps key)=[v])
 |[],es,i,h=>by
  simp only [JP] at h
  subst h
  exact ⟨none,by simp [Instr.findAsking],.inl ⟨rfl,rfl,rfl⟩⟩
 |p::ps,es,i,h=>by
  simp only [JP] at h
  obtain ⟨e,r,rfl,h1,h2,h3⟩:=h
  have heq:=zoL (P:=P) w 8 kt _ hl (κ.vs key) (κ.vs p.1) (zaW ho) (zaW ho) 10000 (by omega)
  simp only [YH,ha,if_true,zqt ho] at heq
  have hrun:(Instr.findAsking kt (.agg (κ.vs key).toArray) (e::r) i).run P w=(if κ.eqT key p.1 then pure (some (i,e.val)) else Instr.findAsking kt (.agg (κ.vs key).toArray) r (i+1):Sem _).run P w:=by
   rw [Instr.findAsking]
   simp only [Sem.run_bind,Op.equal,show Op.maxDepth=10000 from rfl,h1,heq,Result.andThen_ok]
  cases hb:κ.eqT key p.1 with
  |true =>
   refine ⟨some (i,e.val),by rw [hrun,hb];simp,.inr ⟨i,e.val,rfl,?_,?_⟩⟩
   ·simp [hsM,hb]
   ·simp only [lkM,List.find?_cons,hb]
    exact h2
  |false =>
   obtain ⟨r',hr',hc⟩:=znd w hl ho ha key ps r (i+1) h3
   refine ⟨r',by rw [hrun,hb];simpa using hr',?_⟩
   have e1:hsM κ ν (p::ps) key=hsM κ ν ps key:=by simp [hsM,hb]
   have e2:lkM κ ν (p::ps) key=lkM κ ν ps key:=by simp only [lkM,List.find?_cons,hb]
   rw [e1,e2]
   exact hc
theorem JP.push {κ ν:Kd}:∀{ps:List (κ.T×ν.T)} {es:List MapEntry} {p:κ.T×ν.T} {e:MapEntry},JP κ ν ps es→e.key=.agg (κ.vs p.1).toArray→ν.vs p.2=[e.val]→JP κ ν (ps++[p]) (es++[e])
 |[],es,p,e,h,h1,h2=>by
  simp only [JP] at h
  subst h
  simp only [List.nil_append,JP]
  exact ⟨e,[],rfl,h1,h2,rfl⟩
 |q::ps,es,p,e,h,h1,h2=>by
  simp only [JP] at h
  obtain ⟨e',r,rfl,h3,h4,h5⟩:=h
  simp only [List.cons_append,JP]
  exact ⟨e',_,rfl,h3,h4,h5.push h1 h2⟩
theorem JP.nil_iff {κ ν:Kd} {ps:List (κ.T×ν.T)} {es:List MapEntry} (h:JP κ ν ps es):ps.length=es.length:=by
 induction ps generalizing es with
 |nil=>simp only [JP] at h;subst h;rfl
 |cons p ps ih =>
  simp only [JP] at h
  obtain ⟨e,r,rfl,_,_,h⟩:=h
  simp [ih h]
theorem zeZ (w:World) (g:Nat) (o:Obj):w.grownBy { w with heap:=w.heap.setIfInBounds g o } (some g) :=
 ⟨rfl,rfl,rfl,by simp,fun k _ hk=>by
  show (w.heap.setIfInBounds g o)[k]?=w.heap[k]?
  rw [Array.getElem?_setIfInBounds_ne (fun e=>hk (by rw [e]))]⟩
theorem zrW {ν:Kd} (h:ν.isOne=true):ν.lfs.all Kd.isOne=true:=by cases ν<;>simp [Kd.isOne] at h<;>rfl
theorem zkY {Γ:Gh} {ν:Kd} (h:ν.isOne=true) {x:ν.T} {v:Value} (hv:ν.vs x=[v]):zf Γ (ν.av x) v:=by
 cases ν<;>simp [Kd.isOne] at h
 all_goals
  simp only [Kd.vs,List.cons.injEq,and_true] at hv
  simp only [Kd.av,zf]
  exact hv.symm
theorem zve {Γ:Gh} {ν:Kd} (h:ν.isOne=true) {x:ν.T} {v:AV} {u:Value} (hd:zbb ν v=some x) (hv:zf Γ v u):ν.vs x=[u]:=by
 have h1:=zi0 (zrW h) (zev hd hv)
 cases ν<;>simp [Kd.isOne] at h
 all_goals
  cases v
  case agg cs=>simp [zbb] at hd
  all_goals
   simp only [zbb,Kd.dec] at hd
   first
    |(cases hd;done)
    |skip
  all_goals simp_all [zf,Kd.vs,Value.cells]
theorem zhi {P:Program} {t:TypeId} {k v:Nat} (h:YP (P.underlying t) (.mp k v)=true):P.underlying t=some (.map k v):=by
 unfold YP at h
 split at h<;>simp_all
section
variable {P:Program} {tb:Tb} (HT:Yz P tb) {B:Nat} {w0:World} {Γ:Gh} {m:Mem} (M:zt B w0 Γ m)
include HT
theorem za7 {kt vt:Nat} {κ ν:Kd} (h:zgh tb kt vt=some (κ,ν)) :
  Kf P 8 kt=some κ.lfs∧κ.lfs.all Kd.isOne=true∧qZ P kt=true∧κ.isPair=true∧ν.isOne=true∧∀w:World,∃z,(zeroValue vt).run P w=.ok z w∧ν.vs ν.dflt=[z]:=by
 unfold zgh at h
 split at h
 ·rename_i κ' ks ν' hk hks hv
  obtain ⟨hc,h⟩:=zm h
  injection h with h
  injection h with h1 h2
  subst h1
  subst h2
  simp only [Bool.and_eq_true] at hc
  obtain ⟨⟨⟨hc1,hc2⟩,hc3⟩,hc4⟩:=hc
  obtain ⟨rfl,hone⟩:=zqg hc1
  obtain ⟨hagg,_,hl⟩:=(zmb HT hk).eq _ hks
  refine ⟨hl,hone,hagg,hc2,hc3,fun w=>?_⟩
  have okv:=zmb HT hv
  obtain ⟨⟨f,z,hf,hz,hs,_,_,_,hkd⟩,hdesc,_,_,_,hzv⟩:=okv
  obtain ⟨h1,_,_,h4⟩:=hkd _ hv
  have h5:=zi0 (zrW hc3) (h4 w fun _=>False)
  have hna:(tb.at vt).d.agg=false:=by simpa using hc4
  rw [hzv hna f z hf hz] at h5
  exact ⟨z,by simp [zeroValue,typeInfo,hf,hz],h5.symm⟩
 ·cases h
include M
omit HT in
theorem zq6 {o:Oper} {t:Nat} {v:AV} {m':Mem} (h:zcJ tb o m zM t=some (v,m')):zaN P B w0 Γ (Instr.makeMap t none) v m':=by
 unfold zcJ at h
 split at h
 ·split at h
  ·rename_i κ ν d _ _
   obtain ⟨hn,h⟩:=zm h
   obtain ⟨rfl,rfl⟩:=zn h
   obtain ⟨M',E⟩:=M.addMap hn κ ν
   refine ⟨_,.map (some Γ.w.heap.size),E,M',?_,?_⟩
   ·simp only [zf]
    exact ⟨_,zU _ _ _,rfl⟩
   ·simp [Instr.makeMap,Result.andThen]
  ·cases h
 ·cases h
omit HT M in
theorem zqI {κ:Kd} {i:AV} {vi:Value} {key:κ.T} (hp:κ.isPair=true) (ho:κ.lfs.all Kd.isOne=true) (h:zbb κ i=some key) (hi:zf Γ i vi):vi=.agg (κ.vs key).toArray:=by
 have h1:=zi0 ho (zev h hi)
 cases κ<;>simp [Kd.isPair] at hp
 rename_i a b
 cases i
 case agg cs =>
  simp only [zf] at hi
  obtain ⟨vs,rfl,_⟩:=hi
  simp only [Value.cells] at h1
  rw [←h1]
 all_goals (simp [zbb] at h)
omit M in
theorem zpI {t kt vt:Nat} {κ ν:Kd} (hk:zgh tb kt vt=some (κ,ν)) (hu:P.underlying t=some (.map kt vt)) {blk clock:Nat} {ents:Array MapEntry} (hheap:Γ.w.heap[blk]?=some (.map ents clock)) {es:List (κ.T×ν.T)} (hents:JP κ ν es ents.toList) (key:κ.T) (c:Bool) :
  ∃u b,zf Γ (ν.av (lkM κ ν es key)) u∧hsM κ ν es key=b∧(Instr.lookup t (.map (some blk)) (.agg (κ.vs key).toArray) c).run P Γ.w=.ok (if c then .tuple #[u,.bool b] else u) Γ.w:=by
 obtain ⟨hl,hone,hagg,hp,hν,hz⟩:=za7 HT hk
 have hchk:=zes (P:=P) Γ.w ents.isEmpty 8 kt _ hl (κ.vs key) (zaW hone) 10000 (by omega)
 simp only [YH,hagg,if_true] at hchk
 obtain ⟨r,hfind,hr⟩:=znd (P:=P) Γ.w hl hone hagg key es ents.toList 0 hents
 have hfk:=run_findKey_eq (P:=P) Γ.w (k:=kt) (by unfold qZ at hagg;split at hagg<;>simp_all) (.agg (κ.vs key).toArray) ents.toList
 rw [hfind] at hfk
 obtain ⟨z,hzr,hzv⟩:=hz Γ.w
 rcases hr with ⟨rfl,h1,h2⟩|⟨j,u,rfl,h1,h2⟩
 ·refine ⟨z,false,by rw [h2];exact zkY hν hzv,h1,?_⟩
  simp [Instr.lookup,run_underlying hu,MapKept.run_getObj_map hheap,hchk,hfk,hzr,Result.andThen]
 ·refine ⟨u,true,zkY hν h2,h1,?_⟩
  simp [Instr.lookup,run_underlying hu,MapKept.run_getObj_map hheap,hchk,hfk,Result.andThen]
omit M in
theorem zvW {t kt vt:Nat} {κ ν:Kd} (hk:zgh tb kt vt=some (κ,ν)) (hu:P.underlying t=some (.map kt vt)) (key:κ.T) (c:Bool) :
  ∃u b,zf Γ (ν.av (lkM κ ν [] key)) u∧hsM κ ν [] key=b∧(Instr.lookup t (.map none) (.agg (κ.vs key).toArray) c).run P Γ.w=.ok (if c then .tuple #[u,.bool b] else u) Γ.w:=by
 obtain ⟨hl,hone,hagg,hp,hν,hz⟩:=za7 HT hk
 have hchk:=zes (P:=P) Γ.w true 8 kt _ hl (κ.vs key) (zaW hone) 10000 (by omega)
 simp only [YH,hagg,if_true] at hchk
 have hfk:=run_findKey_eq (P:=P) Γ.w (k:=kt) (by unfold qZ at hagg;split at hagg<;>simp_all) (.agg (κ.vs key).toArray) []
 obtain ⟨z,hzr,hzv⟩:=hz Γ.w
 refine ⟨z,false,zkY hν hzv,rfl,?_⟩
 simp [Instr.lookup,run_underlying hu,hchk,hfk,hzr,Result.andThen,Instr.findAsking]
omit HT M in
theorem zqM {κ ν:Kd} {es:List (κ.T×ν.T)} {key:κ.T} {c:Bool} {v:AV} {m':Mem} (h:lkK m zM κ ν es key c=some (v,m')) {u:Value} {b:Bool} (hu:zf Γ (ν.av (lkM κ ν es key)) u) (hb:hsM κ ν es key=b):m'=m∧zf Γ v (if c then .tuple #[u,.bool b] else u):=by
 unfold lkK at h
 cases c
 ·obtain ⟨rfl,rfl⟩:=zn (show zM _ m=_ from h)
  exact ⟨rfl,hu⟩
 ·obtain ⟨rfl,rfl⟩:=zn (show zM _ m=_ from h)
  refine ⟨rfl,?_⟩
  simp only [zf,zq,if_true]
  exact ⟨[u,.bool b],rfl,u,[.bool b],rfl,hu,.bool b,[],rfl,by rw [hb],rfl⟩
theorem ztA {o:Oper} {t:Nat} {x i v:AV} {vx vi:Value} {c:Bool} {m':Mem} (h:JZ tb o m zM t x i c=some (v,m')) (hx:zf Γ x vx) (hi:zf Γ i vi):m'=m∧∃u,zf Γ v u∧(Instr.lookup t vx vi c).run P Γ.w=.ok u Γ.w:=by
 unfold JZ at h
 split at h
 ·rename_i kt vt id _ _ hd
  split at h
  ·cases h
  ·rename_i κ ν es kd cur κ' ν' hno hm hk
   split at h
   ·rename_i key hkey
    obtain ⟨hc,h2⟩:=zm h
    clear h
    simp only [Bool.and_eq_true] at hc
    obtain ⟨⟨hc1,hc2⟩,_⟩:=hc
    obtain rfl:=Kd.eq_of_beq hc1
    obtain rfl:=Kd.eq_of_beq hc2
    obtain ⟨hl,hone,hagg,hp,hν,hz⟩:=za7 HT hk
    have hdesc:=(jW HT (t:=t) (by rw [hd];rfl)).desc
    rw [hd] at hdesc
    have hu:=zhi hdesc
    simp only [zf] at hx
    obtain ⟨blk,hη,rfl⟩:=hx
    have hkd:kd≠.iter:=by
     rintro rfl
     first
      |exact hno _ _ _ _ hm
      |exact hno hm
      |simp_all
    obtain ⟨ents,clock,hheap,_,hents⟩:=(M.mapAt hη hm).map hkd
    have hvi:=zqI hp hone hkey hi
    subst hvi
    obtain ⟨u,b,hu1,hb,hrun⟩:=zpI HT hk hu hheap hents key c
    obtain ⟨rfl,hv⟩:=zqM h2 hu1 hb
    exact ⟨rfl,_,hv,hrun⟩
   ·cases h
  ·cases h
 ·rename_i kt vt κ ν es hd
  split at h
  ·rename_i κ' ν' hk
   split at h
   ·rename_i key hkey
    obtain ⟨hc,h2⟩:=zm h
    clear h
    simp only [Bool.and_eq_true] at hc
    obtain ⟨hc1,hc2⟩:=hc
    obtain rfl:=Kd.eq_of_beq hc1
    obtain rfl:=Kd.eq_of_beq hc2
    obtain ⟨hl,hone,hagg,hp,hν,hz⟩:=za7 HT hk
    have hdesc:=(jW HT (t:=t) (by rw [hd];rfl)).desc
    rw [hd] at hdesc
    have hu:=zhi hdesc
    have hvi:=zqI hp hone hkey hi
    subst hvi
    simp only [zf,qd,List.cons.injEq,and_true] at hx
    rcases hx with ⟨rfl,hn⟩|⟨blk,ents,clock,rfl,_,hheap,_,hents⟩
    ·obtain rfl:es=[]:=List.eq_nil_of_length_eq_zero hn
     obtain ⟨u,b,hu1,hb,hrun⟩:=zvW (Γ:=Γ) HT hk hu key c
     obtain ⟨rfl,hv⟩:=zqM h2 hu1 hb
     exact ⟨rfl,_,hv,hrun⟩
    ·obtain ⟨u,b,hu1,hb,hrun⟩:=zpI HT hk hu hheap hents key c
     obtain ⟨rfl,hv⟩:=zqM h2 hu1 hb
     exact ⟨rfl,_,hv,hrun⟩
   ·cases h
  ·cases h
 ·cases h
theorem zs1 {t:Nat} {x i v r:AV} {vx vi vv:Value} {m':Mem} (h:zfI tb m zM t x i v=some (r,m')) (hx:zf Γ x vx) (hi:zf Γ i vi) (hv:zf Γ v vv) :
  r=.tup []∧∃Γ',Ext B Γ Γ'∧zt B w0 Γ' m'∧(Instr.mapUpdate t vx vi vv).run P Γ.w=.ok () Γ'.w:=by
 unfold zfI at h
 split at h
 ·rename_i kt vt id _ _ hd
  split at h
  ·rename_i κ ν es cur κ' ν' hm hk
   split at h
   ·rename_i key val hkey hval
    obtain ⟨hc,h⟩:=zm h
    obtain ⟨hno,h⟩:=jb h
    obtain ⟨rfl,rfl⟩:=zn h
    simp only [Bool.and_eq_true] at hc
    obtain ⟨hc1,hc2⟩:=hc
    obtain rfl:=Kd.eq_of_beq hc1
    obtain rfl:=Kd.eq_of_beq hc2
    obtain ⟨hl,hone,hagg,hp,hν,hz⟩:=za7 HT hk
    have hdesc:=(jW HT (t:=t) (by rw [hd];rfl)).desc
    rw [hd] at hdesc
    have hu:=zhi hdesc
    simp only [zf] at hx
    obtain ⟨blk,hη,rfl⟩:=hx
    have hmr:=M.mapAt hη hm
    obtain ⟨ents,clock,hheap,hmok,hents⟩:=hmr.map (fun e=>by cases e)
    have hvi:=zqI hp hone hkey hi
    subst hvi
    have hchk:=zes (P:=P) Γ.w false 8 kt _ hl (κ.vs key) (zaW hone) 10000 (by omega)
    simp only [YH,hagg,if_true] at hchk
    obtain ⟨r,hfind,hr⟩:=znd (P:=P) Γ.w hl hone hagg key es ents.toList 0 hents
    have hfk:=run_findKey_eq (P:=P) Γ.w (k:=kt) (by unfold qZ at hagg;split at hagg<;>simp_all) (.agg (κ.vs key).toArray) ents.toList
    rw [hfind] at hfk
    have hno':hsM κ ν es key=false:=by simpa [zjn] using hno
    rcases hr with ⟨rfl,_,_⟩|⟨j,u,_,h1,_⟩
    ·have hvv:=zve hν hval hv
     obtain ⟨M',E'⟩:=M.setMap (id:=id) (b:=blk) hη hm (fun e=>by cases e) (zeZ Γ.w blk (.map (ents.push ⟨.agg (κ.vs key).toArray,vv,clock⟩) (clock+1))) (Nat.le_refl _) (a':=⟨κ,ν,adM κ ν es key val,.own,none⟩)
      (fun _ hnR=>⟨hmr.base,.inl ⟨fun e=>(by cases e),ents.push ⟨.agg (κ.vs key).toArray,vv,clock⟩,clock+1,(by
       have:=zc3 hheap
       show (Γ.w.heap.setIfInBounds blk _)[blk]?=_
       rw [Array.getElem?_setIfInBounds_self_of_lt this]),(by
       obtain ⟨hm1,hm2⟩:=hmok
       refine ⟨fun x hx=>?_,?_⟩
       ·rw [Array.toList_push] at hx
        rcases List.mem_append.1 hx with hx|hx
        ·exact Nat.lt_succ_of_lt (hm1 x hx)
        ·rw [List.mem_singleton.1 hx];exact Nat.lt_succ_self _
       ·rw [Array.toList_push,List.map_append,List.nodup_append]
        refine ⟨hm2,by simp,fun a ha b hb e=>?_⟩
        obtain ⟨x,hx,rfl⟩:=List.mem_map.1 ha
        have hb':b=clock:=by simpa using hb
        have:=hm1 x hx
        omega),(by
       rw [Array.toList_push]
       exact hents.push rfl hvv)⟩,.inr ⟨fun e=>(by cases e),hnR⟩⟩)
     refine ⟨rfl,_,E',M',?_⟩
     simp [Instr.mapUpdate,run_underlying hu,MapKept.run_getObj_map hheap,hchk,hfk,MapKept.run_setObj_map _ hheap,Result.andThen]
    ·rw [h1] at hno'
     cases hno'
   ·cases h
  ·cases h
 ·cases h
omit HT M in
theorem zm4 (es:Array MapEntry):leftOf es #[]=es:=by
 unfold leftOf
 rw [Array.filter_eq_self]
 intro x _
 simp
theorem zvp {o:Oper} {t:Nat} {x v:AV} {vx:Value} {m':Mem} (h:ziZ tb o m zM t x=some (v,m')) (hx:zf Γ x vx):zaN P B w0 Γ (Instr.range t vx) v m':=by
 unfold ziZ at h
 split at h
 ·rename_i kt vt id _ _ hd
  have hdesc:=(jW HT (t:=t) (by rw [hd];rfl)).desc
  rw [hd] at hdesc
  have hu:=zhi hdesc
  split at h
  ·cases h
  ·rename_i κ ν es kd cur κ' ν' d hno hm hk ho
   obtain ⟨hc,h⟩:=zm h
   obtain ⟨rfl,rfl⟩:=zn h
   simp only [Bool.and_eq_true] at hc
   obtain ⟨⟨⟨hc1,hc2⟩,_⟩,hn⟩:=hc
   obtain rfl:=Kd.eq_of_beq hc1
   obtain rfl:=Kd.eq_of_beq hc2
   obtain ⟨hl,hone,hagg,hp,hν,hz⟩:=za7 HT hk
   simp only [zf] at hx
   obtain ⟨blk,hη,rfl⟩:=hx
   have hkd:kd≠.iter:=by
    rintro rfl
    first
     |exact hno _ _ _ _ hm
     |exact hno hm
     |simp_all
   obtain ⟨ents,clock,hheap,hmok,hents⟩:=(M.mapAt hη hm).map hkd
   obtain ⟨M1,E1⟩:=M.fixMap hη hm hkd
   have hne:m.id d≠id:=fun e=>by
    have:=znO hn
    rw [e,hm] at this
    cases this
   have hn1:({ m with map:=upd m.map id (some ⟨κ,ν,es,.froz,none⟩) }:Mem).new (m.id d)=true:=by
    unfold Mem.new
    have h1:=zhu hn
    have h2:=zfC hn
    have h3:=znO hn
    show (match m.box (m.id d),m.row (m.id d),upd m.map id (some ⟨κ,ν,es,.froz,none⟩) (m.id d) with
     |none,none,none=>true
     |_,_,_=>false)=true
    rw [h1,h2,zC _ _ hne,h3]
   obtain ⟨M2,E2⟩:=M1.addIter (id:=m.id d) hn1 (o:=.mapIter (some blk) clock #[] clock) (a:=⟨κ,ν,es,.iter,none⟩) rfl
    ⟨⟨hp,hone,hν⟩,.inr ⟨blk,#[],ents,clock,heap_alloc_new _ _,.inr rfl,(heap_alloc_old Γ.w _ (zc3 hheap)).trans hheap,hmok,by rw [zm4];exact hents,fun p hp=>by cases hp⟩⟩
   refine ⟨_,_,E1.trans E2,M2,?_,run_range_map Γ.w t kt vt blk ents clock hu hheap⟩
   simp only [zf]
   exact ⟨_,zU _ _ _,rfl⟩
  ·cases h
 ·rename_i kt vt κ ν es hd
  have hdesc:=(jW HT (t:=t) (by rw [hd];rfl)).desc
  rw [hd] at hdesc
  have hu:=zhi hdesc
  split at h
  ·rename_i κ' ν' d hk ho
   obtain ⟨hc,h⟩:=zm h
   obtain ⟨rfl,rfl⟩:=zn h
   simp only [Bool.and_eq_true] at hc
   obtain ⟨⟨hc1,hc2⟩,hn⟩:=hc
   obtain rfl:=Kd.eq_of_beq hc1
   obtain rfl:=Kd.eq_of_beq hc2
   obtain ⟨hl,hone,hagg,hp,hν,hz⟩:=za7 HT hk
   simp only [zf,qd,List.cons.injEq,and_true] at hx
   rcases hx with ⟨rfl,hn0⟩|⟨blk,ents,clock,rfl,hR,hheap,hmok,hents⟩
   ·obtain ⟨M2,E2⟩:=M.addIter (id:=m.id d) hn (o:=.mapIter none 0 #[] 0) (a:=⟨κ,ν,es,.iter,none⟩) rfl
     ⟨⟨hp,hone,hν⟩,.inl ⟨heap_alloc_new _ _,hn0,rfl⟩⟩
    refine ⟨_,_,E2,M2,?_,run_range_nilMap Γ.w t kt vt hu⟩
    simp only [zf]
    exact ⟨_,zU _ _ _,rfl⟩
   ·obtain ⟨M2,E2⟩:=M.addIter (id:=m.id d) hn (o:=.mapIter (some blk) clock #[] clock) (a:=⟨κ,ν,es,.iter,none⟩) rfl
     ⟨⟨hp,hone,hν⟩,.inr ⟨blk,#[],ents,clock,heap_alloc_new _ _,hR,(heap_alloc_old Γ.w _ (zc3 hheap)).trans hheap,hmok,by rw [zm4];exact hents,fun p hp=>by cases hp⟩⟩
    refine ⟨_,_,E2,M2,?_,run_range_map Γ.w t kt vt blk ents clock hu hheap⟩
    simp only [zf]
    exact ⟨_,zU _ _ _,rfl⟩
  ·cases h
 ·cases h
omit HT M in
theorem zuV {κ:Kd} (hp:κ.isPair=true) (ho:κ.lfs.all Kd.isOne=true) (x:κ.T):zf Γ (κ.av x) (.agg (κ.vs x).toArray):=by
 cases κ<;>simp [Kd.isPair] at hp
 rename_i a b
 simp only [Kd.av,zf]
 exact ⟨_,rfl,(zia ho).cells⟩
omit HT in
theorem zpZ {o:Oper} {x v:AV} {vx:Value} {m':Mem} (h:zis o m zM x=some (v,m')) (hx:zf Γ x vx):m'=m∧∃u,zf Γ v u∧(Instr.entry vx).run P Γ.w=.ok u Γ.w:=by
 unfold zis at h
 split at h
 ·rename_i id _ _
  split at h
  ·rename_i κ ν es p hm
   obtain ⟨_,h⟩:=zm h
   obtain ⟨rfl,rfl⟩:=zn h
   simp only [zf] at hx
   obtain ⟨b,hη,rfl⟩:=hx
   obtain ⟨⟨hp,hone,hν⟩,hi⟩:=(M.mapAt hη hm).iter rfl
   rcases hi with ⟨_,_,hc⟩|⟨bm,zaj,ents,clock,h1,h2,h3,h4,h5,h6⟩
   ·cases hc
   ·obtain ⟨s0,e,rfl,he,hk,hv⟩:=h6 p rfl
    refine ⟨rfl,.tuple #[e.key,e.val],?_,run_entry_at Γ.w b bm clock s0 ents clock e h1 h3 he h4.2⟩
    simp only [zf]
    refine ⟨[e.key,e.val],rfl,?_⟩
    simp only [zq]
    refine ⟨e.key,[e.val],rfl,?_,e.val,[],rfl,zkY hν hv,rfl⟩
    rw [hk]
    exact zuV hp hone p.1
  ·cases h
 ·cases h
omit HT M in
theorem JP.at {κ ν:Kd}:∀{ps:List (κ.T×ν.T)} {es:List MapEntry} {j:Nat} {e:MapEntry},JP κ ν ps es→es[j]?=some e→∃p,ps[j]?=some p∧e.key=.agg (κ.vs p.1).toArray∧ν.vs p.2=[e.val]
 |[],es,j,e,h,he=>by
  simp only [JP] at h
  subst h
  simp at he
 |p::ps,es,0,e,h,he=>by
  simp only [JP] at h
  obtain ⟨e',r,rfl,h1,h2,_⟩:=h
  obtain rfl:e'=e:=by simpa using he
  exact ⟨p,rfl,h1,h2⟩
 |p::ps,es,j+1,e,h,he=>by
  simp only [JP] at h
  obtain ⟨e',r,rfl,_,_,h3⟩:=h
  exact JP.at (j:=j) h3 (by simpa using he)
omit HT M in
theorem JP.erase {κ ν:Kd}:∀{ps:List (κ.T×ν.T)} {es:List MapEntry} (j:Nat),JP κ ν ps es→JP κ ν (ps.eraseIdx j) (es.eraseIdx j)
 |[],es,j,h=>by
  simp only [JP] at h
  subst h
  simp [JP]
 |p::ps,es,0,h=>by
  simp only [JP] at h
  obtain ⟨e',r,rfl,_,_,h3⟩:=h
  exact h3
 |p::ps,es,j+1,h=>by
  simp only [JP] at h
  obtain ⟨e',r,rfl,h1,h2,h3⟩:=h
  simp only [List.eraseIdx_cons_succ,JP]
  exact ⟨e',_,rfl,h1,h2,h3.erase j⟩
omit HT M in
theorem zhK:∀{L:List MapEntry} {j:Nat} {e:MapEntry},(L.map (·.born)).Nodup→L[j]?=some e→L.filter (fun x=>!(x.born==e.born))=L.eraseIdx j
 |[],j,e,_,h=>by simp at h
 |a::L,0,e,hn,h=>by
  obtain rfl:a=e:=by simpa using h
  rw [List.map_cons,List.nodup_cons] at hn
  rw [List.filter_cons_of_neg (by simp),List.eraseIdx_cons_zero,List.filter_eq_self]
  intro x hx
  have:x.born≠a.born:=fun e=>hn.1 (e ▸ List.mem_map.2 ⟨x,hx,rfl⟩)
  simpa using this
 |a::L,j+1,e,hn,h=>by
  rw [List.map_cons,List.nodup_cons] at hn
  have h':L[j]?=some e:=by simpa using h
  have hne:a.born≠e.born:=fun e'=>hn.1 (e' ▸ List.mem_map.2 ⟨e,List.mem_of_getElem? h',rfl⟩)
  rw [List.filter_cons_of_pos (by simpa using hne),List.eraseIdx_cons_succ,zhK hn.2 h']
omit HT M in
theorem ztv {es:Array MapEntry} (hn:(es.toList.map (·.born)).Nodup) {zaj:Array Nat} {j:Nat} {e:MapEntry} (h:(leftOf es zaj).toList[j]?=some e):(leftOf es (zaj.push e.born)).toList=(leftOf es zaj).toList.eraseIdx j:=by
 have hs:((leftOf es zaj).toList.map (·.born)).Nodup:=by
  unfold leftOf
  rw [Array.toList_filter]
  exact hn.sublist (List.filter_sublist.map _)
 rw [←zhK hs h]
 unfold leftOf
 rw [Array.toList_filter,Array.toList_filter,List.filter_filter]
 refine List.filter_congr fun x _=>?_
 rw [Array.contains_push,Bool.not_or,Bool.and_comm]
omit HT in
theorem zwU {id:Nat} {k v κ ν:Kd} {es:List (κ.T×ν.T)} {cur:Option (κ.T×ν.T)} (hm:m.map id=some ⟨κ,ν,es,.iter,cur⟩) {vx:Value} (hx:zf Γ (.it id k v) vx) (ty:TypeId) :
  (es=[]∧(Instr.next vx false ty).run P Γ.w=.ok (.tuple #[.bool false]) Γ.w) ∨
  ∃j p Γ' u1 u2,es[j]?=some p∧Ext B Γ Γ'∧zt B w0 Γ' { m with map:=upd m.map id (some ⟨κ,ν,es.eraseIdx j,.iter,some p⟩) }∧zf Γ' (κ.av p.1) u1∧zf Γ' (ν.av p.2) u2∧(Instr.next vx false ty).run P Γ.w=.ok (.tuple #[.bool true,u1,u2]) Γ'.w:=by
 simp only [zf] at hx
 obtain ⟨b,hη,rfl⟩:=hx
 have hmr:=M.mapAt hη hm
 obtain ⟨⟨hp,hone,hν⟩,hi⟩:=hmr.iter rfl
 dsimp only at hp hone hν hi
 rcases hi with ⟨h1,h2,_⟩|⟨bm,zaj,ents,clock,h1,h2,h3,h4,h5,h6⟩
 ·refine .inl ⟨List.eq_nil_of_length_eq_zero h2,?_⟩
  simp only [Instr.next,getObj,Sem.run_bind,Sem.run,h1,Result.andThen]
  rfl
 ·have hlt:=zc3 h1
  rcases run_next_at (P:=P) Γ.w ty b bm clock clock zaj ents clock h1 h3 h4.1 (Nat.le_refl _) with ⟨h7,hrun⟩|⟨e,he,w1,hw1,hrun⟩
  ·refine .inl ⟨?_,hrun⟩
   have h8:List.length es=(leftOf ents zaj).toList.length:=h5.nil_iff
   have h9:(leftOf ents zaj).toList.length=0:=(Array.length_toList).trans h7
   exact List.eq_nil_of_length_eq_zero (h8.trans h9)
  ·obtain ⟨j,hj⟩:=List.mem_iff_getElem?.1 he
   obtain ⟨p,hpj,hkey,hval⟩:=h5.at hj
   have hne:bm≠b:=fun e'=>by
    rcases hmr.fix with ⟨h,_⟩|⟨_,h⟩
    ·cases h
    ·exact h (e' ▸ h2)
   have he':e∈ents.toList:=by
    unfold leftOf at he
    rw [Array.toList_filter] at he
    exact (List.mem_filter.1 he).1
   have hg:Γ.w.grownBy (ChangeMaps.setBlock w1 b (.mapIter (some bm) clock (zaj.push e.born) clock)) (some b):=by
    have h0:Γ.w.grownBy w1 none:=by
     rcases hw1 with rfl|rfl
     ·exact ⟨rfl,rfl,rfl,Nat.le_refl _,fun _ _ _=>rfl⟩
     ·exact ⟨rfl,rfl,rfl,Nat.le_refl _,fun _ _ _=>rfl⟩
    have h9:=zeZ w1 b (.mapIter (some bm) clock (zaj.push e.born) clock)
    rcases hw1 with rfl|rfl
    ·exact h9
    ·exact ⟨h9.1,h9.2,h9.3,h9.4,h9.5⟩
   obtain ⟨M',E'⟩:=M.setMap (id:=id) (b:=b) hη hm (fun e=>by cases e) hg (zfJ P _ hrun) (a':=⟨κ,ν,es.eraseIdx j,.iter,some p⟩) (fun hR hnR=>⟨hmr.base,.inr ⟨rfl,⟨hp,hone,hν⟩,.inr ⟨bm,zaj.push e.born,ents,clock,(by
     have:w1.heap.size=Γ.w.heap.size:=by rcases hw1 with rfl|rfl<;>rfl
     show (w1.heap.setIfInBounds b _)[b]?=_
     rw [Array.getElem?_setIfInBounds_self_of_lt (by omega)]),h2,(hR bm h2).trans h3,h4,(by rw [ztv h4.2 hj];exact h5.erase j),(fun q hq=>by
     injection hq with hq
     subst hq
     exact ⟨zaj,e,rfl,he',hkey,hval⟩)⟩⟩,.inr ⟨fun e=>(by cases e),hnR⟩⟩)
   exact .inr ⟨j,p,_,e.key,e.val,hpj,E',M',by rw [hkey];exact zuV hp hone p.1,zkY hν hval,hrun⟩
end
end Go.Proofs.YtpkkcjmblocjdaaGreat.AM
end
section
namespace Go.Proofs.YtpkkcjmblocjdaaGreat.AM
open Go.RowKit
def cls (tb:Tb) (o:Oper):Nat:=match o.op with
 |.move _=>0
 |.assign _=>0
 |.pick _ _ _=>0
 |.build _ _=>0
 |.nilCheck _=>0
 |.binOp _ _ _ _ _=>0
 |.unOp _ _ _=>0
 |.convert _ _ _=>0
 |.makeFunc _ _ _=>0
 |.fieldAddr _ _ _=>0
 |.field _ _ _=>0
 |.indexAddr _ _ _=>0
 |.extract _ _=>0
 |.index _ _ _=>0
 |.load _ _=>1
 |.lookup _ _ _ _=>1
 |.alloc _=>2
 |.box _ _=>2
 |.makeSlice _ _ _=>2
 |.buildSlice t _ _=>match (tb.at t).d with
  |.sl e=>match (tb.at e).kd with
   |some κ=>cond κ.flat 2 4
   |none=>4
  |_=>4
 |.slice _ _ _ _ _=>3
 |.call c=>match c.callee with
  |.builtin .len=>0
  |.builtin .max=>0
  |.builtin .min=>0
  |.value f=>match zvg tb f with
   |some _=>2
   |none=>cond (zs7 tb f) 4 3
  |_=>4
 |_=>4
def zvt (a b:Nat):Bool:=match a,b with
 |0,_=>true
 |_,0=>true
 |1,1=>true
 |1,2=>true
 |1,3=>true
 |2,1=>true
 |2,2=>true
 |2,3=>true
 |3,1=>true
 |3,2=>true
 |3,3=>true
 |_,_=>false
section
variable {cl:∀ρ,Jz ρ} (hcl:zdL cl) {tb:Tb}
theorem zmF (o:Oper) {ev ev':Operand→AV} (m:Mem) (h:∀x∈o.op.operands.toList,ev x=ev' x):opD cl tb o ev m=opD cl tb o ev' m:=by
 have hop:∀{op:Op},o.op=op→∀x∈op.operands.toList,ev x=ev' x:=fun e=>e ▸ h
 unfold opD opK
 cases ho:o.op<;>have h1:=hop ho<;>(try simp only [Op.operands] at h1)<;>(try simp only)
 case move x=>rw [h1 x (by simp)]
 case assign x=>rw [h1 x (by simp)]
 case pick c a b=>rw [h1 c (by simp),h1 a (by simp),h1 b (by simp)]
 case box t x=>rw [h1 x (by simp)]
 case build t ps =>
  have:(ps.toList.map fun p=>(p.1,ev p.2))=ps.toList.map fun p=>(p.1,ev' p.2):=List.map_congr_left fun p hp=>by rw [h1 p.2 (by simp;exact ⟨p.1,by simpa using hp⟩)]
  rw [this]
 case buildSlice t n ps =>
  have:(ps.toList.map fun p=>(p.1,ev p.2))=ps.toList.map fun p=>(p.1,ev' p.2):=List.map_congr_left fun p hp=>by rw [h1 p.2 (by simp;exact ⟨p.1,by simpa using hp⟩)]
  rw [this]
 case load t a=>rw [h1 a (by simp)]
 case store t a x=>rw [h1 a (by simp),h1 x (by simp)]
 case nilCheck x=>rw [h1 x (by simp)]
 case binOp op t x y u=>rw [h1 x (by simp),h1 y (by simp)]
 case unOp op t x=>rw [h1 x (by simp)]
 case convert s t x=>rw [h1 x (by simp)]
 case makeFunc f a b =>
  cases f<;>simp only
  have e1:a.toList.map ev=a.toList.map ev':=List.map_congr_left fun p hp=>h1 p (by simp at hp ⊢;exact .inl hp)
  have e2:b.toList.map ev=b.toList.map ev':=List.map_congr_left fun p hp=>h1 p (by simp at hp ⊢;exact .inr hp)
  rw [e1,e2]
 case makeSlice t l c=>rw [h1 l (by simp)]
 case slice t x lo hi mx =>
  cases mx<;>simp only
  have e0:lo.map ev=lo.map ev':=by cases lo<;>simp;exact h1 _ (by simp)
  have e1:hi.map ev=hi.map ev':=by cases hi<;>simp;exact h1 _ (by simp)
  rw [h1 x (by simp),e0,e1]
 case fieldAddr t x f=>rw [h1 x (by simp)]
 case field t x f=>rw [h1 x (by simp)]
 case indexAddr t x i=>rw [h1 x (by simp),h1 i (by simp)]
 case extract x i=>rw [h1 x (by simp)]
 case index t x i=>rw [h1 x (by simp),h1 i (by simp)]
 case makeMap t r=>cases r<;>rfl
 case lookup t x i c=>rw [h1 x (by simp),h1 i (by simp)]
 case mapUpdate t x i v=>rw [h1 x (by simp),h1 i (by simp),h1 v (by simp)]
 case range t x=>rw [h1 x (by simp)]
 case entry x=>rw [h1 x (by simp)]
 case call c =>
  simp only [Call.operands] at h1
  unfold zcc
  have ha:c.args.toList.map ev=c.args.toList.map ev':=List.map_congr_left fun p hp=>h1 p (by simp at hp ⊢;exact .inr hp)
  cases hc:c.callee with
  |builtin b =>
   cases b<;>simp only [ha]
   case len =>
    split
    ·rename_i x t r hx ht
     have hm:x∈c.args.toList:=by rw [hx];simp
     rw [h1 x (by simp at hm ⊢;exact .inr hm)]
    ·rfl
   case append =>
    split
    ·rename_i v x t u hx ht
     have hm:v∈c.args.toList:=by rw [hx];simp
     have hm2:x∈c.args.toList:=by rw [hx];simp
     rw [h1 v (by simp at hm ⊢;exact .inr hm),h1 x (by simp at hm2 ⊢;exact .inr hm2)]
    ·rfl
  |value f =>
   simp only [ha]
   rw [h1 f (by simp [hc])]
  |invoke r n=>simp only
theorem zzs {o:Oper} (h:cls tb o=0) {ρ:Type} (ev:Operand→AV) (m m2:Mem) (k:Yj ρ):opK (cl ρ) tb o ev m k=opK (cl ρ) tb o ev m2 (fun v _=>k v m):=by
 unfold cls at h
 unfold opK
 cases ho:o.op<;>simp only [ho] at h ⊢
 all_goals first
  |rfl
  |(exfalso;revert h;decide)
  |skip
 case buildSlice t n ps =>
  exfalso
  split at h
  ·split at h
   ·rename_i κ _
    cases hf:κ.flat<;>rw [hf] at h<;>simp at h
   ·simp at h
  ·simp at h
 case makeFunc f a b=>cases f<;>rfl
 case call c =>
  unfold zcc
  cases hc:c.callee with
  |builtin b =>
   rw [hc] at h
   cases b<;>first|rfl|(simp at h)
  |value f =>
   rw [hc] at h
   simp only at h
   cases hq:zvg tb f with
   |some t=>rw [hq] at h;cases h
   |none =>
    rw [hq] at h
    cases hi:zs7 tb f<;>rw [hi] at h<;>simp at h
  |invoke r n=>rfl
include hcl in
theorem zze {o:Oper} (h:cls tb o=0) {ev:Operand→AV} {m:Mem} {v:AV} {m':Mem} (ho:opD cl tb o ev m=some (v,m')):m'=m∧∀m2,opD cl tb o ev m2=some (v,m2):=by
 have key:∀m m2 v m',opD cl tb o ev m=some (v,m')→∃m3,opD cl tb o ev m2=some (v,m3)∧m'=m:=by
  intro m m2 v m' ho
  have h2:opD cl tb o ev m=(opD cl tb o ev m2).bind (toK fun v _=>zM v m):=(zzs (cl:=cl) h (ρ:=AV×Mem) ev m m2 zM).trans (zyR hcl tb o ev m2 _)
  rw [ho] at h2
  cases hq:opD cl tb o ev m2 with
  |none=>rw [hq] at h2;cases h2
  |some p =>
   rw [hq] at h2
   simp only [Option.bind_some,toK,zM,Option.some.injEq,Prod.mk.injEq] at h2
   exact ⟨p.2,by rw [h2.1],h2.2⟩
 refine ⟨(key m m v m' ho).choose_spec.2,fun m2=>?_⟩
 obtain ⟨m3,h3,_⟩:=key m m2 v m' ho
 have:=(key m2 m2 v m3 h3).choose_spec.2
 rw [h3,this]
end
end Go.Proofs.YtpkkcjmblocjdaaGreat.AM
end
section
namespace Go.Proofs.YtpkkcjmblocjdaaGreat.AM
open Go.RowKit
def ZF.view (a:ZF):ZF:=⟨a.e,a.xs,a.t,match a.st with
 |.dead=>.dead
 |_=>.own⟩
def Q8 (m m2:Mem) (id:Nat):Prop:=(m.box id).map YZ.cs=(m2.box id).map YZ.cs∧(m.row id).map ZF.view=(m2.row id).map ZF.view
theorem Q8.symm {m m2:Mem} {id:Nat} (h:Q8 m m2 id):Q8 m2 m id:=⟨h.1.symm,h.2.symm⟩
theorem Q8.box {m m2:Mem} {id:Nat} (h:Q8 m m2 id) {b:YZ} (hb:m.box id=some b):∃f,m2.box id=some ⟨b.cs,f⟩:=by
 have h1:=h.1
 rw [hb] at h1
 cases h2:m2.box id with
 |none=>rw [h2] at h1;simp at h1
 |some c =>
  rw [h2] at h1
  simp only [Option.map_some,Option.some.injEq] at h1
  exact ⟨c.fixed,by rw [h1]⟩
theorem Q8.row {m m2:Mem} {id:Nat} (h:Q8 m m2 id) {e:Kd} {xs:List e.T} {t:Nat} {st:zA4} (hr:m.row id=some ⟨e,xs,t,st⟩):∃st',m2.row id=some ⟨e,xs,t,st'⟩∧(st'=.dead↔st=.dead):=by
 have h1:=h.2
 rw [hr] at h1
 cases h2:m2.row id with
 |none=>rw [h2] at h1;simp at h1
 |some c =>
  obtain ⟨e',xs',t',st'⟩:=c
  rw [h2] at h1
  simp only [Option.map_some,Option.some.injEq,ZF.view,ZF.mk.injEq] at h1
  obtain ⟨rfl,hx,rfl,hs⟩:=h1
  obtain rfl:=eq_of_heq hx
  refine ⟨st',rfl,?_⟩
  cases st<;>cases st'<;>first|(simp;done)|(simp at hs;done)
theorem Q8.rowNone {m m2:Mem} {id:Nat} (h:Q8 m m2 id) (hr:m.row id=none):m2.row id=none:=by
 have h1:=h.2
 rw [hr] at h1
 simpa using h1.symm
theorem Q8.boxNone {m m2:Mem} {id:Nat} (h:Q8 m m2 id) (hr:m.box id=none):m2.box id=none:=by
 have h1:=h.1
 rw [hr] at h1
 simpa using h1.symm
theorem zi5 {m m2:Mem} {v:AV} (h:∀id∈Js v,Q8 m m2 id):Jq m2 v=Jq m v:=by
 cases v<;>try rfl
 case row id e n =>
  have ha:=h id (by simp [Js])
  unfold Jq
  simp only
  cases hr:m.row id with
  |none=>rw [ha.rowNone hr]
  |some a =>
   obtain ⟨e',xs,t,st⟩:=a
   obtain ⟨st',h2,hs⟩:=ha.row hr
   rw [h2]
   cases st<;>cases st'<;>simp_all
theorem zad {m m2:Mem}:∀{cs:List AV},(∀id∈cs.flatMap Js,Q8 m m2 id)→cs.map (Jq m2)=cs.map (Jq m)
 |[],_=>rfl
 |c::cs,h=>by
  rw [List.map_cons,List.map_cons,zi5 (v:=c) (fun id hid=>h id (by simp;exact .inl hid)),zad (cs:=cs) (fun id hid=>h id (by simp at hid ⊢;exact .inr hid))]
theorem zi9 {m m2:Mem} {v:AV} (h:∀id∈QU m v,Q8 m m2 id):QY m2 v=QY m v∧Zn m2 v=Zn m v∧QU m2 v=QU m v:=by
 cases v<;>try exact ⟨rfl,rfl,rfl⟩
 case row id e n=>exact ⟨zi5 (v:=.row id e n) (fun i hi=>h i (by simp [QU,Zn,Yi];simpa using hi)),rfl,rfl⟩
 case agg cs =>
  refine ⟨?_,rfl,rfl⟩
  simp only [QY]
  rw [zad (fun i hi=>h i (by simp [QU,Zn,Yi];simpa using hi))]
 case ptr id off =>
  have ha:=h id (by simp [QU])
  cases hb:m.box id with
  |none =>
   have hb2:=ha.boxNone hb
   have e1:Zn m2 (.ptr id off)=Zn m (.ptr id off):=by simp [Zn,Yi,hb,hb2]
   refine ⟨?_,e1,by simp only [QU,e1]⟩
   cases off<;>simp [QY,Jq,hb,hb2]
  |some b =>
   obtain ⟨f,hb2⟩:=ha.box hb
   have e1:Zn m2 (.ptr id off)=Zn m (.ptr id off):=by simp [Zn,Yi,hb,hb2]
   refine ⟨?_,e1,by simp only [QU,e1]⟩
   cases off with
   |zero =>
    simp only [QY,hb,hb2]
    rw [zad (fun i hi=>h i (by simp [QU,Zn,Yi,hb];exact .inr (by simpa using hi)))]
   |succ n=>rfl
theorem zdd {m m2:Mem}:∀{cs:List AV},(∀id∈cs.flatMap (QU m),Q8 m m2 id)→cs.map (QY m2)=cs.map (QY m)∧cs.flatMap (Zn m2)=cs.flatMap (Zn m)∧cs.flatMap (QU m2)=cs.flatMap (QU m)
 |[],_=>⟨rfl,rfl,rfl⟩
 |c::cs,h=>by
  obtain ⟨h1,h2,h3⟩:=zi9 (v:=c) (fun id hid=>h id (by simp;exact .inl hid))
  obtain ⟨k1,k2,k3⟩:=zdd (cs:=cs) (fun id hid=>h id (by simp at hid ⊢;exact .inr hid))
  simp only [List.map_cons,List.flatMap_cons,h1,h2,h3,k1,k2,k3,and_self]
theorem zo1 {m:Mem} {v:AV} (h:∀f a b,v≠.fn f a b):XT m v=QY m v∧Zo m v=Zn m v∧Zq m v=QU m v:=by
 cases v
 case fn f a b=>exact (h f a b rfl).elim
 all_goals exact ⟨rfl,rfl,rfl⟩
theorem zqo {m m2:Mem} {v:AV} (h:∀id∈Zq m v,Q8 m m2 id):XT m2 v=XT m v∧Zo m2 v=Zo m v∧Zq m2 v=Zq m v:=by
 by_cases hf:∀f a b,v≠.fn f a b
 ·obtain ⟨a1,a2,a3⟩:=zo1 (m:=m) hf
  obtain ⟨b1,b2,b3⟩:=zo1 (m:=m2) hf
  rw [a1,a2,a3,b1,b2,b3]
  rw [a3] at h
  exact zi9 h
 cases v
 case fn f a b =>
  obtain ⟨h1,h2,h3⟩:=zdd (cs:=a) (fun id hid=>h id (by simp [Zq];simp at hid;exact .inl hid))
  obtain ⟨k1,k2,k3⟩:=zdd (cs:=b) (fun id hid=>h id (by simp [Zq];simp at hid;exact .inr hid))
  simp only [XT,Zo,Zq,h1,h2,h3,k1,k2,k3,and_self]
 all_goals exact (hf (fun _ _ _ e=>by cases e)).elim
theorem KY {m m2:Mem}:∀{cs:List AV},(∀id∈cs.flatMap (Zq m),Q8 m m2 id)→cs.map (XT m2)=cs.map (XT m)∧cs.flatMap (Zo m2)=cs.flatMap (Zo m)∧cs.flatMap (Zq m2)=cs.flatMap (Zq m)
 |[],_=>⟨rfl,rfl,rfl⟩
 |c::cs,h=>by
  obtain ⟨h1,h2,h3⟩:=zqo (v:=c) (fun id hid=>h id (by simp;exact .inl hid))
  obtain ⟨k1,k2,k3⟩:=KY (cs:=cs) (fun id hid=>h id (by simp at hid ⊢;exact .inr hid))
  simp only [List.map_cons,List.flatMap_cons,h1,h2,h3,k1,k2,k3,and_self]
theorem zc8 {m:Mem} {v:AV} {id:Nat} (h:id∈Zn m v):id∈QU m v:=by
 simp only [QU,List.mem_append]
 exact .inr h
theorem zpO {m:Mem} {v:AV} {id:Nat} (h:id∈Zo m v):id∈Zq m v:=by
 by_cases hf:∀f a b,v≠.fn f a b
 ·obtain ⟨a1,a2,a3⟩:=zo1 (m:=m) hf
  rw [a3]
  rw [a2] at h
  exact zc8 h
 cases v
 case fn f a b =>
  simp only [Zo,Zq,List.mem_append,List.mem_flatMap] at h ⊢
  rcases h with ⟨x,hx,h⟩|⟨x,hx,h⟩
  ·exact .inl ⟨x,hx,zc8 h⟩
  ·exact .inr ⟨x,hx,zc8 h⟩
 all_goals exact (hf (fun _ _ _ e=>by cases e)).elim
inductive Do where
 |nil
 |box (id:Nat) (b:YZ)
 |row (id:Nat) (a:ZF)
 |fix (F G:List Nat)
def Jx (r:Nat→Option ZF):List Nat→(Nat→Option ZF)
 |[]=>r
 |id::F=>Jx (match r id with
  |some a=>upd r id (some (ZQ a))
  |none=>r) F
theorem X0:∀(F:List Nat) (m:Mem),m.fix F={ m with row:=Jx m.row F }
 |[],m=>rfl
 |id::F,m=>by
  simp only [Mem.fix,Jx]
  cases m.row id with
  |none=>exact X0 F m
  |some a=>exact X0 F _
theorem ziF (m:Mem) (id:Nat):fixBox m id=m.fixB [id]:=by
 unfold fixBox Mem.fixB fixBs
 cases m.box id<;>rfl
theorem zjf {r:Nat→Option ZF} {id:Nat} {a:Option ZF}:∀{F:List Nat},id∉F→Jx (upd r id a) F=upd (Jx r F) id a:=by
 intro F
 induction F generalizing r with
 |nil=>intro _;rfl
 |cons j F ih =>
  intro h
  have hj:j≠id:=fun e=>h (by rw [e];exact List.mem_cons_self)
  have hF:id∉F:=fun e=>h (List.mem_cons_of_mem _ e)
  simp only [Jx,zC r a hj]
  cases r j with
  |none=>exact ih hF
  |some c =>
   simp only
   rw [zep _ _ _ (Ne.symm hj)]
   exact ih hF
theorem zmJ {r:Nat→Option YZ} {id:Nat} {a:Option YZ}:∀{F:List Nat},id∉F→fixBs (upd r id a) F=upd (fixBs r F) id a:=by
 intro F
 induction F generalizing r with
 |nil=>intro _;rfl
 |cons j F ih =>
  intro h
  have hj:j≠id:=fun e=>h (by rw [e];exact List.mem_cons_self)
  have hF:id∉F:=fun e=>h (List.mem_cons_of_mem _ e)
  simp only [fixBs,zC r a hj]
  cases r j with
  |none=>exact ih hF
  |some c =>
   simp only
   rw [zep _ _ _ (Ne.symm hj)]
   exact ih hF
theorem zl5 (a:ZF):ZQ (ZQ a)=ZQ a:=by
 obtain ⟨e,xs,t,st⟩:=a
 cases st<;>rfl
theorem zgz:∀(F:List Nat) (r:Nat→Option ZF) (i:Nat),Jx r F i=if i∈F then (r i).map ZQ else r i
 |[],r,i=>by simp [Jx]
 |j::F,r,i=>by
  simp only [Jx]
  rw [zgz F]
  by_cases e:i=j
  ·subst e
   cases hr:r i with
   |none=>simp [hr]
   |some a =>
    simp only [zU]
    by_cases h:i∈F<;>simp [h,zl5]
  ·have h1:(match r j with
     |some a=>upd r j (some (ZQ a))
     |none=>r) i=r i:=by
    cases r j with
    |none=>rfl
    |some a=>exact zC _ _ e
   rw [h1]
   by_cases h:i∈F<;>simp [h,e]
theorem zle:∀(F:List Nat) (r:Nat→Option YZ) (i:Nat),fixBs r F i=if i∈F then (r i).map (fun b=>⟨b.cs,true⟩) else r i
 |[],r,i=>by simp [fixBs]
 |j::F,r,i=>by
  simp only [fixBs]
  rw [zle F]
  by_cases e:i=j
  ·subst e
   cases hr:r i with
   |none=>simp [hr]
   |some a =>
    simp only [zU]
    by_cases h:i∈F<;>simp [h]
  ·cases hr:r j with
   |none =>
    simp only
    by_cases h:i∈F<;>simp [h,e]
   |some a =>
    simp only
    rw [zC _ _ e]
    by_cases h:i∈F<;>simp [h,e]
theorem zg3 (id:Nat) (F:List Nat) (r:Nat→Option ZF):(Jx r F id).map ZF.view=(r id).map ZF.view:=by
 rw [zgz]
 split
 ·cases r id with
  |none=>rfl
  |some a=>obtain ⟨e,xs,t,st⟩:=a;cases st<;>rfl
 ·rfl
theorem zqi (id:Nat) (F:List Nat) (r:Nat→Option YZ):(fixBs r F id).map YZ.cs=(r id).map YZ.cs:=by
 rw [zle]
 split
 ·cases r id<;>rfl
 ·rfl
def Do.ap:Do→Mem→Mem
 |.nil,m=>m
 |.box id b,m=>{ m with box:=upd m.box id (some b) }
 |.row id a,m=>{ m with row:=upd m.row id (some a) }
 |.fix F G,m=>{ m with row:=Jx m.row F,box:=fixBs m.box G }
theorem zm2 (F G:List Nat) (m:Mem):(m.fix F).fixB G=(Do.fix F G).ap m:=by rw [X0];rfl
theorem zyL (a:Do) (m:Mem):(a.ap m).ep=m.ep:=by
 cases a<;>rfl
theorem zvy (a:Do) (m:Mem):(a.ap m).map=m.map:=by
 cases a<;>rfl
def Do.id?:Do→Option Nat
 |.box id _=>some id
 |.row id _=>some id
 |_=>none
def Do.fixes:Do→Bool
 |.fix _ _=>true
 |_=>false
theorem zhB (a:Do) (m:Mem) (id:Nat) (h:a.id?≠some id):Q8 m (a.ap m) id:=by
 cases a
 case nil=>exact ⟨rfl,rfl⟩
 case box i b=>exact ⟨by simp only [Do.ap];rw [zC _ _ (fun e=>h (by rw [e];rfl))],rfl⟩
 case row i b=>exact ⟨rfl,by simp only [Do.ap];rw [zC _ _ (fun e=>h (by rw [e];rfl))]⟩
 case fix F G=>exact ⟨(zqi id G m.box).symm,(zg3 id F m.row).symm⟩
theorem zz2 {a:Do} {m:Mem} {id:Nat} (h:m.new id=true) (hd:a.id?≠some id):(a.ap m).new id=true:=by
 have h1:=zhu h
 have h2:=zfC h
 have hal:=zhB a m id hd
 have h3:(a.ap m).map=m.map:=by cases a<;>rfl
 unfold Mem.new at h ⊢
 rw [hal.boxNone h1,hal.rowNone h2,h3]
 rw [h1,h2] at h
 exact h
theorem zsL {a:Do} {m:Mem} {id:Nat} (h:(a.ap m).new id=true):m.new id=true∧a.id?≠some id:=by
 have h1:=zhu h
 have h2:=zfC h
 have hd:a.id?≠some id:=by
  cases a<;>simp only [Do.id?,ne_eq,Option.some.injEq]<;>try (intro e;cases e)
  case box=>simp only [Do.ap,zU] at h1;cases h1
  case row=>simp only [Do.ap,zU] at h2;cases h2
 have hal:=(zhB a m id hd).symm
 have h3:(a.ap m).map=m.map:=by cases a<;>rfl
 refine ⟨?_,hd⟩
 unfold Mem.new at h ⊢
 rw [hal.boxNone h1,hal.rowNone h2,←h3]
 rw [h1,h2] at h
 exact h
def Do.apart:Do→Do→Prop
 |.box i _,.box j _=>i≠j
 |.row i _,.row j _=>i≠j
 |.fix F _,.row j _=>j∉F
 |.row j _,.fix F _=>j∉F
 |.fix _ G,.box j _=>j∉G
 |.box j _,.fix _ G=>j∉G
 |_,_=>True
theorem zxf {a b:Do} (h:a.apart b) (m:Mem):a.ap (b.ap m)=b.ap (a.ap m):=by
 cases a<;>cases b<;>try rfl
 case box.box i x j y=>simp only [Do.ap];rw [zep _ _ _ (Ne.symm h)]
 case row.row i x j y=>simp only [Do.ap];rw [zep _ _ _ (Ne.symm h)]
 case fix.row F G j y=>simp only [Do.ap];rw [zjf h]
 case row.fix j y F G=>simp only [Do.ap];rw [zjf h]
 case fix.box F G j y=>simp only [Do.ap];rw [zmJ h]
 case box.fix j y F G=>simp only [Do.ap];rw [zmJ h]
 case fix.fix F G F' G' =>
  simp only [Do.ap]
  congr 1
  ·funext i
   simp only [zle]
   by_cases h1:i∈G<;>by_cases h2:i∈G'<;>simp [h1,h2]
  ·funext i
   simp only [zgz]
   by_cases h1:i∈F<;>by_cases h2:i∈F'<;>simp [h1,h2]
end Go.Proofs.YtpkkcjmblocjdaaGreat.AM
end
section
namespace Go.Proofs.YtpkkcjmblocjdaaGreat.AM
open Go.RowKit
def zmY (cl:∀ρ,Jz ρ):Prop:=∀(fid:Nat) (args:List AV) (m:Mem) (v:AV) (m':Mem),Nat.blt fid 1000000=true→cl (AV×Mem) fid args m zM=some (v,m') →
 ∃F G:List Nat,m'=(m.fix F).fixB G∧(∀id∈F,id∈args.flatMap (Zq m))∧(∀id∈G,id∈args.flatMap (Zq m))∧∀m2,(∀id∈args.flatMap (Zq m),Q8 m m2 id)→cl (AV×Mem) fid args m2 zM=some (v,(m2.fix F).fixB G)
structure zkq (cl:∀ρ,Jz ρ) (tb:Tb) (o:Oper) (ev:Operand→AV) (m:Mem) (v:AV) (a:Do):Prop where
 id:∀i,a.id?=some i→∃d,o.dst=some d∧i=m.id d∧m.new i=true
 two:a.id?≠none→cls tb o=2
 fix:a.fixes=true→cls tb o=3
 fixed:∀F G,a=.fix F G→(∀i∈F,XD m o i=true)∧∀i∈G,XD m o i=true
 replay:∀m2:Mem,m2.ep=m.ep∧m2.map=m.map→(∀i,XD m o i=true→Q8 m m2 i)→(∀i,a.id?=some i→m2.new i=true)→opD cl tb o ev m2=some (v,a.ap m2)
theorem QK {m m2:Mem} {o:Oper} {i:Nat} (h:m2.ep=m.ep):XD m2 o i=XD m o i:=by unfold XD;rw [h]
theorem zvI {m:Mem} {o:Oper} {l:List Nat} (h:l.all (XD m o)=true):∀i∈l,XD m o i=true:=fun i hi=>List.all_eq_true.1 h i hi
theorem zsg {o:Oper} {m m2:Mem} {tb:Tb} {t:Nat} {a v:AV} {m':Mem} (h:Kc tb o m zM t a=some (v,m')) (hep:m2.ep=m.ep) (hal:∀i,XD m o i=true→Q8 m m2 i):m'=m∧Kc tb o m2 zM t a=some (v,m2):=by
 unfold Kc at h
 split at h
 ·rename_i id off
  split at h
  ·rename_i b hb
   split at h
   ·rename_i x hx
    obtain ⟨hok,h⟩:=zm h
    obtain ⟨rfl,rfl⟩:=zn h
    obtain ⟨f,hb2⟩:=(hal id hok).box hb
    refine ⟨rfl,?_⟩
    simp only [Kc,hb2,hx,QK (o:=o) (i:=id) hep,hok]
    rfl
   ·cases h
  ·cases h
 ·rename_i cs
  split at h
  ·rename_i x hx
   obtain ⟨rfl,rfl⟩:=zn h
   refine ⟨rfl,?_⟩
   simp only [Kc,hx]
   rfl
  ·cases h
 ·rename_i id e0 i off
  split at h
  ·cases h
  ·rename_i e xs et st hd hrow
   split at h
   ·rename_i x hx
    obtain ⟨hok,h⟩:=zm h
    obtain ⟨rfl,rfl⟩:=zn h
    simp only [Bool.and_eq_true] at hok
    obtain ⟨st',hr2,hs⟩:=(hal id hok.2).row hrow
    refine ⟨rfl,?_⟩
    have hst:st'≠.dead:=fun e=>hd (hs.1 e)
    cases st' with
    |dead=>exact absurd rfl hst
    |own =>
     simp only [Kc,hr2,hx,QK (o:=o) (i:=id) hep,hok.2,hok.1,Bool.and_self]
     rfl
    |fixed =>
     simp only [Kc,hr2,hx,QK (o:=o) (i:=id) hep,hok.2,hok.1,Bool.and_self]
     rfl
   ·cases h
  ·cases h
 ·cases h
theorem zyD {κ ν:Kd} {es:List (κ.T×ν.T)} {key:κ.T} {ok:Bool} {m m':Mem} {v:AV} (h:lkK m zM κ ν es key ok=some (v,m')):m'=m∧∀m2,lkK m2 zM κ ν es key ok=some (v,m2):=by
 unfold lkK at *
 cases ok<;>simp only [cond] at h ⊢<;>obtain ⟨rfl,rfl⟩:=zn h<;>exact ⟨rfl,fun _=>rfl⟩
theorem zmx {o:Oper} {m m2:Mem} {tb:Tb} {t:Nat} {x i v:AV} {ok:Bool} {m':Mem} (h:JZ tb o m zM t x i ok=some (v,m')) (hep:m2.ep=m.ep) (hmp:m2.map=m.map):m'=m∧JZ tb o m2 zM t x i ok=some (v,m2):=by
 unfold JZ at h
 split at h
 ·rename_i id _ _ hd
  split at h
  ·cases h
  ·rename_i κ ν es kd cur κ' ν' hno hm hk
   split at h
   ·rename_i key hkey
    obtain ⟨hc,h⟩:=zm h
    obtain ⟨rfl,hr⟩:=zyD h
    refine ⟨rfl,?_⟩
    have hkd:kd≠.iter:=by
     rintro rfl
     first
      |exact hno _ _ _ _ hm
      |exact hno hm
      |simp_all
    cases kd with
    |iter=>exact absurd rfl hkd
    |own =>
     simp only [JZ,hd,hmp,hm,hk,hkey,QK (o:=o) (i:=id) hep,hc,cond]
     exact hr m2
    |froz =>
     simp only [JZ,hd,hmp,hm,hk,hkey,QK (o:=o) (i:=id) hep,hc,cond]
     exact hr m2
   ·cases h
  ·cases h
 ·rename_i hd
  split at h
  ·rename_i hk
   split at h
   ·rename_i key hkey
    obtain ⟨hc,h⟩:=zm h
    obtain ⟨rfl,hr⟩:=zyD h
    refine ⟨rfl,?_⟩
    simp only [JZ,hd,hk,hkey,hc,cond]
    exact hr m2
   ·cases h
  ·cases h
 ·cases h
theorem zqC {o:Oper} {m:Mem} {cs:List AV} {v:AV} {m':Mem} (h:zcr o m zM cs=some (v,m')) :
  ∃d,o.dst=some d∧m.new (m.id d)=true∧m'=(Do.box (m.id d) ⟨cs,false⟩).ap m∧∀m2:Mem,m2.ep=m.ep→m2.new (m.id d)=true→zcr o m2 zM cs=some (v,(Do.box (m.id d) ⟨cs,false⟩).ap m2):=by
 unfold zcr at h
 split at h
 ·rename_i d hd
  obtain ⟨hn,h⟩:=zm h
  obtain ⟨rfl,rfl⟩:=zn h
  refine ⟨d,hd,hn,rfl,fun m2 hep hn2=>?_⟩
  have hid:m2.id d=m.id d:=by unfold Mem.id;rw [hep]
  simp only [zcr,hd,hid,hn2]
  rfl
 ·cases h
theorem zc0 {o:Oper} {m:Mem} {e:Kd} {t:Nat} {xs:List e.T} {v:AV} {m':Mem} (h:K5 o zM e t xs m=some (v,m')) :
  ∃d,o.dst=some d∧m.new (m.id d)=true∧m'=(Do.row (m.id d) ⟨e,xs,t,.own⟩).ap m∧∀m2:Mem,m2.ep=m.ep→m2.new (m.id d)=true→K5 o zM e t xs m2=some (v,(Do.row (m.id d) ⟨e,xs,t,.own⟩).ap m2):=by
 unfold K5 at h
 split at h
 ·rename_i d hd
  obtain ⟨hn,h⟩:=zm h
  obtain ⟨rfl,rfl⟩:=zn h
  refine ⟨d,hd,hn,rfl,fun m2 hep hn2=>?_⟩
  have hid:m2.id d=m.id d:=by unfold Mem.id;rw [hep]
  simp only [K5,hd,hid,hn2]
  rfl
 ·cases h
section
variable {cl:∀ρ,Jz ρ} (hcl:zdL cl) (hcc:zmY cl) {tb:Tb}
theorem zkq.nil {o:Oper} {ev:Operand→AV} {m:Mem} {v:AV} (h:∀m2:Mem,m2.ep=m.ep∧m2.map=m.map→(∀i,XD m o i=true→Q8 m m2 i)→opD cl tb o ev m2=some (v,m2)):zkq cl tb o ev m v .nil :=
 ⟨fun _ h=>(by cases h),fun h=>absurd rfl h,fun h=>(by cases h),fun F G h=>(by cases h),fun m2 hep hal _=>h m2 hep hal⟩
include hcl hcc in
theorem zrS {o:Oper} {ev:Operand→AV} {m:Mem} {v:AV} {m':Mem} (hc:cls tb o≠4) (h:opD cl tb o ev m=some (v,m')):∃a,m'=a.ap m∧zkq cl tb o ev m v a:=by
 by_cases h0:cls tb o=0
 ·obtain ⟨rfl,hall⟩:=zze hcl h0 h
  exact ⟨.nil,rfl,zkq.nil fun m2 _ _=>hall m2⟩
 have hbox:∀(cs:List AV),cls tb o=2→(∀m,opD cl tb o ev m=zcr o m zM cs)→∃a,m'=a.ap m∧zkq cl tb o ev m v a:=by
  intro cs h2 hop
  rw [hop] at h
  obtain ⟨d,hd,hn,rfl,hrep⟩:=zqC h
  refine ⟨_,rfl,fun i hi=>?_,fun _=>h2,fun hf=>(by cases hf),fun F G hF=>(by cases hF),fun m2 ⟨hep,hmp⟩ _ hnew=>?_⟩
  ·injection hi with hi
   subst hi
   exact ⟨d,hd,rfl,hn⟩
  ·rw [hop]
   exact hrep m2 hep (hnew _ rfl)
 have hrow:∀(e:Kd) (t:Nat) (xs:List e.T),cls tb o=2→(∀m,opD cl tb o ev m=K5 o zM e t xs m)→∃a,m'=a.ap m∧zkq cl tb o ev m v a:=by
  intro e t xs h2 hop
  rw [hop] at h
  obtain ⟨d,hd,hn,rfl,hrep⟩:=zc0 h
  refine ⟨_,rfl,fun i hi=>?_,fun _=>h2,fun hf=>(by cases hf),fun F G hF=>(by cases hF),fun m2 ⟨hep,hmp⟩ _ hnew=>?_⟩
  ·injection hi with hi
   subst hi
   exact ⟨d,hd,rfl,hn⟩
  ·rw [hop]
   exact hrep m2 hep (hnew _ rfl)
 have hnone:(∀m,opD cl tb o ev m=none)→∃a,m'=a.ap m∧zkq cl tb o ev m v a:=fun hn=>by rw [hn] at h;cases h
 cases ho:o.op
 case load t a =>
  have hop:∀m,opD cl tb o ev m=Kc tb o m zM t (ev a):=fun m=>by simp only [opD,opK,ho]
  rw [hop] at h
  have:=(zsg h rfl (fun _ _=>⟨rfl,rfl⟩)).1
  subst this
  exact ⟨.nil,rfl,zkq.nil fun m2 ⟨hep,hmp⟩ hal=>by rw [hop];exact (zsg h hep hal).2⟩
 case lookup t x i ok =>
  have hop:∀m,opD cl tb o ev m=JZ tb o m zM t (ev x) (ev i) ok:=fun m=>by simp only [opD,opK,ho]
  rw [hop] at h
  have:=(zmx h rfl rfl).1
  subst this
  exact ⟨.nil,rfl,zkq.nil fun m2 ⟨hep,hmp⟩ hal=>by rw [hop];exact (zmx h hep hmp).2⟩
 case alloc t =>
  have h2:cls tb o=2:=by simp only [cls,ho]
  cases hok:(tb.at t).d.ok
  ·exact hnone fun m=>by simp only [opD,opK,ho,hok];rfl
  ·exact hbox (tb.at t).zero h2 fun m=>by simp only [opD,opK,ho,hok];rfl
 case box t x =>
  have h2:cls tb o=2:=by simp only [cls,ho]
  cases hk:zgw (ev x) with
  |none=>exact hnone fun m=>by simp only [opD,opK,ho,zoK,hk]
  |some cs=>exact hbox cs h2 fun m=>by simp only [opD,opK,ho,zoK,hk]
 case makeSlice t l c =>
  have h2:cls tb o=2:=by simp only [cls,ho]
  have hop:∀m,opD cl tb o ev m=zhX tb o m zM t (znn l c) (ev l):=fun m=>by simp only [opD,opK,ho]
  rw [hop] at h
  unfold zhX at h
  split at h
  ·rename_i e n hd hn
   split at h
   ·rename_i κ hκ
    obtain ⟨hs,h⟩:=zm h
    obtain ⟨g1,h⟩:=jb h
    obtain ⟨g2,h⟩:=jb h
    obtain ⟨d,hdst,hnew,rfl,hrep⟩:=zc0 h
    refine ⟨_,rfl,fun i hi=>?_,fun _=>h2,fun hf=>(by cases hf),fun F G hF=>(by cases hF),fun m2 ⟨hep,hmp⟩ _ hnw=>?_⟩
    ·injection hi with hi
     subst hi
     exact ⟨d,hdst,rfl,hnew⟩
    ·rw [hop]
     simp only [zhX,hd,hn,hκ,hs,gd,g1,g2,cond]
     exact hrep m2 hep (hnw _ rfl)
   ·cases h
  ·cases h
 case buildSlice t n ps =>
  have hop:∀m,opD cl tb o ev m=Qy tb o m zM t n (ps.toList.map fun p=>(p.1,ev p.2)):=fun m=>by simp only [opD,opK,ho]
  have hcls:∀e κ,(tb.at t).d=.sl e→(tb.at e).kd=some κ→κ.flat=true:=by
   intro e κ hd hκ
   simp only [cls,ho,hd,hκ] at hc
   cases hf:κ.flat
   ·rw [hf] at hc;exact absurd rfl hc
   ·rfl
  rw [hop] at h
  unfold Qy at h
  split at h
  ·rename_i e hd
   split at h
   ·rename_i κ hκ
    have hf:=hcls e κ hd hκ
    obtain ⟨hs,h⟩:=zm h
    rw [hf] at h
    simp only [cond] at h
    split at h
    ·rename_i xs hx
     obtain ⟨d,hdst,hnew,rfl,hrep⟩:=zc0 h
     have h2:cls tb o=2:=by simp only [cls,ho,hd,hκ,hf,cond]
     refine ⟨_,rfl,fun i hi=>?_,fun _=>h2,fun hf=>(by cases hf),fun F G hF=>(by cases hF),fun m2 ⟨hep,hmp⟩ _ hnw=>?_⟩
     ·injection hi with hi
      subst hi
      exact ⟨d,hdst,rfl,hnew⟩
     ·rw [hop]
      simp only [Qy,hd,hκ,hs,hf,cond,hx]
      exact hrep m2 hep (hnw _ rfl)
    ·cases h
   ·cases h
  ·cases h
 case slice t x lo hi mx =>
  cases mx with
  |some z=>exact hnone fun m=>by simp only [opD,opK,ho]
  |none =>
   have h3:cls tb o=3:=by simp only [cls,ho]
   have hop:∀m,opD cl tb o ev m=QA tb o m zM t (ev x) (lo.map ev) (hi.map ev):=fun m=>by simp only [opD,opK,ho]
   rw [hop] at h
   unfold QA at h
   split at h
   ·rename_i lo' hi' hlo hhi
    have gdk:∀{n:Nat} {v' v'':AV} {m1 m1':Mem},XE lo' hi' n (zM v' m1)=some (v'',m1')→v''=v'∧m1'=m1∧∀m2,XE lo' hi' n (zM v' m2)=some (v',m2):=by
     intro n v' v'' m1 m1' hg
     have key:∀m2,XE lo' hi' n (zM v' m2)=(XE lo' hi' n (some ())).bind fun _=>zM v' m2:=fun m2=>(znx lo' hi' n (some ()) _).symm ▸ rfl
     rw [key] at hg
     cases hq:XE lo' hi' n (some ()) with
     |none=>rw [hq] at hg;cases hg
     |some u =>
      rw [hq] at hg
      obtain ⟨rfl,rfl⟩:=zn hg
      exact ⟨rfl,rfl,fun m2=>by rw [key,hq];rfl⟩
    split at h
    ·rename_i et e xs hd hx
     obtain ⟨hsz,h⟩:=zm h
     obtain ⟨rfl,rfl,hg⟩:=gdk h
     refine ⟨.nil,rfl,zkq.nil fun m2 _ _=>?_⟩
     rw [hop]
     simp only [QA,hlo,hhi,hd,hx,hsz,cond]
     exact hg m2
    ·rename_i et id e n hd hx
     split at h
     ·cases h
     ·rename_i e' xs tt st hdead hr
      obtain ⟨hok,h⟩:=zm h
      obtain ⟨rfl,rfl,hg⟩:=gdk h
      simp only [Bool.and_eq_true] at hok
      refine ⟨.fix [id] [],X0 _ _,fun i hi=>(by cases hi),fun hh=>absurd rfl hh,fun _=>h3,fun F G hF=>?_,fun m2 ⟨hep,hmp⟩ hal _=>?_⟩
      ·injection hF with hF hG
       subst hF
       subst hG
       refine ⟨fun i hi=>?_,fun i hi=>(by cases hi)⟩
       obtain rfl:i=id:=by simpa using hi
       exact hok.1
      ·obtain ⟨st',hr2,hs⟩:=(hal id hok.1).row hr
       have hst:st'≠.dead:=fun e=>hdead (hs.1 e)
       rw [hop]
       have:=hg (m2.fix [id])
       rw [X0] at this
       cases st' with
       |dead=>exact absurd rfl hst
       |own =>
        simp only [QA,hlo,hhi,hd,hx,hr2,QK (o:=o) (i:=id) hep,hok.1,hok.2,Bool.and_self,cond]
        rw [X0]
        exact this
       |fixed =>
        simp only [QA,hlo,hhi,hd,hx,hr2,QK (o:=o) (i:=id) hep,hok.1,hok.2,Bool.and_self,cond]
        rw [X0]
        exact this
     ·cases h
    ·rename_i et hd hx
     obtain ⟨hok,h⟩:=zm h
     obtain ⟨rfl,rfl,hg⟩:=gdk h
     refine ⟨.nil,rfl,zkq.nil fun m2 _ _=>?_⟩
     rw [hop]
     simp only [QA,hlo,hhi,hd,hx,hok,cond]
     exact hg m2
    ·rename_i n e id hd hx
     split at h
     ·rename_i κ b hκ hb
      split at h
      ·rename_i xs hxs
       obtain ⟨hok,h⟩:=zm h
       obtain ⟨rfl,rfl⟩:=zn h
       simp only [Bool.and_eq_true] at hok
       refine ⟨.fix [] [id],ziF _ _,fun i hi=>(by cases hi),fun hh=>absurd rfl hh,fun _=>h3,fun F G hF=>?_,fun m2 ⟨hep,hmp⟩ hal _=>?_⟩
       ·injection hF with hF hG
        subst hF
        subst hG
        refine ⟨fun i hi=>(by cases hi),fun i hi=>?_⟩
        obtain rfl:i=id:=by simpa using hi
        exact hok.2
       ·obtain ⟨f,hb2⟩:=(hal id hok.2).box hb
        have hr0:(Zn m (AV.ptr id 0))=[]:=List.eq_nil_of_length_eq_zero (Nat.eq_of_beq_eq_true (by rw [←hx];exact hok.1))
        have hr1:b.cs.flatMap Js=[]:=by simpa [Zn,Yi,hb] using hr0
        rw [hop]
        have hxs2:QA.decAll κ n (b.cs.map (Jq m2))=some xs:=by
         rw [zad (m:=m) (m2:=m2) (fun i hi=>by rw [hr1] at hi;cases hi)]
         exact hxs
        have hr2:Nat.beq (Zn m2 (AV.ptr id 0)).length 0=true:=by simp [Zn,Yi,hb2,hr1]
        simp only [QA,hlo,hhi,hd,hx,hκ,hb2,hxs2,hr2,QK (o:=o) (i:=id) hep,hok.2,Bool.and_self,cond]
        rw [ziF]
        rfl
      ·cases h
     ·cases h
    ·cases h
   ·cases h
 case call c =>
  cases hcc':c.callee with
  |builtin b =>
   exfalso
   simp only [cls,ho,hcc'] at h0 hc
   cases b<;>first|exact h0 rfl|exact hc rfl
  |invoke r n =>
   exfalso
   simp only [cls,ho,hcc'] at hc
   exact hc rfl
  |value f =>
   have hop:∀m,opD cl tb o ev m=zcc (cl _) tb c ev m o zM:=fun m=>by simp only [opD,opK,ho]
   cases hcl':zvg tb f with
   |some t =>
    have h2:cls tb o=2:=by simp only [cls,ho,hcc',hcl']
    have hop2:∀m,opD cl tb o ev m=zfo tb o m zM t (c.args.toList.map ev):=fun m=>by rw [hop];simp only [zcc,hcc',hcl']
    rw [hop2] at h
    unfold zfo at h
    split at h
    ·rename_i e e' xs hk ha
     split at h
     ·rename_i ys hys
      obtain ⟨g0,h⟩:=zm h
      obtain ⟨g1,h⟩:=jb h
      obtain ⟨g2,h⟩:=jb h
      obtain ⟨d,hdst,hnew,rfl,hrep⟩:=zc0 h
      refine ⟨_,rfl,fun i hi=>?_,fun _=>h2,fun hf=>(by cases hf),fun F G hF=>(by cases hF),fun m2 ⟨hep,hmp⟩ _ hnw=>?_⟩
      ·injection hi with hi
       subst hi
       exact ⟨d,hdst,rfl,hnew⟩
      ·rw [hop2]
       simp only [zfo,hk,ha,hys,gd,g0,g1,g2,cond]
       exact hrep m2 hep (hnw _ rfl)
     ·cases h
    ·cases h
   |none =>
   have hi:zs7 tb f=false:=by
    cases hi:zs7 tb f with
    |false=>rfl
    |true=>exact absurd (show cls tb o=4 by simp only [cls,ho,hcc',hcl',hi,cond]) hc
   have h3:cls tb o=3:=by simp only [cls,ho,hcc',hcl',hi,cond]
   rw [hop] at h
   simp only [zcc,hcc',hcl',hi,cond] at h
   split at h
   ·rename_i g a b hf
    obtain ⟨hok,h⟩:=zm (b:=Nat.blt g 1000000&&((a++c.args.toList.map ev++b).flatMap (Zq m)).all (XD m o)) h
    rw [Bool.and_eq_true] at hok
    obtain ⟨hlt,hok⟩:=hok
    obtain ⟨F,G,rfl,hF,hG,hrep⟩:=hcc g _ m v m' hlt h
    have hok':=zvI hok
    refine ⟨.fix F G,zm2 _ _ _,fun i hi=>(by cases hi),fun hh=>absurd rfl hh,fun _=>h3,fun F' G' hF'=>?_,fun m2 ⟨hep,hmp⟩ hal _=>?_⟩
    ·injection hF' with hF' hG'
     subst hF'
     subst hG'
     exact ⟨fun i hi=>hok' i (hF i hi),fun i hi=>hok' i (hG i hi)⟩
    ·have hal':∀id∈(a++c.args.toList.map ev++b).flatMap (Zq m),Q8 m m2 id:=fun id hid=>hal id (hok' id hid)
     have hrd:=(KY hal').2.2
     rw [hop]
     simp only [zcc,hcc',hcl',hf,hi,hlt,Bool.true_and]
     rw [hrd]
     have hok2:((a++c.args.toList.map ev++b).flatMap (Zq m)).all (XD m2 o)=true:=by
      rw [List.all_eq_true]
      intro i hi
      rw [QK hep]
      exact hok' i hi
     rw [hok2]
     simp only [cond]
     rw [hrep m2 hal',zm2]
   ·cases h
 all_goals (exfalso;first|(apply h0;simp only [cls,ho];done)|(apply hc;simp only [cls,ho];done))
end
end Go.Proofs.YtpkkcjmblocjdaaGreat.AM
end
section
namespace Go.Proofs.YtpkkcjmblocjdaaGreat.AM
open Go.RowKit
theorem zat {κ:Kd}:∀(xs:List κ.T) (i j:Nat) (x:κ.T),xs[i]?=some x→j<κ.size→(xs.flatMap κ.vs)[i*κ.size+j]?=(κ.vs x)[j]?
 |[],i,j,x,h,_=>by simp at h
 |y::xs,0,j,x,h,hj=>by
  obtain rfl:y=x:=by simpa using h
  rw [List.flatMap_cons,Nat.zero_mul,Nat.zero_add,List.getElem?_append_left (by rw [XW];exact hj)]
 |y::xs,i+1,j,x,h,hj=>by
  have ih:=zat xs i j x (by simpa using h) hj
  rw [List.flatMap_cons,List.getElem?_append_right (by rw [XW,Nat.succ_mul];omega),XW,Nat.succ_mul]
  rw [show i*κ.size+κ.size+j-κ.size=i*κ.size+j by omega]
  exact ih
theorem XK {κ:Kd}:∀(xs:List κ.T),(xs.flatMap κ.vs).length=xs.length*κ.size
 |[]=>by simp
 |x::xs=>by rw [List.flatMap_cons,List.length_append,XW,XK xs,List.length_cons,Nat.succ_mul];omega
theorem zfM {w:World} {R:Nat→Prop} {κ:Kd} (hf:κ.lfs.all Kd.isOne=true) (xs:List κ.T):za9 w R κ xs (xs.flatMap κ.vs):=by
 intro i x hx
 refine ⟨κ.vs x,zia hf,fun j u hj=>?_⟩
 have hjs:j<κ.size:=by rw [←XW κ x];exact (List.getElem?_eq_some_iff.1 hj).1
 rw [zat xs i j x hx hjs]
 exact hj
def zkF (P:Program) (cl:∀ρ,Jz ρ):Prop:=∀(fid:Nat) (args:List AV) (m:Mem) (v:AV) (m':Mem),cl (AV×Mem) fid args m zM=some (v,m') →
 ∀(B:Nat) (w0:World) (Γ:Gh) (us:List Value),zt B w0 Γ m→zq Γ args us→zaX P (rf fid) us Γ.w fun u w'=>∃Γ',Γ'.w=w'∧Ext B Γ Γ'∧zt B w0 Γ' m'∧zf Γ' v u
theorem zuU {Γ:Gh} {s:St} {a:Act} (h:∀i,zf Γ (s.tm i) (a.tmps.getD i undef)):∀x,zf Γ (s.ev x) (a.eval x):=by
 intro x
 cases x with
 |tmp t=>exact h t
 |const v =>
  simp only [St.ev,Act.eval]
  unfold avC
  split<;>simp only [zf]
 |global g=>simp only [St.ev,zf]
 |func f=>simp only [St.ev,Act.eval,zf,zq];exact ⟨[],[],rfl,rfl,rfl⟩
section
variable {P:Program} {tb:Tb} (HT:Yz P tb) {cl:∀ρ,Jz ρ} (hcl:zdL cl) (hok:zkF P cl) {B:Nat} {w0:World} {Γ:Gh} {m:Mem} (M:zt B w0 Γ m)
theorem jL {o:Oper} {a:Act} {w w':World} {K:Act→World→Prop} {Q:Exit→Act→World→Prop} {u:Value} (h:(execOp a.eval o).run P w=.ok (.value u) w') (hK:K (a.put o.dst u) w'):o.wp P a w K Q:=by
 unfold Oper.wp
 rw [h]
 exact hK
theorem zrT {o:Oper} {a:Act} {w w':World} {K:Act→World→Prop} {Q:Exit→Act→World→Prop} (h:(execOp a.eval o).run P w=.ok .skip w') (hK:K (a.put o.dst undef) w'):o.wp P a w K Q:=by
 unfold Oper.wp
 rw [h]
 exact hK
omit HT in
theorem zuj {ats:Array TypeId} {t:TypeId} {ty:TypeId} {as:Array Value} (h:ats[0]?=some t):Builtin.len_ ats ty as=Builtin.len_ #[t] ty as:=by
 unfold Builtin.len_
 rw [h]
 rfl
include HT in
theorem zzu {t:Nat} {x:AV} {vx:Value} {n:Int} {ty:TypeId} (h:zy4 tb t x=some n) (hx:zf Γ x vx) (w:World):(Builtin.len_ #[t] ty #[vx]).run P w=.ok (.int .i64 n) w:=by
 unfold zy4 at h
 split at h
 ·rename_i e0 e xs hd
  injection h with h
  subst h
  have hdesc:=(jW HT (t:=t) (by rw [hd];rfl)).desc
  rw [hd] at hdesc
  simp only [zf,qd] at hx
  obtain ⟨A,c,hv,_⟩:=hx
  injection hv with hv
  subst hv
  simp [Builtin.len_,run_underlying (J8 hdesc),goInt,ofN,Yc]
 ·rename_i e0 id e m hd
  injection h with h
  subst h
  have hdesc:=(jW HT (t:=t) (by rw [hd];rfl)).desc
  rw [hd] at hdesc
  simp only [zf] at hx
  rcases hx.2 with ⟨rfl,rfl⟩|⟨g,c,rfl⟩
  ·simp [Builtin.len_,run_underlying (J8 hdesc),goInt,ofN]
  ·simp [Builtin.len_,run_underlying (J8 hdesc),goInt,ofN]
 ·rename_i e0 hd
  injection h with h
  subst h
  have hdesc:=(jW HT (t:=t) (by rw [hd];rfl)).desc
  rw [hd] at hdesc
  simp only [zf] at hx
  subst hx
  simp [Builtin.len_,run_underlying (J8 hdesc),goInt]
 ·rename_i q e0 hd
  injection h with h
  subst h
  have hdesc:=(jW HT (t:=t) (by rw [hd];rfl)).desc
  rw [hd] at hdesc
  simp [Builtin.len_,run_underlying (zaO hdesc),goInt]
 ·rename_i b hd
  injection h with h
  subst h
  have hdesc:=(jW HT (t:=t) (by rw [hd];rfl)).desc
  rw [hd] at hdesc
  simp only [zf] at hx
  subst hx
  have hu:P.underlying t=some .string:=by
   unfold YP at hdesc
   split at hdesc<;>simp_all
  simp [Builtin.len_,run_underlying hu,goInt]
 ·cases h
omit HT in
theorem zAK {ev:Operand→AV} {aev:Operand→Value} (he:∀x,zf Γ (ev x) (aev x)) {l:List Operand} {i:IntKind} {n:Int} {ats:Array TypeId} {ty:TypeId} {as:Array Operand} {w:World} (h:mxL (l.map ev)=some (i,n)) (e:as.toList=l:=by rfl) :
  (Builtin.max_ ats ty (as.map aev)).run P w=.ok (.int i n) w:=by
 have el:(as.map aev).toList=l.map aev:=by simp [e]
 unfold Builtin.max_
 rw [el]
 match l,h with
 |[x],h =>
  have hx:=he x
  simp only [List.map_cons,List.map_nil] at h
  unfold mxL at h
  split at h
  ·rename_i hq
   injection hq with hq _
   rw [hq] at hx
   simp only [zf] at hx
   cases h
   simp [hx]
  ·rename_i hq
   injection hq with _ hq
   cases hq
  ·cases h
 |[x,y],h =>
  have hx:=he x
  have hy:=he y
  simp only [List.map_cons,List.map_nil] at h
  unfold mxL at h
  split at h
  ·rename_i hq
   injection hq with _ hq
   cases hq
  ·rename_i hq
   injection hq with hq hq2
   injection hq2 with hq2 _
   rw [hq] at hx
   rw [hq2] at hy
   simp only [zf] at hx hy
   obtain ⟨hk,h⟩:=zm h
   cases h
   simp [hx,hy,Builtin.max2,mxI]
  ·cases h
 |[],h=>simp [mxL] at h
 |x::y::z::r,h=>simp [mxL] at h
omit HT in
theorem zAV {ev:Operand→AV} {aev:Operand→Value} (he:∀x,zf Γ (ev x) (aev x)) {l:List Operand} {i:IntKind} {n:Int} {ats:Array TypeId} {ty:TypeId} {as:Array Operand} {w:World} (h:mnL (l.map ev)=some (i,n)) (e:as.toList=l:=by rfl) :
  (Builtin.min_ ats ty (as.map aev)).run P w=.ok (.int i n) w:=by
 have el:(as.map aev).toList=l.map aev:=by simp [e]
 unfold Builtin.min_
 rw [el]
 match l,h with
 |[x],h =>
  have hx:=he x
  simp only [List.map_cons,List.map_nil] at h
  unfold mnL at h
  split at h
  ·rename_i hq
   injection hq with hq _
   rw [hq] at hx
   simp only [zf] at hx
   cases h
   simp [hx]
  ·rename_i hq
   injection hq with _ hq
   cases hq
  ·cases h
 |[x,y],h =>
  have hx:=he x
  have hy:=he y
  simp only [List.map_cons,List.map_nil] at h
  unfold mnL at h
  split at h
  ·rename_i hq
   injection hq with _ hq
   cases hq
  ·rename_i hq
   injection hq with hq hq2
   injection hq2 with hq2 _
   rw [hq] at hx
   rw [hq2] at hy
   simp only [zf] at hx hy
   obtain ⟨hk,h⟩:=zm h
   cases h
   simp [hx,hy,Builtin.min2,mnI]
  ·cases h
 |[],h=>simp [mnL] at h
 |x::y::z::r,h=>simp [mnL] at h
include HT hok M
theorem zAr {o:Oper} {ev:Operand→AV} {a:Act} (he:∀x,zf Γ (ev x) (a.eval x)) {v:AV} {m':Mem} (h:opD cl tb o ev m=some (v,m')) {K:Act→World→Prop} {Q:Exit→Act→World→Prop}
  (hK:∀Γ' u,Ext B Γ Γ'→zt B w0 Γ' m'→zf Γ' v u→K (a.put o.dst u) Γ'.w):o.wp P a Γ.w K Q:=by
 have val:∀(x:Sem Value),zaN P B w0 Γ x v m'→(∀w,(execOp a.eval o).run P w=(x.run P w).andThen fun u w'=>.ok (.value u) w')→o.wp P a Γ.w K Q:=by
  rintro x ⟨Γ',u,E,M',hv,hr⟩ hx
  exact jL (by rw [hx,hr];rfl) (hK Γ' u E M' hv)
 have same:∀(x:Sem Value),(m'=m∧∃u,zf Γ v u∧x.run P Γ.w=.ok u Γ.w)→(∀w,(execOp a.eval o).run P w=(x.run P w).andThen fun u w'=>.ok (.value u) w')→o.wp P a Γ.w K Q:=by
  rintro x ⟨rfl,u,hv,hr⟩ hx
  exact jL (by rw [hx,hr];rfl) (hK Γ u (Ext.refl B Γ) M hv)
 unfold opD opK at h
 cases ho:o.op<;>simp only [ho] at h
 case move x =>
  obtain ⟨rfl,rfl⟩:=zn h
  exact jL (u:=a.eval x) (by simp [execOp,ho]) (hK Γ _ (Ext.refl B Γ) M (he x))
 case assign x =>
  obtain ⟨rfl,rfl⟩:=zn h
  exact jL (u:=a.eval x) (by simp [execOp,ho]) (hK Γ _ (Ext.refl B Γ) M (he x))
 case pick c x y =>
  obtain ⟨rfl,b,hb,hv⟩:=zx1 M h (he c) (he x) (he y)
  exact jL (u:=if b then a.eval x else a.eval y) (by simp [execOp,ho,hb,asBool]) (hK Γ _ (Ext.refl B Γ) M hv)
 case alloc t=>exact val _ (zva HT M h) fun w=>by simp [execOp,ho]
 case box t x=>exact val _ (zy3 M h (he x)) fun w=>by simp [execOp,ho]
 case build t ps =>
  have:=zuM (Γ:=Γ) HT he (l:=ps.toList) h
  refine same _ this fun w=>?_
  have e:(mkQ a.eval ps.toList).toArray=ps.map fun (i,x)=>(i,a.eval x):=Array.toList_inj.1 (by simp [mkQ])
  rw [e]
  simp [execOp,ho]
 case buildSlice t n ps =>
  have:=zlV M HT he (l:=ps.toList) h
  refine val _ this fun w=>?_
  have e:(mkQ a.eval ps.toList).toArray=ps.map fun (i,x)=>(i,a.eval x):=Array.toList_inj.1 (by simp [mkQ])
  rw [e]
  simp [execOp,ho]
 case load t x=>exact same _ (zyt HT M h (he x)) fun w=>by simp [execOp,ho]
 case store t x y =>
  obtain ⟨rfl,Γ',E,M',hr⟩:=zun M HT h (he x) (he y)
  refine zrT (w':=Γ'.w) (by simp [execOp,ho,hr]) (hK Γ' undef E M' ?_)
  simp only [zf]
  exact ⟨[],rfl,by simp only [zq]⟩
 case nilCheck x =>
  have hx:=he x
  unfold zum at h
  split at h
  ·obtain ⟨rfl,rfl⟩:=zn h
   rename_i hq
   rw [hq] at hx
   have hx':=hx
   simp only [zf] at hx'
   obtain ⟨b,_,hv⟩:=hx'
   exact jL (u:=a.eval x) (by simp [execOp,ho,hv]) (hK Γ _ (Ext.refl B Γ) M hx)
  ·obtain ⟨rfl,rfl⟩:=zn h
   rename_i hq
   rw [hq] at hx
   have hx':=hx
   simp only [zf] at hx'
   obtain ⟨ad,us,hv,_⟩:=hx'
   exact jL (u:=a.eval x) (by simp [execOp,ho,hv]) (hK Γ _ (Ext.refl B Γ) M hx)
  ·obtain ⟨rfl,rfl⟩:=zn h
   rename_i hq
   rw [hq] at hx
   have hx':=hx
   simp only [zf] at hx'
   obtain ⟨g,n,c,_,_,hv⟩:=hx'
   exact jL (u:=a.eval x) (by simp [execOp,ho,hv]) (hK Γ _ (Ext.refl B Γ) M hx)
  ·obtain ⟨rfl,rfl⟩:=zn h
   rename_i hq
   rw [hq] at hx
   have hx':=hx
   simp only [zf] at hx'
   obtain ⟨us,vs,hv,_⟩:=hx'
   exact jL (u:=a.eval x) (by simp [execOp,ho,hv]) (hK Γ _ (Ext.refl B Γ) M hx)
  ·cases h
 case binOp op t x y yt=>exact same _ (zzi (ox:=x) (oy:=y) HT h (he x) (he y)) fun w=>(by simp [execOp,ho];cases (eqGuard op t x y (a.eval x) (a.eval y)).run P w<;>rfl)
 case unOp op t x=>exact same _ (zAA (P:=P) h (he x)) fun w=>by simp [execOp,ho]
 case convert r t x =>
  obtain ⟨hr,h⟩:=zm h
  obtain ⟨u,hu,_⟩:=ziO (jW HT hr).desc
  exact same _ (zw2 HT (by rw [hu];rfl) h (he x)) fun w=>by simp [execOp,ho]
 case makeFunc f x y =>
  cases f<;>simp only at h
  case func f =>
   obtain ⟨rfl,rfl⟩:=zn h
   refine jL (u:=.func (.func f) (x.map a.eval) (y.map a.eval)) (by simp [execOp,ho,Instr.makeFunc]) (hK Γ _ (Ext.refl B Γ) M ?_)
   simp only [zf]
   have e1:∀q:Array Operand,q.map a.eval=(q.toList.map a.eval).toArray:=fun q=>Array.toList_inj.1 (by simp)
   exact ⟨x.toList.map a.eval,y.toList.map a.eval,by rw [←e1,←e1],zq.map he _,zq.map he _⟩
  all_goals cases h
 case makeSlice t l c =>
  obtain ⟨hs,hr⟩:=zys M HT h (he l)
  refine val _ hr fun w=>?_
  simp [execOp,ho,←zpD hs a]
 case slice t x lo hi mx =>
  cases mx<;>simp only at h
  case none=>exact val _ (zwB M HT he h (he x)) fun w=>by simp [execOp,ho]
  case some z=>cases h
 case fieldAddr t x f=>exact same _ (zoj HT h (he x)) fun w=>by simp [execOp,ho]
 case field t x f=>exact same _ (zu4 HT h (he x)) fun w=>by simp [execOp,ho]
 case indexAddr t x i=>exact same _ (znM HT h (he x) (he i)) fun w=>by simp [execOp,ho]
 case extract x i=>exact same _ (zqE (P:=P) h (he x)) fun w=>by simp [execOp,ho]
 case index t x i=>exact same _ (zws HT h (he x) (he i)) fun w=>by simp [execOp,ho]
 case makeMap t r =>
  cases r<;>simp only at h
  case none=>exact val _ (zq6 M h) fun w=>by simp [execOp,ho]
  case some z=>cases h
 case lookup t x i c=>exact same _ (ztA HT M h (he x) (he i)) fun w=>by simp [execOp,ho]
 case range t x=>exact val _ (zvp HT M h (he x)) fun w=>by simp [execOp,ho]
 case entry x=>exact same _ (zpZ (P:=P) M h (he x)) fun w=>by simp [execOp,ho]
 case mapUpdate t x y z =>
  obtain ⟨rfl,Γ',E,M',hr⟩:=zs1 HT M h (he x) (he y) (he z)
  refine zrT (w':=Γ'.w) (by simp [execOp,ho,hr]) (hK Γ' undef E M' ?_)
  simp only [zf]
  exact ⟨[],rfl,by simp only [zq]⟩
 case call c =>
  unfold zcc at h
  split at h
  ·rename_i hc
   split at h
   ·rename_i x t r hx ht
    split at h
    ·rename_i n hn
     obtain ⟨rfl,rfl⟩:=zn h
     have e1:c.args=#[x]:=by rw [←Array.toList_inj];simpa using hx
     have e2:c.argTypes[0]?=some t:=by rw [←Array.getElem?_toList,ht];rfl
     refine jL (u:=.int .i64 n) (w':=Γ.w) ?_ (hK Γ _ (Ext.refl B Γ) M (by simp only [zf]))
     have hl:=zzu HT (ty:=o.type) hn (he x) Γ.w
     simp only [execOp,ho,resolve,hc,invoke,builtin,e1]
     simp only [List.map_toArray,List.map_cons,List.map_nil,Sem.run_bind,Sem.run_pure,Result.andThen_ok]
     rw [zuj e2]
     rw [hl]
     rfl
    ·cases h
   ·cases h
  ·rename_i hc
   split at h
   ·rename_i v1 x1 t u hx ht
    obtain ⟨htu,h2⟩:=zm h
    have:=Nat.eq_of_beq_eq_true htu
    subst this
    refine val _ (zta (ty:=o.type) M HT h2 (he v1) (he x1)) fun w=>?_
    have e1:c.args=#[v1,x1]:=by rw [←Array.toList_inj];simpa using hx
    have e2:c.argTypes=#[t,t]:=by rw [←Array.toList_inj];simpa using ht
    simp [execOp,ho,resolve,hc,invoke,builtin,e1,e2]
   ·cases h
  ·rename_i hc
   split at h
   ·rename_i i n hn
    obtain ⟨rfl,rfl⟩:=zn h
    refine jL (u:=.int i n) (w':=Γ.w) ?_ (hK Γ _ (Ext.refl B Γ) M (by simp only [zf]))
    simp only [execOp,ho,resolve,hc,invoke,builtin,Sem.run_bind,Sem.run_pure,Result.andThen_ok]
    rw [zAK he (l:=c.args.toList) hn]
    rfl
   ·cases h
  ·rename_i hc
   split at h
   ·rename_i i n hn
    obtain ⟨rfl,rfl⟩:=zn h
    refine jL (u:=.int i n) (w':=Γ.w) ?_ (hK Γ _ (Ext.refl B Γ) M (by simp only [zf]))
    simp only [execOp,ho,resolve,hc,invoke,builtin,Sem.run_bind,Sem.run_pure,Result.andThen_ok]
    rw [zAV he (l:=c.args.toList) hn]
    rfl
   ·cases h
  ·rename_i f hc
   cases hcn:zvg tb f with
   |some t =>
    rw [hcn] at h
    simp only at h
    unfold zfo at h
    split at h
    ·rename_i κ e' xs hk ha
     split at h
     ·rename_i ys hys
      obtain ⟨g0,h⟩:=zm h
      obtain ⟨g1,h⟩:=jb h
      obtain ⟨g2,h⟩:=jb h
      obtain ⟨e1,e2⟩:=Y3 hys
      subst e1
      have e3:ys=xs:=e2
      clear e2 hys
      subst e3
      obtain ⟨g,rfl⟩:∃g,f=.func g:=by
       cases f with
       |func g=>exact ⟨g,rfl⟩
       |_=>cases hcn
      have hg:tb.cln g=some t:=hcn
      have hcl':=HT.2 g t _ hg hk
      have hl:=zq.map he c.args.toList
      rw [ha] at hl
      simp only [zq,zf] at hl
      obtain ⟨u,us,hus,hu,rfl⟩:=hl
      have hex:∀w,(execOp a.eval o).run P w=(callFunc g [u].toArray).run P w:=by
       intro w
       have e:(#[]:Array Value)++c.args.map a.eval++#[]=(c.args.toList.map a.eval).toArray:=by
        apply Array.toList_inj.1
        simp
       simp only [execOp,ho,resolve,hc,Act.eval,Deferred.ofValue,Sem.run_bind,Sem.run_pure,Result.andThen_ok,invoke,e,hus]
       try rfl
      have fin:∀u' w',((Below Γ.w.heap.size Γ.w w'∧Γ.w.drawn≤w'.drawn)∧w'.ownsRow Γ.w.heap.size t e'.size u' (List.length (α:=e'.T) ys) (ys.flatMap e'.vs))→∃Γ',Γ'.w=w'∧Ext B Γ Γ'∧zt B w0 Γ' m'∧zf Γ' v u':=by
       rintro u' w' ⟨⟨hB,hdr⟩,ho'⟩
       have hgr:Γ.w.grownBy w' none:=⟨hB.os,hB.tape,hB.output,hB.size,fun k hk _=>hB.block k hk⟩
       obtain ⟨M2,E2⟩:=M.grow hgr hdr
       have hbase:=M.base
       have ho2:w'.ownsRow B t e'.size u' (List.length (α:=e'.T) ys) (ys.flatMap e'.vs):=by
        refine ⟨ho'.1,ho'.2.imp_right ?_⟩
        rintro ⟨g,cap,cur,h1,h2,h3⟩
        exact ⟨g,cap,cur,h1,Nat.le_trans hbase h2,h3⟩
       have hfree:∀g,u'.ownBlock=some g→Q3 { Γ with w:=w' } m g:=fun g hgu=>by
        have hlt:=(ho'.lt g hgu).1
        exact ⟨fun hr=>by have:=M.rlt g hr;omega,fun i hi=>by have:=(M.boxlt hi).2;omega,fun i v hv hl hgv=>by have:=(M.rowlt hv hl hgv).2;omega,fun i hi=>by have:=(M.maplt hi).2;omega⟩
       obtain ⟨Γ',E3,M3,hv,hw⟩:=zeS M2 h ho2 (zfM g0 ys) hfree
       exact ⟨Γ',hw,E2.trans E3,M3,hv⟩
      rcases hcl' ys (of_decide_eq_true g1 |> fun h=>by simpa [ofN,Yc] using h) (of_decide_eq_true g2 |> fun h=>by simpa [Yc] using h) Γ.w Γ.R u M.rlt hu with ⟨hcf,hcalls⟩|⟨u',w',hcf,hr⟩
      ·unfold Oper.wp
       rw [hex,hcf]
       refine Calls.mono hcalls fun e w' he'=>?_
       obtain ⟨u',rfl,hr⟩:=he'
       obtain ⟨Γ',rfl,E,M',hv⟩:=fin u' w' hr
       exact hK Γ' u' E M' hv
      ·obtain ⟨Γ',rfl,E,M',hv⟩:=fin u' w' hr
       exact jL (by rw [hex,hcf]) (hK Γ' u' E M' hv)
     ·cases h
    ·cases h
   |none =>
   rw [hcn] at h
   simp only at h
   cases hi:zs7 tb f with
   |true =>
    rw [hi] at h
    simp only [cond] at h
    split at h
    ·rename_i g
     have hl:=zq.map he c.args.toList
     have hrf:rf (g+1000000)=g:=by
      unfold rf
      have:Nat.blt (g+1000000) 1000000=false:=by
       cases hb:Nat.blt (g+1000000) 1000000 with
       |false=>rfl
       |true=>simp only [Nat.blt,Nat.ble_eq] at hb;omega
      rw [this]
      simp
     have hex:∀w,(execOp a.eval o).run P w=(callFunc g (c.args.toList.map a.eval).toArray).run P w:=by
      intro w
      have e:(#[]:Array Value)++c.args.map a.eval++#[]=(c.args.toList.map a.eval).toArray:=by
       apply Array.toList_inj.1
       simp
      simp only [execOp,ho,resolve,hc,Act.eval,Deferred.ofValue,Sem.run_bind,Sem.run_pure,Result.andThen_ok,invoke,e]
      try rfl
     have hq:=hok (g+1000000) _ m v m' h B w0 Γ _ M hl
     rw [hrf] at hq
     rcases hq with ⟨hcf,hcalls⟩|⟨u,w',hcf,Γ',rfl,E,M',hv⟩
     ·unfold Oper.wp
      rw [hex,hcf]
      refine Calls.mono hcalls fun e w' he'=>?_
      obtain ⟨u,rfl,Γ',rfl,E,M',hv⟩:=he'
      exact hK Γ' u E M' hv
     ·exact jL (by rw [hex,hcf]) (hK Γ' u E M' hv)
    ·cases h
   |false =>
   rw [hi] at h
   simp only [cond] at h
   split at h
   ·rename_i g x y hf
    obtain ⟨hlt,h⟩:=zm (b:=Nat.blt g 1000000&&((x++c.args.toList.map ev++y).flatMap (Zq m)).all (XD m o)) h
    rw [Bool.and_eq_true] at hlt
    have hrf:rf g=g:=by
     unfold rf
     rw [hlt.1]
     rfl
    have hfv:=he f
    rw [hf] at hfv
    simp only [zf] at hfv
    obtain ⟨us,vs,hfe,hus,hvs⟩:=hfv
    have hl:=(hus.app (zq.map he c.args.toList)).app hvs
    have hex:∀w,(execOp a.eval o).run P w=(callFunc g (us++c.args.toList.map a.eval++vs).toArray).run P w:=by
     intro w
     have e:us.toArray++c.args.map a.eval++vs.toArray=(us++c.args.toList.map a.eval++vs).toArray:=by
      apply Array.toList_inj.1
      simp
     simp only [execOp,ho,resolve,hc,hfe,Deferred.ofValue,Sem.run_bind,Sem.run_pure,Result.andThen_ok,invoke,e]
    have hq:=hok g _ m v m' h B w0 Γ _ M hl
    rw [hrf] at hq
    rcases hq with ⟨hcf,hcalls⟩|⟨u,w',hcf,Γ',rfl,E,M',hv⟩
    ·unfold Oper.wp
     rw [hex,hcf]
     refine Calls.mono hcalls fun e w' he'=>?_
     obtain ⟨u,rfl,Γ',rfl,E,M',hv⟩:=he'
     exact hK Γ' u E M' hv
    ·exact jL (by rw [hex,hcf]) (hK Γ' u E M' hv)
   ·cases h
  ·cases h
 all_goals cases h
end
end Go.Proofs.YtpkkcjmblocjdaaGreat.AM
end
