/- The abstract machine, 27: what is handed over. -/
import Derived.Test.YtpkkcjmblocjdaaGreatAj
import Derived.Deep.Slices
import Derived.OpenShut
import Derived.ProofKit
set_option linter.unusedVariables false
set_option linter.unusedSimpArgs false
set_option linter.unusedSectionVars false
section
namespace Go.Proofs.YtpkkcjmblocjdaaGreat.AM
open Go.RowKit
section
variable {Γ Γ':Gh} (hw:∀b,Γ.R b→Γ'.w.heap[b]?=Γ.w.heap[b]?) (hR:∀b,Γ.R b→Γ'.R b)
include hw hR
theorem znb {κ:Kd} {x:κ.T} {u:Value} (h:zf Γ (κ.av x) u):zf Γ' (κ.av x) u:=by
 cases κ with
 |pair a b =>
  simp only [Kd.av,zf] at h ⊢
  obtain ⟨vs,rfl,h⟩:=h
  exact ⟨vs,rfl,h.pure hw hR (KO _ x)⟩
 |_=>exact zf.pure hw hR rfl h
theorem zm6 {cs:List AV} {u:Value} (h:zf Γ (.kptr cs) u):zf Γ' (.kptr cs) u:=by
 simp only [zf] at h ⊢
 obtain ⟨ad,us,rfl,hr,hp,hl,hc⟩:=h
 refine ⟨ad,us,rfl,hR _ hr,hp,hl.pure hw hR hp,fun j u hj=>?_⟩
 rw [World.cell?_of_block (w:=Γ.w) (by rw [J2];exact hw _ hr)]
 exact hc j u hj
end
def Sh.param:Sh→Bool
 |.d _=>true
 |.kp _=>true
 |.fn _ _ _=>true
 |_=>false
section
variable {Γ Γ':Gh} (hw:∀b,Γ.R b→Γ'.w.heap[b]?=Γ.w.heap[b]?) (hR:∀b,Γ.R b→Γ'.R b)
include hw hR
theorem zgZ:∀{rk:List Kd} {x:kdT rk} {us:List Value},zq Γ (Jb rk x) us→zq Γ' (Jb rk x) us
 |[],_,_,h=>by simpa only [Jb,zq] using h
 |[κ],x,us,h=>by
  obtain ⟨u,rfl,hu⟩:=zq.one.1 (show zq Γ [κ.av x] us from h)
  exact zq.one.2 ⟨u,rfl,znb hw hR hu⟩
 |κ::q::r,x,us,h=>by
  replace h:zq Γ (κ.av x.1::Jb (q::r) x.2) us:=h
  simp only [zq] at h
  obtain ⟨u,us',rfl,hu,h⟩:=h
  show zq Γ' (κ.av x.1::Jb (q::r) x.2) (u::us')
  simp only [zq]
  exact ⟨u,us',rfl,znb hw hR hu,zgZ h⟩
theorem zih {rk:List Kd} {x:kdT rk} {u:Value} (h:zf Γ (zgQ rk x) u):zf Γ' (zgQ rk x) u:=by
 match rk,x,h with
 |[],x,h =>
  replace h:zf Γ (.tup (Jb [] x)) u:=h
  show zf Γ' (.tup (Jb [] x)) u
  simp only [zf] at h ⊢
  obtain ⟨vs,rfl,hl⟩:=h
  exact ⟨vs,rfl,zgZ hw hR hl⟩
 |[κ],x,h=>exact znb (κ:=κ) hw hR h
 |κ::q::r,x,h =>
  replace h:zf Γ (.tup (Jb (κ::q::r) x)) u:=h
  show zf Γ' (.tup (Jb (κ::q::r) x)) u
  simp only [zf] at h ⊢
  obtain ⟨vs,rfl,hl⟩:=h
  exact ⟨vs,rfl,zgZ hw hR hl⟩
theorem zln {m:Mem} {v:AV} {u:Value} (h:zf Γ (QY m v) u):zf Γ' (QY m v) u:=by
 by_cases h1:∃cs,v=.agg cs
 ·obtain ⟨cs,rfl⟩:=h1
  simp only [QY,zf] at h ⊢
  obtain ⟨vs,rfl,h⟩:=h
  exact ⟨vs,rfl,h.pure hw hR (zmu m cs)⟩
 by_cases h2:∃cs,v=.kptr cs
 ·obtain ⟨cs,rfl⟩:=h2
  exact zm6 hw hR h
 by_cases h3:∃id,v=.ptr id 0
 ·obtain ⟨id,rfl⟩:=h3
  cases hb:m.box id with
  |none =>
   simp only [QY,hb,zf]
  |some b =>
   simp only [QY,hb] at h ⊢
   exact zm6 hw hR h
 have e:QY m v=Jq m v:=by
  unfold QY
  split
  ·exact absurd ⟨_,rfl⟩ h1
  ·exact absurd ⟨_,rfl⟩ h2
  ·exact absurd ⟨_,rfl⟩ h3
  ·rfl
 rw [e] at h ⊢
 exact h.pure hw hR (zkm m _)
theorem zeu {m:Mem}:∀{cs:List AV} {us:List Value},zq Γ (cs.map (QY m)) us→zq Γ' (cs.map (QY m)) us
 |[],_,h=>by simpa only [List.map_nil,zq] using h
 |c::cs,us,h=>by
  simp only [List.map_cons,zq] at h ⊢
  obtain ⟨u,us',rfl,hu,h⟩:=h
  exact ⟨u,us',rfl,zln hw hR hu,zeu h⟩
theorem ztj {m:Mem} {v:AV} {u:Value} (h:zf Γ (XT m v) u):zf Γ' (XT m v) u:=by
 by_cases hf:∀f a b,v≠.fn f a b
 ·rw [(zo1 (m:=m) hf).1] at h ⊢
  exact zln hw hR h
 ·cases v
  case fn f a b =>
   simp only [XT,zf] at h ⊢
   obtain ⟨us,vs,rfl,h1,h2⟩:=h
   exact ⟨us,vs,rfl,zeu hw hR h1,zeu hw hR h2⟩
  all_goals exact (hf (fun _ _ _ e=>by cases e)).elim
theorem zda {m:Mem}:∀{cs:List AV} {us:List Value},zq Γ (cs.map (XT m)) us→zq Γ' (cs.map (XT m)) us
 |[],_,h=>by simpa only [List.map_nil,zq] using h
 |c::cs,us,h=>by
  simp only [List.map_cons,zq] at h ⊢
  obtain ⟨u,us',rfl,hu,h⟩:=h
  exact ⟨u,us',rfl,ztj hw hR hu,zda h⟩
end
def Qo (w:World) (R:Nat→Prop):Gh:=⟨w,R,fun _=>none,fun _=>none,fun _=>none⟩
theorem zlE {w:World} {R:Nat→Prop} (h:∀b,R b→b<w.heap.size):zt w.heap.size w (Qo w R) Mem.clear :=
 ⟨Below.refl _ _,Nat.le_refl _,h,fun i b h=>(by cases h),fun i b h=>(by cases h),fun i j b h=>(by cases h),fun i j u v g h=>(by cases h),fun i j u g h=>(by cases h),fun i b h=>(by cases h),fun i j b h=>(by cases h)⟩
theorem zmm (w:World) (R:Nat→Prop):zjm (Qo w R):=⟨fun _=>rfl,fun _=>rfl,fun _=>rfl⟩
theorem zqk {Γ:Gh} {p:SP} {v:AV} {u:Value} {x:p.T} (h:p.dec v=some x) (hv:zf Γ v u):zf Γ (p.av x) u:=by
 cases p with
 |d κ=>exact zcV (κ:=κ) h hv
 |kp κ =>
  cases v
  case kptr cs =>
   replace h:(match Kd.dec κ cs with
    |some (x,[])=>some x
    |_=>none:Option κ.T)=some x:=h
   split at h
   ·rename_i y hy
    injection h with h
    subst h
    simp only [zf] at hv
    obtain ⟨ad,us,rfl,hR,hpu,hl,hc⟩:=hv
    obtain ⟨u1,ws,e,h2,h3⟩:=KL hy hl
    simp only [zq] at h3
    subst h3
    rw [List.append_nil] at e
    subst e
    simp only [SP.av,zf]
    exact ⟨ad,us,rfl,hR,KO κ y,h2.cells,hc⟩
   ·cases h
  all_goals exact absurd (show (none:Option κ.T)=some x from h) (by simp)
theorem zol {Γ:Gh}:∀{l:List SP} {cs:List AV} {us:List Value} {x:jM (l.map SP.T)},zer l cs=some x→zq Γ cs us→zq Γ (zgB l x) us
 |[],cs,us,x,h,hr=>by
  cases cs with
  |nil=>simpa only [zgB,zq] using hr
  |cons c cs=>exact absurd (show (none:Option Unit)=some x from h) (by simp)
 |[p],cs,us,x,h,hr=>by
  cases cs with
  |nil=>exact absurd (show (none:Option p.T)=some x from h) (by simp)
  |cons c cs =>
   cases cs with
   |cons c' cs=>exact absurd (show (none:Option p.T)=some x from h) (by simp)
   |nil =>
    obtain ⟨u,rfl,hu⟩:=zq.one.1 hr
    exact zq.one.2 ⟨u,rfl,zqk (show p.dec c=some x from h) hu⟩
 |p::q::l,cs,us,x,h,hr=>by
  cases cs with
  |nil=>exact absurd (show (none:Option (p.T×jM ((q::l).map SP.T)))=some x from h) (by simp)
  |cons c cs =>
   replace h:(match p.dec c,zer (q::l) cs with
    |some x,some y=>some (x,y)
    |_,_=>none:Option (p.T×jM ((q::l).map SP.T)))=some x:=h
   split at h
   ·rename_i y z hy hz
    injection h with h
    subst h
    simp only [zq] at hr
    obtain ⟨u,us',rfl,hu,hr⟩:=hr
    show zq Γ (p.av y::zgB (q::l) z) (u::us')
    simp only [zq]
    exact ⟨u,us',rfl,zqk hy hu,zol hz hr⟩
   ·cases h
section
variable {w:World} {R:Nat→Prop} (hlt:∀b,R b→b<w.heap.size)
include hlt
theorem zvP {h:Sh} (hp:h.param=true) {v:AV} {u:Value} {x:h.T} (hd:h.dec Mem.clear v=some x) (hv:zf (Qo w R) v u):zf (Qo w R) (h.av 0 x) u:=by
 cases h with
 |d κ =>
  have L:∀r p,JU (Qo w R) (Qo w R) Mem.clear r p:=fun r p=>⟨rfl,fun _ h=>h,fun b ⟨_,_,⟨_,h,_⟩,_⟩=>(by cases h),fun _ _ _ h=>(by cases h)⟩
  exact zcV (κ:=κ) hd (zcl (zlE hlt) (L _ _) hv)
 |kp κ=>exact zqk (p:=.kp κ) (by
   cases v
   case kptr cs=>exact hd
   all_goals exact absurd (show (none:Option κ.T)=some x from hd) (by simp)) hv
 |fn f la lb =>
  cases v
  case fn g a c =>
   replace hd:cond (Nat.beq f g) (match zer la a,zer lb c with
    |some x,some y=>some (x,y)
    |_,_=>none) (none:Option (jM (la.map SP.T)×jM (lb.map SP.T)))=some x:=hd
   obtain ⟨hg,hd2⟩:=zm hd
   clear hd
   have:=Nat.eq_of_beq_eq_true hg
   subst this
   split at hd2
   ·rename_i y z hy hz
    injection hd2 with hd2
    subst hd2
    simp only [zf] at hv
    obtain ⟨us,vs,rfl,h1,h2⟩:=hv
    show zf (Qo w R) (.fn f (zgB la y) (zgB lb z)) _
    simp only [zf]
    exact ⟨us,vs,rfl,zol hy h1,zol hz h2⟩
   ·cases hd2
  all_goals exact absurd (show (none:Option (jM (la.map SP.T)×jM (lb.map SP.T)))=some x from hd) (by simp)
 |row e t=>cases hp
 |box l=>cases hp
 |mp κ ν=>cases hp
 |it κ ν=>cases hp
 |mpf κ ν=>cases hp
 |con l=>cases hp
theorem zhc:∀{ps:List Sh} {vs:List AV} {us:List Value} {x:shT ps},ps.all Sh.param=true→zps ps vs=some x→zq (Qo w R) vs us→zq (Qo w R) (zdU ps x) us
 |[],cs,us,x,hp,h,hr=>by
  cases cs with
  |nil=>simpa only [zdU,zq] using hr
  |cons c cs=>exact absurd (show (none:Option Unit)=some x from h) (by simp)
 |[p],cs,us,x,hp,h,hr=>by
  cases cs with
  |nil=>exact absurd (show (none:Option p.T)=some x from h) (by simp)
  |cons c cs =>
   cases cs with
   |cons c' cs=>exact absurd (show (none:Option p.T)=some x from h) (by simp)
   |nil =>
    obtain ⟨u,rfl,hu⟩:=zq.one.1 hr
    exact zq.one.2 ⟨u,rfl,zvP hlt (by simpa using hp) (show p.dec Mem.clear c=some x from h) hu⟩
 |p::q::l,cs,us,x,hp,h,hr=>by
  rw [List.all_cons,Bool.and_eq_true] at hp
  cases cs with
  |nil=>exact absurd (show (none:Option (p.T×shT (q::l)))=some x from h) (by simp)
  |cons c cs =>
   replace h:(match p.dec Mem.clear c,zps (q::l) cs with
    |some x,some y=>some (x,y)
    |_,_=>none:Option (p.T×shT (q::l)))=some x:=h
   split at h
   ·rename_i y z hy hz
    injection h with h
    subst h
    simp only [zq] at hr
    obtain ⟨u,us',rfl,hu,hr⟩:=hr
    show zq (Qo w R) (p.av 0 y::zdU (q::l) z) (u::us')
    simp only [zq]
    exact ⟨u,us',rfl,zvP hlt hp.1 hy hu,zhc hp.2 hz hr⟩
   ·cases h
end
theorem ziE {Γ:Gh}:∀{rk:List Kd} {vs:List AV} {us:List Value} {x:kdT rk},zsr rk vs=some x→zq Γ vs us→zq Γ (Jb rk x) us
 |[],cs,us,x,h,hr=>by
  cases cs with
  |nil=>simpa only [Jb,zq] using hr
  |cons c cs=>exact absurd (show (none:Option Unit)=some x from h) (by simp)
 |[κ],cs,us,x,h,hr=>by
  cases cs with
  |nil=>exact absurd (show (none:Option κ.T)=some x from h) (by simp)
  |cons c cs =>
   cases cs with
   |cons c' cs=>exact absurd (show (none:Option κ.T)=some x from h) (by simp)
   |nil =>
    obtain ⟨u,rfl,hu⟩:=zq.one.1 hr
    exact zq.one.2 ⟨u,rfl,zcV (show zbb κ c=some x from h) hu⟩
 |κ::q::l,cs,us,x,h,hr=>by
  cases cs with
  |nil=>exact absurd (show (none:Option (κ.T×kdT (q::l)))=some x from h) (by simp)
  |cons c cs =>
   replace h:(match zbb κ c,zsr (q::l) cs with
    |some x,some y=>some (x,y)
    |_,_=>none:Option (κ.T×kdT (q::l)))=some x:=h
   split at h
   ·rename_i y z hy hz
    injection h with h
    subst h
    simp only [zq] at hr
    obtain ⟨u,us',rfl,hu,hr⟩:=hr
    show zq Γ (κ.av y::Jb (q::l) z) (u::us')
    simp only [zq]
    exact ⟨u,us',rfl,zcV hy hu,ziE hz hr⟩
   ·cases h
theorem ztZ {Γ:Gh} {rk:List Kd} {v:AV} {u:Value} {x:kdT rk} (h:zzV rk v=some x) (hr:zf Γ v u):zf Γ (zgQ rk x) u:=by
 match rk,x,h with
 |[],x,h =>
  cases v
  case tup vs =>
   simp only [zf] at hr
   obtain ⟨us,rfl,hr⟩:=hr
   show zf Γ (.tup (Jb [] x)) _
   simp only [zf]
   exact ⟨us,rfl,ziE h hr⟩
  all_goals exact absurd (show (none:Option Unit)=some x from h) (by simp)
 |[κ],x,h=>exact zcV (κ:=κ) h hr
 |κ::q::r,x,h =>
  cases v
  case tup vs =>
   simp only [zf] at hr
   obtain ⟨us,rfl,hr⟩:=hr
   show zf Γ (.tup (Jb (κ::q::r) x)) _
   simp only [zf]
   exact ⟨us,rfl,ziE h hr⟩
  all_goals exact absurd (show (none:Option (κ.T×kdT (q::r)))=some x from h) (by simp)
theorem zgP {Γ Γ':Gh}:∀{κ:Kd},κ.flat=true→∀{x:κ.T} {us:List Value},zq Γ (κ.cells x) us→zq Γ' (κ.cells x) us
 |.int _,_,x,us,h=>by simpa only [Kd.cells,zq,zf] using h
 |.bool,_,x,us,h=>by simpa only [Kd.cells,zq,zf] using h
 |.str,_,x,us,h=>by simpa only [Kd.cells,zq,zf] using h
 |.sl _,hf,_,_,_=>by cases hf
 |.mp _ _,hf,_,_,_=>by cases hf
 |.pair a b,hf,x,us,h=>by
  simp only [Kd.flat,Bool.and_eq_true] at hf
  simp only [Kd.cells] at h ⊢
  obtain ⟨us,ws,rfl,h1,h2⟩:=zq.split h
  exact (zgP hf.1 h1).app (zgP hf.2 h2)
theorem znt {Γ Γ':Gh} {κ:Kd} (hf:κ.flat=true) {x:κ.T} {u:Value} (h:zf Γ (κ.av x) u):zf Γ' (κ.av x) u:=by
 cases κ with
 |pair a b =>
  simp only [Kd.av,zf] at h ⊢
  obtain ⟨vs,rfl,h⟩:=h
  exact ⟨vs,rfl,zgP hf h⟩
 |sl e=>cases hf
 |mp k v=>cases hf
 |_=>simpa only [Kd.av,zf] using h
theorem zgA {Γ Γ':Gh}:∀{rk:List Kd} {x:kdT rk} {us:List Value},rk.all Kd.flat=true→zq Γ (Jb rk x) us→zq Γ' (Jb rk x) us
 |[],_,_,_,h=>by simpa only [Jb,zq] using h
 |[κ],x,us,hf,h=>by
  obtain ⟨u,rfl,hu⟩:=zq.one.1 (show zq Γ [κ.av x] us from h)
  exact zq.one.2 ⟨u,rfl,znt (by simpa using hf) hu⟩
 |κ::q::r,x,us,hf,h=>by
  rw [List.all_cons,Bool.and_eq_true] at hf
  replace h:zq Γ (κ.av x.1::Jb (q::r) x.2) us:=h
  simp only [zq] at h
  obtain ⟨u,us',rfl,hu,h⟩:=h
  show zq Γ' (κ.av x.1::Jb (q::r) x.2) (u::us')
  simp only [zq]
  exact ⟨u,us',rfl,znt hf.1 hu,zgA hf.2 h⟩
theorem zts {Γ Γ':Gh} {rk:List Kd} (hf:rk.all Kd.flat=true) {x:kdT rk} {u:Value} (h:zf Γ (zgQ rk x) u):zf Γ' (zgQ rk x) u:=by
 match rk,hf,x,h with
 |[],hf,x,h =>
  replace h:zf Γ (.tup (Jb [] x)) u:=h
  show zf Γ' (.tup (Jb [] x)) u
  simp only [zf] at h ⊢
  obtain ⟨vs,rfl,hl⟩:=h
  exact ⟨vs,rfl,zgA hf hl⟩
 |[κ],hf,x,h=>exact znt (κ:=κ) (by simpa using hf) h
 |κ::q::r,hf,x,h =>
  replace h:zf Γ (.tup (Jb (κ::q::r) x)) u:=h
  show zf Γ' (.tup (Jb (κ::q::r) x)) u
  simp only [zf] at h ⊢
  obtain ⟨vs,rfl,hl⟩:=h
  exact ⟨vs,rfl,zgA hf hl⟩
end Go.Proofs.YtpkkcjmblocjdaaGreat.AM
end
section
namespace Go.Proofs.YtpkkcjmblocjdaaGreat.AM
open Go.RowKit
def zv (P:Program) (fid:Nat) (ps:List Sh) (rk:List Kd) (F:shT ps→Option (kdT rk)):Prop :=
 ∀(x:shT ps) (y:kdT rk),F x=some y→∀(w:World) (R:Nat→Prop) (us:List Value),(∀b,R b→b<w.heap.size)→zq (Qo w R) (zdU ps x) us →
  zaX P fid us w fun u w'=>(Below w.heap.size w w'∧w.drawn≤w'.drawn)∧∃R':Nat→Prop,(∀b,R b→R' b)∧(∀b,R' b→R b∨w.heap.size≤b)∧(∀b,R' b→b<w'.heap.size)∧zf (Qo w' R') (zgQ rk y) u
def zgO (P:Program) (fid:Nat) (ps:List Sh) (e:Kd) (t:Nat) (F:shT ps→Option (List e.T)):Prop :=
 ps.all Sh.param=true∧e.lfs.all Kd.isOne=true∧∀(x:shT ps) (y:List e.T),F x=some y→∀(w:World) (R:Nat→Prop) (us:List Value),(∀b,R b→b<w.heap.size)→zq (Qo w R) (zdU ps x) us →
  zaX P fid us w fun u w'=>(Below w.heap.size w w'∧w.drawn≤w'.drawn)∧w'.ownsRow w.heap.size t e.size u (List.length (α:=e.T) y) (y.flatMap e.vs)
def zp6 (P:Program) (fid:Nat) (ps:List Sh) (e:Kd) (t:Nat) (rk:List Kd) (F:shT ps→Option (List e.T×kdT rk)):Prop :=
 ps.all Sh.param=true∧e.lfs.all Kd.isOne=true∧∀(x:shT ps) (y:List e.T×kdT rk),F x=some y→∀(w:World) (R:Nat→Prop) (us:List Value),(∀b,R b→b<w.heap.size)→zq (Qo w R) (zdU ps x) us →
  zaX P fid us w fun u w'=>(Below w.heap.size w w'∧w.drawn≤w'.drawn)∧∃(R':Nat→Prop) (v0:Value) (vs us':List Value),(∀b,R b→R' b)∧(∀b,R' b→R b∨w.heap.size≤b)∧(∀b,R' b→b<w'.heap.size) ∧
   u=.tuple (.agg (v0::vs).toArray::us').toArray∧w'.ownsRow w.heap.size t e.size v0 (List.length (α:=e.T) y.1) (y.1.flatMap e.vs)∧(∀g,v0.ownBlock=some g→¬R' g) ∧
   zf (Qo w' R') (zgQ rk y.2) (.tuple (.agg (.slice none 0 0::vs).toArray::us').toArray)
def zrJ (P:Program) (fid:Nat) (e:Kd) (t:Nat):Prop:=∀(n:Int) (w:World),0≤n→n<4294967296 →
 zaX P fid [.slice none 0 0,.int .i64 n] w fun u w'=>(Below w.heap.size w w'∧w.drawn≤w'.drawn)∧w'.ownsRow w.heap.size t e.size u 0 []
theorem zdg {m:Mem} {v:AV} {id:Nat} (h:id∈K2 v):id∈QU m v:=by
 cases v<;>first|(simp [K2] at h;done)|skip
 case ptr i off =>
  simp only [QU,List.mem_append]
  exact .inl h
theorem zul {v:AV} (h:∀f a b,v≠.fn f a b):Z9 v=K2 v:=by
 cases v
 case fn f a b=>exact (h f a b rfl).elim
 all_goals rfl
theorem zp5 {m:Mem} {v:AV} {id:Nat} (h:id∈Z9 v):id∈Zq m v:=by
 by_cases hf:∀f a b,v≠.fn f a b
 ·rw [(zo1 (m:=m) hf).2.2]
  rw [zul hf] at h
  exact zdg h
 ·cases v
  case fn f a b =>
   simp only [Z9,Zq,List.mem_append,List.mem_flatMap] at h ⊢
   rcases h with ⟨x,hx,h⟩|⟨x,hx,h⟩
   ·exact .inl ⟨x,hx,zdg h⟩
   ·exact .inr ⟨x,hx,zdg h⟩
  all_goals exact (hf (fun _ _ _ e=>by cases e)).elim
theorem ztX {B:Nat} {w0:World} {Γ Γ':Gh} {m:Mem} (M:zt B w0 Γ m) {c:AV} {v:Value} (L:JU Γ Γ' m (Js c) []) (hη:∀id b,Γ.η id=some b→Γ'.R b) (h:zf Γ c v):zf Γ' (zxa m c) v:=by
 unfold zxa
 split
 ·rename_i id k v0
  split
  ·simp only [zf]
  ·rename_i κ ν es kd cur hno hm
   have hkd:kd≠.iter:=by
    rintro rfl
    first
     |exact hno _ _ _ _ hm
     |exact hno hm
     |simp_all
   simp only [zf] at h
   obtain ⟨b,hb,rfl⟩:=h
   have:=zsd (M.mapAt hb hm) hkd (hη _ _ hb)
   rw [←L.w] at this
   simp only [zf]
   exact this
  ·simp only [zf]
 ·exact zib M L h
theorem zme {B:Nat} {w0:World} {Γ Γ':Gh} {m:Mem} (M:zt B w0 Γ m) (hη:∀id b,Γ.η id=some b→Γ'.R b):∀{cs:List AV} {vs:List Value},JU Γ Γ' m (cs.flatMap Js) []→zq Γ cs vs→zq Γ' (cs.map (zxa m)) vs
 |[],_,_,h=>by simpa only [List.map_nil,zq] using h
 |c::cs,_,L,h=>by
  simp only [zq,List.map_cons] at h ⊢
  obtain ⟨v,vs,rfl,h1,h2⟩:=h
  exact ⟨v,vs,rfl,ztX M (L.mono (by simp;exact fun x hx=>.inl hx) (by simp)) hη h1,zme M hη (L.mono (by simp;exact fun x y hy hx=>.inr ⟨y,hy,hx⟩) (by simp)) h2⟩
theorem zoT {B:Nat} {w0:World} {Γ Γ':Gh} {m:Mem} (M:zt B w0 Γ m) {c:AV} {v:Value} (L:JU Γ Γ' m (Zn m c) (K2 c)) (hη:∀id b,Γ.η id=some b→Γ'.R b) (h:zf Γ c v):zf Γ' (zs5 m c) v:=by
 unfold zs5
 split
 ·rename_i cs
  simp only [zf] at h ⊢
  obtain ⟨vs,rfl,h⟩:=h
  exact ⟨vs,rfl,zme M hη (L.mono (fun x hx=>hx) (by simp)) h⟩
 ·exact zcl M L h
theorem zm1 {B:Nat} {w0:World} {Γ Γ':Gh} {m:Mem} (M:zt B w0 Γ m):∀{cs:List AV} {vs:List Value},JU Γ Γ' m (cs.flatMap (Zn m)) (cs.flatMap K2)→(∀id b,Γ.η id=some b→Γ'.R b)→zq Γ cs vs→zq Γ' (cs.map (zs5 m)) vs
 |[],_,_,_,h=>by simpa only [List.map_nil,zq] using h
 |c::cs,_,L,hη,h=>by
  simp only [zq,List.map_cons] at h ⊢
  obtain ⟨v,vs,rfl,h1,h2⟩:=h
  exact ⟨v,vs,rfl,zoT M (L.mono (by simp;exact fun x hx=>.inl hx) (by simp;exact fun x hx=>.inl hx)) hη h1,zm1 M (L.mono (by simp;exact fun x y hy hx=>.inr ⟨y,hy,hx⟩) (by simp;exact fun x y hy hx=>.inr ⟨y,hy,hx⟩)) hη h2⟩
theorem zxJ {cl:∀ρ,Jz ρ} (hcl:zdL cl) (tb:Tb) (N:Nat) {ρ ρ':Type} (G:ρ→Option ρ'):∀(c:Code) (hn:nnC c=true) (s:St) (K:KS ρ) (K':KS ρ'),(∀s,(K.norm s).bind G=K'.norm s)→(∀i s,(K.ex i s).bind G=K'.ex i s)→(∀s,(K.ret s).bind G=K'.ret s) →
  (Zm (cl ρ) tb N c .leaf s K).bind G=Zm (cl ρ') tb N c .leaf s K':=by
 intro c
 induction c with
 |skip=>intro hn s K K' h1 h2 h3;exact h1 s
 |region id ops dr =>
  intro hn s K K' h1 h2 h3
  have hnb:zhZ ops.toList dr=none:=by
   unfold nnC at hn
   split at hn
   ·assumption
   ·cases hn
  have e1:Zm (cl ρ) tb N (.region id ops dr) .leaf s K=zoR (cl ρ) tb ops ops.toList s.tick K.norm:=by
   show (match zhZ ops.toList dr with
    |some (t,a,b)=>zoH t a b s.tick K.norm
    |none=>zoR (cl ρ) tb ops ops.toList s.tick K.norm)=_
   rw [hnb]
  have e2:Zm (cl ρ') tb N (.region id ops dr) .leaf s K'=zoR (cl ρ') tb ops ops.toList s.tick K'.norm:=by
   show (match zhZ ops.toList dr with
    |some (t,a,b)=>zoH t a b s.tick K'.norm
    |none=>zoR (cl ρ') tb ops ops.toList s.tick K'.norm)=_
   rw [hnb]
  rw [e1,e2]
  rw [zoi hcl,zoi hcl,Option.bind_assoc]
  congr 1
  funext s
  exact h1 s
 |seq a b iha ihb =>
  intro hn s K K' h1 h2 h3
  have hn':nnC a=true∧nnC b=true:=by simpa [nnC] using hn
  exact iha hn'.1 s _ _ (fun s'=>ihb hn'.2 s' K K' h1 h2 h3) h2 h3
 |cond c a b iha ihb =>
  intro hn s K K' h1 h2 h3
  have hn':nnC a=true∧nnC b=true:=by simpa [nnC] using hn
  show (match s.ev c with
   |.bool t=>br t (Zm (cl ρ) tb N a .leaf (s.litO c true) K) (Zm (cl ρ) tb N b .leaf (s.litO c false) K)
   |_=>none).bind G=(match s.ev c with
   |.bool t=>br t (Zm (cl ρ') tb N a .leaf (s.litO c true) K') (Zm (cl ρ') tb N b .leaf (s.litO c false) K')
   |_=>none)
  split
  ·rename_i t _
   cases t
   ·exact ihb hn'.2 _ K K' h1 h2 h3
   ·exact iha hn'.1 _ K K' h1 h2 h3
  ·rfl
 |block id c ih =>
  intro hn s K K' h1 h2 h3
  refine ih hn s _ _ h1 (fun i s=>?_) h3
  show (cond (Nat.beq i id) (K.norm s) (K.ex i s)).bind G=cond (Nat.beq i id) (K'.norm s) (K'.ex i s)
  cases Nat.beq i id
  ·exact h2 i s
  ·exact h1 s
 |loop c ih =>
  intro hn s K K' h1 h2 h3
  show (zw (fun s next=>Zm (cl ρ) tb N c .leaf s { K with norm:=next }) 32 s).bind G=zw (fun s next=>Zm (cl ρ') tb N c .leaf s { K' with norm:=next }) 32 s
  generalize 32=n
  induction n generalizing s with
  |zero=>rfl
  |succ n ihn=>exact ih hn s _ _ (fun s'=>ihn s') h2 h3
 |exit id=>intro hn s K K' h1 h2 h3;exact h2 id s
 |ret=>intro hn s K K' h1 h2 h3;exact h3 s
 |_=>intros;rfl
theorem zuT (tb:Tb) (f:Func) (s:St) {ρ ρ':Type} (k:Yj ρ) (G:ρ→Option ρ'):(zlL tb f s k).bind G=zlL tb f s fun v m=>(k v m).bind G:=by
 unfold zlL
 repeat' split
 all_goals rfl
theorem zxK {cl:∀ρ,Jz ρ} (hcl:zdL cl) (tb:Tb) (N:Nat) (f:Func) (args:List AV) (m:Mem) {ρ ρ':Type} (k:Yj ρ) (G:ρ→Option ρ') (hn:nnF f=true):(zgb (cl ρ) tb N f .leaf args m k).bind G=zgb (cl ρ') tb N f .leaf args m fun v m=>(k v m).bind G:=by
 unfold zgb
 split
 ·rename_i c hc
  have hn':nnC c=true:=by
   unfold nnF at hn
   rw [hc] at hn
   exact hn
  exact zxJ hcl tb N G _ hn' _ _ _ (fun s=>zuT tb f s k G) (fun _ _=>rfl) (fun s=>zuT tb f s k G)
 ·rfl
theorem zwT (κ:Kd) (h:Nat) (cf:κ.T→κ.T→Int) (args:List AV) (m:Mem) {ρ:Type} (k:Yj ρ):(zmU κ h cf args m zM).bind (toK k)=zmU κ h cf args m k:=by
 unfold zmU
 repeat' split
 all_goals simp only [gd,qj,qn,Option.bind_none]
theorem zzj (ps:List Sh) (e:Kd) (t:Nat) (F:shT ps→Option (List e.T)) (args:List AV) (m:Mem) {ρ:Type} (k:Yj ρ):(zsK ps e t F args m zM).bind (toK k)=zsK ps e t F args m k:=by
 unfold zsK
 split
 ·rw [zkp]
  congr 1
  funext y
  simp only [qj,qn,Option.bind_none]
 ·rfl
theorem zxX (e:Kd) (t:Nat) (args:List AV) (m:Mem) {ρ:Type} (k:Yj ρ):(zmn e t args m zM).bind (toK k)=zmn e t args m k:=by
 unfold zmn
 split
 ·simp only [gd,qj,qn,Option.bind_none]
 ·rfl
theorem zzc (ps:List Sh) (e:Kd) (t:Nat) (rk:List Kd) (F:shT ps→Option (List e.T×kdT rk)) (args:List AV) (m:Mem) {ρ:Type} (k:Yj ρ):(zs4 ps e t rk F args m zM).bind (toK k)=zs4 ps e t rk F args m k:=by
 unfold zs4
 split
 ·rw [zkp]
  congr 1
  funext y
  rw [qj]
  congr 1
  split<;>simp only [qn,Option.bind_none]
 ·rfl
theorem zn5 (es:List JJ):zdL (fun ρ=>ZJ (ρ:=ρ) es):=by
 induction es with
 |nil=>intro ρ fid args m k;rfl
 |cons e r ih =>
  intro ρ fid args m k
  show (ZJ (e::r) fid args m zM).bind (toK k)=ZJ (e::r) fid args m k
  have ih':∀fid args m,(ZJ r fid args m zM).bind (toK k)=ZJ r fid args m k:=fun fid args m=>ih ρ fid args m k
  simp only [ZJ]
  split
  ·simp only [qj,ih',zwT]
  ·simp only [qj,ih',zzj]
  ·simp only [qj,ih',zzc]
  ·simp only [qj,ih',zxX]
  ·simp only [qj,ih']
   congr 1
   rename_i tb f _
   cases hn:nnF f with
   |false=>rfl
   |true =>
    simp only [cond]
    rw [zxK (cl:=fun ρ=>ZJ (ρ:=ρ) r) ih _ _ _ _ _ _ _ hn]
    rfl
  ·simp only [qj,ih']
   congr 1
   split
   ·split
    ·rw [zkp]
     rfl
    ·rfl
   ·exact ih' fid args m
theorem zzg (a:Nat) {fid:Nat} (h:Nat.blt fid 1000000=true):Nat.beq (a+1000000) fid=false:=by
 have h':fid<1000000:=Nat.le_of_ble_eq_true h
 have key:∀b,b=1000000→fid<b→Nat.beq (a+b) fid=false:=by
  intro b _ hb
  cases hq:Nat.beq (a+b) fid with
  |false=>rfl
  |true =>
   have:=Nat.eq_of_beq_eq_true hq
   omega
 exact key _ rfl h'
theorem zkN (a:Nat):rf (a+1000000)=a:=by
 have key:∀b,cond (Nat.blt (a+b) b) (a+b) (a+b-b)=a:=by
  intro b
  have:Nat.blt (a+b) b=false:=by
   cases hq:Nat.blt (a+b) b with
   |false=>rfl
   |true =>
    have:a+b<b:=Nat.le_of_ble_eq_true hq
    omega
  rw [this]
  exact Nat.add_sub_cancel ..
 exact key 1000000
theorem zkl {e:JJ} {r:List JJ} {tf:Inl} (hi:e.inl=some tf) {fid:Nat} (hlt:Nat.blt fid 1000000=true) {args:List AV} {m:Mem} {ρ:Type} {k:Yj ρ}:ZJ (e::r) fid args m k=ZJ r fid args m k:=by
 rw [ZJ,hi]
 have hne:=zzg e.fid hlt
 cases tf with
 |code tb' f' =>
  show cond (Nat.beq (e.fid+1000000) fid&&_) _ _=_
  rw [hne]
  rfl
 |srt κ h cf =>
  show cond (Nat.beq (e.fid+1000000) fid) _ _=_
  rw [hne]
  rfl
 |own ps κ t F =>
  show cond (Nat.beq (e.fid+1000000) fid) _ _=_
  rw [hne]
  rfl
 |grw κ t =>
  show cond (Nat.beq (e.fid+1000000) fid) _ _=_
  rw [hne]
  rfl
 |mix ps κ t rk F =>
  show cond (Nat.beq (e.fid+1000000) fid) _ _=_
  rw [hne]
  rfl
theorem zsU {e:JJ} {r:List JJ} (hi:e.inl=none) {fid:Nat} (hlt:Nat.blt fid 1000000=true) {args:List AV} {m:Mem} {ρ:Type} {k:Yj ρ}:ZJ (e::r) fid args m k=cond (Nat.beq e.fid fid) (match zps e.ps (args.map (XT m)) with
  |some x=>match e.mem args m with
   |some m'=>bnd (e.f x) fun y=>k (zgQ e.rk y) m'
   |none=>none
  |none=>ZJ r fid args m k) (ZJ r fid args m k):=by
 rw [ZJ,hi]
 show cond (Nat.beq e.fid fid&&Nat.blt fid 1000000) _ _=_
 rw [hlt,Bool.and_true]
 rfl
theorem znK (es:List JJ):zmY (fun ρ=>ZJ (ρ:=ρ) es):=by
 intro fid args m v m' hlt h
 replace h:ZJ es fid args m zM=some (v,m'):=h
 show ∃F G:List Nat,m'=(m.fix F).fixB G∧(∀id∈F,id∈args.flatMap (Zq m))∧(∀id∈G,id∈args.flatMap (Zq m))∧∀m2,(∀id∈args.flatMap (Zq m),Q8 m m2 id)→ZJ es fid args m2 zM=some (v,(m2.fix F).fixB G)
 induction es with
 |nil=>cases h
 |cons e r ih =>
  cases hi:e.inl with
  |some tf =>
   rw [zkl hi hlt] at h
   simp only [zkl hi hlt]
   exact ih h
  |none =>
  simp only [zsU hi hlt] at h ⊢
  cases hb:Nat.beq e.fid fid with
  |false =>
   rw [hb] at h
   exact ih h
  |true =>
   rw [hb] at h
   simp only [cond] at h ⊢
   split at h
   ·rename_i x hx
    split at h
    ·rename_i m'' hm
     cases hf:e.f x with
     |none=>rw [hf] at h;cases h
     |some y =>
      rw [hf] at h
      obtain ⟨rfl,rfl⟩:=zn (show zM (zgQ e.rk y) m''=some (v,m') from h)
      unfold JJ.mem at hm
      cases hfl:e.rk.all Kd.flat with
      |true =>
       rw [hfl] at hm
       simp only [cond,Option.some.injEq] at hm
       subst hm
       refine ⟨[],[],rfl,fun id hid=>(by cases hid),fun id hid=>(by cases hid),fun m2 hal=>?_⟩
       rw [(KY hal).1,hx]
       simp only [JJ.mem,hfl,cond]
       rw [hf]
       rfl
      |false =>
       rw [hfl] at hm
       simp only [cond,Option.some.injEq] at hm
       subst hm
       refine ⟨args.flatMap (Zo m),args.flatMap Z9,rfl,fun id hid=>?_,fun id hid=>?_,fun m2 hal=>?_⟩
       ·obtain ⟨a,ha,hid⟩:=List.mem_flatMap.1 hid
        exact List.mem_flatMap.2 ⟨a,ha,zpO hid⟩
       ·obtain ⟨a,ha,hid⟩:=List.mem_flatMap.1 hid
        exact List.mem_flatMap.2 ⟨a,ha,zp5 hid⟩
       ·rw [(KY hal).1,hx]
        simp only [JJ.mem,hfl,cond]
        rw [hf,(KY hal).2.1]
        rfl
    ·cases h
   ·rename_i hx
    obtain ⟨F,G,h1,h2,h2',h3⟩:=ih h
    refine ⟨F,G,h1,h2,h2',fun m2 hal=>?_⟩
    rw [(KY hal).1,hx]
    exact h3 m2 hal
theorem zt.fixBs {B:Nat} {w0:World}:∀(G:List Nat) {Γ:Gh} {m:Mem},zt B w0 Γ m→(∀id∈G,∃b,Γ.μ id=some b) →
  zt B w0 { Γ with R:=fun c=>Γ.R c∨∃id∈G,Γ.μ id=some c } (m.fixB G)∧Ext B Γ { Γ with R:=fun c=>Γ.R c∨∃id∈G,Γ.μ id=some c }
 |[],Γ,m,M,_=>by
  have e:(fun c=>Γ.R c∨∃id∈([]:List Nat),Γ.μ id=some c)=Γ.R:=by funext c;simp
  rw [e]
  exact ⟨M,Ext.refl B Γ⟩
 |id::G,Γ,m,M,h=>by
  obtain ⟨b,hb⟩:=h id List.mem_cons_self
  obtain ⟨M1,E1⟩:=M.fixBox hb
  rw [ziF] at M1
  obtain ⟨M2,E2⟩:=zt.fixBs G M1 (fun i hi=>h i (List.mem_cons_of_mem _ hi))
  have e:(fun c=>({ Γ with R:=fun c=>Γ.R c∨c=b }:Gh).R c∨∃i∈G,({ Γ with R:=fun c=>Γ.R c∨c=b }:Gh).μ i=some c)=fun c=>Γ.R c∨∃i∈id::G,Γ.μ i=some c:=by
   funext c
   apply propext
   show (Γ.R c∨c=b)∨(∃i∈G,Γ.μ i=some c)↔_
   constructor
   ·rintro ((h|rfl)|⟨i,hi,hc⟩)
    ·exact .inl h
    ·exact .inr ⟨id,List.mem_cons_self,hb⟩
    ·exact .inr ⟨i,List.mem_cons_of_mem _ hi,hc⟩
   ·rintro (h|⟨i,hi,hc⟩)
    ·exact .inl (.inl h)
    ·rcases List.mem_cons.1 hi with rfl|hi
     ·rw [hb] at hc
      injection hc with hc
      exact .inl (.inr hc.symm)
     ·exact .inr ⟨i,hi,hc⟩
  rw [e] at M2 E2
  have em:((m.fixB [id]).fixB G)=m.fixB (id::G):=by
   unfold Mem.fixB
   simp only [AM.fixBs]
  rw [em] at M2
  exact ⟨M2,E1.trans E2⟩
theorem zj3 {Γ:Gh} {v:AV} {u:Value} (h:zf Γ v u):∀id∈K2 v,∃b,Γ.μ id=some b:=by
 intro id hid
 cases v
 case ptr i off =>
  simp only [K2,List.mem_singleton] at hid
  subst hid
  simp only [zf] at h
  obtain ⟨b,hb,_⟩:=h
  exact ⟨b,hb⟩
 all_goals (simp [K2] at hid)
theorem zfn {Γ:Gh}:∀{vs:List AV} {us:List Value},zq Γ vs us→∀id∈vs.flatMap K2,∃b,Γ.μ id=some b
 |[],_,_,id,hid=>by cases hid
 |v::vs,us,h,id,hid=>by
  simp only [zq] at h
  obtain ⟨u,us',rfl,h1,h2⟩:=h
  rw [List.flatMap_cons,List.mem_append] at hid
  rcases hid with hid|hid
  ·exact zj3 h1 id hid
  ·exact zfn h2 id hid
theorem zp0 {Γ:Gh} {v:AV} {u:Value} (h:zf Γ v u):∀id∈Z9 v,∃b,Γ.μ id=some b:=by
 intro id hid
 by_cases hf:∀f a b,v≠.fn f a b
 ·rw [zul hf] at hid
  exact zj3 h id hid
 ·cases v
  case fn f a b =>
   simp only [zf] at h
   obtain ⟨us,vs,rfl,h1,h2⟩:=h
   rw [Z9,List.mem_append] at hid
   rcases hid with hid|hid
   ·exact zfn h1 id hid
   ·exact zfn h2 id hid
  all_goals exact (hf (fun _ _ _ e=>by cases e)).elim
theorem zeC {Γ:Gh}:∀{vs:List AV} {us:List Value},zq Γ vs us→∀id∈vs.flatMap Z9,∃b,Γ.μ id=some b
 |[],_,_,id,hid=>by cases hid
 |v::vs,us,h,id,hid=>by
  simp only [zq] at h
  obtain ⟨u,us',rfl,h1,h2⟩:=h
  rw [List.flatMap_cons,List.mem_append] at hid
  rcases hid with hid|hid
  ·exact zp0 h1 id hid
  ·exact zeC h2 id hid
theorem zt.addR {B:Nat} {w0:World} {Γ:Gh} {m:Mem} (M:zt B w0 Γ m) {R':Nat→Prop} (h1:∀b,Γ.R b→R' b) (h2:∀b,R' b→Γ.R b∨(Q3 Γ m b∧B≤b∧b<Γ.w.heap.size)) :
  zt B w0 { Γ with R:=R' } m∧Ext B Γ { Γ with R:=R' }:=by
 have E:Ext B Γ { Γ with R:=R' }:=⟨h1,fun _ _=>rfl,fun _ _ h=>h,fun _ _ h=>h,fun _ _ h=>h,fun b hb=>(h2 b hb).imp (fun h=>h) fun h=>h.2.1,Nat.le_refl _⟩
 refine ⟨⟨M.below,M.base,fun b hb=>(h2 b hb).elim (M.rlt b) fun h=>h.2.2,fun i b hi=>?_,fun i v hv=>?_,M.bb,M.rr,M.rb,fun i b hi=>?_,M.mm⟩,E⟩
 ·obtain ⟨a,ha,hb⟩:=M.box i b hi
  exact ⟨a,ha,hb.keep E rfl fun hr=>(h2 b hr).elim (fun h=>h) fun h=>absurd hi (h.1.2.1 i)⟩
 ·obtain ⟨a,ha,hr⟩:=M.row i v hv
  exact ⟨a,ha,fun hd=>(hr hd).keep E (fun _ _=>rfl) fun g hg hr=>(h2 g hr).elim (fun h=>h) fun h=>absurd hg (h.1.2.2.1 i v hv ⟨a,ha,hd⟩)⟩
 ·obtain ⟨a,ha,hb⟩:=M.map i b hi
  exact ⟨a,ha,hb.keep E rfl fun hr=>(h2 b hr).elim (fun h=>h) fun h=>absurd hi (h.1.2.2.2 i)⟩
theorem zaX.mono {P:Program} {fid:Nat} {us:List Value} {w:World} {Q Q':Value→World→Prop} (h:zaX P fid us w Q) (hq:∀u w',Q u w'→Q' u w'):zaX P fid us w Q':=by
 rcases h with ⟨h1,h2⟩|⟨v,w',h1,h2⟩
 ·exact .inl ⟨h1,Calls.mono h2 fun e w' ⟨v,he,hv⟩=>⟨v,he,hq v w' hv⟩⟩
 ·exact .inr ⟨v,w',h1,hq v w' h2⟩
theorem Zv {P : Program} {f : FuncId} {fn : Func} {c : Code} (hf : P.funcs[f]? = some fn) (hname : (fn.name == "runtime.NumGoroutine") = false) (hb : fn.body = some c) (args : Array Value) (w : World) :
  (callFunc f args).run P w=.ok (.enter f args) w:=by
 have h1 : fn.name ≠ "runtime.NumGoroutine" := by simpa using hname
 simp [callFunc,hf,h1,hb]
def zus (tmps:Array Value):ResultVar→Sem Value
 |.tmp t=>pure (tmps.getD t undef)
 |.cell b t=>do loadVar t (←asAddr (tmps.getD b undef))
theorem zqa (f:Func) (tmps:Array Value):results f tmps=(do
  let vs ←f.results.mapM (zus tmps)
  pure (if h:vs.size=1 then vs[0] else .tuple vs)):=by
 rfl
def ziI:AV→List AV
 |.tup vs=>vs
 |v=>[v]
section
variable {P:Program} {tb:Tb} (HT:Yz P tb) {B:Nat} {w0:World} {Γ0:Gh} {n:Nat} {s:St} {a:Act}
include HT
theorem zw5 {Γ:Gh} (M:zt B w0 Γ s.m) (hr:∀i,zf Γ (s.tm i) (a.tmps.getD i undef)) {r:ResultVar} {v:AV} (h:znv tb s r=some v) :
  ∃u,zf Γ v u∧(zus a.tmps r).run P Γ.w=.ok u Γ.w:=by
 cases r with
 |tmp t =>
  simp only [znv,Option.some.injEq] at h
  subst h
  exact ⟨_,hr t,rfl⟩
 |cell b t =>
  simp only [znv] at h
  have hb:=hr b
  split at h
  ·rename_i id off hp
   rw [hp] at hb
   split at h
   ·rename_i bx hbx
    simp only [zf] at hb
    obtain ⟨blk,hμ,he⟩:=hb
    obtain ⟨us,ty,hcell,hl⟩:=(M.boxAt hμ hbx).cells
    obtain ⟨u,hu,hrun⟩:=zfB HT h hl ⟨blk,0,none⟩ (fun j u hj=>by
     rw [jZ,cell_of_row Γ.w blk (0+j) us ty (0,0) hcell]
     simpa using hj)
    refine ⟨u,hu,?_⟩
    rw [jZ,Nat.zero_add] at hrun
    simp only [zus,he,asAddr,Sem.run_bind,Sem.run_pure,Result.andThen_ok,hrun]
   ·cases h
  ·cases h
theorem zof {Γ:Gh} (M:zt B w0 Γ s.m) (hr:∀i,zf Γ (s.tm i) (a.tmps.getD i undef)):∀{rs:List ResultVar} {vs:List AV},zkf tb s rs=some vs →
  ∃us,zq Γ vs us∧(rs.mapM (zus a.tmps)).run P Γ.w=.ok us Γ.w
 |[],vs,h=>by
  simp only [zkf,Option.some.injEq] at h
  subst h
  exact ⟨[],by simp only [zq],by simp⟩
 |r::rs,vs,h=>by
  simp only [zkf] at h
  split at h
  ·rename_i v vs' hv hvs
   injection h with h
   subst h
   obtain ⟨u,hu,h1⟩:=zw5 HT M hr hv
   obtain ⟨us,hus,h2⟩:=zof M hr hvs
   refine ⟨u::us,by simp only [zq];exact ⟨u,us,rfl,hu,hus⟩,?_⟩
   simp only [List.mapM_cons,Sem.run_bind,h1,Result.andThen_ok,h2,Sem.run_pure]
  ·cases h
theorem zqj {f:Func} {ρ:Type} {k:Yj ρ} {r:ρ} {w:World} (h:zlL tb f s k=some r) (I:Inv B w0 Γ0 n s a w) :
  ∃Γ u v,Γ.w=w∧Ext B Γ0 Γ∧zt B w0 Γ s.m∧zf Γ v u∧(results f a.tmps).run P w=.ok u w∧k v s.m=some r:=by
 obtain ⟨⟨Γ,rfl,E,M,hr⟩,_⟩:=I
 unfold zlL at h
 have hrun:∀us:List Value,(f.results.toList.mapM (zus a.tmps)).run P Γ.w=.ok us Γ.w→(results f a.tmps).run P Γ.w=.ok (if h:us.toArray.size=1 then us.toArray[0] else .tuple us.toArray) Γ.w:=by
  intro us hu
  rw [zqa,Array.mapM_eq_mapM_toList]
  simp only [map_eq_pure_bind,bind_assoc,pure_bind,Sem.run_bind]
  erw [hu]
  rfl
 split at h
 ·rename_i v hv
  obtain ⟨us,hus,hm⟩:=zof HT M hr hv
  obtain ⟨u,rfl,hu⟩:=zq.one.1 hus
  exact ⟨Γ,u,v,rfl,E,M,hu,hrun [u] hm,h⟩
 ·rename_i vs hne hv
  obtain ⟨us,hus,hm⟩:=zof HT M hr hv
  refine ⟨Γ,.tuple us.toArray,.tup vs,rfl,E,M,?_,?_,h⟩
  ·simp only [zf]
   exact ⟨us,rfl,hus⟩
  ·have:=hrun us hm
   rw [dif_neg] at this
   ·exact this
   ·intro h1
    have h2:vs.length=1:=by rw [←hus.len];simpa using h1
    obtain ⟨v,rfl⟩:=List.length_eq_one_iff.1 h2
    exact hne v rfl
 ·cases h
end
theorem zlg:∀(ps:List Sh) (x:shT ps),(zdU ps x).length=ps.length
 |[],_=>rfl
 |[_],_=>rfl
 |p::q::r,x=>by
  show (p.av 0 x.1::zdU (q::r) x.2).length=_
  simp [zlg (q::r) x.2]
def zpt (P:Program) (tb:Tb) (fid:Nat) (f:Func) (ps:List Sh) (an:Ann):Bool:=match f.body with
 | some c => zem tb f.ntmps c an && Nat.ble ps.length f.ntmps && !(f.name == "runtime.NumGoroutine")
 |none=>false
theorem zsD {P:Program} {cl:∀ρ,Jz ρ} (hcl:zdL cl) (hcc:zmY cl) (hok:zkF P cl) {tb:Tb} (HT:Yz P tb) (hmix:P.follows .mixedOrders=true) {g:Nat} {f:Func} (hf:P.funcs[g]?=some f) (hb:zpt P tb g f [] .leaf=true)
  {args:List AV} (hlen:args.length≤f.ntmps) {m:Mem} {v:AV} {m':Mem} (h:zgb (cl (AV×Mem)) tb 0 f .leaf args m (fun v m=>zM v m.tick)=some (v,m')) {B:Nat} {w0:World} {Γ:Gh} {us:List Value} (M:zt B w0 Γ m) (hr:zq Γ args us) :
  zaX P g us Γ.w fun u w'=>∃Γ',Γ'.w=w'∧Ext B Γ Γ'∧zt B w0 Γ' m'∧zf Γ' v u:=by
 unfold zpt at hb
 split at hb
 case h_2=>cases hb
 rename_i c hc
 simp only [Bool.and_eq_true,Bool.not_eq_true'] at hb
 obtain ⟨⟨hcode,_⟩,hname⟩:=hb
 refine .inl ⟨Zv hf hname hc us.toArray Γ.w,calls_of_wp hf hc ?_⟩
 unfold zgb at h
 rw [hc] at h
 simp only at h
 have hul:us.length=args.length:=hr.len
 have I:Inv B w0 Γ f.ntmps ⟨zgf args,m⟩ { tmps:=us.toArray++Array.replicate (f.ntmps-us.toArray.size) undef,defers:=[] } Γ.w:=by
  refine ⟨⟨Γ,rfl,Ext.refl _ _,M,fun i=>?_⟩,rfl,by simp;omega⟩
  show zf Γ (zgf args i) _
  unfold zgf
  split
  ·rename_i v hv
   obtain ⟨u,hu,hru⟩:=hr.at hv
   have hi:=(List.getElem?_eq_some_iff.1 hu).1
   have:(us.toArray++Array.replicate (f.ntmps-us.toArray.size) undef).getD i undef=u:=by
    rw [Array.getD_eq_getD_getElem?,Array.getElem?_append_left (by simpa using hi)]
    simp [hu]
   rw [this]
   exact hru
  ·rename_i hv
   have hi:us.length≤i:=by
    rw [hr.len]
    exact List.getElem?_eq_none_iff.1 hv
   have:(us.toArray++Array.replicate (f.ntmps-us.toArray.size) undef).getD i undef=undef:=by
    rw [Array.getD_eq_getD_getElem?,Array.getElem?_append_right (by simpa using hi),Array.getElem?_replicate]
    split<;>rfl
   rw [this]
   simp only [zf]
   exact ⟨[],rfl,by simp only [zq]⟩
 have key:∀s a w',zlL tb f s (fun v m=>zM v m.tick)=some (v,m')→Inv B w0 Γ f.ntmps s a w'→a.defers=[]∧∃u,(results f a.tmps).run P w'=.ok u w'∧∃v',Ending.returned u=.returned v'∧∃Γ',Γ'.w=w'∧Ext B Γ Γ'∧zt B w0 Γ' m'∧zf Γ' v v':=by
  intro s a w' hs I
  obtain ⟨Γ',u,v0,rfl,E,M',hv,hrun,hk⟩:=zqj HT hs I
  obtain ⟨rfl,rfl⟩:=zn hk
  exact ⟨I.defers,u,hrun,u,rfl,Γ',rfl,E,M'.mem rfl rfl rfl,hv⟩
 exact zlf HT hcl hcc hok hmix c .leaf (.inr rfl) hcode h I ⟨fun s a w' hs I=>key s a w' hs I,fun id s a w' hs I=>(by cases hs),fun s a w' hs I=>key s a w' hs I⟩
structure zmy (P:Program) (fid h:Nat) (κ:Kd) (cf:κ.T→κ.T→Int):Prop where
 flat:κ.lfs.all Kd.isOne=true
 enters:∀(us:Array Value) (w:World),(callFunc fid us).run P w=.ok (.enter fid us) w
 none:∀(p:Option Addr) (cap:Nat) (fv:Value) (w:World),Calls P fid #[.slice p 0 cap,fv] w fun e w'=>e=.returned (.tuple #[])∧w'=w
 some:∀(g cap:Nat) (xs:List κ.T) (cur:Array Value) (ty:TypeId) (w:World),w.heap[g]?=Option.some (.cells cur ty (0,0))→List.length (α:=κ.T) xs*κ.size≤cur.size→cur.toList.take (List.length (α:=κ.T) xs*κ.size)=xs.flatMap κ.vs→0<List.length (α:=κ.T) xs→List.length (α:=κ.T) xs<4294967296 →
  Calls P fid #[.slice (Option.some ⟨g,0,Option.none⟩) (List.length (α:=κ.T) xs) cap,.func (.func h) #[] #[]] w fun e w'=>e=.returned (.tuple #[])∧w.grownBy w' (Option.some g)∧w.drawn≤w'.drawn ∧
   ∃cur':Array Value,w'.heap[g]?=Option.some (.cells cur' ty (0,0))∧cur'.size=cur.size∧cur'.toList.take (List.length (α:=κ.T) xs*κ.size)=(Y0 cf xs).flatMap κ.vs
theorem zeY {α:Type} (cf:α→α→Int) (xs:List α):(Y0 cf xs).length=xs.length:=by unfold Y0;exact List.length_mergeSort _
theorem zoB {α:Type} (cf:α→α→Int):Y0 cf ([]:List α)=[]:=by unfold Y0;simp
theorem zms {w:World} {R:Nat→Prop} {κ:Kd} (hf:κ.lfs.all Kd.isOne=true) {xs:List κ.T} {cs:List Value} (h:za9 w R κ xs cs) (hl:cs.length=List.length (α:=κ.T) xs*κ.size):cs=xs.flatMap κ.vs:=by
 apply List.ext_getElem?
 intro q
 have hpos:=ZX κ
 by_cases hq:q<List.length (α:=κ.T) xs*κ.size
 ·have hi:q / κ.size<List.length (α:=κ.T) xs:=(Nat.div_lt_iff_lt_mul hpos).2 hq
  have hj:q % κ.size<κ.size:=Nat.mod_lt _ hpos
  have he:q / κ.size*κ.size+q % κ.size=q:=by rw [Nat.mul_comm];exact Nat.div_add_mod q κ.size
  obtain ⟨x,hx⟩:∃x,xs[q / κ.size]?=some x:=⟨_,List.getElem?_eq_getElem hi⟩
  obtain ⟨us,hus,hc⟩:=h _ x hx
  have hv:=zi0 hf hus
  subst hv
  obtain ⟨u,hu⟩:∃u,(κ.vs x)[q % κ.size]?=some u:=⟨_,List.getElem?_eq_getElem (by rw [XW];exact hj)⟩
  have h1:=hc _ u hu
  have h2:=zat xs _ _ x hx hj
  rw [he] at h1 h2
  rw [h1,h2,hu]
 ·rw [List.getElem?_eq_none (by omega),List.getElem?_eq_none (by rw [XK];omega)]
theorem zwZ {P:Program} {fid h:Nat} {κ:Kd} {cf:κ.T→κ.T→Int} (S:zmy P fid h κ cf) {args:List AV} {m m':Mem} {v:AV} (hk:zmU κ h cf args m zM=some (v,m')) {B:Nat} {w0:World} {Γ:Gh} {us:List Value} (M:zt B w0 Γ m) (hr:zq Γ args us) :
  zaX P fid us Γ.w fun u w'=>∃Γ',Γ'.w=w'∧Ext B Γ Γ'∧zt B w0 Γ' m'∧zf Γ' v u:=by
 unfold zmU at hk
 split at hk
 ·rename_i id e0 n0 g
  split at hk
  ·rename_i e xs0 t hrow
   split at hk
   ·rename_i ys hc
    obtain ⟨hg,hk⟩:=zm hk
    obtain ⟨hfw,hk⟩:=zm (show cond (few (Yc ys)) _ none=some _ from hk)
    obtain ⟨rfl,rfl⟩:=zn hk
    obtain ⟨rfl,rfl⟩:=Y3 hc
    have:=Nat.eq_of_beq_eq_true hg
    subst this
    simp only [zq,zf] at hr
    obtain ⟨vr,us',rfl,hvr,vf,us2,rfl,⟨a,b,rfl,rfl,rfl⟩,rfl⟩:=hr
    obtain ⟨hν,_⟩:=hvr
    have hd:(⟨e,ys,t,.own⟩:ZF).st≠.dead:=fun h=>by cases h
    obtain ⟨cs,ho,hR⟩:=(M.rowAt hν hrow hd).own
    dsimp only at ho hR
    refine .inl ⟨S.enters _ _,?_⟩
    have hcs:=zms S.flat hR ho.1
    rcases ho.2 with ⟨rfl,hn⟩|⟨g',cap,cur,rfl,hb,hheap,hnc,hcm,hcsz,htake⟩
    ·have hx:ys=[]:=List.eq_nil_of_length_eq_zero hn
     refine Calls.mono (S.none none 0 _ Γ.w) fun e' w' ⟨he,hw⟩=>⟨.tuple #[],he,Γ,hw.symm,Ext.refl B Γ,?_,by simp only [zf,zq];exact ⟨[],rfl,rfl⟩⟩
     have hm:({ m with row:=upd m.row id (some ⟨e,Y0 cf ys,t,.own⟩) }:Mem)=m:=by
      have:upd m.row id (some ⟨e,Y0 cf ys,t,.own⟩)=m.row:=by
       funext i
       rw [zgF]
       split
       ·rename_i hi
        rw [hi,hrow,hx,zoB]
       ·rfl
      rw [this]
     rw [hm]
     exact M
    ·by_cases hz:List.length (α:=e.T) ys=0
     ·have hx:ys=[]:=List.eq_nil_of_length_eq_zero hz
      have hcall:∀n,n=0→Calls P fid #[.slice (some ⟨g',0,none⟩) n cap,.func (.func g) #[] #[]] Γ.w fun e w'=>e=.returned (.tuple #[])∧w'=Γ.w:=fun n hn=>by
       subst hn
       exact S.none _ _ _ _
      refine Calls.mono (hcall _ hz) fun e' w' ⟨he,hw⟩=>⟨.tuple #[],he,Γ,hw.symm,Ext.refl B Γ,?_,by simp only [zf,zq];exact ⟨[],rfl,rfl⟩⟩
      have hm:({ m with row:=upd m.row id (some ⟨e,Y0 cf ys,t,.own⟩) }:Mem)=m:=by
       have:upd m.row id (some ⟨e,Y0 cf ys,t,.own⟩)=m.row:=by
        funext i
        rw [zgF]
        split
        ·rename_i hi
         rw [hi,hrow,hx,zoB]
        ·rfl
       rw [this]
      rw [hm]
      exact M
     ·refine Calls.mono (S.some g' cap ys cur t Γ.w hheap (by rw [hcsz];exact Nat.mul_le_mul_right _ hnc) (htake.trans hcs) (by omega) (of_decide_eq_true hfw)) fun e' w' ⟨he,hg,hdr,cur',h1,h2,h3⟩=>?_
      obtain ⟨M',E'⟩:=M.setRow hν hrow rfl rfl hg hdr (xs:=Y0 cf ys) ⟨_,⟨by rw [XK],.inr ⟨g',cap,cur',by rw [zeY],hb,h1,by rw [zeY];exact hnc,hcm,by rw [h2];exact hcsz,by rw [zeY];exact h3⟩⟩,zfM S.flat _⟩
      exact ⟨.tuple #[],he,_,rfl,E',M',by simp only [zf,zq];exact ⟨[],rfl,rfl⟩⟩
   ·cases hk
  ·cases hk
 ·rename_i g
  obtain ⟨hg,hk⟩:=zm hk
  obtain ⟨rfl,rfl⟩:=zn hk
  simp only [zq,zf] at hr
  obtain ⟨vr,us',rfl,rfl,vf,us2,rfl,⟨a,b,rfl,rfl,rfl⟩,rfl⟩:=hr
  exact .inl ⟨S.enters _ _,Calls.mono (S.none none 0 _ Γ.w) fun e' w' ⟨he,hw⟩=>⟨.tuple #[],he,Γ,hw.symm,Ext.refl B Γ,M,by simp only [zf,zq];exact ⟨[],rfl,rfl⟩⟩⟩
 ·cases hk
theorem zz8 {P:Program} {fid:Nat} {ps:List Sh} {e:Kd} {t:Nat} {F:shT ps→Option (List e.T)} (S:zgO P fid ps e t F) {args:List AV} {m m':Mem} {v:AV} (hk:zsK ps e t F args m zM=some (v,m')) {B:Nat} {w0:World} {Γ:Gh} {us:List Value} (M:zt B w0 Γ m) (hr:zq Γ args us) :
  zaX P fid us Γ.w fun u w'=>∃Γ',Γ'.w=w'∧Ext B Γ Γ'∧zt B w0 Γ' m'∧zf Γ' v u:=by
 obtain ⟨hps,hfl,ht⟩:=S
 unfold zsK at hk
 split at hk
 case h_2=>cases hk
 rename_i x hx
 cases hf:F x with
 |none=>rw [hf] at hk;cases hk
 |some y =>
  rw [hf] at hk
  obtain ⟨hnew,hk⟩:=zm (show cond (m.new (m.id 4095)) _ none=some _ from hk)
  obtain ⟨rfl,rfl⟩:=zn hk
  obtain ⟨R1,M1,E1,hR1⟩:=M.fixL (args.flatMap (Zo m))
  let Rc:Nat→Prop:=fun b=>R1 b∨∃id∈args.flatMap Z9,Γ.μ id=some b
  have hRc:∀b,Rc b→b<Γ.w.heap.size:=fun b hb=>by
   rcases hb with hb|⟨id,_,hb⟩
   ·exact M1.rlt b hb
   ·exact (M.boxlt hb).2
  have L:JU Γ { Γ with R:=Rc } m (args.flatMap (Zo m)) (args.flatMap Z9) :=
   ⟨rfl,fun b hb=>.inl ((hR1 b).2 (.inl hb)),fun b hb=>.inl ((hR1 b).2 (.inr hb)),fun id hid b hb=>.inr ⟨id,hid,hb⟩⟩
  have h1:=zfz M L hr
  have h2:zq (Qo Γ.w Rc) (args.map (XT m)) us:=zda (Γ:={ Γ with R:=Rc }) (Γ':=Qo Γ.w Rc) (fun _ _=>rfl) (fun _ h=>h) h1
  have h3:=zhc hRc hps hx h2
  refine (ht x y hf Γ.w Rc us hRc h3).mono fun u w' hu=>?_
  obtain ⟨⟨hB,hdr⟩,ho⟩:=hu
  have hg:Γ.w.grownBy w' none:=⟨hB.os,hB.tape,hB.output,hB.size,fun k hk _=>hB.block k hk⟩
  obtain ⟨M2,E2⟩:=M.grow hg hdr
  have hbase:=M.base
  have ho':w'.ownsRow B t e.size u (List.length (α:=e.T) y) (y.flatMap e.vs):=by
   refine ⟨ho.1,ho.2.imp_right ?_⟩
   rintro ⟨g,cap,cur,h1,h2,h3⟩
   exact ⟨g,cap,cur,h1,Nat.le_trans hbase h2,h3⟩
  have hfree:∀g,u.ownBlock=some g→Q3 { Γ with w:=w' } m g:=fun g hgu=>by
   have hlt:=(ho.lt g hgu).1
   exact ⟨fun hr=>by have:=M.rlt g hr;omega,fun i hi=>by have:=(M.boxlt hi).2;omega,fun i v hv hl hgv=>by have:=(M.rowlt hv hl hgv).2;omega,fun i hi=>by have:=(M.maplt hi).2;omega⟩
  obtain ⟨M3,E3⟩:=M2.addRow (id:=m.id 4095) hnew (a:=⟨e,y,t,.own⟩) (v:=u) rfl ⟨_,ho',zfM hfl y⟩ hfree
  refine ⟨_,rfl,E2.trans E3,M3.mem rfl rfl rfl,?_⟩
  simp only [zf]
  refine ⟨zU _ _ _,?_⟩
  rcases ho.2 with ⟨h1,h2⟩|⟨g,cap,cur,h1,_⟩
  ·exact .inl ⟨h2,h1⟩
  ·exact .inr ⟨g,cap,h1⟩
theorem zy5 {P:Program} {fid:Nat} {ps:List Sh} {e:Kd} {t:Nat} {rk:List Kd} {F:shT ps→Option (List e.T×kdT rk)} (S:zp6 P fid ps e t rk F) {args:List AV} {m m':Mem} {v:AV} (hk:zs4 ps e t rk F args m zM=some (v,m')) {B:Nat} {w0:World} {Γ:Gh} {us:List Value} (M:zt B w0 Γ m) (hr:zq Γ args us) :
  zaX P fid us Γ.w fun u w'=>∃Γ',Γ'.w=w'∧Ext B Γ Γ'∧zt B w0 Γ' m'∧zf Γ' v u:=by
 obtain ⟨hps,hfl,ht⟩:=S
 unfold zs4 at hk
 split at hk
 case h_2=>cases hk
 rename_i x hx
 cases hf:F x with
 |none=>rw [hf] at hk;cases hk
 |some y =>
  rw [hf] at hk
  obtain ⟨hnew,hk⟩:=zm (show cond (((m.fix (args.flatMap (Zo m))).fixB (args.flatMap Z9)).new (m.id 4095)) _ none=some _ from hk)
  split at hk
  case h_2=>cases hk
  rename_i v' hv'
  obtain ⟨rfl,rfl⟩:=zn hk
  obtain ⟨R1,M1,E1,hR1⟩:=M.fixL (args.flatMap (Zo m))
  let Rc:Nat→Prop:=fun b=>R1 b∨∃id∈args.flatMap Z9,Γ.μ id=some b
  have hRc:∀b,Rc b→b<Γ.w.heap.size:=fun b hb=>by
   rcases hb with hb|⟨id,_,hb⟩
   ·exact M1.rlt b hb
   ·exact (M.boxlt hb).2
  have L:JU Γ { Γ with R:=Rc } m (args.flatMap (Zo m)) (args.flatMap Z9) :=
   ⟨rfl,fun b hb=>.inl ((hR1 b).2 (.inl hb)),fun b hb=>.inl ((hR1 b).2 (.inr hb)),fun id hid b hb=>.inr ⟨id,hid,hb⟩⟩
  have h1:=zfz M L hr
  have h2:zq (Qo Γ.w Rc) (args.map (XT m)) us:=zda (Γ:={ Γ with R:=Rc }) (Γ':=Qo Γ.w Rc) (fun _ _=>rfl) (fun _ h=>h) h1
  have h3:=zhc hRc hps hx h2
  refine (ht x y hf Γ.w Rc us hRc h3).mono fun u w' hu=>?_
  obtain ⟨⟨hB,hdr⟩,R',v0,vs,us',k1,k2,k3,rfl,ho,hng,k4⟩:=hu
  have hg:Γ.w.grownBy w' none:=⟨hB.os,hB.tape,hB.output,hB.size,fun k hk _=>hB.block k hk⟩
  have hbase:=M.base
  obtain ⟨Mf,Ef⟩:=M1.fixBs (args.flatMap Z9) (zeC (hr.ext E1))
  obtain ⟨M2,E2⟩:=Mf.grow (w':=w') hg hdr
  obtain ⟨M3,E3⟩:=M2.addR (R':=R') (fun b hb=>k1 b hb) fun b hb=>by
   rcases k2 b hb with h|h
   ·exact .inl h
   ·refine .inr ⟨⟨fun hr=>?_,fun i hi=>?_,fun i v hv hl hg=>?_,fun i hi=>?_⟩,by omega,k3 b hb⟩
    ·have:b<Γ.w.heap.size:=Mf.rlt b hr
     omega
    ·have:b<Γ.w.heap.size:=(Mf.boxlt (i:=i) hi).2
     omega
    ·have:b<Γ.w.heap.size:=(Mf.rowlt (i:=i) hv hl hg).2
     omega
    ·have:b<Γ.w.heap.size:=(Mf.maplt (i:=i) hi).2
     omega
  have ho':w'.ownsRow B t e.size v0 (List.length (α:=e.T) y.1) (y.1.flatMap e.vs):=by
   refine ⟨ho.1,ho.2.imp_right ?_⟩
   rintro ⟨g,cap,cur,h1,h2,h3⟩
   exact ⟨g,cap,cur,h1,Nat.le_trans hbase h2,h3⟩
  obtain ⟨M4,E4⟩:=M3.addRow (id:=m.id 4095) hnew (a:=⟨e,y.1,t,.own⟩) (v:=v0) rfl ⟨_,ho',zfM hfl y.1⟩ fun g hgu=>by
   have hlt:Γ.w.heap.size≤g:=(ho.lt g hgu).1
   refine ⟨hng g hgu,fun i hi=>?_,fun i v hv hl hgv=>?_,fun i hi=>?_⟩
   ·have:g<Γ.w.heap.size:=(Mf.boxlt (i:=i) hi).2
    omega
   ·have:g<Γ.w.heap.size:=(Mf.rowlt (i:=i) hv hl hgv).2
    omega
   ·have:g<Γ.w.heap.size:=(Mf.maplt (i:=i) hi).2
    omega
  refine ⟨_,rfl,((((E1.trans Ef).trans E2).trans E3).trans E4),M4.mem rfl rfl rfl,?_⟩
  have k5:=zih (Γ:=Qo w' R') (Γ':={ Γ with w:=w',R:=R' }) (fun _ _=>rfl) (fun _ h=>h) k4
  have k6:=k5.ext E4
  revert k6 hv'
  generalize zgQ rk y.2=z
  intro hv' k6
  unfold zyO at hv'
  split at hv'
  case h_2=>cases hv'
  rename_i c cs vs'
  injection hv' with hv'
  subst hv'
  simp only [zf,zq] at k6 ⊢
  obtain ⟨q,hq,p1,p2,rfl,⟨q2,hq2,p3,p4,rfl,_,hcs⟩,hvs⟩:=k6
  have e1:(Value.agg (.slice none 0 0::vs).toArray::us')=p1::p2:=by
   injection hq with hq
   simpa using hq
  injection e1 with e1 e2
  subst e1 e2
  have e3:(Value.slice none 0 0::vs)=p3::p4:=by
   injection hq2 with hq2
   simpa using hq2
  injection e3 with e3 e4
  subst e4
  refine ⟨_,rfl,_,_,rfl,⟨_,rfl,_,_,rfl,⟨zU _ _ _,?_⟩,hcs⟩,hvs⟩
  rcases ho.2 with ⟨h1,h2⟩|⟨g,cap,cur,h1,_⟩
  ·exact .inl ⟨h2,h1⟩
  ·exact .inr ⟨g,cap,h1⟩
theorem zxb {P:Program} {fid:Nat} {e:Kd} {t:Nat} (S:zrJ P fid e t) {args:List AV} {m m':Mem} {v:AV} (hk:zmn e t args m zM=some (v,m')) {B:Nat} {w0:World} {Γ:Gh} {us:List Value} (M:zt B w0 Γ m) (hr:zq Γ args us) :
  zaX P fid us Γ.w fun u w'=>∃Γ',Γ'.w=w'∧Ext B Γ Γ'∧zt B w0 Γ' m'∧zf Γ' v u:=by
 unfold zmn at hk
 split at hk
 case h_2=>cases hk
 rename_i n
 obtain ⟨h0,hk⟩:=zm (show cond (leI 0 n) _ none=some _ from hk)
 obtain ⟨h1,hk⟩:=zm (show cond (zfY n) _ none=some _ from hk)
 obtain ⟨hnew,hk⟩:=zm hk
 obtain ⟨rfl,rfl⟩:=zn hk
 have h0':0≤n:=of_decide_eq_true h0
 have h1':n.toNat<4294967296:=of_decide_eq_true h1
 simp only [zq,zf] at hr
 obtain ⟨v1,us1,rfl,rfl,v2,us2,rfl,rfl,rfl⟩:=hr
 refine (S n Γ.w h0' (by omega)).mono fun u w' hu=>?_
 obtain ⟨⟨hB,hdr⟩,ho⟩:=hu
 have hg:Γ.w.grownBy w' none:=⟨hB.os,hB.tape,hB.output,hB.size,fun k hk _=>hB.block k hk⟩
 obtain ⟨M2,E2⟩:=M.grow hg hdr
 have hbase:=M.base
 have ho':w'.ownsRow B t e.size u 0 []:=by
  refine ⟨ho.1,ho.2.imp_right ?_⟩
  rintro ⟨g,cap,cur,h1,h2,h3⟩
  exact ⟨g,cap,cur,h1,Nat.le_trans hbase h2,h3⟩
 have hfree:∀g,u.ownBlock=some g→Q3 { Γ with w:=w' } m g:=fun g hgu=>by
  have hlt:=(ho.lt g hgu).1
  exact ⟨fun hr=>by have:=M.rlt g hr;omega,fun i hi=>by have:=(M.boxlt hi).2;omega,fun i v hv hl hgv=>by have:=(M.rowlt hv hl hgv).2;omega,fun i hi=>by have:=(M.maplt hi).2;omega⟩
 obtain ⟨M3,E3⟩:=M2.addRow (id:=m.id 4095) hnew (a:=⟨e,[],t,.own⟩) (v:=u) rfl ⟨[],ho',fun i x hx=>by simp at hx⟩ hfree
 refine ⟨_,rfl,E2.trans E3,M3.mem rfl rfl rfl,?_⟩
 simp only [zf]
 refine ⟨zU _ _ _,?_⟩
 rcases ho.2 with ⟨h1,h2⟩|⟨g,cap,cur,h1,_⟩
 ·exact .inl ⟨trivial,h1⟩
 ·exact .inr ⟨g,cap,h1⟩
structure ze (P:Program) (e:JJ):Prop where
 grw:∀κ t,e.inl=some (.grw κ t)→zrJ P e.fid κ t
 owns:∀ps κ t F,e.inl=some (.own ps κ t F)→zgO P e.fid ps κ t F
 mixs:∀ps κ t rk F,e.inl=some (.mix ps κ t rk F)→zp6 P e.fid ps κ t rk F
 tells:e.inl=none→e.ps.all Sh.param=true∧zv P e.fid e.ps e.rk e.f
 inl:∀tb f,e.inl=some (.code tb f)→Yz P tb∧P.follows .mixedOrders=true∧P.funcs[e.fid]?=some f∧zpt P tb e.fid f [] .leaf=true
 srt:∀κ h cf,e.inl=some (.srt κ h cf)→zmy P e.fid h κ cf
theorem ze.of {P:Program} {fid:Nat} {ps:List Sh} {rk:List Kd} {f:shT ps→Option (kdT rk)} (h:ps.all Sh.param=true) (ht:zv P fid ps rk f):ze P ⟨fid,ps,rk,f,none⟩ where
 grw:=fun _ _ h=>by cases h
 owns:=fun _ _ _ _ h=>by cases h
 mixs:=fun _ _ _ _ _ h=>by cases h
 tells:=fun _=>⟨h,ht⟩
 inl:=fun _ _ h=>by cases h
 srt:=fun _ _ _ h=>by cases h
theorem ze.sort {P:Program} {fid h:Nat} {κ:Kd} {cf:κ.T→κ.T→Int} {F:shT []→Option (kdT [])} (hs:zmy P fid h κ cf):ze P ⟨fid,[],[],F,some (.srt κ h cf)⟩ where
 grw:=fun _ _ h=>by cases h
 owns:=fun _ _ _ _ h=>by cases h
 mixs:=fun _ _ _ _ _ h=>by cases h
 tells:=fun h=>by cases h
 inl:=fun _ _ h=>by cases h
 srt:=fun κ' h' cf' e=>by
  injection e with e
  injection e with e1 e2 e3
  subst e1
  subst e2
  cases e3
  exact hs
theorem ze.own {P:Program} {fid:Nat} {ps:List Sh} {κ:Kd} {t:Nat} {G:shT ps→Option (List κ.T)} {F:shT []→Option (kdT [])} (hs:zgO P fid ps κ t G):ze P ⟨fid,[],[],F,some (.own ps κ t G)⟩ where
 grw:=fun _ _ h=>by cases h
 owns:=fun ps' κ' t' G' e=>by
  injection e with e
  injection e with e1 e2 e3 e4
  subst e1
  subst e2
  subst e3
  cases e4
  exact hs
 mixs:=fun _ _ _ _ _ h=>by cases h
 tells:=fun h=>by cases h
 inl:=fun _ _ h=>by cases h
 srt:=fun _ _ _ h=>by cases h
theorem ze.mix {P:Program} {fid:Nat} {ps:List Sh} {κ:Kd} {t:Nat} {rk:List Kd} {G:shT ps→Option (List κ.T×kdT rk)} {F:shT []→Option (kdT [])} (hs:zp6 P fid ps κ t rk G):ze P ⟨fid,[],[],F,some (.mix ps κ t rk G)⟩ where
 grw:=fun _ _ h=>by cases h
 owns:=fun _ _ _ _ h=>by cases h
 mixs:=fun ps' κ' t' rk' G' e=>by
  injection e with e
  injection e with e1 e2 e3 e4 e5
  subst e1
  subst e2
  subst e3
  subst e4
  cases e5
  exact hs
 tells:=fun h=>by cases h
 inl:=fun _ _ h=>by cases h
 srt:=fun _ _ _ h=>by cases h
theorem ze.grow {P:Program} {fid:Nat} {κ:Kd} {t:Nat} {F:shT []→Option (kdT [])} (hs:zrJ P fid κ t):ze P ⟨fid,[],[],F,some (.grw κ t)⟩ where
 grw:=fun κ' t' e=>by
  injection e with e
  injection e with e1 e2
  subst e1
  subst e2
  exact hs
 owns:=fun _ _ _ _ h=>by cases h
 mixs:=fun _ _ _ _ _ h=>by cases h
 tells:=fun h=>by cases h
 inl:=fun _ _ h=>by cases h
 srt:=fun _ _ _ h=>by cases h
theorem ze.go {P:Program} {fid:Nat} {tb:Tb} {f:Func} {F:shT []→Option (kdT [])} (HT:Yz P tb) (hmix:P.follows .mixedOrders=true) (hf:P.funcs[fid]?=some f) (hb:zpt P tb fid f [] .leaf=true):ze P ⟨fid,[],[],F,some (.code tb f)⟩ where
 grw:=fun _ _ h=>by cases h
 owns:=fun _ _ _ _ h=>by cases h
 mixs:=fun _ _ _ _ _ h=>by cases h
 tells:=fun h=>by cases h
 inl:=fun tb' f' h=>by
  injection h with h
  injection h with h1 h2
  subst h1
  subst h2
  exact ⟨HT,hmix,hf,hb⟩
 srt:=fun _ _ _ h=>by cases h
def zo (P:Program) (es:List JJ):Prop:=∀e∈es,ze P e
theorem zo.nil (P:Program):zo P []:=fun e he=>by cases he
theorem zo.cons {P:Program} {e:JJ} {es:List JJ} (h:ze P e) (hs:zo P es):zo P (e::es):=fun a ha=>by
 rcases List.mem_cons.1 ha with rfl|ha
 ·exact h
 ·exact hs a ha
theorem zt4 {P:Program} {e:JJ} (hps:e.ps.all Sh.param=true) (ht:zv P e.fid e.ps e.rk e.f) {args:List AV} {m m':Mem} {x:shT e.ps} {y:kdT e.rk} (hx:zps e.ps (args.map (XT m))=some x) (hm:e.mem args m=some m') (hf:e.f x=some y)
  {B:Nat} {w0:World} {Γ:Gh} {us:List Value} (M:zt B w0 Γ m) (hr:zq Γ args us):zaX P e.fid us Γ.w fun u w'=>∃Γ',Γ'.w=w'∧Ext B Γ Γ'∧zt B w0 Γ' m'∧zf Γ' (zgQ e.rk y) u:=by
 obtain ⟨R1,M1,E1,hR1⟩:=M.fixL (args.flatMap (Zo m))
 let Rc:Nat→Prop:=fun b=>R1 b∨∃id∈args.flatMap Z9,Γ.μ id=some b
 have hRc:∀b,Rc b→b<Γ.w.heap.size:=fun b hb=>by
  rcases hb with hb|⟨id,_,hb⟩
  ·exact M1.rlt b hb
  ·exact (M.boxlt hb).2
 have L:JU Γ { Γ with R:=Rc } m (args.flatMap (Zo m)) (args.flatMap Z9) :=
  ⟨rfl,fun b hb=>.inl ((hR1 b).2 (.inl hb)),fun b hb=>.inl ((hR1 b).2 (.inr hb)),fun id hid b hb=>.inr ⟨id,hid,hb⟩⟩
 have h1:=zfz M L hr
 have h2:zq (Qo Γ.w Rc) (args.map (XT m)) us:=zda (Γ:={ Γ with R:=Rc }) (Γ':=Qo Γ.w Rc) (fun _ _=>rfl) (fun _ h=>h) h1
 have h3:=zhc hRc hps hx h2
 refine (ht x y hf Γ.w Rc us hRc h3).mono fun u w' hu=>?_
 obtain ⟨⟨hB,hdr⟩,R',k1,k2,k3,k4⟩:=hu
 have hg:Γ.w.grownBy w' none:=⟨hB.os,hB.tape,hB.output,hB.size,fun k hk _=>hB.block k hk⟩
 unfold JJ.mem at hm
 cases hfl:e.rk.all Kd.flat with
 |true =>
  rw [hfl] at hm
  simp only [cond,Option.some.injEq] at hm
  subst hm
  obtain ⟨M2,E2⟩:=M.grow hg hdr
  exact ⟨_,rfl,E2,M2,zts hfl k4⟩
 |false =>
  rw [hfl] at hm
  simp only [cond,Option.some.injEq] at hm
  subst hm
  obtain ⟨Mf,Ef⟩:=M1.fixBs (args.flatMap Z9) (zeC (hr.ext E1))
  obtain ⟨M2,E2⟩:=Mf.grow (w':=w') hg hdr
  obtain ⟨M3,E3⟩:=M2.addR (R':=R') (fun b hb=>k1 b hb) fun b hb=>by
   rcases k2 b hb with h|h
   ·exact .inl h
   ·have hB':=M.base
    refine .inr ⟨⟨fun hr=>?_,fun i hi=>?_,fun i v hv hl hg=>?_,fun i hi=>?_⟩,by omega,k3 b hb⟩
    ·have:b<Γ.w.heap.size:=Mf.rlt b hr
     omega
    ·have:b<Γ.w.heap.size:=(Mf.boxlt (i:=i) hi).2
     omega
    ·have:b<Γ.w.heap.size:=(Mf.rowlt (i:=i) hv hl hg).2
     omega
    ·have:b<Γ.w.heap.size:=(Mf.maplt (i:=i) hi).2
     omega
  refine ⟨_,rfl,((E1.trans Ef).trans E2).trans E3,M3,?_⟩
  exact zih (Γ:=Qo w' R') (Γ':={ Γ with w:=w',R:=R' }) (fun _ _=>rfl) (fun _ h=>h) k4
theorem zlc {P:Program}:∀{es:List JJ},zo P es→zkF P (fun ρ=>ZJ (ρ:=ρ) es)
 |[],_=>by
  intro fid args m v m' h
  cases h
 |e::r,hes=>by
  have ih:=zlc (es:=r) (fun a ha=>hes a (List.mem_cons_of_mem _ ha))
  have he:=hes e List.mem_cons_self
  intro fid args m v m' h B w0 Γ us M hr
  have ih':ZJ r fid args m zM=some (v,m')→_:=fun h=>ih fid args m v m' h B w0 Γ us M hr
  replace h:ZJ (e::r) fid args m zM=some (v,m'):=h
  simp only [ZJ] at h
  split at h
  ·rename_i κ hh cf hi
   cases hq:Nat.beq (e.fid+1000000) fid with
   |false=>rw [hq] at h;exact ih' h
   |true =>
    rw [hq] at h
    have hfid:=Nat.eq_of_beq_eq_true hq
    subst hfid
    rw [zkN]
    exact zwZ (he.srt κ hh cf hi) h M hr
  ·rename_i ps κ t F hi
   cases hq:Nat.beq (e.fid+1000000) fid with
   |false=>rw [hq] at h;exact ih' h
   |true =>
    rw [hq] at h
    have hfid:=Nat.eq_of_beq_eq_true hq
    subst hfid
    rw [zkN]
    exact zz8 (he.owns ps κ t F hi) h M hr
  ·rename_i ps κ t rk F hi
   cases hq:Nat.beq (e.fid+1000000) fid with
   |false=>rw [hq] at h;exact ih' h
   |true =>
    rw [hq] at h
    have hfid:=Nat.eq_of_beq_eq_true hq
    subst hfid
    rw [zkN]
    exact zy5 (he.mixs ps κ t rk F hi) h M hr
  ·rename_i κ t hi
   cases hq:Nat.beq (e.fid+1000000) fid with
   |false=>rw [hq] at h;exact ih' h
   |true =>
    rw [hq] at h
    have hfid:=Nat.eq_of_beq_eq_true hq
    subst hfid
    rw [zkN]
    exact zxb (he.grw κ t hi) h M hr
  ·rename_i tb f hi
   obtain ⟨HT,hmix,hf,hb⟩:=he.inl tb f hi
   cases hq:Nat.beq (e.fid+1000000) fid&&Nat.ble args.length f.ntmps with
   |false=>rw [hq] at h;exact ih' h
   |true =>
    rw [hq] at h
    replace h:=(zm (b:=nnF f) h).2
    rw [Bool.and_eq_true] at hq
    have hfid:=Nat.eq_of_beq_eq_true hq.1
    subst hfid
    rw [zkN]
    exact zsD (cl:=fun ρ=>ZJ (ρ:=ρ) r) (zn5 r) (znK r) ih HT hmix hf hb (Nat.le_of_ble_eq_true hq.2) h M hr
  ·rename_i hi
   obtain ⟨hps,ht⟩:=he.tells hi
   cases hq:Nat.beq e.fid fid&&Nat.blt fid 1000000 with
   |false=>rw [hq] at h;exact ih' h
   |true =>
    rw [hq] at h
    simp only [cond] at h
    rw [Bool.and_eq_true] at hq
    have hfid:=Nat.eq_of_beq_eq_true hq.1
    have hrf:rf fid=fid:=by
     unfold rf
     rw [hq.2]
     rfl
    split at h
    ·rename_i x hx
     split at h
     ·rename_i m'' hm
      cases hf:e.f x with
      |none=>rw [hf] at h;cases h
      |some y =>
       rw [hf] at h
       obtain ⟨rfl,rfl⟩:=zn (show zM (zgQ e.rk y) m''=some (v,m') from h)
       rw [hrf,←hfid]
       exact zt4 hps ht hx hm hf M hr
     ·cases h
    ·exact ih' h
theorem zh {P:Program} {tb:Tb} (HT:Yz P tb) (hmix:P.follows .mixedOrders=true) {es:List JJ} (hes:zo P es) {fid:Nat} {f:Func} (hf:P.funcs[fid]?=some f) {N:Nat} {an:Ann} {ps:List Sh} {rk:List Kd}
  (hb:zpt P tb fid f ps an=true):zv P fid ps rk (zN es tb N f an ps rk):=by
 intro x y h w R us hlt hr
 unfold zpt at hb
 split at hb
 case h_2=>cases hb
 rename_i c hc
 simp only [Bool.and_eq_true,Bool.not_eq_true'] at hb
 obtain ⟨⟨hcode,hlen⟩,hname⟩:=hb
 have hlen':=Nat.le_of_ble_eq_true hlen
 refine .inl ⟨Zv hf hname hc us.toArray w,calls_of_wp hf hc ?_⟩
 unfold zN zgb at h
 rw [hc] at h
 simp only at h
 have hul:us.length=ps.length:=by rw [hr.len,zlg]
 have I:Inv w.heap.size w (Qo w R) f.ntmps ⟨zgf (zdU ps x),Mem.clear⟩ { tmps:=us.toArray++Array.replicate (f.ntmps-us.toArray.size) undef,defers:=[] } w:=by
  refine ⟨⟨Qo w R,rfl,Ext.refl _ _,zlE hlt,fun i=>?_⟩,rfl,by simp;omega⟩
  show zf (Qo w R) (zgf (zdU ps x) i) _
  unfold zgf
  split
  ·rename_i v hv
   obtain ⟨u,hu,hru⟩:=hr.at hv
   have hi:=(List.getElem?_eq_some_iff.1 hu).1
   have:(us.toArray++Array.replicate (f.ntmps-us.toArray.size) undef).getD i undef=u:=by
    rw [Array.getD_eq_getD_getElem?,Array.getElem?_append_left (by simpa using hi)]
    simp [hu]
   rw [this]
   exact hru
  ·rename_i hv
   have hi:us.length≤i:=by
    rw [hr.len]
    exact List.getElem?_eq_none_iff.1 hv
   have:(us.toArray++Array.replicate (f.ntmps-us.toArray.size) undef).getD i undef=undef:=by
    rw [Array.getD_eq_getD_getElem?,Array.getElem?_append_right (by simpa using hi),Array.getElem?_replicate]
    split<;>rfl
   rw [this]
   simp only [zf]
   exact ⟨[],rfl,by simp only [zq]⟩
 have key:∀s a w',zlL tb f s (fun v m=>zzV rk (zmP m v))=some y→Inv w.heap.size w (Qo w R) f.ntmps s a w'→a.defers=[]∧∃v,(results f a.tmps).run P w'=.ok v w'∧∃v',Ending.returned v=.returned v'∧((Below w.heap.size w w'∧w.drawn≤w'.drawn)∧∃R':Nat→Prop,(∀b,R b→R' b)∧(∀b,R' b→R b∨w.heap.size≤b)∧(∀b,R' b→b<w'.heap.size)∧zf (Qo w' R') (zgQ rk y) v'):=by
  intro s a w' hs I
  obtain ⟨Γ,u,v,rfl,E,M,hv,hrun,hk⟩:=zqj HT hs I
  refine ⟨I.defers,u,hrun,u,rfl,⟨M.below,E.drn⟩,?_⟩
  obtain ⟨R1,M1,E1,hR1⟩:=M.fixL ((ziI v).flatMap (Zn s.m))
  let Rc:Nat→Prop:=fun b=>R1 b∨(∃id∈(ziI v).flatMap K2,Γ.μ id=some b)∨∃id,Γ.η id=some b
  have L:JU Γ { Γ with R:=Rc } s.m ((ziI v).flatMap (Zn s.m)) ((ziI v).flatMap K2) :=
   ⟨rfl,fun b hb=>.inl ((hR1 b).2 (.inl hb)),fun b hb=>.inl ((hR1 b).2 (.inr hb)),fun id hid b hb=>.inr (.inl ⟨id,hid,hb⟩)⟩
  have hη:∀id b,Γ.η id=some b→Rc b:=fun id b hb=>.inr (.inr ⟨id,hb⟩)
  have hl:zf { Γ with R:=Rc } (zmP s.m v) u:=by
   by_cases ht:∃vs,v=.tup vs
   ·obtain ⟨vs,rfl⟩:=ht
    simp only [zmP,zf] at hv ⊢
    obtain ⟨us,rfl,hv⟩:=hv
    exact ⟨us,rfl,zm1 M L hη hv⟩
   ·have e1:zmP s.m v=zs5 s.m v:=by
     unfold zmP
     split
     ·exact absurd ⟨_,rfl⟩ ht
     ·rfl
    have e2:ziI v=[v]:=by
     unfold ziI
     split
     ·exact absurd ⟨_,rfl⟩ ht
     ·rfl
    rw [e1]
    rw [e2] at L
    exact zoT M (L.mono (by simp) (by simp)) hη hv
  have hd:=ztZ hk hl
  refine ⟨Rc,fun b hb=>.inl (E1.R b (E.R b hb)),fun b hb=>?_,fun b hb=>?_,zih (Γ:={ Γ with R:=Rc }) (Γ':=Qo Γ.w Rc) (fun _ _=>rfl) (fun _ h=>h) hd⟩
  ·rcases hb with hb|⟨id,_,hb⟩|⟨id,hb⟩
   ·exact (E.trans E1).new b hb
   ·exact .inr (M.boxlt hb).1
   ·exact .inr (M.maplt hb).1
  ·rcases hb with hb|⟨id,_,hb⟩|⟨id,hb⟩
   ·exact M1.rlt b hb
   ·exact (M.boxlt hb).2
   ·exact (M.maplt hb).2
 exact zlf HT (zn5 es) (znK es) (zlc hes) hmix c an (.inl (zmm w R)) hcode h I ⟨fun s a w' hs I=>key s a w' hs I,fun id s a w' hs I=>(by cases hs),fun s a w' hs I=>key s a w' hs I⟩
theorem zkP {P:Program} {tb:Tb} (HT:Yz P tb) (hmix:P.follows .mixedOrders=true) {es:List JJ} (hes:zo P es) {fid:Nat} {f:Func} (hf:P.funcs[fid]?=some f) {N:Nat} {an:Ann} {ps:List Sh} {e:Kd} {t:Nat} (hps:ps.all Sh.param=true) (hfl:e.lfs.all Kd.isOne=true)
  (hb:zpt P tb fid f ps an=true):zgO P fid ps e t (zrh es tb N f an ps e t):=by
 refine ⟨hps,hfl,?_⟩
 intro x y h w R us hlt hr
 unfold zpt at hb
 split at hb
 case h_2=>cases hb
 rename_i c hc
 simp only [Bool.and_eq_true,Bool.not_eq_true'] at hb
 obtain ⟨⟨hcode,hlen⟩,hname⟩:=hb
 have hlen':=Nat.le_of_ble_eq_true hlen
 refine .inl ⟨Zv hf hname hc us.toArray w,calls_of_wp hf hc ?_⟩
 unfold zrh zgb at h
 rw [hc] at h
 simp only at h
 have hul:us.length=ps.length:=by rw [hr.len,zlg]
 have I:Inv w.heap.size w (Qo w R) f.ntmps ⟨zgf (zdU ps x),Mem.clear⟩ { tmps:=us.toArray++Array.replicate (f.ntmps-us.toArray.size) undef,defers:=[] } w:=by
  refine ⟨⟨Qo w R,rfl,Ext.refl _ _,zlE hlt,fun i=>?_⟩,rfl,by simp;omega⟩
  show zf (Qo w R) (zgf (zdU ps x) i) _
  unfold zgf
  split
  ·rename_i v hv
   obtain ⟨u,hu,hru⟩:=hr.at hv
   have hi:=(List.getElem?_eq_some_iff.1 hu).1
   have:(us.toArray++Array.replicate (f.ntmps-us.toArray.size) undef).getD i undef=u:=by
    rw [Array.getD_eq_getD_getElem?,Array.getElem?_append_left (by simpa using hi)]
    simp [hu]
   rw [this]
   exact hru
  ·rename_i hv
   have hi:us.length≤i:=by
    rw [hr.len]
    exact List.getElem?_eq_none_iff.1 hv
   have:(us.toArray++Array.replicate (f.ntmps-us.toArray.size) undef).getD i undef=undef:=by
    rw [Array.getD_eq_getD_getElem?,Array.getElem?_append_right (by simpa using hi),Array.getElem?_replicate]
    split<;>rfl
   rw [this]
   simp only [zf]
   exact ⟨[],rfl,by simp only [zq]⟩
 have key:∀s a w',zlL tb f s (fun v m=>rowDec m e t v)=some y→Inv w.heap.size w (Qo w R) f.ntmps s a w'→a.defers=[]∧∃v,(results f a.tmps).run P w'=.ok v w'∧∃v',Ending.returned v=.returned v'∧((Below w.heap.size w w'∧w.drawn≤w'.drawn)∧w'.ownsRow w.heap.size t e.size v' (List.length (α:=e.T) y) (y.flatMap e.vs)):=by
  intro s a w' hs I
  obtain ⟨Γ,u,v,rfl,E,M,hv,hrun,hk⟩:=zqj HT hs I
  refine ⟨I.defers,u,hrun,u,rfl,⟨M.below,E.drn⟩,?_⟩
  unfold rowDec at hk
  split at hk
  ·injection hk with hk
   subst hk
   simp only [zf] at hv
   subst hv
   exact World.ownsRow_nil _ _ _ _
  ·rename_i id e0 n0
   split at hk
   ·rename_i e' xs t' hrow
    obtain ⟨ht,hk⟩:=zm hk
    obtain ⟨rfl,rfl⟩:=Y3 hk
    have:=Nat.eq_of_beq_eq_true ht
    subst this
    simp only [zf] at hv
    obtain ⟨hν,_⟩:=hv
    obtain ⟨cs,ho,hR⟩:=(M.rowAt hν hrow (fun h=>by cases h)).own
    dsimp only at ho hR
    rw [zms hfl hR ho.1] at ho
    exact ho
   ·cases hk
  ·cases hk
 exact zlf HT (zn5 es) (znK es) (zlc hes) hmix c an (.inl (zmm w R)) hcode h I ⟨fun s a w' hs I=>key s a w' hs I,fun id s a w' hs I=>(by cases hs),fun s a w' hs I=>key s a w' hs I⟩
theorem zwv {P:Program} {fid:Nat} {e:Kd} {t:Nat} {F:List e.T→Option (List e.T)} (S:zgO P fid [.d (.sl e)] e t F) (hF:∀xs:List e.T,0<List.length (α:=e.T) xs→List.length (α:=e.T) xs<4294967296→F xs=some xs):zsh P fid e t:=by
 intro xs h0 h1 w R u hlt hr
 refine S.2.2 xs xs (hF xs h0 h1) w R [u] hlt ?_
 show zq (Qo w R) [.sl e xs] [u]
 simp only [zq,zf]
 exact ⟨u,[],rfl,hr,rfl⟩
end Go.Proofs.YtpkkcjmblocjdaaGreat.AM
end
section
namespace Go.Proofs.YtpkkcjmblocjdaaGreat.AM
open Go.RowKit Go.ChangeShapes Go.WideShapes Go.Deep
def Kd.good:(κ:Kd)→κ.T→Prop
 |.int k,x=>(Lit.int k x).wf=true
 |.bool,_=>True
 |.str,_=>True
 |.pair a b,x=>a.good x.1∧b.good x.2
 |.sl e,xs=>List.length (α:=e.T) xs≤9223372036854775807∧∀x:e.T,List.Mem (α:=e.T) x xs→e.good x
 |.mp _ _,_=>True
def zcL (P:Program) (f:TypeId→Kd→Bool):List Field→Nat→Kd→Bool
 |[],_,_=>false
 |[g],o,κ=>Nat.beq g.offset o&&Nat.beq (P.cellsOf g.type) κ.size&&f g.type κ
 |g::h::r,o,.pair a b=>Nat.beq g.offset o&&Nat.beq (P.cellsOf g.type) a.size&&f g.type a&&zcL P f (h::r) (o+a.size) b
 |_,_,_=>false
def ziV (f:Kd→Bool):Nat→Kd→Nat→Bool
 |0,_,_=>false
 |1,κ,s=>Nat.beq κ.size s&&f κ
 |n+2,.pair a b,s=>Nat.beq a.size s&&f a&&ziV f (n+1) b s
 |_,_,_=>false
def opB (P:Program):Nat→TypeId→Kd→Bool
 |0,_,_=>false
 |d+1,t,κ=>match P.underlying t with
  |some (.int k)=>match κ with
   |.int j=>kb k j
   |_=>false
  |some .bool=>match κ with
   |.bool=>true
   |_=>false
  |some (.slice e)=>match κ with
   |.sl κ'=>Nat.beq (P.cellsOf e) κ'.size&&opB P d e κ'
   |_=>false
  |some (.struct fs)=>Nat.beq (P.cellsOf t) κ.size&&zcL P (opB P d) fs.toList 0 κ
  |some (.array n e)=>Nat.beq (P.cellsOf t) κ.size&&ziV (opB P d e) n κ (P.cellsOf e)
  |_=>false
section
variable {H:Type} {enc:TypeId×Value→H} {P:Program} {W:World} {base:Nat} {spare:Nat→Bool} {zbH:Bool}
def Opn {H:Type} (enc:TypeId×Value→H) (P:Program) (W:World) (base:Nat) (spare:Nat→Bool) (zbH:Bool) (t:TypeId) (κ:Kd):Prop :=
 ∀(fuel:Nat) (cs:List Value) (x:DataW H×List MemPlace),DataW.trod enc P W base spare zbH fuel t cs=some x→∃a:κ.T,qd W (fun b=>b<W.heap.size) κ a cs∧κ.good a
theorem zwL {a:Addr} {u:Value} (h:W.cell? a=some u):a.block<W.heap.size:=by
 unfold World.cell? at h
 split at h
 ·rename_i hb
  exact zc3 hb
 ·cases h
theorem zvK {t:TypeId} (ht:P.underlying t=some .bool):Opn enc P W base spare zbH t .bool:=by
 intro fuel cs x h
 cases fuel with
 |zero=>simp [DataW.trod] at h
 |succ n =>
  unfold DataW.trod at h
  rw [ht] at h
  split at h
  all_goals first
   |(refine ⟨?_,(by simp only [qd];rfl),?_⟩;simp only [Kd.good])
   |simp_all
theorem zlo {cs:List Value} {n:Nat} {f:TypeId→Kd→Bool} (hf:∀t κ,f t κ=true→Opn enc P W base spare zbH t κ):∀(fs:List Field) (k o:Nat) (κ:Kd),zcL P f fs o κ=true→cs.length=o+κ.size →
  (∀(i:Nat) (g:Field),fs[i]?=some g→∃y,DataW.trod enc P W base spare zbH n g.type ((cs.drop g.offset).take (P.cellsOf g.type))=some y)→∃a:κ.T,qd W (fun b=>b<W.heap.size) κ a (cs.drop o)∧κ.good a
 |[],_,_,_,h,_,_=>by cases h
 |[g],k,o,κ,h,hl,hx=>by
  simp only [zcL,Bool.and_eq_true] at h
  obtain ⟨y,hy⟩:=hx 0 g rfl
  rw [Nat.eq_of_beq_eq_true h.1.1,Nat.eq_of_beq_eq_true h.1.2,List.take_of_length_le (by rw [List.length_drop];omega)] at hy
  exact hf _ _ h.2 _ _ _ hy
 |g::g2::r,k,o,κ,h,hl,hx=>by
  cases κ with
  |pair a b =>
   simp only [zcL,Bool.and_eq_true] at h
   obtain ⟨⟨⟨h1,h2⟩,h3⟩,h4⟩:=h
   obtain ⟨y,hy⟩:=hx 0 g rfl
   rw [Nat.eq_of_beq_eq_true h1,Nat.eq_of_beq_eq_true h2] at hy
   obtain ⟨u,hu,gu⟩:=hf _ _ h3 _ _ _ hy
   simp only [Kd.size] at hl
   obtain ⟨v,hv,gv⟩:=zlo (cs:=cs) (n:=n) hf (g2::r) (k+1) (o+a.size) b h4 (by omega) (fun i g' hg=>hx (i+1) g' (by simpa using hg))
   refine ⟨(u,v),?_,gu,gv⟩
   simp only [qd]
   refine ⟨_,_,?_,hu,hv⟩
   rw [←List.drop_drop,List.take_append_drop]
  |_=>simp [zcL] at h
theorem zmt {cs:List Value} {n s:Nat} {e:TypeId} {f:Kd→Bool} (hf:∀κ,f κ=true→Opn enc P W base spare zbH e κ):∀(q k:Nat) (κ:Kd),ziV f q κ s=true→cs.length=k*s+κ.size →
  (∀(i:Nat),i<q→∃y,DataW.trod enc P W base spare zbH n e ((cs.drop ((k+i)*s)).take s)=some y)→∃a:κ.T,qd W (fun b=>b<W.heap.size) κ a (cs.drop (k*s))∧κ.good a
 |0,_,_,h,_,_=>by cases h
 |1,k,κ,h,hl,hx=>by
  simp only [ziV,Bool.and_eq_true] at h
  have hs:=Nat.eq_of_beq_eq_true h.1
  obtain ⟨y,hy⟩:=hx 0 (by omega)
  rw [Nat.add_zero,List.take_of_length_le (by rw [List.length_drop];omega)] at hy
  exact hf _ h.2 _ _ _ hy
 |q+2,k,κ,h,hl,hx=>by
  cases κ with
  |pair a b =>
   simp only [ziV,Bool.and_eq_true] at h
   obtain ⟨⟨h1,h2⟩,h3⟩:=h
   have hs:=Nat.eq_of_beq_eq_true h1
   obtain ⟨y,hy⟩:=hx 0 (by omega)
   rw [Nat.add_zero] at hy
   obtain ⟨u,hu,gu⟩:=hf _ h2 _ _ _ hy
   simp only [Kd.size] at hl
   have hk:(k+1)*s=k*s+s:=by rw [Nat.add_mul,Nat.one_mul]
   obtain ⟨v,hv,gv⟩:=zmt (cs:=cs) (n:=n) hf (q+1) (k+1) b h3 (by rw [hk];omega) (fun i hi=>by
    have:=hx (i+1) (by omega)
    rwa [show k+(i+1)=k+1+i by omega] at this)
   refine ⟨(u,v),?_,gu,gv⟩
   simp only [qd]
   refine ⟨_,_,?_,hu,hv⟩
   rw [hk,←List.drop_drop,List.take_append_drop]
  |_=>simp [ziV] at h
theorem ztk {t e:TypeId} {κ:Kd} (ht:P.underlying t=some (.slice e)) (hs:P.cellsOf e=κ.size) (hk:Opn enc P W base spare zbH e κ):Opn enc P W base spare zbH t (.sl κ):=by
 intro fuel cs x hx
 rcases open_slice ht hx with ⟨rfl,_⟩|⟨a,len,cap,m,n,D,Pl,rfl,hb,hl,hm,hmm,_,hel⟩
 ·refine ⟨([]:List κ.T),?_,?_⟩
  ·simp only [qd]
   exact ⟨none,0,rfl,Nat.le_refl _,.inl rfl⟩
  ·simp only [Kd.good]
   exact ⟨Nat.zero_le _,fun x h=>by cases h⟩
 ·have hlm:len≤m:=by rw [hmm];split<;>omega
  have hex:∀i,i<len→∃y:κ.T,∃cs',W.cells? base (a.add (i*κ.size)) κ.size=some cs'∧qd W (fun b=>b<W.heap.size) κ y cs'∧κ.good y:=by
   intro i hi
   obtain ⟨cs',h1,h2⟩:=hel i (by omega)
   obtain ⟨y,hy,gy⟩:=hk _ _ _ h2
   rw [hs] at h1
   exact ⟨y,cs',h1,hy,gy⟩
  have hlist:∃l:List κ.T,l.length=len∧∀(i:Nat) (y:κ.T),l[i]?=some y→∃cs',W.cells? base (a.add (i*κ.size)) κ.size=some cs'∧qd W (fun b=>b<W.heap.size) κ y cs'∧κ.good y:=by
   clear hel hmm hlm hl hx
   rename_i hxx
   clear hxx
   induction len with
   |zero=>exact ⟨[],rfl,by simp⟩
   |succ q ih =>
    obtain ⟨l,hl,h⟩:=ih (fun i hi=>hex i (by omega))
    obtain ⟨y,hy⟩:=hex q (by omega)
    refine ⟨l++[y],by simp [hl],?_⟩
    intro i z hz
    by_cases hi:i<q
    ·rw [List.getElem?_append_left (by omega)] at hz
     exact h i z hz
    ·have hiq:i=q:=by
      have:=(List.getElem?_eq_some_iff.1 hz).1
      simp at this
      omega
     subst hiq
     rw [List.getElem?_append_right (by omega),hl] at hz
     simp at hz
     subst hz
     exact hy
  obtain ⟨l,hll,h⟩:=hlist
  refine ⟨l,?_,?_⟩
  ·simp only [qd]
   refine ⟨some a,cap,by rw [hll],by rw [hll];exact hl,?_⟩
   cases l with
   |nil=>exact .inl rfl
   |cons y0 l' =>
    refine .inr ⟨a,rfl,?_,fun i y hy=>?_⟩
    ·obtain ⟨cs',h1,h2,_⟩:=h 0 y0 rfl
     have:=(World.cells?_some h1).2.2 0 (ZX κ)
     have hl0:0<cs'.length:=by rw [h2.len];exact ZX κ
     rw [List.getElem?_eq_getElem hl0] at this
     have:=zwL this
     rwa [J2,J2] at this
    ·obtain ⟨cs',h1,h2,_⟩:=h i y hy
     refine ⟨cs',h2,fun j u hj=>?_⟩
     have hjl:j<κ.size:=by have:=(List.getElem?_eq_some_iff.1 hj).1;have:=h2.len;omega
     have:=(World.cells?_some h1).2.2 j hjl
     rw [AM.zhT,hj] at this
     exact this
  ·simp only [Kd.good]
   refine ⟨by rw [hll];unfold maxLen at hm;omega,fun x hx=>?_⟩
   obtain ⟨i,hi⟩:=List.mem_iff_getElem?.1 (show x∈l from hx)
   obtain ⟨_,_,_,g⟩:=h i x hi
   exact g
theorem zng:∀(d:Nat) (t:TypeId) (κ:Kd),opB P d t κ=true→Opn enc P W base spare zbH t κ
 |0,_,_,h=>by cases h
 |d+1,t,κ,h=>by
  simp only [opB] at h
  split at h
  ·rename_i k ht
   split at h
   ·have:=zaY h
    subst this
    intro fuel cs x hx
    obtain ⟨n,rfl,_,hw⟩:=DataW.trod_int ht hx
    exact ⟨n,by simp only [qd],hw⟩
   ·cases h
  ·rename_i ht
   split at h
   ·exact zvK ht
   ·cases h
  ·rename_i e ht
   split at h
   ·simp only [Bool.and_eq_true] at h
    exact ztk ht (Nat.eq_of_beq_eq_true h.1) (zng d e _ h.2)
   ·cases h
  ·rename_i fs ht
   simp only [Bool.and_eq_true] at h
   intro fuel cs x hx
   obtain ⟨xs,n,_,_,hl,hn,hxs⟩:=DataW.trod_struct ht hx
   have hC:=Nat.eq_of_beq_eq_true h.1
   have:=zlo (cs:=cs) (n:=n) (zng d) fs.toList 0 0 κ h.2 (by omega) (fun i g hg=>by
    have hg':fs[i]?=some g:=by rw [←Array.getElem?_toList];exact hg
    have hi:i<xs.length:=by rw [hn];exact (Array.getElem?_eq_some_iff.1 hg').1
    exact ⟨xs[i],by rw [hxs i g hg',List.getElem?_eq_getElem hi]⟩)
   simpa using this
  ·rename_i q e ht
   simp only [Bool.and_eq_true] at h
   intro fuel cs x hx
   obtain ⟨xs,m,_,_,hl,hn,hxs⟩:=DataW.trod_array ht hx
   have hC:=Nat.eq_of_beq_eq_true h.1
   have:=zmt (cs:=cs) (n:=m) (s:=P.cellsOf e) (f:=opB P d e) (fun κ h=>zng d e κ h) q 0 κ h.2 (by omega) (fun i hi=>by
    have hi':i<xs.length:=by omega
    exact ⟨xs[i],by rw [Nat.zero_add,hxs i hi,List.getElem?_eq_getElem hi']⟩)
   simpa using this
  ·cases h
theorem zwS {d:Nat} {t:TypeId} {κ:Kd} (h:opB P d t κ=true) {v:Value} {x:DataW H} {ps:List MemPlace} (hx:DataW.Trod enc P W base spare zbH t v x ps):∃a:κ.T,qd W (fun b=>b<W.heap.size) κ a v.cells.toList∧κ.good a:=by
 obtain ⟨fuel,hf⟩:=hx
 exact zng d t κ h _ _ _ hf
end
end Go.Proofs.YtpkkcjmblocjdaaGreat.AM
end
