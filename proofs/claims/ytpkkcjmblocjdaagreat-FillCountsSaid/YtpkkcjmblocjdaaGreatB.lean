/- The abstract machine, 5: what is told to whoever comes next is what is told at once. -/
import Derived.Test.YtpkkcjmblocjdaaGreatC
set_option linter.unusedVariables false
set_option linter.unusedSimpArgs false
set_option linter.unusedSectionVars false
section
namespace Go.Proofs.YtpkkcjmblocjdaaGreat.AM
open Go.RowKit
def zK:KX (AV×Mem):=fun v m=>some (v,m)
def toK {ρ:Type} (k:KX ρ):AV×Mem→Option ρ:=fun p=>k p.1 p.2
theorem qm {ρ:Type} (v:AV) (m:Mem) (k:KX ρ):(zK v m).bind (toK k)=k v m:=rfl
theorem qh {α ρ:Type} (b:Bool) (x y:Option α) (f:α→Option ρ):(cond b x y).bind f=cond b (x.bind f) (y.bind f):=by cases b<;>rfl
theorem zrm {α ρ:Type} (b:Bool) (x y:Option α) (f:α→Option ρ):(br b x y).bind f=br b (x.bind f) (y.bind f):=by cases b<;>rfl
theorem X3 {α ρ:Type} (b:Bool) (x:Option α) (f:α→Option ρ):(gd b x).bind f=gd b (x.bind f):=by cases b<;>rfl
theorem zkv {α β ρ:Type} (x:Option α) (g:α→Option β) (f:β→Option ρ):(bnd x g).bind f=bnd x fun a=>(g a).bind f:=by cases x<;>rfl
section
variable {ρ:Type} (tb:Tb) (o:Oper) (m:Mem) (k:KX ρ)
theorem zq6 (cs:List AV):(zb2 o m zK cs).bind (toK k)=zb2 o m k cs:=by
 unfold zb2;split<;>simp only [qh,qm,Option.bind_none]
theorem zjc (e:Kd) (t:Nat) (xs:List e.T) (M:Mem):(KE o zK e t xs M).bind (toK k)=KE o k e t xs M:=by
 unfold KE;split<;>simp only [qh,qm,Option.bind_none]
theorem zwE (c x y:AV):(zlV m zK c x y).bind (toK k)=zlV m k c x y:=by
 unfold zlV;split<;>(try split)<;>simp only [qh,zrm,qm,Option.bind_none]
theorem zxZ (t:Nat) (x:AV):(zoJ o m zK t x).bind (toK k)=zoJ o m k t x:=by
 unfold zoJ;split<;>simp only [zq6,Option.bind_none]
theorem zud (t:Nat) (ps:List (Nat×AV)):(zhA tb m zK t ps).bind (toK k)=zhA tb m k t ps:=by
 unfold zhA;split<;>simp only [qh,qm,Option.bind_none]
theorem zlb (t n:Nat) (ps:List (Nat×AV)):(Z1 tb o m zK t n ps).bind (toK k)=Z1 tb o m k t n ps:=by
 unfold Z1
 split
 ·split
  ·simp only [qh]
   congr 1
   congr 1<;>split<;>simp only [zjc,qh,Option.bind_none]
  ·rfl
 ·rfl
theorem zwV (t:Nat) (a:AV):(JW tb o m zK t a).bind (toK k)=JW tb o m k t a:=by
 unfold JW
 repeat' split
 all_goals simp only [qh,qm,Option.bind_none]
theorem zsR (t:Nat) (a x:AV):(zcU tb m zK t a x).bind (toK k)=zcU tb m k t a x:=by
 unfold zcU
 repeat' split
 all_goals simp only [qh,qm,Option.bind_none]
theorem zyG (x:AV):(zvi m zK x).bind (toK k)=zvi m k x:=by
 unfold zvi
 split<;>simp only [qm,Option.bind_none]
theorem zxQ (op:BinOp) (t:Nat) (x y:AV):(zgb tb m zK op t x y).bind (toK k)=zgb tb m k op t x y:=by
 unfold zgb
 split
 ·split<;>simp only [qh,X3,qm,Option.bind_none]
 ·split<;>simp only [qh,X3,qm,Option.bind_none]
 ·split
  ·split<;>simp only [qm,Option.bind_none]
  ·rfl
 ·split<;>simp only [X3,qm,Option.bind_none]
 ·rfl
theorem zzj (op:UnOp) (x:AV):(kUn m zK op x).bind (toK k)=kUn m k op x:=by
 unfold kUn
 split<;>simp only [qm,Option.bind_none]
theorem zwq (t:Nat) (x:AV):(zlL tb m zK t x).bind (toK k)=zlL tb m k t x:=by
 unfold zlL
 split<;>simp only [qm,Option.bind_none]
theorem zvA (t:Nat) (s:Bool) (n:AV):(zgC tb o m zK t s n).bind (toK k)=zgC tb o m k t s n:=by
 unfold zgC
 split
 ·split<;>simp only [qh,X3,zjc,Option.bind_none]
 ·rfl
theorem zm1 {α:Type} (lo hi:Option Int) (n:Nat) (x:Option α) (f:α→Option ρ):(Xb lo hi n x).bind f=Xb lo hi n (x.bind f):=by
 unfold Xb
 split<;>simp only [X3]
theorem zsV (t:Nat) (x:AV) (lo hi:Option AV):(Ql tb o m zK t x lo hi).bind (toK k)=Ql tb o m k t x lo hi:=by
 unfold Ql
 repeat' split
 all_goals simp only [zm1,qh,qm,Option.bind_none]
theorem znv (t:Nat) (a:AV) (f:Nat):(YK tb m zK t a f).bind (toK k)=YK tb m k t a f:=by
 unfold YK
 repeat' split
 all_goals simp only [qm,Option.bind_none]
theorem zut (t:Nat) (a:AV) (f:Nat):(zh6 tb m zK t a f).bind (toK k)=zh6 tb m k t a f:=by
 unfold zh6
 repeat' split
 all_goals simp only [qm,Option.bind_none]
theorem zpq {α:Type} (f:α→Option ρ):∀(n j:Nat) (i:Int) (g:Nat→Option α),(jT.ways n j i g).bind f=jT.ways n j i fun q=>(g q).bind f
 |0,_,_,_=>rfl
 |n+1,j,i,g=>by simp only [jT.ways,zrm,zpq f n]
theorem zmD (t:Nat) (x i:AV):(jT tb m zK t x i).bind (toK k)=jT tb m k t x i:=by
 unfold jT
 repeat' split
 all_goals simp only [X3,qh,qm,zpq,Option.bind_none]
theorem zpN (x:AV) (i:Nat):(zbY m zK x i).bind (toK k)=zbY m k x i:=by
 unfold zbY
 repeat' split
 all_goals simp only [qm,Option.bind_none]
theorem zo2 (t:Nat):(zcf tb o m zK t).bind (toK k)=zcf tb o m k t:=by
 unfold zcf
 repeat' split
 all_goals simp only [qh,qm,Option.bind_none]
theorem zy3 (κ ν:Kd) (es:List (κ.T×ν.T)) (key:κ.T) (ok:Bool):(lkK m zK κ ν es key ok).bind (toK k)=lkK m k κ ν es key ok:=by
 unfold lkK
 simp only [qh,qm]
theorem zuL (t:Nat) (x:AV):(zhL tb o m zK t x).bind (toK k)=zhL tb o m k t x:=by
 unfold zhL
 repeat' split
 all_goals simp only [qh,qm,Option.bind_none]
theorem zuO (x:AV):(zhD o m zK x).bind (toK k)=zhD o m k x:=by
 unfold zhD
 repeat' split
 all_goals simp only [qh,qm,Option.bind_none]
theorem zrS (t:Nat) (x i:AV) (ok:Bool):(JL tb o m zK t x i ok).bind (toK k)=JL tb o m k t x i ok:=by
 unfold JL
 repeat' split
 all_goals simp only [qh,zy3,Option.bind_none]
theorem zsx (t:Nat) (x i v:AV):(zeV tb m zK t x i v).bind (toK k)=zeV tb m k t x i v:=by
 unfold zeV
 repeat' split
 all_goals simp only [qh,X3,qm,Option.bind_none]
theorem zvf (t:Nat) (x i:AV):(zhJ tb m zK t x i).bind (toK k)=zhJ tb m k t x i:=by
 unfold zhJ
 repeat' split
 all_goals simp only [zpq,Option.bind_none]
 congr 1
 funext j
 split<;>simp only [qm,Option.bind_none]
theorem zsq (t:Nat) (v x:AV):(zaU tb o m zK t v x).bind (toK k)=zaU tb o m k t v x:=by
 unfold zaU
 repeat' split
 all_goals simp only [X3,qh,zjc,Option.bind_none]
end
def zdg (cl:∀ρ,JF ρ):Prop:=∀(ρ:Type) (fid:Nat) (args:List AV) (m:Mem) (k:KX ρ),(cl (AV×Mem) fid args m zK).bind (toK k)=cl ρ fid args m k
section
variable {cl:∀ρ,JF ρ} (hcl:zdg cl) (tb:Tb)
include hcl
omit hcl in
theorem zsI {ρ:Type} (o:Oper) (m:Mem) (k:KX ρ) (t:Nat) (args:List AV):(zeD tb o m zK t args).bind (toK k)=zeD tb o m k t args:=by
 unfold zeD
 repeat' split
 all_goals simp only [X3,qh,zjc,Option.bind_none]
theorem zvS {ρ:Type} (c:Call) (ev:Operand→AV) (m:Mem) (o:Oper) (k:KX ρ):(zbG (cl _) tb c ev m o zK).bind (toK k)=zbG (cl ρ) tb c ev m o k:=by
 unfold zbG
 repeat' split
 all_goals simp only [qh,qm,zsq,zsI,Option.bind_none,hcl ρ]
def opD (cl:∀ρ,JF ρ) (tb:Tb) (o:Oper) (ev:Operand→AV) (m:Mem):Option (AV×Mem):=opK (cl _) tb o ev m zK
theorem zxJ {ρ:Type} (o:Oper) (ev:Operand→AV) (m:Mem) (k:KX ρ):opK (cl ρ) tb o ev m k=(opD cl tb o ev m).bind (toK k):=by
 unfold opD opK
 split
 all_goals first
  |rfl
  |simp only [zwE,zq6,zxZ,zud,zlb,zwV,zsR,zyG,zxQ,zzj,zwq,zvA,zsV,znv,zut,zmD,zvf,zo2,zrS,zuL,zuO,zsx,zpN,zvS hcl,qh,qm,Option.bind_none]
end
def Km (cl:∀ρ,JF ρ) (tb:Tb) (ops:Array Oper) (o:Oper) (s:St):Option St:=match o.guard with
 |none=>match opD cl tb o s.ev s.m with
  |some (v,m)=>some (s.put o.dst v m)
  |none=>none
 |some (j,want)=>match zmP ops j with
  |some d=>match s.tm d with
   |.bool b=>cond (b==want) (match opD cl tb o s.ev s.m with
    |some (v,m)=>some (s.put o.dst v m)
    |none=>none) (some (s.put o.dst (.tup []) s.m))
   |.tup []=>some (s.put o.dst (.tup []) s.m)
   |_=>none
  |none=>none
def zow (cl:∀ρ,JF ρ) (tb:Tb) (ops:Array Oper):List Oper→St→Option St
 |[],s=>some s
 |o::r,s=>match Km cl tb ops o s with
  |some s'=>zow cl tb ops r s'
  |none=>none
theorem zov {s:St} {d:Nat} {b:Bool} (h:s.tm d=.bool b):s.lit d b=s:=by
 unfold St.lit
 have:upd s.tm d (.bool b)=s.tm:=by
  funext j
  unfold upd
  cases hj:Nat.beq j d with
  |true=>rw [Nat.eq_of_beq_eq_true hj];exact h.symm
  |false=>rfl
 rw [this]
section
variable {cl:∀ρ,JF ρ} (hcl:zdg cl) (tb:Tb)
include hcl
theorem zzd {ρ:Type} (ops:Array Oper) (o:Oper) (s:St) (k:St→Option ρ):opG (cl ρ) tb ops o s k=(Km cl tb ops o s).bind k:=by
 have key:opK (cl ρ) tb o s.ev s.m (fun v m=>k (s.put o.dst v m))=(match opD cl tb o s.ev s.m with
    |some (v,m)=>some (s.put o.dst v m)
    |none=>none).bind k:=by
  rw [zxJ hcl]
  cases opD cl tb o s.ev s.m with
  |none=>rfl
  |some p=>rfl
 unfold opG Km
 cases hg:o.guard with
 |none=>exact key
 |some jw =>
  obtain ⟨j,want⟩:=jw
  simp only
  cases hd:zmP ops j with
  |none=>rfl
  |some d =>
   simp only
   split
   ·rename_i b hb
    have hl:=zov hb
    cases b<;>cases want<;>simp only [br,cond,hl,key,beq_self_eq_true]<;>first|rfl|(simp only [hb];rfl)
   ·rename_i hb
    simp only [hb]
    rfl
   ·rename_i h1 h2
    split
    ·rename_i b hb
     exact absurd hb (h1 b)
    ·rename_i hb
     exact absurd hb h2
    ·rfl
theorem zmH {ρ:Type} (ops:Array Oper):∀(l:List Oper) (s:St) (k:St→Option ρ),zol (cl ρ) tb ops l s k=(zow cl tb ops l s).bind k
 |[],s,k=>rfl
 |o::r,s,k=>by
  simp only [zol,zow]
  rw [zzd hcl]
  cases Km cl tb ops o s with
  |none=>rfl
  |some s'=>exact zmH ops r s' k
end
end Go.Proofs.YtpkkcjmblocjdaaGreat.AM
end
