/- The abstract machine, 5: what is told to whoever comes next is what is told at once. -/
import Derived.Test.YtpkkcjmblocjdaaGreatC
set_option linter.unusedVariables false
set_option linter.unusedSimpArgs false
set_option linter.unusedSectionVars false
section
namespace Go.Proofs.YtpkkcjmblocjdaaGreat.AM
open Go.RowKit
def zS:YE (AV×Mem):=fun v m=>some (v,m)
def toK {ρ:Type} (k:YE ρ):AV×Mem→Option ρ:=fun p=>k p.1 p.2
theorem qv {ρ:Type} (v:AV) (m:Mem) (k:YE ρ):(zS v m).bind (toK k)=k v m:=rfl
theorem qn {α ρ:Type} (b:Bool) (x y:Option α) (f:α→Option ρ):(cond b x y).bind f=cond b (x.bind f) (y.bind f):=by cases b<;>rfl
theorem zrZ {α ρ:Type} (b:Bool) (x y:Option α) (f:α→Option ρ):(br b x y).bind f=br b (x.bind f) (y.bind f):=by cases b<;>rfl
theorem zaM {α ρ:Type} (b:Bool) (x:Option α) (f:α→Option ρ):(gd b x).bind f=gd b (x.bind f):=by cases b<;>rfl
theorem zlR {α β ρ:Type} (x:Option α) (g:α→Option β) (f:β→Option ρ):(bnd x g).bind f=bnd x fun a=>(g a).bind f:=by cases x<;>rfl
section
variable {ρ:Type} (tb:Tb) (o:Oper) (m:Mem) (k:YE ρ)
theorem zsh (cs:List AV):(zcK o m zS cs).bind (toK k)=zcK o m k cs:=by
 unfold zcK;split<;>simp only [qn,qv,Option.bind_none]
theorem zkj (e:Kd) (t:Nat) (xs:List e.T) (M:Mem):(Yk o zS e t xs M).bind (toK k)=Yk o k e t xs M:=by
 unfold Yk;split<;>simp only [qn,qv,Option.bind_none]
theorem zyf (c x y:AV):(zmR m zS c x y).bind (toK k)=zmR m k c x y:=by
 unfold zmR;split<;>(try split)<;>simp only [qn,zrZ,qv,Option.bind_none]
theorem zzP (t:Nat) (x:AV):(zpi o m zS t x).bind (toK k)=zpi o m k t x:=by
 unfold zpi;split<;>simp only [zsh,Option.bind_none]
theorem zwB (t:Nat) (ps:List (Nat×AV)):(ziZ tb m zS t ps).bind (toK k)=ziZ tb m k t ps:=by
 unfold ziZ;split<;>simp only [qn,qv,Option.bind_none]
theorem zlZ (t n:Nat) (ps:List (Nat×AV)):(QJ tb o m zS t n ps).bind (toK k)=QJ tb o m k t n ps:=by
 unfold QJ
 split
 ·split
  ·simp only [qn]
   congr 1
   congr 1<;>split<;>simp only [zkj,qn,Option.bind_none]
  ·rfl
 ·rfl
theorem zxn (t:Nat) (a:AV):(Kv tb o m zS t a).bind (toK k)=Kv tb o m k t a:=by
 unfold Kv
 repeat' split
 all_goals simp only [qn,qv,Option.bind_none]
theorem zt5 (t:Nat) (a x:AV):(zdK tb m zS t a x).bind (toK k)=zdK tb m k t a x:=by
 unfold zdK
 repeat' split
 all_goals simp only [qn,qv,Option.bind_none]
theorem zzx (x:AV):(zvg m zS x).bind (toK k)=zvg m k x:=by
 unfold zvg
 split<;>simp only [qv,Option.bind_none]
theorem zy7 (op:BinOp) (t:Nat) (x y:AV):(zg6 tb m zS op t x y).bind (toK k)=zg6 tb m k op t x y:=by
 unfold zg6
 split
 ·split<;>simp only [qn,zaM,qv,Option.bind_none]
 ·split<;>simp only [qn,zaM,qv,Option.bind_none]
 ·split
  ·split<;>simp only [qv,Option.bind_none]
  ·rfl
 ·split<;>simp only [zaM,qv,Option.bind_none]
 ·rfl
theorem zz2 (op:UnOp) (x:AV):(kUn m zS op x).bind (toK k)=kUn m k op x:=by
 unfold kUn
 split<;>simp only [qv,Option.bind_none]
theorem zxU (t:Nat) (x:AV):(zmn tb m zS t x).bind (toK k)=zmn tb m k t x:=by
 unfold zmn
 split<;>simp only [qv,Option.bind_none]
theorem zwS (t:Nat) (s:Bool) (n:AV):(zh9 tb o m zS t s n).bind (toK k)=zh9 tb o m k t s n:=by
 unfold zh9
 split
 ·split<;>simp only [qn,zaM,zkj,Option.bind_none]
 ·rfl
theorem znM {α:Type} (lo hi:Option Int) (n:Nat) (x:Option α) (f:α→Option ρ):(XW lo hi n x).bind f=XW lo hi n (x.bind f):=by
 unfold XW
 split<;>simp only [zaM]
theorem zuc (t:Nat) (x:AV) (lo hi:Option AV):(QO tb o m zS t x lo hi).bind (toK k)=QO tb o m k t x lo hi:=by
 unfold QO
 repeat' split
 all_goals simp only [znM,qn,qv,Option.bind_none]
theorem znI (t:Nat) (a:AV) (f:Nat):(Xt tb m zS t a f).bind (toK k)=Xt tb m k t a f:=by
 unfold Xt
 repeat' split
 all_goals simp only [qv,Option.bind_none]
theorem zuQ (t:Nat) (a:AV) (f:Nat):(zja tb m zS t a f).bind (toK k)=zja tb m k t a f:=by
 unfold zja
 repeat' split
 all_goals simp only [qv,Option.bind_none]
theorem zqe {α:Type} (f:α→Option ρ):∀(n j:Nat) (i:Int) (g:Nat→Option α),(Zh.ways n j i g).bind f=Zh.ways n j i fun q=>(g q).bind f
 |0,_,_,_=>rfl
 |n+1,j,i,g=>by simp only [Zh.ways,zrZ,zqe f n]
theorem zn2 (t:Nat) (x i:AV):(Zh tb m zS t x i).bind (toK k)=Zh tb m k t x i:=by
 unfold Zh
 repeat' split
 all_goals simp only [zaM,qn,qv,zqe,Option.bind_none]
theorem zqx (x:AV) (i:Nat):(zcU m zS x i).bind (toK k)=zcU m k x i:=by
 unfold zcU
 repeat' split
 all_goals simp only [qv,Option.bind_none]
theorem zqo (t:Nat):(zc9 tb o m zS t).bind (toK k)=zc9 tb o m k t:=by
 unfold zc9
 repeat' split
 all_goals simp only [qn,qv,Option.bind_none]
theorem zAs (κ ν:Kd) (es:List (κ.T×ν.T)) (key:κ.T) (ok:Bool):(lkK m zS κ ν es key ok).bind (toK k)=lkK m k κ ν es key ok:=by
 unfold lkK
 simp only [qn,qv]
theorem zug (t:Nat) (x:AV):(ziK tb o m zS t x).bind (toK k)=ziK tb o m k t x:=by
 unfold ziK
 repeat' split
 all_goals simp only [qn,qv,Option.bind_none]
theorem zvD (x:AV):(zi6 o m zS x).bind (toK k)=zi6 o m k x:=by
 unfold zi6
 repeat' split
 all_goals simp only [qn,qv,Option.bind_none]
theorem zs8 (t:Nat) (x i:AV) (ok:Bool):(Kn tb o m zS t x i ok).bind (toK k)=Kn tb o m k t x i ok:=by
 unfold Kn
 repeat' split
 all_goals simp only [qn,zAs,Option.bind_none]
theorem ztE (t:Nat) (x i v:AV):(zfS tb m zS t x i v).bind (toK k)=zfS tb m k t x i v:=by
 unfold zfS
 repeat' split
 all_goals simp only [qn,zaM,qv,Option.bind_none]
theorem zut (t:Nat) (x i:AV):(zjh tb m zS t x i).bind (toK k)=zjh tb m k t x i:=by
 unfold zjh
 repeat' split
 all_goals simp only [zqe,Option.bind_none]
 congr 1
 funext j
 split<;>simp only [qv,Option.bind_none]
theorem ztg (t:Nat) (v x:AV):(zbX tb o m zS t v x).bind (toK k)=zbX tb o m k t v x:=by
 unfold zbX
 repeat' split
 all_goals simp only [zaM,qn,zkj,Option.bind_none]
end
def zeb (cl:∀ρ,JU ρ):Prop:=∀(ρ:Type) (fid:Nat) (args:List AV) (m:Mem) (k:YE ρ),(cl (AV×Mem) fid args m zS).bind (toK k)=cl ρ fid args m k
section
variable {cl:∀ρ,JU ρ} (hcl:zeb cl) (tb:Tb)
include hcl
omit hcl in
theorem zwp {ρ:Type} (o:Oper) (m:Mem) (k:YE ρ) (t:Nat) (args:List AV):(zfi tb o m zS t args).bind (toK k)=zfi tb o m k t args:=by
 unfold zfi
 repeat' split
 all_goals simp only [zaM,qn,zkj,Option.bind_none]
theorem zyl {ρ:Type} (c:Call) (ev:Operand→AV) (m:Mem) (o:Oper) (k:YE ρ):(zcv (cl _) tb c ev m o zS).bind (toK k)=zcv (cl ρ) tb c ev m o k:=by
 unfold zcv
 repeat' split
 all_goals simp only [qn,qv,ztg,zwp,Option.bind_none,hcl ρ]
def opD (cl:∀ρ,JU ρ) (tb:Tb) (o:Oper) (ev:Operand→AV) (m:Mem):Option (AV×Mem):=opK (cl _) tb o ev m zS
theorem zyM {ρ:Type} (o:Oper) (ev:Operand→AV) (m:Mem) (k:YE ρ):opK (cl ρ) tb o ev m k=(opD cl tb o ev m).bind (toK k):=by
 unfold opD opK
 split
 all_goals first
  |rfl
  |simp only [zyf,zsh,zzP,zwB,zlZ,zxn,zt5,zzx,zy7,zz2,zxU,zwS,zuc,znI,zuQ,zn2,zut,zqo,zs8,zug,zvD,ztE,zqx,zyl hcl,qn,qv,Option.bind_none]
end
def KP (cl:∀ρ,JU ρ) (tb:Tb) (ops:Array Oper) (o:Oper) (s:St):Option St:=match o.guard with
 |none=>match opD cl tb o s.ev s.m with
  |some (v,m)=>some (s.put o.dst v m)
  |none=>none
 |some (j,want)=>match zos ops j with
  |some d=>match s.tm d with
   |.bool b=>cond (b==want) (match opD cl tb o s.ev s.m with
    |some (v,m)=>some (s.put o.dst v m)
    |none=>none) (some (s.put o.dst (.tup []) s.m))
   |.tup []=>some (s.put o.dst (.tup []) s.m)
   |_=>none
  |none=>none
def zpw (cl:∀ρ,JU ρ) (tb:Tb) (ops:Array Oper):List Oper→St→Option St
 |[],s=>some s
 |o::r,s=>match KP cl tb ops o s with
  |some s'=>zpw cl tb ops r s'
  |none=>none
theorem zoV {s:St} {d:Nat} {b:Bool} (h:s.tm d=.bool b):s.lit d b=s:=by
 unfold St.lit
 have:upd s.tm d (.bool b)=s.tm:=by
  funext j
  unfold upd
  cases hj:Nat.beq j d with
  |true=>rw [Nat.eq_of_beq_eq_true hj];exact h.symm
  |false=>rfl
 rw [this]
section
variable {cl:∀ρ,JU ρ} (hcl:zeb cl) (tb:Tb)
include hcl
theorem zAO {ρ:Type} (ops:Array Oper) (o:Oper) (s:St) (k:St→Option ρ):opG (cl ρ) tb ops o s k=(KP cl tb ops o s).bind k:=by
 have key:opK (cl ρ) tb o s.ev s.m (fun v m=>k (s.put o.dst v m))=(match opD cl tb o s.ev s.m with
    |some (v,m)=>some (s.put o.dst v m)
    |none=>none).bind k:=by
  rw [zyM hcl]
  cases opD cl tb o s.ev s.m with
  |none=>rfl
  |some p=>rfl
 unfold opG KP
 cases hg:o.guard with
 |none=>exact key
 |some jw =>
  obtain ⟨j,want⟩:=jw
  simp only
  cases hd:zos ops j with
  |none=>rfl
  |some d =>
   simp only
   split
   ·rename_i b hb
    have hl:=zoV hb
    cases b<;>cases want<;>simp only [br,cond,hl,key,beq_self_eq_true]<;>first|rfl|(simp only [hb];rfl)
   ·rename_i hb
    simp only [hb]
    rfl
   ·rename_i h1 h2
    split
    ·rename_i b hb
     exact absurd hb (h1 b)
    ·rename_i hb
     exact absurd hb h2
    ·rfl
theorem znZ {ρ:Type} (ops:Array Oper):∀(l:List Oper) (s:St) (k:St→Option ρ),zpS (cl ρ) tb ops l s k=(zpw cl tb ops l s).bind k
 |[],s,k=>rfl
 |o::r,s,k=>by
  simp only [zpS,zpw]
  rw [zAO hcl]
  cases KP cl tb ops o s with
  |none=>rfl
  |some s'=>exact znZ ops r s' k
end
end Go.Proofs.YtpkkcjmblocjdaaGreat.AM
end
