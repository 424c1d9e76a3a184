/- The abstract machine, 5: what is told to whoever comes next is what is told at once. -/
import Derived.Test.YtpkkcjmblocjdaaGreatC
set_option linter.unusedVariables false
set_option linter.unusedSimpArgs false
set_option linter.unusedSectionVars false
section
namespace Go.Proofs.YtpkkcjmblocjdaaGreat.AM
open Go.RowKit
def zM:Yj (AV×Mem):=fun v m=>some (v,m)
def toK {ρ:Type} (k:Yj ρ):AV×Mem→Option ρ:=fun p=>k p.1 p.2
theorem qn {ρ:Type} (v:AV) (m:Mem) (k:Yj ρ):(zM v m).bind (toK k)=k v m:=rfl
theorem qj {α ρ:Type} (b:Bool) (x y:Option α) (f:α→Option ρ):(cond b x y).bind f=cond b (x.bind f) (y.bind f):=by cases b<;>rfl
theorem zsp {α ρ:Type} (b:Bool) (x y:Option α) (f:α→Option ρ):(br b x y).bind f=br b (x.bind f) (y.bind f):=by cases b<;>rfl
theorem zah {α ρ:Type} (b:Bool) (x:Option α) (f:α→Option ρ):(gd b x).bind f=gd b (x.bind f):=by cases b<;>rfl
theorem zkp {α β ρ:Type} (x:Option α) (g:α→Option β) (f:β→Option ρ):(bnd x g).bind f=bnd x fun a=>(g a).bind f:=by cases x<;>rfl
section
variable {ρ:Type} (tb:Tb) (o:Oper) (m:Mem) (k:Yj ρ)
theorem zro (cs:List AV):(zcr o m zM cs).bind (toK k)=zcr o m k cs:=by
 unfold zcr;split<;>simp only [qj,qn,Option.bind_none]
theorem zjU (e:Kd) (t:Nat) (xs:List e.T) (M:Mem):(K5 o zM e t xs M).bind (toK k)=K5 o k e t xs M:=by
 unfold K5;split<;>simp only [qj,qn,Option.bind_none]
theorem zyp (c x y:AV):(zmL m zM c x y).bind (toK k)=zmL m k c x y:=by
 unfold zmL;split<;>(try split)<;>simp only [qj,zsp,qn,Option.bind_none]
theorem zzG (t:Nat) (x:AV):(zoK o m zM t x).bind (toK k)=zoK o m k t x:=by
 unfold zoK;split<;>simp only [zro,Option.bind_none]
theorem zvu (t:Nat) (ps:List (Nat×AV)):(ziM tb m zM t ps).bind (toK k)=ziM tb m k t ps:=by
 unfold ziM;split<;>simp only [qj,qn,Option.bind_none]
theorem zlJ (t n:Nat) (ps:List (Nat×AV)):(Qy tb o m zM t n ps).bind (toK k)=Qy tb o m k t n ps:=by
 unfold Qy
 split
 ·split
  ·simp only [qj]
   congr 1
   congr 1<;>split<;>simp only [zjU,qj,Option.bind_none]
  ·rfl
 ·rfl
theorem zx4 (t:Nat) (a:AV):(Kc tb o m zM t a).bind (toK k)=Kc tb o m k t a:=by
 unfold Kc
 repeat' split
 all_goals simp only [qj,qn,Option.bind_none]
theorem zuC (t:Nat) (a x:AV):(zdt tb m zM t a x).bind (toK k)=zdt tb m k t a x:=by
 unfold zdt
 repeat' split
 all_goals simp only [qj,qn,Option.bind_none]
theorem zzC (x:AV):(zum m zM x).bind (toK k)=zum m k x:=by
 unfold zum
 split<;>simp only [qn,Option.bind_none]
theorem zzZ (op:BinOp) (t:Nat) (x y:AV):(zgT tb m zM op t x y).bind (toK k)=zgT tb m k op t x y:=by
 unfold zgT
 split
 ·split<;>simp only [qj,zah,qn,Option.bind_none]
 ·split<;>simp only [qj,zah,qn,Option.bind_none]
 ·split
  ·split<;>simp only [qn,Option.bind_none]
  ·rfl
 ·split<;>simp only [zah,qn,Option.bind_none]
 ·rfl
theorem zAX (op:UnOp) (x:AV):(kUn m zM op x).bind (toK k)=kUn m k op x:=by
 unfold kUn
 split<;>simp only [qn,Option.bind_none]
theorem zw7 (t:Nat) (x:AV):(zmD tb m zM t x).bind (toK k)=zmD tb m k t x:=by
 unfold zmD
 split<;>simp only [qn,Option.bind_none]
theorem zxi (t:Nat) (s:Bool) (n:AV):(zhX tb o m zM t s n).bind (toK k)=zhX tb o m k t s n:=by
 unfold zhX
 split
 ·split<;>simp only [qj,zah,zjU,Option.bind_none]
 ·rfl
theorem znx {α:Type} (lo hi:Option Int) (n:Nat) (x:Option α) (f:α→Option ρ):(XE lo hi n x).bind f=XE lo hi n (x.bind f):=by
 unfold XE
 split<;>simp only [zah]
theorem zvq (t:Nat) (x:AV) (lo hi:Option AV):(QA tb o m zM t x lo hi).bind (toK k)=QA tb o m k t x lo hi:=by
 unfold QA
 repeat' split
 all_goals simp only [znx,qj,qn,Option.bind_none]
theorem znl (t:Nat) (a:AV) (f:Nat):(Xc tb m zM t a f).bind (toK k)=Xc tb m k t a f:=by
 unfold Xc
 repeat' split
 all_goals simp only [qn,Option.bind_none]
theorem zuN (t:Nat) (a:AV) (f:Nat):(zij tb m zM t a f).bind (toK k)=zij tb m k t a f:=by
 unfold zij
 repeat' split
 all_goals simp only [qn,Option.bind_none]
theorem zqZ {α:Type} (f:α→Option ρ):∀(n j:Nat) (i:Int) (g:Nat→Option α),(j0.ways n j i g).bind f=j0.ways n j i fun q=>(g q).bind f
 |0,_,_,_=>rfl
 |n+1,j,i,g=>by simp only [j0.ways,zsp,zqZ f n]
theorem zoq (t:Nat) (x i:AV):(j0 tb m zM t x i).bind (toK k)=j0 tb m k t x i:=by
 unfold j0
 repeat' split
 all_goals simp only [zah,qj,qn,zqZ,Option.bind_none]
theorem zpY (x:AV) (i:Nat):(zcB m zM x i).bind (toK k)=zcB m k x i:=by
 unfold zcB
 repeat' split
 all_goals simp only [qn,Option.bind_none]
theorem zp3 (t:Nat):(zcJ tb o m zM t).bind (toK k)=zcJ tb o m k t:=by
 unfold zcJ
 repeat' split
 all_goals simp only [qj,qn,Option.bind_none]
theorem zAL (κ ν:Kd) (es:List (κ.T×ν.T)) (key:κ.T) (ok:Bool):(lkK m zM κ ν es key ok).bind (toK k)=lkK m k κ ν es key ok:=by
 unfold lkK
 simp only [qj,qn]
theorem zv7 (t:Nat) (x:AV):(ziZ tb o m zM t x).bind (toK k)=ziZ tb o m k t x:=by
 unfold ziZ
 repeat' split
 all_goals simp only [qj,qn,Option.bind_none]
theorem zu6 (x:AV):(zis o m zM x).bind (toK k)=zis o m k x:=by
 unfold zis
 repeat' split
 all_goals simp only [qj,qn,Option.bind_none]
theorem zsE (t:Nat) (x i:AV) (ok:Bool):(JZ tb o m zM t x i ok).bind (toK k)=JZ tb o m k t x i ok:=by
 unfold JZ
 repeat' split
 all_goals simp only [qj,zAL,Option.bind_none]
theorem zsG (t:Nat) (x i v:AV):(zfI tb m zM t x i v).bind (toK k)=zfI tb m k t x i v:=by
 unfold zfI
 repeat' split
 all_goals simp only [qj,zah,qn,Option.bind_none]
theorem ztW (t:Nat) (x i:AV):(ziT tb m zM t x i).bind (toK k)=ziT tb m k t x i:=by
 unfold ziT
 repeat' split
 all_goals simp only [zqZ,Option.bind_none]
 congr 1
 funext j
 split<;>simp only [qn,Option.bind_none]
theorem ztp (t:Nat) (v x:AV):(zbl tb o m zM t v x).bind (toK k)=zbl tb o m k t v x:=by
 unfold zbl
 repeat' split
 all_goals simp only [zah,qj,zjU,Option.bind_none]
end
def zdL (cl:∀ρ,Jz ρ):Prop:=∀(ρ:Type) (fid:Nat) (args:List AV) (m:Mem) (k:Yj ρ),(cl (AV×Mem) fid args m zM).bind (toK k)=cl ρ fid args m k
section
variable {cl:∀ρ,Jz ρ} (hcl:zdL cl) (tb:Tb)
include hcl
omit hcl in
theorem ztL {ρ:Type} (o:Oper) (m:Mem) (k:Yj ρ) (t:Nat) (args:List AV):(zfo tb o m zM t args).bind (toK k)=zfo tb o m k t args:=by
 unfold zfo
 repeat' split
 all_goals simp only [zah,qj,zjU,Option.bind_none]
theorem zwN {ρ:Type} (c:Call) (ev:Operand→AV) (m:Mem) (o:Oper) (k:Yj ρ):(zcc (cl _) tb c ev m o zM).bind (toK k)=zcc (cl ρ) tb c ev m o k:=by
 unfold zcc
 repeat' split
 all_goals simp only [qj,qn,ztp,ztL,Option.bind_none,hcl ρ]
def opD (cl:∀ρ,Jz ρ) (tb:Tb) (o:Oper) (ev:Operand→AV) (m:Mem):Option (AV×Mem):=opK (cl _) tb o ev m zM
theorem zyR {ρ:Type} (o:Oper) (ev:Operand→AV) (m:Mem) (k:Yj ρ):opK (cl ρ) tb o ev m k=(opD cl tb o ev m).bind (toK k):=by
 unfold opD opK
 split
 all_goals first
  |rfl
  |simp only [zyp,zro,zzG,zvu,zlJ,zx4,zuC,zzC,zzZ,zAX,zw7,zxi,zvq,znl,zuN,zoq,ztW,zp3,zsE,zv7,zu6,zsG,zpY,zwN hcl,qj,qn,Option.bind_none]
end
def Kx (cl:∀ρ,Jz ρ) (tb:Tb) (ops:Array Oper) (o:Oper) (s:St):Option St:=match o.guard with
 |none=>match opD cl tb o s.ev s.m with
  |some (v,m)=>some (s.put o.dst v m)
  |none=>none
 |some (j,want)=>match znI ops j with
  |some d=>match s.tm d with
   |.bool b=>cond (b==want) (match opD cl tb o s.ev s.m with
    |some (v,m)=>some (s.put o.dst v m)
    |none=>none) (some (s.put o.dst (.tup []) s.m))
   |.tup []=>some (s.put o.dst (.tup []) s.m)
   |_=>none
  |none=>none
def zoP (cl:∀ρ,Jz ρ) (tb:Tb) (ops:Array Oper):List Oper→St→Option St
 |[],s=>some s
 |o::r,s=>match Kx cl tb ops o s with
  |some s'=>zoP cl tb ops r s'
  |none=>none
theorem zpq {s:St} {d:Nat} {b:Bool} (h:s.tm d=.bool b):s.lit d b=s:=by
 unfold St.lit
 have:upd s.tm d (.bool b)=s.tm:=by
  funext j
  unfold upd
  cases hj:Nat.beq j d with
  |true=>rw [Nat.eq_of_beq_eq_true hj];exact h.symm
  |false=>rfl
 rw [this]
section
variable {cl:∀ρ,Jz ρ} (hcl:zdL cl) (tb:Tb)
include hcl
theorem zA1 {ρ:Type} (ops:Array Oper) (o:Oper) (s:St) (k:St→Option ρ):opG (cl ρ) tb ops o s k=(Kx cl tb ops o s).bind k:=by
 have key:opK (cl ρ) tb o s.ev s.m (fun v m=>k (s.put o.dst v m))=(match opD cl tb o s.ev s.m with
    |some (v,m)=>some (s.put o.dst v m)
    |none=>none).bind k:=by
  rw [zyR hcl]
  cases opD cl tb o s.ev s.m with
  |none=>rfl
  |some p=>rfl
 unfold opG Kx
 cases hg:o.guard with
 |none=>exact key
 |some jw =>
  obtain ⟨j,want⟩:=jw
  simp only
  cases hd:znI ops j with
  |none=>rfl
  |some d =>
   simp only
   split
   ·rename_i b hb
    have hl:=zpq hb
    cases b<;>cases want<;>simp only [br,cond,hl,key,beq_self_eq_true]<;>first|rfl|(simp only [hb];rfl)
   ·rename_i hb
    simp only [hb]
    rfl
   ·rename_i h1 h2
    split
    ·rename_i b hb
     exact absurd hb (h1 b)
    ·rename_i hb
     exact absurd hb h2
    ·rfl
theorem zoi {ρ:Type} (ops:Array Oper):∀(l:List Oper) (s:St) (k:St→Option ρ),zoR (cl ρ) tb ops l s k=(zoP cl tb ops l s).bind k
 |[],s,k=>rfl
 |o::r,s,k=>by
  simp only [zoR,zoP]
  rw [zA1 hcl]
  cases Kx cl tb ops o s with
  |none=>rfl
  |some s'=>exact zoi ops r s' k
end
end Go.Proofs.YtpkkcjmblocjdaaGreat.AM
end
