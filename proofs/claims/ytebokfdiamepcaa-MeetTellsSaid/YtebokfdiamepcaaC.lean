/- The abstract machine, 4: code, cuts, functions. -/
import Derived.Test.YtebokfdiamepcaaO
set_option linter.unusedVariables false
set_option linter.unusedSimpArgs false
namespace Go.Proofs.Ytebokfdiamepcaa.AM
open Go.RowKit

abbrev CallT (ρ : Type) : Type := Nat → List AV → Mem → Kont ρ → Option ρ

def St.put (s : St) (d : Option Nat) (v : AV) (m : Mem) : St := match d with
  | some d => ⟨upd s.tm d v, m⟩
  | none => ⟨s.tm, m⟩
def St.lit (s : St) (d : Nat) (b : Bool) : St := ⟨upd s.tm d (.bool b), s.m⟩
def St.litO (s : St) (x : Operand) (b : Bool) : St := match x with
  | .tmp d => s.lit d b
  | _ => s
def St.tick (s : St) : St := ⟨s.tm, { s.m with ep := s.m.ep + 1 }⟩

section
variable {ρ : Type} (cl : CallT ρ) (tb : Tb)

def kCall (c : Call) (ev : Operand → AV) (m : Mem) (o : Oper) (k : Kont ρ) : Option ρ := match c.callee with
  | .builtin .len => match c.args.toList, c.argTypes.toList with
    | [x], t :: _ => match lenK tb t (ev x) with
      | some n => k (.int .i64 n) m
      | none => none
    | _, _ => none
  | .builtin .append => match c.args.toList, c.argTypes.toList with
    | [v, x], [t, u] => cond (Nat.beq t u) (kAppend tb o m k t (ev v) (ev x)) none
    | _, _ => none
  | .builtin .max => match mxL (c.args.toList.map ev) with
    | some (i, n) => k (.int i n) m
    | none => none
  | .builtin .min => match mnL (c.args.toList.map ev) with
    | some (i, n) => k (.int i n) m
    | none => none
  | .value f => match ev f with
    | .fn g a b => cond (((a ++ c.args.toList.map ev ++ b).flatMap (readsA m)).all (okId m o)) (cl g (a ++ c.args.toList.map ev ++ b) m k) none
    | _ => none
  | _ => none

def opK (o : Oper) (ev : Operand → AV) (m : Mem) (k : Kont ρ) : Option ρ := match o.op with
  | .move x => k (ev x) m
  | .assign x => k (ev x) m
  | .pick c a b => kPick m k (ev c) (ev a) (ev b)
  | .alloc t => cond (tb.at t).d.ok (mkBox o m k (tb.at t).zero) none
  | .box t x => kBox o m k t (ev x)
  | .build t ps => kBuild tb m k t (ps.toList.map fun p => (p.1, ev p.2))
  | .buildSlice t n ps => kBuildSlice tb o m k t n (ps.toList.map fun p => (p.1, ev p.2))
  | .load t a => kLoad tb o m k t (ev a)
  | .store t a x => kStore tb m k t (ev a) (ev x)
  | .nilCheck x => kNil m k (ev x)
  | .binOp op t x y _ => kBin tb m k op t (ev x) (ev y)
  | .unOp op _ x => kUn m k op (ev x)
  | .convert r t x => cond (tb.at r).d.ok (kConv tb m k t (ev x)) none
  | .makeFunc (.func f) a b => k (.fn f (a.toList.map ev) (b.toList.map ev)) m
  | .makeSlice t l c => kMake tb o m k t (sameOp l c) (ev l)
  | .slice t x lo hi none => kSlice tb o m k t (ev x) (lo.map ev) (hi.map ev)
  | .fieldAddr t x f => kFieldAddr tb m k t (ev x) f
  | .field t x f => kField tb m k t (ev x) f
  | .indexAddr t x i => kIndexAddr tb m k t (ev x) (ev i)
  | .extract x i => kExtract m k (ev x) i
  | .call c => kCall cl tb c ev m o k
  | _ => none

def gdst (ops : Array Oper) (j : Nat) : Option Nat := match ops.toList[j]? with
  | some o => o.dst
  | none => none
/-- One operation of a region, if it is wanted. -/
def opG (ops : Array Oper) (o : Oper) (s : St) (k : St → Option ρ) : Option ρ := match o.guard with
  | none => opK cl tb o s.ev s.m fun v m => k (s.put o.dst v m)
  | some (j, want) => match gdst ops j with
    | some d => match s.tm d with
      | .bool b => br b
        (cond want (opK cl tb o (s.lit d true).ev s.m fun v m => k ((s.lit d true).put o.dst v m)) (k ((s.lit d true).put o.dst (.tup []) s.m)))
        (cond want (k ((s.lit d false).put o.dst (.tup []) s.m)) (opK cl tb o (s.lit d false).ev s.m fun v m => k ((s.lit d false).put o.dst v m)))
      | .tup [] => k (s.put o.dst (.tup []) s.m)
      | _ => none
    | none => none
def opsK (ops : Array Oper) : List Oper → St → (St → Option ρ) → Option ρ
  | [], s, k => k s
  | o :: r, s, k => opG cl tb ops o s fun s' => opsK ops r s' k
end

/-! ### What is known where ways meet -/
inductive SP where
  | d (κ : Kd)
  | kp (κ : Kd)
inductive SC where
  | d (κ : Kd)
  | row (e : Kd) (t : Nat)
inductive Sh where
  | d (κ : Kd)
  | kp (κ : Kd)
  | row (e : Kd) (t : Nat)
  | box (cs : List SC)
  | fn (f : Nat) (a b : List SP)

def SP.T : SP → Type
  | .d κ => κ.T
  | .kp κ => κ.T
def SC.T : SC → Type
  | .d κ => κ.T
  | .row e _ => List e.T
def prodT : List Type → Type
  | [] => Unit
  | [a] => a
  | a :: r => a × prodT r
def Sh.T : Sh → Type
  | .d κ => κ.T
  | .kp κ => κ.T
  | .row e _ => List e.T
  | .box cs => prodT (cs.map SC.T)
  | .fn _ a b => prodT (a.map SP.T) × prodT (b.map SP.T)
abbrev Cut : Type := List (Nat × Sh)
def shT (l : List Sh) : Type := prodT (l.map Sh.T)
def kdT (l : List Kd) : Type := prodT (l.map Kd.T)
def Cut.T (c : Cut) : Type := shT (c.map (·.2))

/-! Reading -/
def SP.dec : (p : SP) → AV → Option p.T
  | .d κ, v => decV κ v
  | .kp κ, .kptr cs => match Kd.dec κ cs with
    | some (x, []) => some x
    | _ => none
  | .kp _, _ => none
def spDec : (l : List SP) → List AV → Option (prodT (l.map SP.T))
  | [], [] => some ()
  | [p], [v] => p.dec v
  | p :: q :: r, v :: vs => match p.dec v, spDec (q :: r) vs with
    | some x, some y => some (x, y)
    | _, _ => none
  | _, _ => none
/-- One cell of a variable (or several, of a datum); its number, if it is an own row. -/
def rowDec (m : Mem) (e : Kd) (t : Nat) : AV → Option (List e.T)
  | .nil => some []
  | .row id _ _ => match m.row id with
    | some ⟨e', xs, t', .own⟩ => cond (Nat.beq t t') (castL e' e xs) none
    | _ => none
  | _ => none
def scDec (m : Mem) : (l : List SC) → List AV → Option (prodT (l.map SC.T))
  | [], [] => some ()
  | [.d κ], cs => match Kd.dec κ (cs.map (lendC m)) with
    | some (x, []) => some x
    | _ => none
  | [.row e t], [v] => rowDec m e t v
  | .d κ :: q :: r, cs => match Kd.dec κ ((cs.take κ.size).map (lendC m)), scDec m (q :: r) (cs.drop κ.size) with
    | some (x, []), some y => some (x, y)
    | _, _ => none
  | .row e t :: q :: r, v :: cs => match rowDec m e t v, scDec m (q :: r) cs with
    | some x, some y => some (x, y)
    | _, _ => none
  | _, _ => none
def Sh.dec (m : Mem) : (h : Sh) → AV → Option h.T
  | .d κ, v => decV κ (lendP m v)
  | .kp κ, .kptr cs => match Kd.dec κ cs with
    | some (x, []) => some x
    | _ => none
  | .row e t, v => rowDec m e t v
  | .box l, .ptr id 0 => match m.box id with
    | some ⟨cs, false⟩ => scDec m l cs
    | _ => none
  | .fn f a b, .fn g us vs => cond (Nat.beq f g) (match spDec a us, spDec b vs with
    | some x, some y => some (x, y)
    | _, _ => none) none
  | _, _ => none
def cutDec (s : St) : (c : Cut) → Option c.T
  | [] => some ()
  | [(i, h)] => h.dec s.m (s.tm i)
  | (i, h) :: q :: r => match h.dec s.m (s.tm i), cutDec s (q :: r) with
    | some x, some y => some (x, y)
    | _, _ => none
/-- The numbers that are handed on, and those whose rows are only read from here on. -/
def ownC : List SC → List AV → List Nat
  | .d κ :: r, cs => ownC r (cs.drop κ.size)
  | .row _ _ :: r, v :: cs => rowsC v ++ ownC r cs
  | _, _ => []
def Sh.own (m : Mem) : Sh → AV → List Nat
  | .row _ _, v => rowsC v
  | .box l, .ptr id _ => id :: (match m.box id with
    | some b => ownC l b.cs
    | none => [])
  | _, _ => []
def fixC : List SC → List AV → List Nat
  | .d κ :: r, cs => (cs.take κ.size).flatMap rowsC ++ fixC r (cs.drop κ.size)
  | .row _ _ :: r, v :: cs => fixC r cs
  | _, _ => []
def Sh.fix (m : Mem) : Sh → AV → List Nat
  | .d _, v => rowsP m v
  | .box l, .ptr id _ => match m.box id with
    | some b => fixC l b.cs
    | none => []
  | _, _ => []
def noDup : List Nat → Bool
  | [] => true
  | a :: r => (r.all fun b => !(Nat.beq a b)) && noDup r
def cutOk' (s : St) (c : Cut) : Bool :=
  let own := c.flatMap fun p => p.2.own s.m (s.tm p.1)
  let fx := c.flatMap fun p => p.2.fix s.m (s.tm p.1)
  noDup own && (fx.all fun a => own.all fun b => !(Nat.beq a b)) && (c.all fun p => noPtrD p.2 (s.tm p.1)) && noDup (c.map (·.1))
where noPtrD : Sh → AV → Bool
  | .d _, v => !(isPtr v)
  | .box l, _ => Nat.ble l.length 60
  | _, _ => true
def decS {ρ : Type} (c : Cut) (s : St) (k : c.T → Option ρ) : Option ρ :=
  cond (cutOk' s c) (match cutDec s c with
    | some x => k x
    | none => none) none

/-! Writing: the i-th entry has the numbers 64 i, 64 i + 1, .. -/
def SP.av : (p : SP) → p.T → AV
  | .d κ, x => κ.av x
  | .kp κ, x => .kptr (κ.cells x)
def spAv : (l : List SP) → prodT (l.map SP.T) → List AV
  | [], _ => []
  | [p], x => [p.av x]
  | p :: q :: r, x => p.av x.1 :: spAv (q :: r) x.2
def scAv (b : Nat) : (l : List SC) → prodT (l.map SC.T) → List AV
  | [], _ => []
  | [.d κ], x => κ.cells x
  | [.row e _], x => [.row b e (lenL (α := e.T) x)]
  | .d κ :: q :: r, x => κ.cells x.1 ++ scAv (b + 1) (q :: r) x.2
  | .row e _ :: q :: r, x => .row b e (lenL (α := e.T) x.1) :: scAv (b + 1) (q :: r) x.2
def scMem (b : Nat) : (l : List SC) → prodT (l.map SC.T) → Mem → Mem
  | [], _, m => m
  | [.d _], _, m => m
  | [.row e t], x, m => { m with row := upd m.row b (some ⟨e, x, t, .own⟩) }
  | .d _ :: q :: r, x, m => scMem (b + 1) (q :: r) x.2 m
  | .row e t :: q :: r, x, m => scMem (b + 1) (q :: r) x.2 { m with row := upd m.row b (some ⟨e, x.1, t, .own⟩) }
def Sh.av (b : Nat) : (h : Sh) → h.T → AV
  | .d κ, x => κ.av x
  | .kp κ, x => .kptr (κ.cells x)
  | .row e _, x => .row b e (lenL (α := e.T) x)
  | .box _, _ => .ptr b 0
  | .fn f a c, x => .fn f (spAv a x.1) (spAv c x.2)
def Sh.mem (b : Nat) : (h : Sh) → h.T → Mem → Mem
  | .row e t, x, m => { m with row := upd m.row b (some ⟨e, x, t, .own⟩) }
  | .box l, x, m => scMem (b + 1) l x { m with box := upd m.box b (some ⟨scAv (b + 1) l x, false⟩) }
  | _, _, m => m
def cutEnc (b : Nat) : (c : Cut) → c.T → St → St
  | [], _, s => s
  | [(i, h)], x, s => ⟨upd s.tm i (h.av b x), h.mem b x s.m⟩
  | (i, h) :: q :: r, x, s => cutEnc (b + 64) (q :: r) x.2 ⟨upd s.tm i (h.av b x.1), h.mem b x.1 s.m⟩
def encS (c : Cut) (x : c.T) : St := cutEnc 0 c x ⟨fun _ => .dead, { Mem.clear with ep := c.length + 1 }⟩

inductive Ann where
  | leaf
  | node (j : Option Cut) (lp : Option Cut) (l r : Ann)
def Ann.l : Ann → Ann
  | .leaf => .leaf
  | .node _ _ l _ => l
def Ann.r : Ann → Ann
  | .leaf => .leaf
  | .node _ _ _ r => r
def Ann.j : Ann → Option Cut
  | .leaf => none
  | .node j _ _ _ => j
def Ann.lp : Ann → Option Cut
  | .leaf => none
  | .node _ lp _ _ => lp

structure KS (ρ : Type) where
  norm : St → Option ρ
  ex : Nat → St → Option ρ
  ret : St → Option ρ

def jn {ρ : Type} (j : Option Cut) (K : KS ρ) (f : KS ρ → Option ρ) : Option ρ := match j with
  | none => f K
  | some c => meet (fun x => K.norm (encS c x)) fun j => f { K with norm := fun s => decS c s j }

section
variable {ρ : Type} (cl : CallT ρ) (tb : Tb) (N : Nat)
def evalC : Code → Ann → St → KS ρ → Option ρ
  | .skip, an, s, K => jn an.j K fun K => K.norm s
  | .region _ ops _, an, s, K => jn an.j K fun K => opsK cl tb ops ops.toList s.tick K.norm
  | .seq a b, an, s, K => jn an.j K fun K => evalC a an.l s { K with norm := fun s' => evalC b an.r s' K }
  | .cond c a b, an, s, K => jn an.j K fun K => match s.ev c with
    | .bool t => br t (evalC a an.l (s.litO c true) K) (evalC b an.r (s.litO c false) K)
    | _ => none
  | .block id c, an, s, K => jn an.j K fun K => evalC c an.l s { K with ex := fun j s' => cond (Nat.beq j id) (K.norm s') (K.ex j s') }
  | .loop c, an, s, K => jn an.j K fun K => match an.lp with
    | some ct => decS ct s (loopN (fun x next => evalC c an.l (encS ct x) { K with norm := fun s' => decS ct s' next }) N)
    | none => loopN (fun s next => evalC c an.l s { K with norm := next }) 32 s
  | .exit id, an, s, K => K.ex id s
  | .ret, an, s, K => K.ret s
  | _, _, _, _ => none

def resOne (s : St) : ResultVar → Option AV
  | .tmp t => some (s.tm t)
  | .cell a t => match s.tm a with
    | .ptr id off => match s.m.box id with
      | some b => getPart (tb.at t) off b.cs
      | none => none
    | _ => none
def resAll (s : St) : List ResultVar → Option (List AV)
  | [] => some []
  | r :: rs => match resOne tb s r, resAll s rs with
    | some v, some vs => some (v :: vs)
    | _, _ => none
def resK (f : Func) (s : St) (k : Kont ρ) : Option ρ := match resAll tb s f.results.toList with
  | some [v] => k v s.m
  | some vs => k (.tup vs) s.m
  | none => none
def argTm (args : List AV) : Nat → AV := fun i => match args[i]? with
  | some v => v
  | none => .tup []
def evalF (f : Func) (an : Ann) (args : List AV) (m : Mem) (k : Kont ρ) : Option ρ := match f.body with
  | some c => evalC cl tb N c an ⟨argTm args, m⟩ ⟨fun s => resK tb f s k, fun _ _ => none, fun s => resK tb f s k⟩
  | none => none
end

/-! ### Functions by what they answer -/
def lendR (m : Mem) : AV → AV
  | .tup vs => .tup (vs.map (lendP m))
  | v => lendP m v
def decRL : (l : List Kd) → List AV → Option (kdT l)
  | [], [] => some ()
  | [κ], [v] => decV κ v
  | κ :: q :: r, v :: vs => match decV κ v, decRL (q :: r) vs with
    | some x, some y => some (x, y)
    | _, _ => none
  | _, _ => none
def decR : (l : List Kd) → AV → Option (kdT l)
  | [κ], v => decV κ v
  | l, .tup vs => decRL l vs
  | _, _ => none
def encRL : (l : List Kd) → kdT l → List AV
  | [], _ => []
  | [κ], x => [κ.av x]
  | κ :: q :: r, x => κ.av x.1 :: encRL (q :: r) x.2
def encR : (l : List Kd) → kdT l → AV
  | [κ], x => κ.av x
  | l, x => .tup (encRL l x)
def decA : (l : List Sh) → List AV → Option (shT l)
  | [], [] => some ()
  | [h], [v] => h.dec Mem.clear v
  | h :: q :: r, v :: vs => match h.dec Mem.clear v, decA (q :: r) vs with
    | some x, some y => some (x, y)
    | _, _ => none
  | _, _ => none
def encA : (l : List Sh) → shT l → List AV
  | [], _ => []
  | [h], x => [h.av 0 x]
  | h :: q :: r, x => h.av 0 x.1 :: encA (q :: r) x.2

structure Entry where
  fid : Nat
  ps : List Sh
  rk : List Kd
  f : shT ps → Option (kdT rk)
def Entry.mem (e : Entry) (args : List AV) (m : Mem) : Option Mem :=
  cond (e.rk.all Kd.flat) (some m) (cond (args.any ptrA) none (some (m.fix (args.flatMap (rowsA m)))))
def callE {ρ : Type} : List Entry → CallT ρ
  | [], _, _, _, _ => none
  | e :: r, fid, args, m, k => cond (Nat.beq e.fid fid) (match decA e.ps (args.map (lend m)) with
    | some x => match e.mem args m with
      | some m' => bnd (e.f x) fun y => k (encR e.rk y) m'
      | none => none
    | none => callE r fid args m k) (callE r fid args m k)

/-- What a function answers, by its text. -/
def textF (es : List Entry) (tb : Tb) (N : Nat) (f : Func) (an : Ann) (ps : List Sh) (rk : List Kd) (x : shT ps) : Option (kdT rk) :=
  evalF (callE es) tb N f an (encA ps x) Mem.clear fun v m => decR rk (lendR m v)
end Go.Proofs.Ytebokfdiamepcaa.AM
