/- The abstract machine, 2: memory, operations, code. -/
import Derived.Test.YtebokfdiamepcaaK
set_option linter.unusedVariables false
set_option linter.unusedSimpArgs false
namespace Go.Proofs.Ytebokfdiamepcaa.AM
open Go.RowKit

/-! ### The words of the printed functions -/
-- WORDS
def br {α : Type} (b : Bool) (x y : α) : α := cond b x y
def bnd {α ρ : Type} (x : Option α) (k : α → Option ρ) : Option ρ := x.bind k
/-- Where a test fails, nothing is told. -/
def gd {ρ : Type} (b : Bool) (x : Option ρ) : Option ρ := cond b x none
/-- What comes behind ways that meet again. -/
def meet {α ρ : Type} (cont : α → Option ρ) (k : (α → Option ρ) → Option ρ) : Option ρ := k cont
/-- A loop: its round, told what comes next. -/
def loopN {α ρ : Type} (round : α → (α → Option ρ) → Option ρ) : Nat → α → Option ρ
  | 0, _ => none
  | n + 1, x => round x (loopN round n)
def lenL {α : Type} (xs : List α) : Nat := xs.length
def ofN (n : Nat) : Int := n
def addN (m n : Nat) : Nat := m + n
/-- Does a number lie within a row? -/
def inb (i : Int) (n : Nat) : Bool := decide (0 ≤ i) && decide (i < (n : Int))
/-- The element at a place. -/
def rdD {α : Type} (d : α) (xs : List α) (i : Int) : α := xs.getD i.toNat d
/-- The upper bound of what is appended to, and made. -/
def few (n : Nat) : Bool := decide (n < 4294967296)
def fewI (n : Int) : Bool := few n.toNat
def w64 (n : Int) : Int := IntKind.wrap .i64 n
def wrK (k : IntKind) (n : Int) : Int := k.wrap n
def bitI (op : BinOp) (k : IntKind) (x y : Int) : Int :=
  match op with
  | .and => k.wrap (BitVec.ofInt k.bits x &&& BitVec.ofInt k.bits y).toNat
  | .or => k.wrap (BitVec.ofInt k.bits x ||| BitVec.ofInt k.bits y).toNat
  | .xor => k.wrap (BitVec.ofInt k.bits x ^^^ BitVec.ofInt k.bits y).toNat
  | _ => k.wrap (BitVec.ofInt k.bits x &&& ~~~ BitVec.ofInt k.bits y).toNat
def shlI (k : IntKind) (x y : Int) : Int := x * 2 ^ (min y.toNat k.bits)
def shrI (k : IntKind) (x y : Int) : Int := x.fdiv (2 ^ (min y.toNat k.bits))
def addI (a b : Int) : Int := a + b
def subI (a b : Int) : Int := a - b
def mulI (a b : Int) : Int := a * b
def quoI (a b : Int) : Int := a.tdiv b
def remI (a b : Int) : Int := a.tmod b
def eqI (a b : Int) : Bool := decide (a = b)
def ltI (a b : Int) : Bool := decide (a < b)
def leI (a b : Int) : Bool := decide (a ≤ b)
def gtI (a b : Int) : Bool := decide (a > b)
def geI (a b : Int) : Bool := decide (a ≥ b)
def eqB (a b : Bool) : Bool := a == b
def notB (a : Bool) : Bool := !a
def andB (a b : Bool) : Bool := a && b
def selI (c : Bool) (a b : Int) : Int := cond c a b
def selB (c : Bool) (a b : Bool) : Bool := cond c a b
def mxI (x y : Int) : Int := if y > x then y else x
def mnI (x y : Int) : Int := if y < x then y else x
def apL {α : Type} (xs ys : List α) : List α := xs ++ ys
def stL {α : Type} (xs : List α) (i : Int) (x : α) : List α := xs.set i.toNat x
def tkL {α : Type} (xs : List α) (i : Int) : List α := xs.take i.toNat
def dpL {α : Type} (xs : List α) (i : Int) : List α := xs.drop i.toNat
def rpL {α : Type} (n : Int) (x : α) : List α := List.replicate n.toNat x
-- END WORDS
def wr (k : IntKind) (n : Int) : Int :=
  match k with
  | .i64 => w64 n
  | .i32 => wrK .i32 n
  | .i16 => wrK .i16 n
  | .i8 => wrK .i8 n
  | .u64 => wrK .u64 n
  | .u32 => wrK .u32 n
  | .u16 => wrK .u16 n
  | .u8 => wrK .u8 n
theorem wr_eq (k : IntKind) (n : Int) : wr k n = k.wrap n := by cases k <;> rfl

/-! ### Types -/
inductive TD where
  | int (k : IntKind)
  | bool
  | str
  | sl (e : Nat)
  | arr (n : Nat) (e : Nat)
  | st (fs : List (Nat × Nat))
  | fn
  | mp (k v : Nat)
  | ptr (e : Nat)
  | other
structure TI where
  d : TD
  size : Nat
  bytes : Nat
  zero : List AV
  kd : Option Kd
  eq : Option (List Kd)

def Tb : Type := List (Nat × TI)
def noTI : TI := ⟨.other, 0, 0, [], none, none⟩
def Tb.at : Tb → Nat → TI
  | [], _ => noTI
  | (t, i) :: r, u => cond (Nat.beq t u) i (Tb.at r u)
def TD.ok : TD → Bool
  | .other => false
  | _ => true
def TD.agg : TD → Bool
  | .arr _ _ => true
  | .st _ => true
  | _ => false

def Kd.flat : Kd → Bool
  | .pair a b => Kd.flat a && Kd.flat b
  | .sl _ => false
  | _ => true

/-! ### Memory -/
inductive Stat where
  | own
  | fixed
  | dead
structure RowA where
  e : Kd
  xs : List e.T
  t : Nat
  st : Stat
structure BoxA where
  cs : List AV
  fixed : Bool
structure MapA where
  k : Kd
  v : Kd
  es : List (k.T × v.T)
structure Mem where
  ep : Nat
  box : Nat → Option BoxA
  row : Nat → Option RowA
  map : Nat → Option MapA
def upd {α : Type} (f : Nat → α) (i : Nat) (v : α) : Nat → α := fun j => cond (Nat.beq j i) v (f j)
structure St where
  tm : Nat → AV
  m : Mem
def Mem.new (m : Mem) (id : Nat) : Bool :=
  match m.box id, m.row id, m.map id with
  | none, none, none => true
  | _, _, _ => false
def Mem.clear : Mem := ⟨0, fun _ => Option.none, fun _ => Option.none, fun _ => Option.none⟩
def Mem.id (m : Mem) (d : Nat) : Nat := m.ep * 4096 + d

/-- A constant. -/
def avC : Value → AV
  | .int k n => .int k n
  | .bool b => .bool b
  | .string s => .str s
  | .slice .none 0 0 => .nil
  | _ => .dead
def St.ev (s : St) : Operand → AV
  | .tmp t => s.tm t
  | .const v => avC v
  | .func f => .fn f [] []
  | .global _ => .dead

/-- A cell, as whoever is called reads it: an own row as what is in it. -/
def lendC (m : Mem) : AV → AV
  | .row id _ _ => match m.row id with
    | some ⟨_, _, _, .dead⟩ => .dead
    | some ⟨e, xs, _, _⟩ => .sl e xs
    | none => .dead
  | .int k n => .int k n
  | .bool b => .bool b
  | .str s => .str s
  | .nil => .nil
  | .sl e xs => .sl e xs
  | _ => .dead
/-- The same of a struct, and of an own variable's address. -/
def lendP (m : Mem) : AV → AV
  | .agg cs => .agg (cs.map (lendC m))
  | .kptr cs => .kptr cs
  | .ptr id 0 => match m.box id with
    | some b => .kptr (b.cs.map (lendC m))
    | none => .dead
  | v => lendC m v
def lend (m : Mem) : AV → AV
  | .fn f a b => .fn f (a.map (lendP m)) (b.map (lendP m))
  | v => lendP m v

/-- The own rows that are lent; are own variables lent? -/
def rowsC : AV → List Nat
  | .row id _ _ => [id]
  | _ => []
def cellsIn (m : Mem) : AV → List AV
  | .agg cs => cs
  | .ptr id _ => match m.box id with
    | some b => b.cs
    | none => []
  | v => [v]
def isPtr : AV → Bool
  | .ptr _ _ => true
  | _ => false
def rowsP (m : Mem) (v : AV) : List Nat := (cellsIn m v).flatMap rowsC
def rowsA (m : Mem) : AV → List Nat
  | .fn _ a b => a.flatMap (rowsP m) ++ b.flatMap (rowsP m)
  | v => rowsP m v
def ptrA : AV → Bool
  | .fn _ a b => a.any isPtr || b.any isPtr
  | v => isPtr v

/-- Rows that are written to no more. -/
def fixRow : RowA → RowA
  | ⟨e, xs, t, .own⟩ => ⟨e, xs, t, .fixed⟩
  | r => r
def Mem.fix (m : Mem) : List Nat → Mem
  | [] => m
  | id :: r => (match m.row id with
    | some a => ({ m with row := upd m.row id (some (fixRow a)) } : Mem)
    | none => m).fix r
def Mem.kill (m : Mem) (id : Nat) : Mem := match m.row id with
  | some ⟨e, xs, t, _⟩ => { m with row := upd m.row id (some ⟨e, xs, t, .dead⟩) }
  | none => m
def fixBox (m : Mem) (id : Nat) : Mem := match m.box id with
  | some b => { m with box := upd m.box id (some ⟨b.cs, true⟩) }
  | none => m

/-- A datum out of a value; nothing may be left. -/
def decV (κ : Kd) (v : AV) : Option κ.T := match κ, v with
  | .pair a b, .agg cs => match Kd.dec (.pair a b) cs with
    | some (x, []) => some x
    | _ => none
  | .pair _ _, _ => none
  | _, .agg _ => none
  | κ, v => match Kd.dec κ [v] with
    | some (x, []) => some x
    | _ => none

/-- May a number be looked up? Those of this very region only by whoever waits for them. -/
def okId (m : Mem) (o : Oper) (id : Nat) : Bool :=
  Nat.blt id (m.ep * 4096) || o.op.operands.toList.any fun x => match x with
    | .tmp d => Nat.beq id (m.ep * 4096 + d)
    | _ => false
/-- What is looked at, where a value is lent. -/
def readsP (m : Mem) (v : AV) : List Nat := (match v with
  | .ptr id _ => [id]
  | _ => []) ++ rowsP m v
def readsA (m : Mem) : AV → List Nat
  | .fn _ a b => a.flatMap (readsP m) ++ b.flatMap (readsP m)
  | v => readsP m v

end Go.Proofs.Ytebokfdiamepcaa.AM
