/- The abstract machine, 3: operations. -/
import Derived.Test.YtebokfdiamepcaaM
set_option linter.unusedVariables false
set_option linter.unusedSimpArgs false
namespace Go.Proofs.Ytebokfdiamepcaa.AM
open Go.RowKit

abbrev Kont (ρ : Type) : Type := AV → Mem → Option ρ

/-- One cell's value, whole. -/
def scal : AV → Bool
  | .dead => false
  | .agg _ => false
  | .tup _ => false
  | _ => true
/-- A value's cells, as they lie in memory. -/
def cellsK : AV → Option (List AV)
  | .agg cs => cond (cs.all scal) (some cs) none
  | v => cond (scal v) (some [v]) none
def getPart (ti : TI) (off : Nat) (cs : List AV) : Option AV :=
  cond ti.d.agg (cond (Nat.ble (off + ti.size) cs.length) (some (.agg ((cs.drop off).take ti.size))) none) (cond (Nat.beq ti.size 1) cs[off]? none)
def putPart (off : Nat) (vs cs : List AV) : Option (List AV) :=
  cond (Nat.ble (off + vs.length) cs.length) (some (cs.take off ++ vs ++ cs.drop (off + vs.length))) none

section
variable {ρ : Type} (tb : Tb) (o : Oper) (m : Mem) (k : Kont ρ)

def mkBox (cs : List AV) : Option ρ := match o.dst with
  | some d => cond (m.new (m.id d)) (k (.ptr (m.id d) 0) { m with box := upd m.box (m.id d) (some ⟨cs, false⟩) }) none
  | none => none
/-- A new row; M is the memory with what its elements hold fixed. -/
def mkRow (e : Kd) (t : Nat) (xs : List e.T) (M : Mem) : Option ρ := match o.dst with
  | some d => cond (M.new (M.id d)) (k (.row (M.id d) e (lenL xs)) { M with row := upd M.row (M.id d) (some ⟨e, xs, t, .own⟩) }) none
  | none => none

def kPick (c x y : AV) : Option ρ := match c with
  | .bool c => match x, y with
    | .bool a, .bool b => k (.bool (selB c a b)) m
    | .int i a, .int j b => cond (kb i j) (k (.int i (selI c a b)) m) none
    | _, _ => br c (k x m) (k y m)
  | _ => none

def kBox (t : Nat) (x : AV) : Option ρ := match cellsK x with
  | some cs => mkBox o m k cs
  | none => none

/-- A struct's, an array's places. -/
def place (ti : TI) (i : Nat) : Option (Nat × Nat) := match ti.d with
  | .st fs => match fs[i]? with
    | some (off, t) => cond (Nat.blt 0 (tb.at t).size) (some (off, (tb.at t).size)) none
    | none => none
  | .arr _ e => cond (Nat.blt 0 (tb.at e).size) (some (i * (tb.at e).size, (tb.at e).size)) none
  | _ => none
def fillA (ti : TI) : List (Nat × AV) → List AV → Option (List AV)
  | [], cs => some cs
  | (i, v) :: r, cs => match place tb ti i, cellsK v with
    | some (off, n), some vs => cond (Nat.beq vs.length n) (match putPart off vs cs with
      | some cs' => fillA ti r cs'
      | none => none) none
    | _, _ => none
def bldB : TD → Bool
  | .st _ => true
  | .arr _ e => Nat.blt 0 (tb.at e).size
  | _ => false
def kBuild (t : Nat) (parts : List (Nat × AV)) : Option ρ :=
  match fillA tb (tb.at t) parts (tb.at t).zero with
  | some cs => cond (bldB tb (tb.at t).d) (k (.agg cs) m) none
  | none => none

/-- The elements of a literal. -/
def setAll (e : Kd) (f : AV → AV) : List (Nat × AV) → List e.T → Option (List e.T)
  | [], xs => some xs
  | (i, v) :: r, xs => match decV e (f v) with
    | some x => cond (Nat.ble (i + 1) xs.length) (setAll e f r (xs.set i x)) none
    | none => none
def kBuildSlice (t len : Nat) (parts : List (Nat × AV)) : Option ρ :=
  match (tb.at t).d with
  | .sl e => match (tb.at e).kd with
    | some κ => cond (Nat.ble (len * κ.size) 16777216) (cond κ.flat (match setAll κ (fun v => v) parts (List.replicate len κ.dflt) with
        | some xs => mkRow o k κ e xs m
        | none => none)
      (match setAll κ (lend m) parts (List.replicate len κ.dflt) with
        | some xs => cond (parts.any fun p => ptrA p.2) none (mkRow o k κ e xs (m.fix (parts.flatMap fun p => rowsA m p.2)))
        | none => none)) none
    | none => none
  | _ => none

def kLoad (t : Nat) (a : AV) : Option ρ := match a with
  | .ptr id off => match m.box id with
    | some b => match getPart (tb.at t) off b.cs with
      | some v => cond (okId m o id) (k v m) none
      | none => none
    | none => none
  | .kptr cs => match getPart (tb.at t) 0 cs with
    | some v => k v m
    | none => none
  | .elem id e0 i off => match m.row id with
    | some ⟨_, _, _, .dead⟩ => none
    | some ⟨e, xs, _, _⟩ => match getPart (tb.at t) off (e.cells (rdD e.dflt xs i)) with
      | some v => cond (Nat.beq e0.size e.size && okId m o id) (k v m) none
      | none => none
    | none => none
  | _ => none

def kStore (t : Nat) (a x : AV) : Option ρ := match a with
  | .ptr id off => match m.box id with
    | some ⟨cs, false⟩ => match cellsK x with
      | some vs => cond (Nat.beq vs.length (tb.at t).size && Nat.blt 0 (tb.at t).size) (match putPart off vs cs with
        | some cs' => k (.tup []) { m with box := upd m.box id (some ⟨cs', false⟩) }
        | none => none) none
      | none => none
    | _ => none
  | .elem id e0 i off => match m.row id with
    | some ⟨e, xs, et, .own⟩ => match cellsK (lend m x) with
      | some vs => cond (Nat.beq vs.length (tb.at t).size && Nat.beq e0.size e.size && Nat.blt 0 (tb.at t).size) (match putPart off vs (e.cells (rdD e.dflt xs i)) with
        | some cs' => match Kd.dec e cs' with
          | some (y, []) => cond (((rowsA m x).all fun j => !(Nat.beq j id)) && !(ptrA x)) (k (.tup []) { m.fix (rowsA m x) with row := upd (m.fix (rowsA m x)).row id (some ⟨e, stL xs i y, et, .own⟩) }) none
          | _ => none
        | none => none) none
      | none => none
    | _ => none
  | _ => none

def kNil (x : AV) : Option ρ := match x with
  | .ptr id off => k (.ptr id off) m
  | .kptr cs => k (.kptr cs) m
  | .elem id e i off => k (.elem id e i off) m
  | .fn f a b => k (.fn f a b) m
  | _ => none

/-- Are two values of cells the same? -/
def eqL : List Kd → List AV → List AV → Option Bool
  | [.int l], [.int i a], [.int j b] => cond (kb l i && kb l j) (some (eqI a b)) none
  | [.bool], [.bool a], [.bool b] => some (eqB a b)
  | .int l :: ks, .int i a :: r, .int j b :: q => cond (kb l i && kb l j) (match eqL ks r q with
    | some c => some (andB (eqI a b) c)
    | none => none) none
  | .bool :: ks, .bool a :: r, .bool b :: q => match eqL ks r q with
    | some c => some (andB (eqB a b) c)
    | none => none
  | _, _, _ => none
def kBin (op : BinOp) (t : Nat) (x y : AV) : Option ρ := match x, y with
  | .int i a, .int j b => match op with
    | .shl => gd (leI 0 b) (k (.int i (wr i (shlI i a b))) m)
    | .shr => gd (leI 0 b) (k (.int i (shrI i a b)) m)
    | .add => cond (kb i j) (k (.int i (wr i (addI a b))) m) none
    | .sub => cond (kb i j) (k (.int i (wr i (subI a b))) m) none
    | .mul => cond (kb i j) (k (.int i (wr i (mulI a b))) m) none
    | .quo => cond (kb i j) (gd (notB (eqI b 0)) (k (.int i (wr i (quoI a b))) m)) none
    | .rem => cond (kb i j) (gd (notB (eqI b 0)) (k (.int i (remI a b)) m)) none
    | .and => cond (kb i j) (k (.int i (bitI .and i a b)) m) none
    | .or => cond (kb i j) (k (.int i (bitI .or i a b)) m) none
    | .xor => cond (kb i j) (k (.int i (bitI .xor i a b)) m) none
    | .eql => cond (kb i j) (k (.bool (eqI a b)) m) none
    | .neq => cond (kb i j) (k (.bool (notB (eqI a b))) m) none
    | .lss => cond (kb i j) (k (.bool (ltI a b)) m) none
    | .leq => cond (kb i j) (k (.bool (leI a b)) m) none
    | .gtr => cond (kb i j) (k (.bool (gtI a b)) m) none
    | .geq => cond (kb i j) (k (.bool (geI a b)) m) none
    | _ => none
  | .bool a, .bool b => match op, (tb.at t).d with
    | .eql, .bool => k (.bool (eqB a b)) m
    | .neq, .bool => k (.bool (notB (eqB a b))) m
    | _, _ => none
  | .agg cs, .agg ds => match (tb.at t).eq with
    | some ks => match op, eqL ks cs ds with
      | .eql, some c => k (.bool c) m
      | .neq, some c => k (.bool (notB c)) m
      | _, _ => none
    | none => none
  | _, _ => none

def kUn (op : UnOp) (x : AV) : Option ρ := match op, x with
  | .not, .bool b => k (.bool (notB b)) m
  | .neg, .int i n => k (.int i (wr i (subI 0 n))) m
  | _, _ => none

def kConv (dst : Nat) (x : AV) : Option ρ := match (tb.at dst).d, x with
  | .int j, .int _ n => k (.int j (wr j n)) m
  | _, _ => none

def sameOp : Operand → Operand → Bool
  | .tmp a, .tmp b => Nat.beq a b
  | .const (.int i a), .const (.int j b) => kb i j && (a == b)
  | _, _ => false
def kMake (t : Nat) (same : Bool) (n : AV) : Option ρ := match (tb.at t).d, n with
  | .sl e, .int .i64 n => match (tb.at e).kd with
    | some κ => cond same (gd (leI 0 n) (gd (fewI n) (mkRow o k κ e (rpL n κ.dflt) m))) none
    | none => none
  | _, _ => none

def cutL {α : Type} (lo hi : Option Int) (xs : List α) : List α := match hi, lo with
  | none, none => xs
  | some h, none => tkL xs h
  | none, some l => dpL xs l
  | some h, some l => dpL (tkL xs h) l
def cutGd (lo hi : Option Int) (n : Nat) (x : Option ρ) : Option ρ := match hi, lo with
  | none, none => x
  | some h, none => gd (leI 0 h) (gd (leI h (ofN n)) x)
  | none, some l => gd (leI 0 l) (gd (leI l (ofN n)) x)
  | some h, some l => gd (leI 0 h) (gd (leI h (ofN n)) (gd (leI 0 l) (gd (leI l h) x)))
def intO : Option AV → Option (Option Int)
  | none => some none
  | some (.int _ n) => some (some n)
  | _ => none
def kSlice (t : Nat) (x : AV) (lo hi : Option AV) : Option ρ := match intO lo, intO hi with
  | some lo, some hi => match (tb.at t).d, x with
    | .sl et, .sl e xs => cond (Nat.beq (tb.at et).size e.size) (cutGd lo hi (lenL xs) (k (.sl e (cutL lo hi xs)) m)) none
    | .sl et, .row id e n => match m.row id with
      | some ⟨_, _, _, .dead⟩ => none
      | some ⟨e', xs, _, _⟩ => cond (okId m o id && Nat.beq (tb.at et).size e'.size) (cutGd lo hi (lenL xs) (k (.sl e' (cutL lo hi xs)) (m.fix [id]))) none
      | none => none
    | .sl et, .nil => cond (tb.at et).d.ok (cutGd lo hi 0 (k .nil m)) none
    | .arr n e, .ptr id 0 => match lo, hi, (tb.at e).kd, m.box id with
      | none, none, some κ, some b => match decAll κ n (b.cs.map (lendC m)) with
        | some xs => cond (Nat.beq ((rowsP m x).length) 0 && okId m o id) (k (.sl κ xs) (fixBox m id)) none
        | none => none
      | _, _, _, _ => none
    | _, _ => none
  | _, _ => none
where decAll (κ : Kd) : Nat → List AV → Option (List κ.T)
  | 0, [] => some []
  | n + 1, cs => match Kd.dec κ cs with
    | some (x, r) => match decAll κ n r with
      | some xs => some (x :: xs)
      | none => none
    | none => none
  | _, _ => none

def offOf (ti : TI) (f : Nat) : Option Nat := match ti.d with
  | .st fs => match fs[f]? with
    | some (off, u) => cond (Nat.blt 0 (tb.at u).size) (some off) none
    | none => none
  | _ => none
def kFieldAddr (t : Nat) (a : AV) (f : Nat) : Option ρ := match offOf tb (tb.at t) f with
  | some off => match a with
    | .ptr id o => k (.ptr id (o + off)) m
    | .kptr cs => k (.kptr (cs.drop off)) m
    | .elem id e i o => k (.elem id e i (o + off)) m
    | _ => none
  | none => none
def kField (t : Nat) (x : AV) (f : Nat) : Option ρ := match (tb.at t).d, x with
  | .st fs, .agg cs => match fs[f]? with
    | some (off, u) => match getPart (tb.at u) off cs with
      | some v => k v m
      | none => none
    | none => none
  | _, _ => none

def kIndexAddr (t : Nat) (x i : AV) : Option ρ := match i with
  | .int _ i => match (tb.at t).d, x with
    | .sl et, .sl e xs => cond (Nat.beq (tb.at et).size e.size) (gd (inb i (lenL xs)) (k (.kptr (e.cells (rdD e.dflt xs i))) m)) none
    | .sl et, .row id e n => cond (Nat.beq (tb.at et).size e.size) (gd (inb i n) (k (.elem id e i 0) m)) none
    | .arr n e, .ptr id off => cond (tb.at e).d.ok (ways n 0 i fun j => k (.ptr id (off + j * (tb.at e).size)) m) none
    | .arr n e, .kptr cs => cond (tb.at e).d.ok (ways n 0 i fun j => k (.kptr (cs.drop (j * (tb.at e).size))) m) none
    | _, _ => none
  | _ => none
where ways : Nat → Nat → Int → (Nat → Option ρ) → Option ρ
  | 0, _, _, _ => none
  | n + 1, j, i, k => br (eqI i (ofN j)) (k j) (ways n (j + 1) i k)

def kExtract (x : AV) (i : Nat) : Option ρ := match x with
  | .tup vs => match vs[i]? with
    | some v => k v m
    | none => none
  | _ => none

def lenK (t : Nat) (x : AV) : Option Int := match (tb.at t).d, x with
  | .sl _, .sl e xs => some (ofN (lenL (α := e.T) xs))
  | .sl _, .row _ _ n => some (ofN n)
  | .sl _, .nil => some 0
  | .arr n _, _ => some (n : Int)
  | .str, .str b => some (b.size : Int)
  | _, _ => none
def mxL : List AV → Option (IntKind × Int)
  | [.int i a] => some (i, a)
  | [.int i a, .int j b] => cond (kb i j) (some (i, mxI a b)) none
  | _ => none
def mnL : List AV → Option (IntKind × Int)
  | [.int i a] => some (i, a)
  | [.int i a, .int j b] => cond (kb i j) (some (i, mnI a b)) none
  | _ => none

/-- What is appended: its elements. -/
def srcK (e : Kd) : AV → Option (List e.T)
  | .nil => some []
  | .sl e' ys => castL e' e ys
  | .row id _ _ => match m.row id with
    | some ⟨_, _, _, .dead⟩ => none
    | some ⟨e', ys, _, _⟩ => castL e' e ys
    | none => none
  | _ => none
def kAppend (t : Nat) (v x : AV) : Option ρ := match (tb.at t).d with
  | .sl et => match v with
    | .nil => match (tb.at et).kd with
      | some κ => match srcK m κ x with
        | some ys => gd (few (lenL ys)) (mkRow o k κ et ys m)
        | none => none
      | none => none
    | .row id _ _ => match m.row id with
      | some ⟨e, xs, et', .own⟩ => match srcK m e x with
        | some ys => cond (Nat.beq et et' && Nat.beq (tb.at et).size e.size && Nat.ble (tb.at et).bytes 32768 && notRow id x) (gd (few (addN (lenL xs) (lenL ys))) (mkRow o k e et (apL xs ys) (m.kill id))) none
        | none => none
      | _ => none
    | _ => none
  | _ => none
where notRow (id : Nat) : AV → Bool
  | .row j _ _ => !(Nat.beq j id)
  | _ => true
end
end Go.Proofs.Ytebokfdiamepcaa.AM
