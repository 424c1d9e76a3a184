/- The abstract machine, 5: what is told to whoever comes next is what is told at once. -/
import Derived.Test.YtpkkcjmblocjdaaGreatC
set_option linter.unusedVariables false
set_option linter.unusedSimpArgs false
set_option linter.unusedSectionVars false
section
namespace Go.Proofs.YtpkkcjmblocjdaaGreat.AM
open Go.RowKit
def zK : Yb (AV × Mem) := fun v m => some (v, m)
def toK {ρ : Type} (k : Yb ρ) : AV × Mem → Option ρ := fun p => k p.1 p.2
theorem qk {ρ : Type} (v : AV) (m : Mem) (k : Yb ρ) : (zK v m).bind (toK k) = k v m := rfl
theorem qf {α ρ : Type} (b : Bool) (x y : Option α) (f : α → Option ρ) : (cond b x y).bind f = cond b (x.bind f) (y.bind f) := by cases b <;> rfl
theorem zqn {α ρ : Type} (b : Bool) (x y : Option α) (f : α → Option ρ) : (br b x y).bind f = br b (x.bind f) (y.bind f) := by cases b <;> rfl
theorem zal {α ρ : Type} (b : Bool) (x : Option α) (f : α → Option ρ) : (gd b x).bind f = gd b (x.bind f) := by cases b <;> rfl
theorem zjC {α β ρ : Type} (x : Option α) (g : α → Option β) (f : β → Option ρ) : (bnd x g).bind f = bnd x fun a => (g a).bind f := by cases x <;> rfl
section
variable {ρ : Type} (tb : Tb) (o : Oper) (m : Mem) (k : Yb ρ)
theorem zqK (cs : List AV) : (zcl o m zK cs).bind (toK k) = zcl o m k cs := by
 unfold zcl; split <;> simp only [qf, qk, Option.bind_none]
theorem zi2 (e : Kd) (t : Nat) (xs : List e.T) (M : Mem) : (KU o zK e t xs M).bind (toK k) = KU o k e t xs M := by
 unfold KU; split <;> simp only [qf, qk, Option.bind_none]
theorem zvm (c x y : AV) : (zk5 m zK c x y).bind (toK k) = zk5 m k c x y := by
 unfold zk5; split <;> (try split) <;> simp only [qf, zqn, qk, Option.bind_none]
theorem zxZ (t : Nat) (x : AV) : (zot o m zK t x).bind (toK k) = zot o m k t x := by
 unfold zot; split <;> simp only [zqK, Option.bind_none]
theorem zsO (t : Nat) (ps : List (Nat × AV)) : (zhI tb m zK t ps).bind (toK k) = zhI tb m k t ps := by
 unfold zhI; split <;> simp only [qf, qk, Option.bind_none]
theorem zkA (t n : Nat) (ps : List (Nat × AV)) : (Qu tb o m zK t n ps).bind (toK k) = Qu tb o m k t n ps := by
 unfold Qu
 split
 ·split
  ·simp only [qf]
   congr 1
   congr 1 <;> split <;> simp only [zi2, qf, Option.bind_none]
  ·rfl
 ·rfl
theorem zu9 (t : Nat) (a : AV) : (Kb tb o m zK t a).bind (toK k) = Kb tb o m k t a := by
 unfold Kb
 repeat' split
 all_goals simp only [qf, qk, Option.bind_none]
theorem ztV (t : Nat) (a x : AV) : (zc2 tb m zK t a x).bind (toK k) = zc2 tb m k t a x := by
 unfold zc2
 repeat' split
 all_goals simp only [qf, qk, Option.bind_none]
theorem zxq (x : AV) : (ztW m zK x).bind (toK k) = ztW m k x := by
 unfold ztW
 split <;> simp only [qk, Option.bind_none]
theorem zxf (op : BinOp) (t : Nat) (x y : AV) : (zgb tb m zK op t x y).bind (toK k) = zgb tb m k op t x y := by
 unfold zgb
 split
 ·split <;> simp only [qf, zal, qk, Option.bind_none]
 ·split <;> simp only [qf, zal, qk, Option.bind_none]
 ·split
  ·split <;> simp only [qk, Option.bind_none]
  ·rfl
 ·split <;> simp only [zal, qk, Option.bind_none]
 ·rfl
theorem zyN (op : UnOp) (x : AV) : (kUn m zK op x).bind (toK k) = kUn m k op x := by
 unfold kUn
 split <;> simp only [qk, Option.bind_none]
theorem zvl (t : Nat) (x : AV) : (zlx tb m zK t x).bind (toK k) = zlx tb m k t x := by
 unfold zlx
 split <;> simp only [qk, Option.bind_none]
theorem zwp (t : Nat) (s : Bool) (n : AV) : (zg6 tb o m zK t s n).bind (toK k) = zg6 tb o m k t s n := by
 unfold zg6
 split
 ·split <;> simp only [qf, zal, zi2, Option.bind_none]
 ·rfl
theorem zl2 {α : Type} (lo hi : Option Int) (n : Nat) (x : Option α) (f : α → Option ρ) : (XI lo hi n x).bind f = XI lo hi n (x.bind f) := by
 unfold XI
 split <;> simp only [zal]
theorem ztb (t : Nat) (x : AV) (lo hi : Option AV) : (Qy tb o m zK t x lo hi).bind (toK k) = Qy tb o m k t x lo hi := by
 unfold Qy
 repeat' split
 all_goals simp only [zl2, qf, qk, Option.bind_none]
theorem zlX (t : Nat) (a : AV) (f : Nat) : (YW tb m zK t a f).bind (toK k) = YW tb m k t a f := by
 unfold YW
 repeat' split
 all_goals simp only [qk, Option.bind_none]
theorem ztG (t : Nat) (a : AV) (f : Nat) : (zh3 tb m zK t a f).bind (toK k) = zh3 tb m k t a f := by
 unfold zh3
 repeat' split
 all_goals simp only [qk, Option.bind_none]
theorem zpq {α : Type} (f : α → Option ρ) : ∀ (n j : Nat) (i : Int) (g : Nat → Option α), (Za.ways n j i g).bind f = Za.ways n j i fun q => (g q).bind f
 | 0, _, _, _ => rfl
 | n + 1, j, i, g => by simp only [Za.ways, zqn, zpq f n]
theorem zmp (t : Nat) (x i : AV) : (Za tb m zK t x i).bind (toK k) = Za tb m k t x i := by
 unfold Za
 repeat' split
 all_goals simp only [zal, qf, qk, zpq, Option.bind_none]
theorem zpG (x : AV) (i : Nat) : (zca m zK x i).bind (toK k) = zca m k x i := by
 unfold zca
 repeat' split
 all_goals simp only [qk, Option.bind_none]
theorem zph (t : Nat) : (zcf tb o m zK t).bind (toK k) = zcf tb o m k t := by
 unfold zcf
 repeat' split
 all_goals simp only [qf, qk, Option.bind_none]
theorem zyx (κ ν : Kd) (es : List (κ.T × ν.T)) (key : κ.T) (ok : Bool) : (lkK m zK κ ν es key ok).bind (toK k) = lkK m k κ ν es key ok := by
 unfold lkK
 simp only [qf, qk]
theorem zsP (t : Nat) (x : AV) : (zhO tb o m zK t x).bind (toK k) = zhO tb o m k t x := by
 unfold zhO
 repeat' split
 all_goals simp only [qf, qk, Option.bind_none]
theorem zs1 (x : AV) : (zhq o m zK x).bind (toK k) = zhq o m k x := by
 unfold zhq
 repeat' split
 all_goals simp only [qf, qk, Option.bind_none]
theorem zrL (t : Nat) (x i : AV) (ok : Bool) : (J2 tb o m zK t x i ok).bind (toK k) = J2 tb o m k t x i ok := by
 unfold J2
 repeat' split
 all_goals simp only [qf, zyx, Option.bind_none]
theorem zrd (t : Nat) (x i v : AV) : (zeR tb m zK t x i v).bind (toK k) = zeR tb m k t x i v := by
 unfold zeR
 repeat' split
 all_goals simp only [qf, zal, qk, Option.bind_none]
theorem zt9 (t : Nat) (x i : AV) : (zic tb m zK t x i).bind (toK k) = zic tb m k t x i := by
 unfold zic
 repeat' split
 all_goals simp only [zpq, Option.bind_none]
 congr 1
 funext j
 split <;> simp only [qk, Option.bind_none]
theorem zrl (t : Nat) (v x : AV) : (zbh tb o m zK t v x).bind (toK k) = zbh tb o m k t v x := by
 unfold zbh
 repeat' split
 all_goals simp only [zal, qf, zi2, Option.bind_none]
end
def zdj (cl : ∀ ρ, Jv ρ) : Prop := ∀ (ρ : Type) (fid : Nat) (args : List AV) (m : Mem) (k : Yb ρ), (cl (AV × Mem) fid args m zK).bind (toK k) = cl ρ fid args m k
section
variable {cl : ∀ ρ, Jv ρ} (hcl : zdj cl) (tb : Tb)
include hcl
omit hcl in
theorem zuj {ρ : Type} (o : Oper) (m : Mem) (k : Yb ρ) (t : Nat) (args : List AV) : (zd1 tb o m zK t args).bind (toK k) = zd1 tb o m k t args := by
 unfold zd1
 repeat' split
 all_goals simp only [zal, qf, zi2, Option.bind_none]
theorem zuB {ρ : Type} (c : Call) (ev : Operand → AV) (m : Mem) (o : Oper) (k : Yb ρ) : (zcp (cl _) tb c ev m o zK).bind (toK k) = zcp (cl ρ) tb c ev m o k := by
 unfold zcp
 repeat' split
 all_goals simp only [qf, qk, zrl, zuj, Option.bind_none, hcl ρ]
def opD (cl : ∀ ρ, Jv ρ) (tb : Tb) (o : Oper) (ev : Operand → AV) (m : Mem) : Option (AV × Mem) := opK (cl _) tb o ev m zK
theorem zwL {ρ : Type} (o : Oper) (ev : Operand → AV) (m : Mem) (k : Yb ρ) : opK (cl ρ) tb o ev m k = (opD cl tb o ev m).bind (toK k) := by
 unfold opD opK
 split
 all_goals first
  | rfl
  | simp only [zvm, zqK, zxZ, zsO, zkA, zu9, ztV, zxq, zxf, zyN, zvl, zwp, ztb, zlX, ztG, zmp, zt9, zph, zrL, zsP, zs1, zrd, zpG, zuB hcl, qf, qk, Option.bind_none]
end
def KB (cl : ∀ ρ, Jv ρ) (tb : Tb) (ops : Array Oper) (o : Oper) (s : St) : Option St := match o.guard with
 | none => match opD cl tb o s.ev s.m with
  | some (v, m) => some (s.put o.dst v m)
  | none => none
 | some (j, want) => match znd ops j with
  | some d => match s.tm d with
   | .bool b => cond (b == want) (match opD cl tb o s.ev s.m with
    | some (v, m) => some (s.put o.dst v m)
    | none => none) (some (s.put o.dst (.tup []) s.m))
   | .tup [] => some (s.put o.dst (.tup []) s.m)
   | _ => none
  | none => none
def znJ (cl : ∀ ρ, Jv ρ) (tb : Tb) (ops : Array Oper) : List Oper → St → Option St
 | [], s => some s
 | o :: r, s => match KB cl tb ops o s with
  | some s' => znJ cl tb ops r s'
  | none => none
theorem zni {s : St} {d : Nat} {b : Bool} (h : s.tm d = .bool b) : s.lit d b = s := by
 unfold St.lit
 have : upd s.tm d (.bool b) = s.tm := by
  funext j
  unfold upd
  cases hj : Nat.beq j d with
  | true => rw [Nat.eq_of_beq_eq_true hj]; exact h.symm
  | false => rfl
 rw [this]
section
variable {cl : ∀ ρ, Jv ρ} (hcl : zdj cl) (tb : Tb)
include hcl
theorem zx8 {ρ : Type} (ops : Array Oper) (o : Oper) (s : St) (k : St → Option ρ) : opG (cl ρ) tb ops o s k = (KB cl tb ops o s).bind k := by
 have key : opK (cl ρ) tb o s.ev s.m (fun v m => k (s.put o.dst v m)) = (match opD cl tb o s.ev s.m with
    | some (v, m) => some (s.put o.dst v m)
    | none => none).bind k := by
  rw [zwL hcl]
  cases opD cl tb o s.ev s.m with
  | none => rfl
  | some p => rfl
 unfold opG KB
 cases hg : o.guard with
 | none => exact key
 | some jw =>
  obtain ⟨j, want⟩ := jw
  simp only
  cases hd : znd ops j with
  | none => rfl
  | some d =>
   simp only
   split
   ·rename_i b hb
    have hl := zni hb
    cases b <;> cases want <;> simp only [br, cond, hl, key, beq_self_eq_true] <;> first | rfl | (simp only [hb]; rfl)
   ·rename_i hb
    simp only [hb]
    rfl
   ·rename_i h1 h2
    split
    ·rename_i b hb
     exact absurd hb (h1 b)
    ·rename_i hb
     exact absurd hb h2
    ·rfl
theorem zmV {ρ : Type} (ops : Array Oper) : ∀ (l : List Oper) (s : St) (k : St → Option ρ), zoy (cl ρ) tb ops l s k = (znJ cl tb ops l s).bind k
 | [], s, k => rfl
 | o :: r, s, k => by
  simp only [zoy, znJ]
  rw [zx8 hcl]
  cases KB cl tb ops o s with
  | none => rfl
  | some s' => exact zmV ops r s' k
end
end Go.Proofs.YtpkkcjmblocjdaaGreat.AM
end
