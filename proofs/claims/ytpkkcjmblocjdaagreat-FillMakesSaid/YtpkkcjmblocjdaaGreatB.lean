/- The abstract machine, 5: what is told to whoever comes next is what is told at once. -/
import Derived.Test.YtpkkcjmblocjdaaGreatC
section
set_option linter.unusedVariables false
set_option linter.unusedSimpArgs false
namespace Go.Proofs.YtpkkcjmblocjdaaGreat.AM
open Go.RowKit

def pairK : Kont (AV × Mem) := fun v m => some (v, m)
def toK {ρ : Type} (k : Kont ρ) : AV × Mem → Option ρ := fun p => k p.1 p.2
theorem bind_pair {ρ : Type} (v : AV) (m : Mem) (k : Kont ρ) : (pairK v m).bind (toK k) = k v m := rfl
theorem bind_cond {α ρ : Type} (b : Bool) (x y : Option α) (f : α → Option ρ) : (cond b x y).bind f = cond b (x.bind f) (y.bind f) := by cases b <;> rfl
theorem bind_br {α ρ : Type} (b : Bool) (x y : Option α) (f : α → Option ρ) : (br b x y).bind f = br b (x.bind f) (y.bind f) := by cases b <;> rfl
theorem bind_gd {α ρ : Type} (b : Bool) (x : Option α) (f : α → Option ρ) : (gd b x).bind f = gd b (x.bind f) := by cases b <;> rfl
theorem bind_bnd {α β ρ : Type} (x : Option α) (g : α → Option β) (f : β → Option ρ) : (bnd x g).bind f = bnd x fun a => (g a).bind f := by cases x <;> rfl

section
variable {ρ : Type} (tb : Tb) (o : Oper) (m : Mem) (k : Kont ρ)
theorem mkBox_b (cs : List AV) : (mkBox o m pairK cs).bind (toK k) = mkBox o m k cs := by
  unfold mkBox; split <;> simp only [bind_cond, bind_pair, Option.bind_none]
theorem mkRow_b (e : Kd) (t : Nat) (xs : List e.T) (M : Mem) : (mkRow o pairK e t xs M).bind (toK k) = mkRow o k e t xs M := by
  unfold mkRow; split <;> simp only [bind_cond, bind_pair, Option.bind_none]
theorem kPick_b (c x y : AV) : (kPick m pairK c x y).bind (toK k) = kPick m k c x y := by
  unfold kPick; split <;> (try split) <;> simp only [bind_cond, bind_br, bind_pair, Option.bind_none]
theorem kBox_b (t : Nat) (x : AV) : (kBox o m pairK t x).bind (toK k) = kBox o m k t x := by
  unfold kBox; split <;> simp only [mkBox_b, Option.bind_none]
theorem kBuild_b (t : Nat) (ps : List (Nat × AV)) : (kBuild tb m pairK t ps).bind (toK k) = kBuild tb m k t ps := by
  unfold kBuild; split <;> simp only [bind_cond, bind_pair, Option.bind_none]
theorem kBuildSlice_b (t n : Nat) (ps : List (Nat × AV)) : (kBuildSlice tb o m pairK t n ps).bind (toK k) = kBuildSlice tb o m k t n ps := by
  unfold kBuildSlice
  split
  · split
    · simp only [bind_cond]
      congr 1
      congr 1 <;> split <;> simp only [mkRow_b, bind_cond, Option.bind_none]
    · rfl
  · rfl
theorem kLoad_b (t : Nat) (a : AV) : (kLoad tb o m pairK t a).bind (toK k) = kLoad tb o m k t a := by
  unfold kLoad
  repeat' split
  all_goals simp only [bind_cond, bind_pair, Option.bind_none]
theorem kStore_b (t : Nat) (a x : AV) : (kStore tb m pairK t a x).bind (toK k) = kStore tb m k t a x := by
  unfold kStore
  repeat' split
  all_goals simp only [bind_cond, bind_pair, Option.bind_none]
theorem kNil_b (x : AV) : (kNil m pairK x).bind (toK k) = kNil m k x := by
  unfold kNil
  split <;> simp only [bind_pair, Option.bind_none]
theorem kBin_b (op : BinOp) (t : Nat) (x y : AV) : (kBin tb m pairK op t x y).bind (toK k) = kBin tb m k op t x y := by
  unfold kBin
  split
  · split <;> simp only [bind_cond, bind_gd, bind_pair, Option.bind_none]
  · split <;> simp only [bind_cond, bind_gd, bind_pair, Option.bind_none]
  · split
    · split <;> simp only [bind_pair, Option.bind_none]
    · rfl
  · split <;> simp only [bind_gd, bind_pair, Option.bind_none]
  · rfl
theorem kUn_b (op : UnOp) (x : AV) : (kUn m pairK op x).bind (toK k) = kUn m k op x := by
  unfold kUn
  split <;> simp only [bind_pair, Option.bind_none]
theorem kConv_b (t : Nat) (x : AV) : (kConv tb m pairK t x).bind (toK k) = kConv tb m k t x := by
  unfold kConv
  split <;> simp only [bind_pair, Option.bind_none]
theorem kMake_b (t : Nat) (s : Bool) (n : AV) : (kMake tb o m pairK t s n).bind (toK k) = kMake tb o m k t s n := by
  unfold kMake
  split
  · split <;> simp only [bind_cond, bind_gd, mkRow_b, Option.bind_none]
  · rfl
theorem cutGd_b {α : Type} (lo hi : Option Int) (n : Nat) (x : Option α) (f : α → Option ρ) : (cutGd lo hi n x).bind f = cutGd lo hi n (x.bind f) := by
  unfold cutGd
  split <;> simp only [bind_gd]
theorem kSlice_b (t : Nat) (x : AV) (lo hi : Option AV) : (kSlice tb o m pairK t x lo hi).bind (toK k) = kSlice tb o m k t x lo hi := by
  unfold kSlice
  repeat' split
  all_goals simp only [cutGd_b, bind_cond, bind_pair, Option.bind_none]
theorem kFieldAddr_b (t : Nat) (a : AV) (f : Nat) : (kFieldAddr tb m pairK t a f).bind (toK k) = kFieldAddr tb m k t a f := by
  unfold kFieldAddr
  repeat' split
  all_goals simp only [bind_pair, Option.bind_none]
theorem kField_b (t : Nat) (a : AV) (f : Nat) : (kField tb m pairK t a f).bind (toK k) = kField tb m k t a f := by
  unfold kField
  repeat' split
  all_goals simp only [bind_pair, Option.bind_none]
theorem ways_b {α : Type} (f : α → Option ρ) : ∀ (n j : Nat) (i : Int) (g : Nat → Option α), (kIndexAddr.ways n j i g).bind f = kIndexAddr.ways n j i fun q => (g q).bind f
  | 0, _, _, _ => rfl
  | n + 1, j, i, g => by simp only [kIndexAddr.ways, bind_br, ways_b f n]
theorem kIndexAddr_b (t : Nat) (x i : AV) : (kIndexAddr tb m pairK t x i).bind (toK k) = kIndexAddr tb m k t x i := by
  unfold kIndexAddr
  repeat' split
  all_goals simp only [bind_gd, bind_cond, bind_pair, ways_b, Option.bind_none]
theorem kExtract_b (x : AV) (i : Nat) : (kExtract m pairK x i).bind (toK k) = kExtract m k x i := by
  unfold kExtract
  repeat' split
  all_goals simp only [bind_pair, Option.bind_none]
theorem kMakeMap_b (t : Nat) : (kMakeMap tb o m pairK t).bind (toK k) = kMakeMap tb o m k t := by
  unfold kMakeMap
  repeat' split
  all_goals simp only [bind_cond, bind_pair, Option.bind_none]
theorem lkK_b (κ ν : Kd) (es : List (κ.T × ν.T)) (key : κ.T) (ok : Bool) : (lkK m pairK κ ν es key ok).bind (toK k) = lkK m k κ ν es key ok := by
  unfold lkK
  simp only [bind_cond, bind_pair]
theorem kRange_b (t : Nat) (x : AV) : (kRange tb o m pairK t x).bind (toK k) = kRange tb o m k t x := by
  unfold kRange
  repeat' split
  all_goals simp only [bind_cond, bind_pair, Option.bind_none]
theorem kEntry_b (x : AV) : (kEntry o m pairK x).bind (toK k) = kEntry o m k x := by
  unfold kEntry
  repeat' split
  all_goals simp only [bind_cond, bind_pair, Option.bind_none]
theorem kLookup_b (t : Nat) (x i : AV) (ok : Bool) : (kLookup tb o m pairK t x i ok).bind (toK k) = kLookup tb o m k t x i ok := by
  unfold kLookup
  repeat' split
  all_goals simp only [bind_cond, lkK_b, Option.bind_none]
theorem kMapUpd_b (t : Nat) (x i v : AV) : (kMapUpd tb m pairK t x i v).bind (toK k) = kMapUpd tb m k t x i v := by
  unfold kMapUpd
  repeat' split
  all_goals simp only [bind_cond, bind_gd, bind_pair, Option.bind_none]
theorem kIndex_b (t : Nat) (x i : AV) : (kIndex tb m pairK t x i).bind (toK k) = kIndex tb m k t x i := by
  unfold kIndex
  repeat' split
  all_goals simp only [ways_b, Option.bind_none]
  congr 1
  funext j
  split <;> simp only [bind_pair, Option.bind_none]
theorem kAppend_b (t : Nat) (v x : AV) : (kAppend tb o m pairK t v x).bind (toK k) = kAppend tb o m k t v x := by
  unfold kAppend
  repeat' split
  all_goals simp only [bind_gd, bind_cond, mkRow_b, Option.bind_none]
end

/-- A way of calling that tells at once what it tells to whoever comes next. -/
def CallB (cl : ∀ ρ, CallT ρ) : Prop := ∀ (ρ : Type) (fid : Nat) (args : List AV) (m : Mem) (k : Kont ρ), (cl (AV × Mem) fid args m pairK).bind (toK k) = cl ρ fid args m k

section
variable {cl : ∀ ρ, CallT ρ} (hcl : CallB cl) (tb : Tb)
include hcl
omit hcl in
theorem kClone_b {ρ : Type} (o : Oper) (m : Mem) (k : Kont ρ) (t : Nat) (args : List AV) : (kClone tb o m pairK t args).bind (toK k) = kClone tb o m k t args := by
  unfold kClone
  repeat' split
  all_goals simp only [bind_gd, bind_cond, mkRow_b, Option.bind_none]
theorem kCall_b {ρ : Type} (c : Call) (ev : Operand → AV) (m : Mem) (o : Oper) (k : Kont ρ) : (kCall (cl _) tb c ev m o pairK).bind (toK k) = kCall (cl ρ) tb c ev m o k := by
  unfold kCall
  repeat' split
  all_goals simp only [bind_cond, bind_pair, kAppend_b, kClone_b, Option.bind_none, hcl ρ]
def opD (cl : ∀ ρ, CallT ρ) (tb : Tb) (o : Oper) (ev : Operand → AV) (m : Mem) : Option (AV × Mem) := opK (cl _) tb o ev m pairK
theorem opK_b {ρ : Type} (o : Oper) (ev : Operand → AV) (m : Mem) (k : Kont ρ) : opK (cl ρ) tb o ev m k = (opD cl tb o ev m).bind (toK k) := by
  unfold opD opK
  split
  all_goals first
    | rfl
    | simp only [kPick_b, mkBox_b, kBox_b, kBuild_b, kBuildSlice_b, kLoad_b, kStore_b, kNil_b, kBin_b, kUn_b, kConv_b, kMake_b, kSlice_b, kFieldAddr_b, kField_b, kIndexAddr_b, kIndex_b, kMakeMap_b, kLookup_b, kRange_b, kEntry_b, kMapUpd_b, kExtract_b, kCall_b hcl, bind_cond, bind_pair, Option.bind_none]
end

/-- One operation of a region, at once. -/
def stepD (cl : ∀ ρ, CallT ρ) (tb : Tb) (ops : Array Oper) (o : Oper) (s : St) : Option St := match o.guard with
  | none => match opD cl tb o s.ev s.m with
    | some (v, m) => some (s.put o.dst v m)
    | none => none
  | some (j, want) => match gdst ops j with
    | some d => match s.tm d with
      | .bool b => cond (b == want) (match opD cl tb o s.ev s.m with
        | some (v, m) => some (s.put o.dst v m)
        | none => none) (some (s.put o.dst (.tup []) s.m))
      | .tup [] => some (s.put o.dst (.tup []) s.m)
      | _ => none
    | none => none
def runD (cl : ∀ ρ, CallT ρ) (tb : Tb) (ops : Array Oper) : List Oper → St → Option St
  | [], s => some s
  | o :: r, s => match stepD cl tb ops o s with
    | some s' => runD cl tb ops r s'
    | none => none

theorem lit_same {s : St} {d : Nat} {b : Bool} (h : s.tm d = .bool b) : s.lit d b = s := by
  unfold St.lit
  have : upd s.tm d (.bool b) = s.tm := by
    funext j
    unfold upd
    cases hj : Nat.beq j d with
    | true => rw [Nat.eq_of_beq_eq_true hj]; exact h.symm
    | false => rfl
  rw [this]

section
variable {cl : ∀ ρ, CallT ρ} (hcl : CallB cl) (tb : Tb)
include hcl
theorem opG_b {ρ : Type} (ops : Array Oper) (o : Oper) (s : St) (k : St → Option ρ) : opG (cl ρ) tb ops o s k = (stepD cl tb ops o s).bind k := by
  have key : opK (cl ρ) tb o s.ev s.m (fun v m => k (s.put o.dst v m)) = (match opD cl tb o s.ev s.m with
        | some (v, m) => some (s.put o.dst v m)
        | none => none).bind k := by
    rw [opK_b hcl]
    cases opD cl tb o s.ev s.m with
    | none => rfl
    | some p => rfl
  unfold opG stepD
  cases hg : o.guard with
  | none => exact key
  | some jw =>
    obtain ⟨j, want⟩ := jw
    simp only
    cases hd : gdst ops j with
    | none => rfl
    | some d =>
      simp only
      split
      · rename_i b hb
        have hl := lit_same hb
        cases b <;> cases want <;> simp only [br, cond, hl, key, beq_self_eq_true] <;> first | rfl | (simp only [hb]; rfl)
      · rename_i hb
        simp only [hb]
        rfl
      · rename_i h1 h2
        split
        · rename_i b hb
          exact absurd hb (h1 b)
        · rename_i hb
          exact absurd hb h2
        · rfl
theorem opsK_b {ρ : Type} (ops : Array Oper) : ∀ (l : List Oper) (s : St) (k : St → Option ρ), opsK (cl ρ) tb ops l s k = (runD cl tb ops l s).bind k
  | [], s, k => rfl
  | o :: r, s, k => by
    simp only [opsK, runD]
    rw [opG_b hcl]
    cases stepD cl tb ops o s with
    | none => rfl
    | some s' => exact opsK_b ops r s' k
end
end Go.Proofs.YtpkkcjmblocjdaaGreat.AM
end
