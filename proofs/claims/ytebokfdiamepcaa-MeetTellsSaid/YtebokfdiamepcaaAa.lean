/- The abstract machine, 17: which operations may come in whatever order. -/
import Derived.Test.YtebokfdiamepcaaY
import Derived.Orders
set_option linter.unusedVariables false
set_option linter.unusedSimpArgs false
namespace Go.Proofs.Ytebokfdiamepcaa.AM
open Go.RowKit

/-- What an operation does with memory: 0 nothing, 1 it looks, 2 it makes, 3 it looks and fixes, 4 it writes. -/
def cls (tb : Tb) (o : Oper) : Nat := match o.op with
  | .move _ => 0
  | .assign _ => 0
  | .pick _ _ _ => 0
  | .build _ _ => 0
  | .nilCheck _ => 0
  | .binOp _ _ _ _ _ => 0
  | .unOp _ _ _ => 0
  | .convert _ _ _ => 0
  | .makeFunc _ _ _ => 0
  | .fieldAddr _ _ _ => 0
  | .field _ _ _ => 0
  | .indexAddr _ _ _ => 0
  | .extract _ _ => 0
  | .load _ _ => 1
  | .alloc _ => 2
  | .box _ _ => 2
  | .makeSlice _ _ _ => 2
  | .buildSlice t _ _ => match (tb.at t).d with
    | .sl e => match (tb.at e).kd with
      | some κ => cond κ.flat 2 4
      | none => 4
    | _ => 4
  | .slice _ _ _ _ _ => 3
  | .call c => match c.callee with
    | .builtin .len => 0
    | .builtin .max => 0
    | .builtin .min => 0
    | .value _ => 3
    | _ => 4
  | _ => 4
/-- May two that don't wait for one another come in either order? -/
def mayB (a b : Nat) : Bool := match a, b with
  | 0, _ => true
  | _, 0 => true
  | 1, 1 => true
  | 1, 2 => true
  | 1, 3 => true
  | 2, 1 => true
  | 2, 2 => true
  | 2, 3 => true
  | 3, 1 => true
  | 3, 2 => true
  | 3, 3 => true
  | _, _ => false

section
variable {cl : ∀ ρ, CallT ρ} (hcl : CallB cl) {tb : Tb}

theorem opD_congr (o : Oper) {ev ev' : Operand → AV} (m : Mem) (h : ∀ x ∈ o.op.operands.toList, ev x = ev' x) : opD cl tb o ev m = opD cl tb o ev' m := by
  have hop : ∀ {op : Op}, o.op = op → ∀ x ∈ op.operands.toList, ev x = ev' x := fun e => e ▸ h
  unfold opD opK
  cases ho : o.op <;> have h1 := hop ho <;> (try simp only [Op.operands] at h1) <;> (try simp only)
  case move x => rw [h1 x (by simp)]
  case assign x => rw [h1 x (by simp)]
  case pick c a b => rw [h1 c (by simp), h1 a (by simp), h1 b (by simp)]
  case box t x => rw [h1 x (by simp)]
  case build t ps =>
    have : (ps.toList.map fun p => (p.1, ev p.2)) = ps.toList.map fun p => (p.1, ev' p.2) := List.map_congr_left fun p hp => by rw [h1 p.2 (by simp; exact ⟨p.1, by simpa using hp⟩)]
    rw [this]
  case buildSlice t n ps =>
    have : (ps.toList.map fun p => (p.1, ev p.2)) = ps.toList.map fun p => (p.1, ev' p.2) := List.map_congr_left fun p hp => by rw [h1 p.2 (by simp; exact ⟨p.1, by simpa using hp⟩)]
    rw [this]
  case load t a => rw [h1 a (by simp)]
  case store t a x => rw [h1 a (by simp), h1 x (by simp)]
  case nilCheck x => rw [h1 x (by simp)]
  case binOp op t x y u => rw [h1 x (by simp), h1 y (by simp)]
  case unOp op t x => rw [h1 x (by simp)]
  case convert s t x => rw [h1 x (by simp)]
  case makeFunc f a b =>
    cases f <;> simp only
    have e1 : a.toList.map ev = a.toList.map ev' := List.map_congr_left fun p hp => h1 p (by simp at hp ⊢; exact .inl hp)
    have e2 : b.toList.map ev = b.toList.map ev' := List.map_congr_left fun p hp => h1 p (by simp at hp ⊢; exact .inr hp)
    rw [e1, e2]
  case makeSlice t l c => rw [h1 l (by simp)]
  case slice t x lo hi mx =>
    cases mx <;> simp only
    have e0 : lo.map ev = lo.map ev' := by cases lo <;> simp; exact h1 _ (by simp)
    have e1 : hi.map ev = hi.map ev' := by cases hi <;> simp; exact h1 _ (by simp)
    rw [h1 x (by simp), e0, e1]
  case fieldAddr t x f => rw [h1 x (by simp)]
  case field t x f => rw [h1 x (by simp)]
  case indexAddr t x i => rw [h1 x (by simp), h1 i (by simp)]
  case extract x i => rw [h1 x (by simp)]
  case call c =>
    simp only [Call.operands] at h1
    unfold kCall
    have ha : c.args.toList.map ev = c.args.toList.map ev' := List.map_congr_left fun p hp => h1 p (by simp at hp ⊢; exact .inr hp)
    cases hc : c.callee with
    | builtin b =>
      cases b <;> simp only [ha]
      case len =>
        split
        · rename_i x t r hx ht
          have hm : x ∈ c.args.toList := by rw [hx]; simp
          rw [h1 x (by simp at hm ⊢; exact .inr hm)]
        · rfl
      case append =>
        split
        · rename_i v x t u hx ht
          have hm : v ∈ c.args.toList := by rw [hx]; simp
          have hm2 : x ∈ c.args.toList := by rw [hx]; simp
          rw [h1 v (by simp at hm ⊢; exact .inr hm), h1 x (by simp at hm2 ⊢; exact .inr hm2)]
        · rfl
    | value f =>
      simp only [ha]
      rw [h1 f (by simp [hc])]
    | invoke r n => simp only

/-- Who does nothing with memory does nothing with it. -/
theorem cls0_m {o : Oper} (h : cls tb o = 0) {ρ : Type} (ev : Operand → AV) (m m2 : Mem) (k : Kont ρ) : opK (cl ρ) tb o ev m k = opK (cl ρ) tb o ev m2 (fun v _ => k v m) := by
  unfold cls at h
  unfold opK
  cases ho : o.op <;> simp only [ho] at h ⊢
  all_goals first
    | rfl
    | (exfalso; revert h; decide)
    | skip
  case buildSlice t n ps =>
    exfalso
    split at h
    · split at h
      · rename_i κ _
        cases hf : κ.flat <;> rw [hf] at h <;> simp at h
      · simp at h
    · simp at h
  case makeFunc f a b => cases f <;> rfl
  case call c =>
    unfold kCall
    cases hc : c.callee with
    | builtin b =>
      rw [hc] at h
      cases b <;> first | rfl | (simp at h)
    | value f => rw [hc] at h; simp at h
    | invoke r n => rfl
include hcl in
theorem cls0 {o : Oper} (h : cls tb o = 0) {ev : Operand → AV} {m : Mem} {v : AV} {m' : Mem} (ho : opD cl tb o ev m = some (v, m')) : m' = m ∧ ∀ m2, opD cl tb o ev m2 = some (v, m2) := by
  have key : ∀ m m2 v m', opD cl tb o ev m = some (v, m') → ∃ m3, opD cl tb o ev m2 = some (v, m3) ∧ m' = m := by
    intro m m2 v m' ho
    have h2 : opD cl tb o ev m = (opD cl tb o ev m2).bind (toK fun v _ => pairK v m) := (cls0_m (cl := cl) h (ρ := AV × Mem) ev m m2 pairK).trans (opK_b hcl tb o ev m2 _)
    rw [ho] at h2
    cases hq : opD cl tb o ev m2 with
    | none => rw [hq] at h2; cases h2
    | some p =>
      rw [hq] at h2
      simp only [Option.bind_some, toK, pairK, Option.some.injEq, Prod.mk.injEq] at h2
      exact ⟨p.2, by rw [h2.1], h2.2⟩
  refine ⟨(key m m v m' ho).choose_spec.2, fun m2 => ?_⟩
  obtain ⟨m3, h3, _⟩ := key m m2 v m' ho
  have := (key m2 m2 v m3 h3).choose_spec.2
  rw [h3, this]
end
end Go.Proofs.Ytebokfdiamepcaa.AM
