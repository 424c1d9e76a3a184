/- The abstract machine, 23: a program's regions, checked. -/
import Derived.Test.YtebokfdiamepcaaAf
set_option linter.unusedVariables false
set_option linter.unusedSimpArgs false
namespace Go.Proofs.Ytebokfdiamepcaa.AM
open Go.RowKit

def nthN : List Nat → Nat → Nat
  | [], _ => 0
  | a :: _, 0 => a
  | _ :: r, i + 1 => nthN r i
def ancOf (ms : List Nat) : List Edge → Nat
  | [] => 0
  | e :: r => cond (Region.binds .any e) (Nat.lor (ancOf ms r) (Nat.lor (2 ^ e.on) (nthN ms e.on))) (ancOf ms r)
def backB (i : Nat) : List Edge → Bool
  | [] => true
  | e :: r => (!(Region.binds .any e) || Nat.blt e.on i) && backB i r
def preB (tb : Tb) (ops : Array Oper) (y : Oper) (a : Nat) : List Oper → Nat → Bool
  | [], _ => true
  | x :: r, j => (Nat.testBit a j || swapB tb ops x y) && preB tb ops y a r (j + 1)
def allB (tb : Tb) (ops : Array Oper) (n : Nat) : List Oper → List Oper → List Nat → Nat → Bool
  | [], _, _, _ => true
  | o :: r, pre, ms, i => dstOk n o && backB i o.after.toList && preB tb ops o (ancOf ms o.after.toList) pre 0 && allB tb ops n r (pre ++ [o]) (ms ++ [ancOf ms o.after.toList]) (i + 1)
def regB (tb : Tb) (n : Nat) (ops : Array Oper) : Bool := allB tb ops n ops.toList [] [] 0

theorem nthN_app : ∀ (l : List Nat) (a i : Nat), nthN (l ++ [a]) i = if i < l.length then nthN l i else if i = l.length then a else 0
  | [], a, 0 => by simp [nthN]
  | [], a, i + 1 => by simp [nthN]
  | b :: l, a, 0 => by simp [nthN]
  | b :: l, a, i + 1 => by simp [nthN, nthN_app l a i]
theorem backB_ok {i : Nat} : ∀ {l : List Edge}, backB i l = true → ∀ e ∈ l, Region.binds .any e = true → e.on < i
  | [], _, e, he, _ => by cases he
  | a :: r, h, e, he, hb => by
    simp only [backB, Bool.and_eq_true, Bool.or_eq_true, Bool.not_eq_true'] at h
    rcases List.mem_cons.1 he with rfl | he
    · rcases h.1 with h1 | h1
      · rw [h1] at hb; cases hb
      · simp only [Nat.blt, Nat.ble_eq] at h1; omega
    · exact backB_ok h.2 e he hb
theorem preB_ok {tb : Tb} {ops : Array Oper} {y : Oper} {a : Nat} : ∀ {l : List Oper} {j : Nat}, preB tb ops y a l j = true → ∀ k x, l[k]? = some x → Nat.testBit a (j + k) = true ∨ swapB tb ops x y = true
  | [], j, _, k, x, hx => by simp at hx
  | b :: r, j, h, 0, x, hx => by
    simp only [preB, Bool.and_eq_true, Bool.or_eq_true] at h
    obtain rfl : b = x := by simpa using hx
    exact h.1
  | b :: r, j, h, k + 1, x, hx => by
    simp only [preB, Bool.and_eq_true] at h
    have := preB_ok h.2 k x (by simpa using hx)
    rwa [show j + 1 + k = j + (k + 1) by omega] at this
theorem ancOf_ok {ops : Array Oper} {ms : List Nat} {i : Nat} {o : Oper} (ho : ops[i]? = some o) (hms : ∀ k j, Nat.testBit (nthN ms k) j = true → Anc ops j k) : ∀ {l : List Edge}, (∀ e ∈ l, e ∈ o.after) → ∀ j, Nat.testBit (ancOf ms l) j = true → Anc ops j i
  | [], _, j, h => by simp [ancOf] at h
  | e :: r, hl, j, h => by
    have ih := ancOf_ok ho hms (l := r) (fun e he => hl e (List.mem_cons_of_mem _ he)) j
    simp only [ancOf] at h
    cases hb : Region.binds .any e with
    | false => rw [hb] at h; exact ih h
    | true =>
      rw [hb] at h
      simp only [cond] at h
      have h' : (ancOf ms r ||| (2 ^ e.on ||| nthN ms e.on)).testBit j = true := h
      rw [Nat.testBit_or, Nat.testBit_or, Bool.or_eq_true, Bool.or_eq_true, Nat.testBit_two_pow] at h'
      rcases h' with h' | h' | h'
      · exact ih h'
      · have := of_decide_eq_true h'
        subst this
        exact .one ho (hl e List.mem_cons_self) hb
      · exact .more ho (hl e List.mem_cons_self) hb (hms _ _ h')
theorem allB_ok {tb : Tb} {ops : Array Oper} {n : Nat} : ∀ (r pre : List Oper) (ms : List Nat) (i : Nat), allB tb ops n r pre ms i = true → ops.toList = pre ++ r → pre.length = i → ms.length = i → (∀ k j, Nat.testBit (nthN ms k) j = true → Anc ops j k) →
    ∀ k o, i ≤ k → ops[k]? = some o → dstOk n o = true ∧ (∀ e ∈ o.after, Region.binds .any e = true → e.on < k) ∧ ∀ j, j < k → Anc ops j k ∨ Swap tb ops j k
  | [], pre, ms, i, _, hl, hp, _, _, k, o, hik, ho => by
    rw [List.append_nil] at hl
    have : k < ops.size := (Array.getElem?_eq_some_iff.1 ho).1
    rw [← Array.length_toList, hl] at this
    omega
  | y :: r, pre, ms, i, h, hl, hp, hm, hms, k, o, hik, ho => by
    simp only [allB, Bool.and_eq_true] at h
    obtain ⟨⟨⟨h1, h2⟩, h3⟩, h4⟩ := h
    have hi : ops[i]? = some y := by
      rw [← Array.getElem?_toList, hl, ← hp]
      simp
    have hanc := ancOf_ok hi hms (l := y.after.toList) (fun e he => by simpa using he)
    by_cases e : k = i
    · subst e
      rw [hi] at ho
      injection ho with ho
      subst ho
      refine ⟨h1, fun e he hb => backB_ok h2 e (by simpa using he) hb, fun j hj => ?_⟩
      have hx : pre[j]? = some (pre[j]'(by omega)) := List.getElem?_eq_getElem (by omega)
      have hx' : ops[j]? = some (pre[j]'(by omega)) := by
        rw [← Array.getElem?_toList, hl, List.getElem?_append_left (by omega)]
        exact hx
      rcases preB_ok h3 j _ hx with h' | h'
      · exact .inl (hanc j (by simpa using h'))
      · exact .inr ⟨_, _, hx', hi, h'⟩
    · refine allB_ok r (pre ++ [y]) _ (i + 1) h4 (by rw [hl]; simp) (by simp [hp]) (by simp [hm]) (fun k' j hk' => ?_) k o (by omega) ho
      rw [nthN_app] at hk'
      split at hk'
      · exact hms _ _ hk'
      · split at hk'
        · rename_i e'
          rw [hm] at e'
          subst e'
          exact hanc j hk'
        · simp at hk'
theorem regB_ok {tb : Tb} {ops : Array Oper} {n : Nat} (h : regB tb n ops = true) : OrdOk tb ops n := by
  have key := allB_ok ops.toList [] [] 0 h rfl rfl rfl (fun k j hk => by cases k <;> simp [nthN] at hk)
  exact ⟨fun i o ho => (key i o (Nat.zero_le _) ho).1, fun i o ho => (key i o (Nat.zero_le _) ho).2.1, fun i j hj hi => (key i _ (Nat.zero_le _) (Array.getElem?_eq_getElem hi)).2.2 j hj⟩

/-- A body's regions. -/
def codeB (tb : Tb) (n : Nat) : Code → Bool
  | .region _ ops _ => regB tb n ops
  | .seq a b => codeB tb n a && codeB tb n b
  | .cond _ a b => codeB tb n a && codeB tb n b
  | .block _ a => codeB tb n a
  | .loop a => codeB tb n a
  | _ => true
end Go.Proofs.Ytebokfdiamepcaa.AM
