/- Words, loops, lists: the ways through what is printed. -/
import Derived.Test.YtiejhpighhjgiaaGa4
set_option linter.unusedVariables false
set_option linter.unusedSimpArgs false
namespace Go.Proofs.Ytiejhpighhjgiaa.Pure
open Go.RowKit Go.Proofs.Ytiejhpighhjgiaa.AM

theorem bif_t {α : Type} {b : Bool} {x y : α} (h : b = true) : (bif b then x else y) = x := by rw [h]; rfl
theorem bif_f {α : Type} {b : Bool} {x y : α} (h : b = false) : (bif b then x else y) = y := by rw [h]; rfl
theorem bif_T {α : Type} {p : Prop} [Decidable p] {x y : α} (h : p) : (bif decide p then x else y) = x := bif_t (decide_eq_true h)
theorem bif_F {α : Type} {p : Prop} [Decidable p] {x y : α} (h : ¬ p) : (bif decide p then x else y) = y := bif_f (decide_eq_false h)
theorem bif_nT {α : Type} {p : Prop} [Decidable p] {x y : α} (h : p) : (bif !(decide p) then x else y) = y := by rw [decide_eq_true h]; rfl
theorem bif_nF {α : Type} {p : Prop} [Decidable p] {x y : α} (h : ¬ p) : (bif !(decide p) then x else y) = x := by rw [decide_eq_false h]; rfl
theorem gd_t {ρ : Type} {b : Bool} {x : Option ρ} (h : b = true) : gd b x = x := by rw [h]; rfl
theorem gd_T {ρ : Type} {p : Prop} [Decidable p] {x : Option ρ} (h : p) : gd (decide p) x = x := gd_t (decide_eq_true h)
theorem gd_nF {ρ : Type} {p : Prop} [Decidable p] {x : Option ρ} (h : ¬ p) : gd (!(decide p)) x = x := by rw [decide_eq_false h]; rfl
theorem bnd_s {α ρ : Type} (a : α) (k : α → Option ρ) : bnd (some a) k = k a := rfl
theorem bnd_e {α ρ : Type} {x : Option α} {a : α} (h : x = some a) (k : α → Option ρ) : bnd x k = k a := by rw [h]; rfl
theorem loop_s {α ρ : Type} (f : α → (α → Option ρ) → Option ρ) (n : Nat) (x : α) : loopN f (n + 1) x = f x (loopN f n) := rfl
theorem inb_t {i : Int} {n : Nat} (h : 0 ≤ i ∧ i < n) : inb i n = true := by unfold inb; simp [h.1, h.2]
theorem few_t {n : Nat} (h : n < 4294967296) : few n = true := decide_eq_true h
theorem w64_id {x : Int} (h0 : -9223372036854775808 ≤ x) (h1 : x ≤ 9223372036854775807) : w64 x = x := by
  have : w64 x = (x + 9223372036854775808) % 18446744073709551616 - 9223372036854775808 := by
    simp only [w64, IntKind.wrap, IntKind.signed, IntKind.bits]
    simp
    omega
  omega
theorem cT {α : Type} (x y : α) : (bif true then x else y) = x := rfl
theorem cF {α : Type} (x y : α) : (bif false then x else y) = y := rfl
theorem gT {ρ : Type} (x : Option ρ) : gd true x = x := rfl
theorem loop_list {α ρ : Type} {f : α → (α → Option ρ) → Option ρ} (st : Nat → α) (n : Nat) (P : Nat → Option ρ) (h0 : ∀ next, f (st n) next = P n) (hs : ∀ i, i < n → ∀ next, next (st (i + 1)) = P (i + 1) → f (st i) next = P i) :
    ∀ (q i : Nat), i ≤ n → n - i < q → loopN f q (st i) = P i
  | 0, i, _, h => by omega
  | q + 1, i, hi, h => by
    rw [loop_s]
    by_cases e : i = n
    · subst e; exact h0 _
    · exact hs i (by omega) _ (loop_list st n P h0 hs q (i + 1) (by omega) (by omega))
/-- A loop, by a relation of rounds left, state and answer. -/
theorem loop_rel {α ρ : Type} (R : Nat → α → Option ρ → Prop) {f : α → (α → Option ρ) → Option ρ} (h : ∀ n s v, R n s v → ∀ next, (∀ n' s' v', n' < n → R n' s' v' → next s' = v') → f s next = v) :
    ∀ (q n : Nat) (s : α) (v : Option ρ), R n s v → n < q → loopN f q s = v
  | 0, n, s, v, _, hq => by omega
  | q + 1, n, s, v, hr, hq => by
    rw [loop_s]
    exact h n s v hr _ fun n' s' v' hn hr' => loop_rel R h q n' s' v' hr' (by omega)
/-- A loop that goes through a row till something is met: `b i` says whether it stops there and with what. -/
theorem loop_stop {α ρ : Type} {f : α → (α → Option ρ) → Option ρ} (st : Nat → α) (n : Nat) (b : Nat → Option (Option ρ)) (e : Option ρ) (h0 : ∀ next, f (st n) next = e) (hs : ∀ i, i < n → ∀ next, f (st i) next = match b i with
    | some v => v
    | none => next (st (i + 1))) :
    ∀ (q i : Nat), i ≤ n → n - i < q → loopN f q (st i) = match (List.range' i (n - i)).findSome? b with
    | some v => v
    | none => e
  | 0, i, _, h => by omega
  | q + 1, i, hi, h => by
    rw [loop_s]
    by_cases hin : i = n
    · subst hin
      rw [h0, Nat.sub_self]
      rfl
    · rw [hs i (by omega), show n - i = (n - (i + 1)) + 1 by omega, List.range'_succ, List.findSome?_cons]
      cases hb : b i with
      | some v => rfl
      | none =>
        simp only
        exact loop_stop st n b e h0 hs q (i + 1) (by omega) (by omega)
/-- A loop that goes through a row, and stops with one answer where `b` says so. -/
theorem loop_any {α ρ : Type} {f : α → (α → Option ρ) → Option ρ} (st : Nat → α) (n : Nat) (b : Nat → Bool) (v e : Option ρ) (h0 : ∀ next, f (st n) next = e) (hs : ∀ i, i < n → ∀ next, f (st i) next = bif b i then v else next (st (i + 1))) (q : Nat) (hq : n < q) :
    loopN f q (st 0) = bif (List.range n).any b then v else e := by
  refine (loop_list st n (fun i => bif (List.range' i (n - i)).any b then v else e) ?_ ?_ q 0 (Nat.zero_le _) (by omega)).trans ?_
  · intro next
    rw [h0, Nat.sub_self]
    rfl
  · intro i hi next hn
    rw [hs i hi, hn, show n - i = (n - (i + 1)) + 1 by omega, List.range'_succ, List.any_cons]
    cases b i <;> rfl
  · rw [List.range_eq_range']
    rfl
/-- A loop whose answer is the same all along. -/
theorem loop_from {α ρ : Type} {f : α → (α → Option ρ) → Option ρ} (st : Nat → α) (n : Nat) {v : Option ρ} {s0 : α} (e : s0 = st 0) (h0 : ∀ next, f (st n) next = v) (hs : ∀ i, i < n → ∀ next, next (st (i + 1)) = v → f (st i) next = v) (q : Nat) (hq : n < q) : loopN f q s0 = v := by
  rw [e]
  exact loop_list st n (fun _ => v) h0 hs q 0 (Nat.zero_le _) (by omega)
theorem nxt_nil {α ρ : Type} (k0 : Option ρ) (k1 : α → List α → Option ρ) : nxt [] k0 k1 = k0 := rfl
theorem nxt_of {α ρ : Type} {es : List α} {k0 : Option ρ} {k1 : α → List α → Option ρ} {y : ρ} (hne : es ≠ []) (h : ∀ (j : Nat) (e : α), es[j]? = some e → k1 e (es.eraseIdx j) = some y) : nxt es k0 k1 = some y := by
  cases es with
  | nil => exact absurd rfl hne
  | cons e r =>
    unfold nxt
    simp only
    split
    · rename_i hc
      have h1 := hc.choose_spec 0 e rfl
      rw [h 0 e rfl] at h1
      rw [h1]
    · rename_i hc
      exact absurd ⟨y, h⟩ hc
abbrev Pt : Type := Int × Int
abbrev kk : Kd := .pair (.int .i64) (.int .i64)
abbrev ki : Kd := .int .i64
theorem etaP (a : Pt) : (a.1, a.2) = a := rfl
theorem eqP {a b : Pt} : ((decide (a.1 = b.1)) && (decide (a.2 = b.2))) = decide (a = b) := by
  rw [Bool.eq_iff_iff]; cases a; cases b; simp
def Fit (p : Pt) : Prop := -4294967296 ≤ p.1 ∧ p.1 ≤ 4294967296 ∧ -4294967296 ≤ p.2 ∧ p.2 ≤ 4294967296
instance (p : Pt) : Decidable (Fit p) := inferInstanceAs (Decidable (_ ∧ _ ∧ _ ∧ _))
theorem rd_get {α : Type} (d : α) (l : List α) (i : Nat) (h : i < l.length) : rdD d l (i : Int) = l[i] := by
  simp [rdD, List.getD_eq_getElem?_getD, h]
theorem eqT_kk (a b : Pt) : Kd.eqT kk a b = decide (a = b) := by
  have e1 : Kd.eqT kk a b = (decide (a.1 = b.1) && decide (a.2 = b.2)) := by
    simp only [Kd.eqT]
    rfl
  rw [e1, eqP]
theorem fn_kk (k : Pt) : (fun p : Pt × Int => Kd.eqT kk k p.1) = fun p => decide (k = p.1) := funext fun p => eqT_kk k p.1
theorem hs_any (es : List (Pt × Int)) (k : Pt) : hsM kk ki es k = es.any fun p => decide (k = p.1) := by
  rw [← fn_kk]
  rfl
theorem lk_nil {κ ν : Kd} (k : κ.T) : lkM κ ν [] k = ν.dflt := rfl
theorem lk_cons {κ ν : Kd} (p : κ.T × ν.T) (es : List (κ.T × ν.T)) (k : κ.T) : lkM κ ν (p :: es) k = bif Kd.eqT κ k p.1 then p.2 else lkM κ ν es k := by
  cases hb : Kd.eqT κ k p.1 <;> simp only [lkM, List.find?_cons, hb, cond]
theorem lk_find (k : Pt) : ∀ (es : List (Pt × Int)), lkM kk ki es k = (match es.find? fun p => decide (k = p.1) with
    | some p => p.2
    | none => (0 : Int))
  | [] => rfl
  | p :: es => by
    have h : lkM kk ki (p :: es) k = bif decide (k = p.1) then p.2 else lkM kk ki es k := by
      rw [← eqT_kk]
      exact lk_cons (κ := kk) (ν := ki) p es k
    refine h.trans ?_
    rw [List.find?_cons]
    cases decide (k = p.1) with
    | true => rfl
    | false => exact lk_find k es
/-- The same, at plain types. -/
def hsP (es : List (Pt × Int)) (k : Pt) : Bool := hsM kk ki es k
def lkP (es : List (Pt × Int)) (k : Pt) : Int := lkM kk ki es k
def adP (es : List (Pt × Int)) (k : Pt) (v : Int) : List (Pt × Int) := es ++ [(k, v)]
theorem hs_mem (es : List (Pt × Int)) (k : Pt) : hsP es k = decide (k ∈ es.map (·.1)) := by
  rw [hsP, hs_any, Bool.eq_iff_iff, List.any_eq_true, decide_eq_true_eq, List.mem_map]
  constructor
  · rintro ⟨p, hp, h⟩
    rw [decide_eq_true_eq] at h
    exact ⟨p, hp, h.symm⟩
  · rintro ⟨p, hp, h⟩
    exact ⟨p, hp, by rw [decide_eq_true_eq]; exact h.symm⟩
theorem lk_mem {es : List (Pt × Int)} {k : Pt} (h : k ∈ es.map (·.1)) : ∃ p ∈ es, p.1 = k ∧ lkP es k = p.2 := by
  rw [lkP, lk_find]
  cases hf : es.find? fun p => decide (k = p.1) with
  | some p =>
    have h1 := List.find?_some hf
    rw [decide_eq_true_eq] at h1
    exact ⟨p, List.mem_of_find?_eq_some hf, h1.symm, rfl⟩
  | none =>
    obtain ⟨p, hp, e⟩ := List.mem_map.1 h
    have := List.find?_eq_none.1 hf p hp
    rw [decide_eq_true_eq] at this
    exact absurd e.symm this
theorem lk_at {es : List (Pt × Int)} (hnd : (es.map (·.1)).Nodup) {p : Pt × Int} (hp : p ∈ es) : lkP es p.1 = p.2 := by
  obtain ⟨q, hq, h1, h2⟩ := lk_mem (List.mem_map_of_mem (f := (·.1)) hp)
  rw [h2]
  obtain ⟨i, hi, rfl⟩ := List.getElem_of_mem hp
  obtain ⟨j, hj, rfl⟩ := List.getElem_of_mem hq
  have : i = j := by
    by_cases e : i = j
    · exact e
    · exfalso
      have := (List.nodup_iff_pairwise_ne.1 hnd)
      rcases Nat.lt_or_gt_of_ne e with hlt | hgt
      · exact List.pairwise_iff_getElem.1 this i j (by simpa using hi) (by simpa using hj) hlt (by simpa using h1.symm)
      · exact List.pairwise_iff_getElem.1 this j i (by simpa using hj) (by simpa using hi) hgt (by simpa using h1)
  subst this
  rfl
/-- Lists that are put in one by one. -/
theorem take_snoc {α : Type} (l : List α) (i : Nat) (h : i < l.length) : l.take (i + 1) = l.take i ++ [l[i]] := by rw [List.take_add_one, List.getElem?_eq_getElem h]; rfl
theorem flat_snoc {α β : Type} (g : α → List β) (l : List α) (i : Nat) (h : i < l.length) : (l.take (i + 1)).flatMap g = (l.take i).flatMap g ++ g l[i] := by rw [take_snoc l i h, List.flatMap_append]; simp
theorem map_snoc {α β : Type} (g : α → β) (l : List α) (i : Nat) (h : i < l.length) : (l.take (i + 1)).map g = (l.take i).map g ++ [g l[i]] := by rw [take_snoc l i h, List.map_append]; rfl
end Go.Proofs.Ytiejhpighhjgiaa.Pure
