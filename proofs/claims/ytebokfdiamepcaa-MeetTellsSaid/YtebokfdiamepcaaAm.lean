/- The abstract machine, 29: a law's arguments, laid open. -/
import Derived.Test.YtebokfdiamepcaaAl
import Derived.Deep.Slices
import Derived.OpenShut
import Derived.ProofKit
set_option linter.unusedVariables false
set_option linter.unusedSimpArgs false
namespace Go.Proofs.Ytebokfdiamepcaa.AM
open Go.RowKit Go.ChangeShapes Go.WideShapes Go.Deep

/-- What is known of a datum that a law is handed. -/
def Kd.good : (κ : Kd) → κ.T → Prop
  | .int k, x => (Lit.int k x).wf = true
  | .bool, _ => True
  | .str, _ => True
  | .pair a b, x => a.good x.1 ∧ b.good x.2
  | .sl e, xs => List.length (α := e.T) xs ≤ 9223372036854775807 ∧ ∀ x : e.T, List.Mem (α := e.T) x xs → e.good x

def fieldsB' (P : Program) (f : TypeId → Kd → Bool) : List Field → Nat → Kd → Bool
  | [], _, _ => false
  | [g], o, κ => Nat.beq g.offset o && Nat.beq (P.cellsOf g.type) κ.size && f g.type κ
  | g :: h :: r, o, .pair a b => Nat.beq g.offset o && Nat.beq (P.cellsOf g.type) a.size && f g.type a && fieldsB' P f (h :: r) (o + a.size) b
  | _, _, _ => false
def elemsB (f : Kd → Bool) : Nat → Kd → Nat → Bool
  | 0, _, _ => false
  | 1, κ, s => Nat.beq κ.size s && f κ
  | n + 2, .pair a b, s => Nat.beq a.size s && f a && elemsB f (n + 1) b s
  | _, _, _ => false
/-- A type's data are of a kind. -/
def opB (P : Program) : Nat → TypeId → Kd → Bool
  | 0, _, _ => false
  | d + 1, t, κ => match P.underlying t with
    | some (.int k) => match κ with
      | .int j => kb k j
      | _ => false
    | some .bool => match κ with
      | .bool => true
      | _ => false
    | some (.slice e) => match κ with
      | .sl κ' => Nat.beq (P.cellsOf e) κ'.size && opB P d e κ'
      | _ => false
    | some (.struct fs) => Nat.beq (P.cellsOf t) κ.size && fieldsB' P (opB P d) fs.toList 0 κ
    | some (.array n e) => Nat.beq (P.cellsOf t) κ.size && elemsB (opB P d e) n κ (P.cellsOf e)
    | _ => false

section
variable {H : Type} {enc : TypeId × Value → H} {P : Program} {W : World} {base : Nat} {spare : Nat → Bool} {held : Bool}
/-- Whatever reads as data of type t reads as κ. -/
def Opn {H : Type} (enc : TypeId × Value → H) (P : Program) (W : World) (base : Nat) (spare : Nat → Bool) (held : Bool) (t : TypeId) (κ : Kd) : Prop :=
  ∀ (fuel : Nat) (cs : List Value) (x : DataW H × List MemPlace), DataW.trod enc P W base spare held fuel t cs = some x → ∃ a : κ.T, RepT W (fun b => b < W.heap.size) κ a cs ∧ κ.good a

theorem cell_lt {a : Addr} {u : Value} (h : W.cell? a = some u) : a.block < W.heap.size := by
  unfold World.cell? at h
  split at h
  · rename_i hb
    exact heap_lt hb
  · cases h
theorem opn_bool {t : TypeId} (ht : P.underlying t = some .bool) : Opn enc P W base spare held t .bool := by
  intro fuel cs x h
  cases fuel with
  | zero => simp [DataW.trod] at h
  | succ n =>
    unfold DataW.trod at h
    rw [ht] at h
    split at h
    all_goals first
      | (refine ⟨?_, (by simp only [RepT]; rfl), ?_⟩; simp only [Kd.good])
      | simp_all
theorem opn_fields {cs : List Value} {n : Nat} {f : TypeId → Kd → Bool} (hf : ∀ t κ, f t κ = true → Opn enc P W base spare held t κ) : ∀ (fs : List Field) (k o : Nat) (κ : Kd), fieldsB' P f fs o κ = true → cs.length = o + κ.size →
    (∀ (i : Nat) (g : Field), fs[i]? = some g → ∃ y, DataW.trod enc P W base spare held n g.type ((cs.drop g.offset).take (P.cellsOf g.type)) = some y) → ∃ a : κ.T, RepT W (fun b => b < W.heap.size) κ a (cs.drop o) ∧ κ.good a
  | [], _, _, _, h, _, _ => by cases h
  | [g], k, o, κ, h, hl, hx => by
    simp only [fieldsB', Bool.and_eq_true] at h
    obtain ⟨y, hy⟩ := hx 0 g rfl
    rw [Nat.eq_of_beq_eq_true h.1.1, Nat.eq_of_beq_eq_true h.1.2, List.take_of_length_le (by rw [List.length_drop]; omega)] at hy
    exact hf _ _ h.2 _ _ _ hy
  | g :: g2 :: r, k, o, κ, h, hl, hx => by
    cases κ with
    | pair a b =>
      simp only [fieldsB', Bool.and_eq_true] at h
      obtain ⟨⟨⟨h1, h2⟩, h3⟩, h4⟩ := h
      obtain ⟨y, hy⟩ := hx 0 g rfl
      rw [Nat.eq_of_beq_eq_true h1, Nat.eq_of_beq_eq_true h2] at hy
      obtain ⟨u, hu, gu⟩ := hf _ _ h3 _ _ _ hy
      simp only [Kd.size] at hl
      obtain ⟨v, hv, gv⟩ := opn_fields (cs := cs) (n := n) hf (g2 :: r) (k + 1) (o + a.size) b h4 (by omega) (fun i g' hg => hx (i + 1) g' (by simpa using hg))
      refine ⟨(u, v), ?_, gu, gv⟩
      simp only [RepT]
      refine ⟨_, _, ?_, hu, hv⟩
      rw [← List.drop_drop, List.take_append_drop]
    | _ => simp [fieldsB'] at h
theorem opn_elems {cs : List Value} {n s : Nat} {e : TypeId} {f : Kd → Bool} (hf : ∀ κ, f κ = true → Opn enc P W base spare held e κ) : ∀ (q k : Nat) (κ : Kd), elemsB f q κ s = true → cs.length = k * s + κ.size →
    (∀ (i : Nat), i < q → ∃ y, DataW.trod enc P W base spare held n e ((cs.drop ((k + i) * s)).take s) = some y) → ∃ a : κ.T, RepT W (fun b => b < W.heap.size) κ a (cs.drop (k * s)) ∧ κ.good a
  | 0, _, _, h, _, _ => by cases h
  | 1, k, κ, h, hl, hx => by
    simp only [elemsB, Bool.and_eq_true] at h
    have hs := Nat.eq_of_beq_eq_true h.1
    obtain ⟨y, hy⟩ := hx 0 (by omega)
    rw [Nat.add_zero, List.take_of_length_le (by rw [List.length_drop]; omega)] at hy
    exact hf _ h.2 _ _ _ hy
  | q + 2, k, κ, h, hl, hx => by
    cases κ with
    | pair a b =>
      simp only [elemsB, Bool.and_eq_true] at h
      obtain ⟨⟨h1, h2⟩, h3⟩ := h
      have hs := Nat.eq_of_beq_eq_true h1
      obtain ⟨y, hy⟩ := hx 0 (by omega)
      rw [Nat.add_zero] at hy
      obtain ⟨u, hu, gu⟩ := hf _ h2 _ _ _ hy
      simp only [Kd.size] at hl
      have hk : (k + 1) * s = k * s + s := by rw [Nat.add_mul, Nat.one_mul]
      obtain ⟨v, hv, gv⟩ := opn_elems (cs := cs) (n := n) hf (q + 1) (k + 1) b h3 (by rw [hk]; omega) (fun i hi => by
        have := hx (i + 1) (by omega)
        rwa [show k + (i + 1) = k + 1 + i by omega] at this)
      refine ⟨(u, v), ?_, gu, gv⟩
      simp only [RepT]
      refine ⟨_, _, ?_, hu, hv⟩
      rw [hk, ← List.drop_drop, List.take_append_drop]
    | _ => simp [elemsB] at h
theorem opn_slice {t e : TypeId} {κ : Kd} (ht : P.underlying t = some (.slice e)) (hs : P.cellsOf e = κ.size) (hk : Opn enc P W base spare held e κ) : Opn enc P W base spare held t (.sl κ) := by
  intro fuel cs x hx
  rcases open_slice ht hx with ⟨rfl, _⟩ | ⟨a, len, cap, m, n, D, Pl, rfl, hb, hl, hm, hmm, _, hel⟩
  · refine ⟨([] : List κ.T), ?_, ?_⟩
    · simp only [RepT]
      exact ⟨none, 0, rfl, Nat.le_refl _, .inl rfl⟩
    · simp only [Kd.good]
      exact ⟨Nat.zero_le _, fun x h => by cases h⟩
  · have hlm : len ≤ m := by rw [hmm]; split <;> omega
    have hex : ∀ i, i < len → ∃ y : κ.T, ∃ cs', W.cells? base (a.add (i * κ.size)) κ.size = some cs' ∧ RepT W (fun b => b < W.heap.size) κ y cs' ∧ κ.good y := by
      intro i hi
      obtain ⟨cs', h1, h2⟩ := hel i (by omega)
      obtain ⟨y, hy, gy⟩ := hk _ _ _ h2
      rw [hs] at h1
      exact ⟨y, cs', h1, hy, gy⟩
    have hlist : ∃ l : List κ.T, l.length = len ∧ ∀ (i : Nat) (y : κ.T), l[i]? = some y → ∃ cs', W.cells? base (a.add (i * κ.size)) κ.size = some cs' ∧ RepT W (fun b => b < W.heap.size) κ y cs' ∧ κ.good y := by
      clear hel hmm hlm hl hx
      rename_i hxx
      clear hxx
      induction len with
      | zero => exact ⟨[], rfl, by simp⟩
      | succ q ih =>
        obtain ⟨l, hl, h⟩ := ih (fun i hi => hex i (by omega))
        obtain ⟨y, hy⟩ := hex q (by omega)
        refine ⟨l ++ [y], by simp [hl], ?_⟩
        intro i z hz
        by_cases hi : i < q
        · rw [List.getElem?_append_left (by omega)] at hz
          exact h i z hz
        · have hiq : i = q := by
            have := (List.getElem?_eq_some_iff.1 hz).1
            simp at this
            omega
          subst hiq
          rw [List.getElem?_append_right (by omega), hl] at hz
          simp at hz
          subst hz
          exact hy
    obtain ⟨l, hll, h⟩ := hlist
    refine ⟨l, ?_, ?_⟩
    · simp only [RepT]
      refine ⟨some a, cap, by rw [hll], by rw [hll]; exact hl, ?_⟩
      cases l with
      | nil => exact .inl rfl
      | cons y0 l' =>
        refine .inr ⟨a, rfl, ?_, fun i y hy => ?_⟩
        · obtain ⟨cs', h1, h2, _⟩ := h 0 y0 rfl
          have := (World.cells?_some h1).2.2 0 (size_pos κ)
          have hl0 : 0 < cs'.length := by rw [h2.len]; exact size_pos κ
          rw [List.getElem?_eq_getElem hl0] at this
          have := cell_lt this
          rwa [add_block, add_block] at this
        · obtain ⟨cs', h1, h2, _⟩ := h i y hy
          refine ⟨cs', h2, fun j u hj => ?_⟩
          have hjl : j < κ.size := by have := (List.getElem?_eq_some_iff.1 hj).1; have := h2.len; omega
          have := (World.cells?_some h1).2.2 j hjl
          rw [AM.add_add, hj] at this
          exact this
    · simp only [Kd.good]
      refine ⟨by rw [hll]; unfold maxLen at hm; omega, fun x hx => ?_⟩
      obtain ⟨i, hi⟩ := List.mem_iff_getElem?.1 (show x ∈ l from hx)
      obtain ⟨_, _, _, g⟩ := h i x hi
      exact g
theorem opn_of : ∀ (d : Nat) (t : TypeId) (κ : Kd), opB P d t κ = true → Opn enc P W base spare held t κ
  | 0, _, _, h => by cases h
  | d + 1, t, κ, h => by
    simp only [opB] at h
    split at h
    · rename_i k ht
      split at h
      · have := kb_eq h
        subst this
        intro fuel cs x hx
        obtain ⟨n, rfl, _, hw⟩ := DataW.trod_int ht hx
        exact ⟨n, by simp only [RepT], hw⟩
      · cases h
    · rename_i ht
      split at h
      · exact opn_bool ht
      · cases h
    · rename_i e ht
      split at h
      · simp only [Bool.and_eq_true] at h
        exact opn_slice ht (Nat.eq_of_beq_eq_true h.1) (opn_of d e _ h.2)
      · cases h
    · rename_i fs ht
      simp only [Bool.and_eq_true] at h
      intro fuel cs x hx
      obtain ⟨xs, n, _, _, hl, hn, hxs⟩ := DataW.trod_struct ht hx
      have hC := Nat.eq_of_beq_eq_true h.1
      have := opn_fields (cs := cs) (n := n) (opn_of d) fs.toList 0 0 κ h.2 (by omega) (fun i g hg => by
        have hg' : fs[i]? = some g := by rw [← Array.getElem?_toList]; exact hg
        have hi : i < xs.length := by rw [hn]; exact (Array.getElem?_eq_some_iff.1 hg').1
        exact ⟨xs[i], by rw [hxs i g hg', List.getElem?_eq_getElem hi]⟩)
      simpa using this
    · rename_i q e ht
      simp only [Bool.and_eq_true] at h
      intro fuel cs x hx
      obtain ⟨xs, m, _, _, hl, hn, hxs⟩ := DataW.trod_array ht hx
      have hC := Nat.eq_of_beq_eq_true h.1
      have := opn_elems (cs := cs) (n := m) (s := P.cellsOf e) (f := opB P d e) (fun κ h => opn_of d e κ h) q 0 κ h.2 (by omega) (fun i hi => by
        have hi' : i < xs.length := by omega
        exact ⟨xs[i], by rw [Nat.zero_add, hxs i hi, List.getElem?_eq_getElem hi']⟩)
      simpa using this
    · cases h
/-- An argument. -/
theorem opn_arg {d : Nat} {t : TypeId} {κ : Kd} (h : opB P d t κ = true) {v : Value} {x : DataW H} {ps : List MemPlace} (hx : DataW.Trod enc P W base spare held t v x ps) : ∃ a : κ.T, RepT W (fun b => b < W.heap.size) κ a v.cells.toList ∧ κ.good a := by
  obtain ⟨fuel, hf⟩ := hx
  exact opn_of d t κ h _ _ _ hf
end
end Go.Proofs.Ytebokfdiamepcaa.AM
