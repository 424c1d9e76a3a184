/- Which face is in which part: what the document's answer comes to. -/
import Derived.Test.YtiejhpighhjgiaaB17
set_option linter.unusedVariables false
set_option linter.unusedSimpArgs false
set_option linter.unusedSectionVars false
namespace Go.Proofs.Ytiejhpighhjgiaa.Pure
open Go.RowKit Go.Proofs.Ytiejhpighhjgiaa.AM

theorem mem_eds {c : List Int} {e : Pt} : e ∈ eds c ↔ ∃ i, i < c.length ∧ ed c i = e := by
  unfold eds
  simp only [List.mem_map, List.mem_range]
theorem has_f (m : Nat) (c : List Int) (a b : Int) (hl : c.length ≤ 900) : g_parquetref11_has (m + 1000) c a b = some (decide ((a, b) ∈ eds c)) := by
  unfold g_parquetref11_has
  simp only [meet]
  have e : decide ((a, b) ∈ eds c) = (List.range c.length).any fun i => decide (ed c i = (a, b)) := by
    rw [Bool.eq_iff_iff, List.any_eq_true, decide_eq_true_eq, mem_eds]
    constructor
    · rintro ⟨i, hi, h⟩; exact ⟨i, List.mem_range.2 hi, decide_eq_true h⟩
    · rintro ⟨i, hi, h⟩; exact ⟨i, List.mem_range.1 hi, of_decide_eq_true h⟩
  rw [e]
  refine (loop_any (fun i => (c, a, b, (i : Int))) c.length (fun i => decide (ed c i = (a, b))) (some true) (some false) ?_ ?_ (m + 1000) (by omega)).trans ?_
  · intro next
    dsimp only
    rw [bif_F (by omega)]
  · intro i hi next
    dsimp only
    have hmod : (i + 1) % c.length < c.length := Nat.mod_lt _ (by omega)
    have key : ∀ x : Int, x = (((i + 1) % c.length : Nat) : Int) → (bif decide ((rdD 0 c (i : Int)) = a) then gd (inb x c.length) <| (bif decide ((rdD 0 c x) = b) then some true else next (c, a, b, ((i + 1 : Nat) : Int))) else (bif false then some true else next (c, a, b, ((i + 1 : Nat) : Int)))) = bif decide (ed c i = (a, b)) then some true else next (c, a, b, ((i + 1 : Nat) : Int)) := by
      rintro x rfl
      by_cases c1 : rdD 0 c (i : Int) = a
      · rw [bif_T c1, gd_t (inb_t ⟨by omega, by omega⟩)]
        by_cases c2 : rdD 0 c (((i + 1) % c.length : Nat) : Int) = b
        · rw [bif_T c2, bif_T (Prod.ext c1 c2)]
        · rw [bif_F c2, bif_F (fun h => c2 (congrArg (·.2) h))]
      · rw [bif_F c1, cF, bif_F (fun h => c1 (congrArg (·.1) h))]
    rw [bif_T (by omega), w64_id (by omega) (by omega)]
    by_cases c1 : i + 1 = c.length
    · rw [bif_T (by omega), gd_t (inb_t ⟨by omega, by omega⟩)]
      exact key 0 (by rw [c1, Nat.mod_self]; rfl)
    · rw [bif_F (by omega), gd_t (inb_t ⟨by omega, by omega⟩)]
      exact key _ (by rw [Nat.mod_eq_of_lt (by omega)]; rfl)
  · cases (List.range c.length).any fun i => decide (ed c i = (a, b)) <;> rfl
/-- To be come to. -/
inductive Con (A : Nat → Nat → Prop) : Nat → Nat → Prop
  | refl (i : Nat) : Con A i i
  | step {i j k : Nat} : Con A i j → A j k → Con A i k
theorem Con.trans {A : Nat → Nat → Prop} {i j k : Nat} (h : Con A i j) (h' : Con A j k) : Con A i k := by
  induction h' with
  | refl => exact h
  | step _ a ih => exact ih.step a
theorem Con.symm {A : Nat → Nat → Prop} (hA : ∀ i j, A i j → A j i) {i j : Nat} (h : Con A i j) : Con A j i := by
  induction h with
  | refl => exact .refl _
  | step _ a ih => exact (Con.step (.refl _) (hA _ _ a)).trans ih
theorem Con.map {A B : Nat → Nat → Prop} (g : Nat → Nat) (h : ∀ i j, A i j → Con B (g i) (g j)) {i j : Nat} (hc : Con A i j) : Con B (g i) (g j) := by
  induction hc with
  | refl => exact .refl _
  | step _ a ih => exact ih.trans (h _ _ a)
theorem least {Q : Nat → Prop} {i : Nat} (h : Q i) : ∃ m, Q m ∧ ∀ j, Q j → m ≤ j := by
  induction i using Nat.strongRecOn with
  | _ i ih =>
    by_cases c : ∃ j, j < i ∧ Q j
    · obtain ⟨j, hj, hq⟩ := c
      exact ih j hj hq
    · refine ⟨i, h, fun j hj => ?_⟩
      apply Decidable.byContradiction
      intro hlt
      exact c ⟨j, by omega, hj⟩
/-- Faces side by side. -/
def Adj (f : List (List Int)) (i j : Nat) : Prop := i < f.length ∧ j < f.length ∧ ∃ e ∈ eds (fc f i), rv e ∈ eds (fc f j)
theorem Adj.symm {f : List (List Int)} (i j : Nat) (h : Adj f i j) : Adj f j i := by
  obtain ⟨h1, h2, e, h3, h4⟩ := h
  exact ⟨h2, h1, rv e, h4, h3⟩
theorem con_lt {f : List (List Int)} {i j : Nat} (h : Con (Adj f) i j) (hi : i < f.length) : j < f.length := by
  cases h with
  | refl => exact hi
  | step _ a => exact a.2.1
theorem con_lt' {f : List (List Int)} {i j : Nat} (h : Con (Adj f) i j) (hj : j < f.length) : i < f.length := con_lt (h.symm Adj.symm) hj
theorem rd_set {l : List Int} {i j : Nat} (x : Int) (hj : j < l.length) : rdD 0 (l.set i x) (j : Int) = if i = j then x else rdD 0 l (j : Int) := by
  rw [rd_get _ _ _ (by rw [List.length_set]; exact hj), List.getElem_set, rd_get _ _ _ hj]
structure Lab (f : List (List Int)) (o : List Int) : Prop where
  len : o.length = f.length
  at_ : ∀ i, i < f.length → ∃ v : Nat, rdD 0 o (i : Int) = (v : Int) ∧ v ≤ i ∧ Con (Adj f) v i
def Low (f : List (List Int)) (o o0 : List Int) : Prop := ∀ i, i < f.length → rdD 0 o (i : Int) ≤ rdD 0 o0 (i : Int)
def mrg (o : List Int) (i j : Nat) : List Int := (o.set i (mnI (rdD 0 o (i : Int)) (rdD 0 o (j : Int)))).set j (mnI (rdD 0 o (i : Int)) (rdD 0 o (j : Int)))
theorem mrg_rd {o : List Int} {i j k : Nat} (hk : k < o.length) : rdD 0 (mrg o i j) (k : Int) = if k = i ∨ k = j then mnI (rdD 0 o (i : Int)) (rdD 0 o (j : Int)) else rdD 0 o (k : Int) := by
  unfold mrg
  rw [rd_set _ (by rw [List.length_set]; exact hk), rd_set _ hk]
  by_cases c1 : j = k
  · rw [if_pos c1, if_pos (.inr c1.symm)]
  · rw [if_neg c1]
    by_cases c2 : i = k
    · rw [if_pos c2, if_pos (.inl c2.symm)]
    · rw [if_neg c2, if_neg (fun h => h.elim (fun h => c2 h.symm) (fun h => c1 h.symm))]
theorem mrg_lab {f : List (List Int)} {o : List Int} (h : Lab f o) {i j : Nat} (ha : Adj f i j) : Lab f (mrg o i j) ∧ Low f (mrg o i j) o ∧ rdD 0 (mrg o i j) (i : Int) ≤ rdD 0 o (j : Int) ∧ rdD 0 (mrg o i j) (j : Int) ≤ rdD 0 o (i : Int) := by
  obtain ⟨hi, hj, _⟩ := id ha
  obtain ⟨vi, ei, li, ci⟩ := h.at_ i hi
  obtain ⟨vj, ej, lj, cj⟩ := h.at_ j hj
  have hl : ∀ k, k < f.length → k < o.length := fun k hk => by rw [h.len]; exact hk
  have hm : mnI (rdD 0 o (i : Int)) (rdD 0 o (j : Int)) ≤ rdD 0 o (i : Int) ∧ mnI (rdD 0 o (i : Int)) (rdD 0 o (j : Int)) ≤ rdD 0 o (j : Int) := by unfold mnI; split <;> omega
  have hv : ∃ v : Nat, mnI (rdD 0 o (i : Int)) (rdD 0 o (j : Int)) = (v : Int) ∧ Con (Adj f) v i ∧ Con (Adj f) v j := by
    rw [ei, ej]
    unfold mnI
    split
    · exact ⟨vj, rfl, cj.step ha.symm, cj⟩
    · exact ⟨vi, rfl, ci, ci.step ha⟩
  obtain ⟨v, hv1, hv2, hv3⟩ := hv
  refine ⟨⟨by unfold mrg; simp [h.len], fun k hk => ?_⟩, fun k hk => ?_, ?_, ?_⟩
  · rw [mrg_rd (hl k hk)]
    by_cases c : k = i ∨ k = j
    · rw [if_pos c, hv1]
      refine ⟨v, rfl, ?_, ?_⟩
      · rcases c with rfl | rfl <;> omega
      · rcases c with rfl | rfl
        · exact hv2
        · exact hv3
    · rw [if_neg c]
      exact h.at_ k hk
  · rw [mrg_rd (hl k hk)]
    by_cases c : k = i ∨ k = j
    · rw [if_pos c]
      rcases c with rfl | rfl
      · exact hm.1
      · exact hm.2
    · rw [if_neg c]; exact Int.le_refl _
  · rw [mrg_rd (hl i hi), if_pos (.inl rfl)]; exact hm.2
  · rw [mrg_rd (hl j hj), if_pos (.inr rfl)]; exact hm.1
/-- Named by the least of all that are come to. -/
def Stl (f : List (List Int)) (o : List Int) (i : Nat) : Prop := ∀ j, Con (Adj f) j i → rdD 0 o (i : Int) ≤ (j : Int)
noncomputable instance (f : List (List Int)) (o : List Int) (i : Nat) : Decidable (Stl f o i) := Classical.propDecidable _
noncomputable def stN (f : List (List Int)) (o : List Int) : Nat := ((List.range f.length).filter fun i => decide (Stl f o i)).length
theorem filter_le {q r : Nat → Bool} : ∀ (l : List Nat), (∀ x ∈ l, q x = true → r x = true) → (l.filter q).length ≤ (l.filter r).length
  | [], _ => Nat.le_refl _
  | x :: l, h => by
    have ih := filter_le l (fun y hy => h y (List.mem_cons_of_mem _ hy))
    have hx := h x List.mem_cons_self
    rw [List.filter_cons, List.filter_cons]
    cases hq : q x with
    | true => rw [hx hq]; simpa using ih
    | false => cases r x <;> simp <;> omega
theorem filter_lt {q r : Nat → Bool} : ∀ {l : List Nat}, (∀ x ∈ l, q x = true → r x = true) → ∀ {a : Nat}, a ∈ l → q a = false → r a = true → (l.filter q).length < (l.filter r).length
  | x :: l, h, a, ha, hq, hr => by
    have hx := h x List.mem_cons_self
    have hle := filter_le l (fun y hy => h y (List.mem_cons_of_mem _ hy))
    rw [List.filter_cons, List.filter_cons]
    rcases List.mem_cons.1 ha with rfl | ha
    · rw [hq, hr]; simp; omega
    · have ih := filter_lt (fun y hy => h y (List.mem_cons_of_mem _ hy)) ha hq hr
      cases hqx : q x with
      | true => rw [hx hqx]; simpa using ih
      | false => cases r x <;> simp <;> omega
/-- One round brings one more to its name. -/
theorem round_more {f : List (List Int)} {o o' : List Int} (h : Lab f o) (hlow : Low f o' o) (hadj : ∀ i j, Adj f i j → rdD 0 o' (i : Int) ≤ rdD 0 o (j : Int)) : (∀ i, i < f.length → Stl f o i) ∨ stN f o < stN f o' := by
  by_cases hall : ∀ i, i < f.length → Stl f o i
  · exact .inl hall
  refine .inr ?_
  have : ∃ i, i < f.length ∧ ¬Stl f o i := by
    apply Classical.byContradiction
    intro hno
    exact hall fun i hi => Classical.byContradiction fun hs => hno ⟨i, hi, hs⟩
  obtain ⟨i, hi, hs⟩ := this
  obtain ⟨m, hm, hmin⟩ := least (Q := fun j => Con (Adj f) j i) (Con.refl i)
  have hmlt := con_lt' hm hi
  have hms : Stl f o m := fun j hj => by
    obtain ⟨v, hv, hle, _⟩ := h.at_ m hmlt
    have := hmin j (hj.trans hm)
    rw [hv]
    omega
  -- on the way from the least: one that has its name beside one that has not
  have key : ∀ {a b : Nat}, Con (Adj f) a b → Stl f o a → ¬Stl f o b → ∃ x y, Adj f x y ∧ Stl f o x ∧ ¬Stl f o y := by
    intro a b hc
    induction hc with
    | refl => intro h1 h2; exact absurd h1 h2
    | @step j k hc ha ih =>
      intro h1 h2
      by_cases c : Stl f o j
      · exact ⟨j, k, ha, c, h2⟩
      · exact ih h1 c
  obtain ⟨x, y, hxy, hx, hy⟩ := key hm hms hs
  have mono : ∀ k, k < f.length → Stl f o k → Stl f o' k := fun k hk hk' j hj => Int.le_trans (hlow k hk) (hk' j hj)
  unfold stN
  refine filter_lt (a := y) (fun z hz hq => ?_) (List.mem_range.2 hxy.2.1) (decide_eq_false hy) (decide_eq_true ?_)
  · exact decide_eq_true (mono z (List.mem_range.1 hz) (of_decide_eq_true hq))
  · intro j hj
    have h1 := hadj y x hxy.symm
    exact Int.le_trans h1 (hx j (hj.step hxy.symm))
theorem all_named {f : List (List Int)} {o : List Int} (h : f.length ≤ stN f o) : ∀ i, i < f.length → Stl f o i := by
  intro i hi
  apply Classical.byContradiction
  intro hs
  have : stN f o < ((List.range f.length).filter fun _ => true).length := by
    unfold stN
    exact filter_lt (fun _ _ _ => rfl) (List.mem_range.2 hi) (decide_eq_false hs) rfl
  have e : ((List.range f.length).filter fun _ => true) = List.range f.length := List.filter_eq_self.2 (fun _ _ => rfl)
  rw [e, List.length_range] at this
  omega
end Go.Proofs.Ytiejhpighhjgiaa.Pure
