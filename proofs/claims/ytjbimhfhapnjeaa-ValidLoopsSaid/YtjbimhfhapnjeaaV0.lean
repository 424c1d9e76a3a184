/- Stable sorting, plain. No program here. -/
namespace PL
/-! ### stable sorting -/
section
variable {α : Type} (lt : α → α → Bool)
/-- Neither is less. -/
def eqv (c x : α) : Bool := !lt c x && !lt x c
/-- No later one is less than an elder one. -/
def Sorted (r : List α) : Prop := r.Pairwise fun x y => lt y x = false
structure Weak : Prop where
  asymm : ∀ x y, lt x y = true → lt y x = false
  neg : ∀ x y z, lt x y = false → lt y z = false → lt x z = false
/-- r is l, sorted; of those of which neither is less the elder ones first. -/
structure Stable (l r : List α) : Prop where
  perm : r.Perm l
  sorted : Sorted lt r
  filt : ∀ c, r.filter (eqv lt c) = l.filter (eqv lt c)
variable {lt}
theorem Weak.irr (w : Weak lt) (x : α) : lt x x = false := by
  cases h : lt x x with
  | false => rfl
  | true => have := w.asymm x x h; rw [h] at this; exact this
theorem Weak.eqv_self (w : Weak lt) (x : α) : eqv lt x x = true := by simp [eqv, w.irr]
theorem Weak.eqv_comm {x y : α} : eqv lt x y = eqv lt y x := by simp [eqv, Bool.and_comm]
theorem Weak.trans (w : Weak lt) {x y z : α} (h1 : lt x y = true) (h2 : lt y z = true) : lt x z = true := by
  cases h : lt x z with
  | true => rfl
  | false =>
    have := w.neg x z y h (w.asymm _ _ h2)
    rw [h1] at this; cases this
/-- x < y, y ≤ z: x < z. -/
theorem Weak.lt_le (w : Weak lt) {x y z : α} (h1 : lt x y = true) (h2 : lt z y = false) : lt x z = true := by
  cases h : lt x z with
  | true => rfl
  | false => have := w.neg x z y h h2; rw [h1] at this; cases this
theorem Weak.le_lt (w : Weak lt) {x y z : α} (h1 : lt y x = false) (h2 : lt y z = true) : lt x z = true := by
  cases h : lt x z with
  | true => rfl
  | false => have := w.neg y x z h1 h; rw [h2] at this; cases this

/-- Two sorted lists with the same classes are one. -/
theorem Stable.unique_aux (w : Weak lt) : ∀ {r s : List α}, Sorted lt r → Sorted lt s → (∀ c, r.filter (eqv lt c) = s.filter (eqv lt c)) → r = s
  | [], [], _, _, _ => rfl
  | [], y :: s, _, _, h => by have := h y; simp [w.eqv_self] at this
  | x :: r, [], _, _, h => by have := h x; simp [w.eqv_self] at this
  | x :: r, y :: s, hr, hs, h => by
    have hx : x ∈ y :: s := by
      have h1 : x ∈ (x :: r).filter (eqv lt x) := by simp [w.eqv_self]
      rw [h x] at h1
      exact (List.mem_filter.1 h1).1
    have hy : y ∈ x :: r := by
      have h1 : y ∈ (y :: s).filter (eqv lt y) := by simp [w.eqv_self]
      rw [← h y] at h1
      exact (List.mem_filter.1 h1).1
    have a1 : lt y x = false := by
      rcases List.mem_cons.1 hy with e | e
      · rw [e]; exact w.irr _
      · exact (List.pairwise_cons.1 hr).1 y e
    have a2 : lt x y = false := by
      rcases List.mem_cons.1 hx with e | e
      · rw [e]; exact w.irr _
      · exact (List.pairwise_cons.1 hs).1 x e
    have e : eqv lt x y = true := by simp [eqv, a1, a2]
    have hxy : x = y := by
      have h1 := h x
      rw [List.filter_cons_of_pos (w.eqv_self x), List.filter_cons_of_pos e] at h1
      exact (List.cons.inj h1).1
    subst hxy
    rw [Stable.unique_aux w (List.pairwise_cons.1 hr).2 (List.pairwise_cons.1 hs).2 (fun c => ?_)]
    have h1 := h c
    rw [List.filter_cons, List.filter_cons] at h1
    split at h1
    · exact (List.cons.inj h1).2
    · exact h1
theorem Stable.unique (w : Weak lt) {l r s : List α} (hr : Stable lt l r) (hs : Stable lt l s) : r = s :=
  Stable.unique_aux w hr.sorted hs.sorted (fun c => (hr.filt c).trans (hs.filt c).symm)
theorem Stable.refl {l : List α} (h : Sorted lt l) : Stable lt l l := ⟨List.Perm.refl _, h, fun _ => rfl⟩

/-! ### merging, as the program does: b's head, if it is less; else a's -/
variable (lt)
def mrg : List α → List α → List α
  | [], b => b
  | x :: a, [] => x :: a
  | x :: a, y :: b => if lt y x = true then y :: mrg (x :: a) b else x :: mrg a (y :: b)
termination_by a b => a.length + b.length
variable {lt}
theorem mrg_nil (b : List α) : mrg lt [] b = b := by rw [mrg]
theorem mrg_nil' (a : List α) : mrg lt a [] = a := by cases a <;> rw [mrg]
theorem mrg_perm (a b : List α) : (mrg lt a b).Perm (a ++ b) := by
  induction a, b using mrg.induct lt with
  | case1 b => rw [mrg_nil]; simp
  | case2 x a => rw [mrg_nil']; simp
  | case3 x a y b h ih =>
    rw [mrg, if_pos h]
    exact ((ih.cons y).trans (List.perm_middle (l₁ := x :: a)).symm)
  | case4 x a y b h ih =>
    rw [mrg, if_neg h]
    exact ih.cons x
theorem mrg_sorted (w : Weak lt) (a b : List α) (ha : Sorted lt a) (hb : Sorted lt b) : Sorted lt (mrg lt a b) := by
  induction a, b using mrg.induct lt with
  | case1 b => rw [mrg_nil]; exact hb
  | case2 x a => rw [mrg_nil']; exact ha
  | case3 x a y b h ih =>
    rw [mrg, if_pos h]
    obtain ⟨hb1, hb2⟩ := List.pairwise_cons.1 hb
    obtain ⟨ha1, ha2⟩ := List.pairwise_cons.1 ha
    refine List.pairwise_cons.2 ⟨fun z hz => ?_, ih ha hb2⟩
    rcases List.mem_append.1 ((mrg_perm _ _).mem_iff.1 hz) with e | e
    · rcases List.mem_cons.1 e with e | e
      · rw [e]; exact w.asymm _ _ h
      · exact w.neg _ x _ (ha1 z e) (w.asymm _ _ h)
    · exact hb1 z e
  | case4 x a y b h ih =>
    rw [mrg, if_neg h]
    obtain ⟨hb1, hb2⟩ := List.pairwise_cons.1 hb
    obtain ⟨ha1, ha2⟩ := List.pairwise_cons.1 ha
    have h' : lt y x = false := by simpa using h
    refine List.pairwise_cons.2 ⟨fun z hz => ?_, ih ha2 hb⟩
    rcases List.mem_append.1 ((mrg_perm _ _).mem_iff.1 hz) with e | e
    · exact ha1 z e
    · rcases List.mem_cons.1 e with e | e
      · rw [e]; exact h'
      · exact w.neg _ y _ (hb1 z e) h'
theorem mrg_filter (w : Weak lt) (a b : List α) (ha : Sorted lt a) (c : α) : (mrg lt a b).filter (eqv lt c) = a.filter (eqv lt c) ++ b.filter (eqv lt c) := by
  induction a, b using mrg.induct lt with
  | case1 b => rw [mrg_nil]; simp
  | case2 x a => rw [mrg_nil']; simp
  | case3 x a y b h ih =>
    rw [mrg, if_pos h, List.filter_cons (x := y) (xs := b), List.filter_cons (x := y)]
    by_cases e : eqv lt c y = true
    · rw [if_pos e, if_pos e, ih ha]
      have hn : (x :: a).filter (eqv lt c) = [] := by
        rw [List.filter_eq_nil_iff]
        intro z hz hcz
        obtain ⟨ha1, _⟩ := List.pairwise_cons.1 ha
        have hyz : lt y z = true := by
          rcases List.mem_cons.1 hz with q | q
          · rw [q]; exact h
          · exact w.lt_le h (ha1 z q)
        simp only [eqv, Bool.and_eq_true, Bool.not_eq_true'] at e hcz
        have := w.le_lt e.2 hyz
        rw [hcz.1] at this
        cases this
      rw [hn]; rfl
    · rw [if_neg e, if_neg e, ih ha]
  | case4 x a y b h ih =>
    obtain ⟨_, ha2⟩ := List.pairwise_cons.1 ha
    rw [mrg, if_neg h, List.filter_cons (x := x) (xs := a), List.filter_cons (x := x)]
    by_cases e : eqv lt c x = true
    · rw [if_pos e, if_pos e, ih ha2]; rfl
    · rw [if_neg e, if_neg e, ih ha2]
theorem mrg_stable (w : Weak lt) {la lb a b : List α} (ha : Stable lt la a) (hb : Stable lt lb b) : Stable lt (la ++ lb) (mrg lt a b) :=
  ⟨(mrg_perm a b).trans (ha.perm.append hb.perm), mrg_sorted w a b ha.sorted hb.sorted, fun c => by rw [mrg_filter w a b ha.sorted, List.filter_append, ha.filt, hb.filt]⟩
theorem mrg_length (a b : List α) : (mrg lt a b).length = a.length + b.length := by rw [(mrg_perm a b).length_eq, List.length_append]

/-! ### sorting by halves -/
variable (lt)
def srt : Nat → List α → List α
  | 0, l => l
  | n + 1, l => if l.length < 2 then l else mrg lt (srt n (l.take (l.length / 2))) (srt n (l.drop (l.length / 2)))
variable {lt}
theorem srt_perm : ∀ (n : Nat) (l : List α), (srt lt n l).Perm l
  | 0, l => List.Perm.refl _
  | n + 1, l => by
    rw [srt]
    split
    · exact List.Perm.refl _
    · have := (mrg_perm (lt := lt) (srt lt n (l.take (l.length / 2))) (srt lt n (l.drop (l.length / 2)))).trans ((srt_perm n _).append (srt_perm n _))
      rwa [List.take_append_drop] at this
theorem sorted_short {l : List α} (h : l.length < 2) : Sorted lt l := by
  match l, h with
  | [], _ => exact List.Pairwise.nil
  | [x], _ => exact List.pairwise_singleton _ _
theorem srt_stable (w : Weak lt) : ∀ (n : Nat) (l : List α), l.length ≤ n → Stable lt l (srt lt n l)
  | 0, l, h => by rw [srt]; exact Stable.refl (sorted_short (by omega))
  | n + 1, l, h => by
    rw [srt]
    split
    · exact Stable.refl (sorted_short (by assumption))
    · have := mrg_stable w (srt_stable w n (l.take (l.length / 2)) (by rw [List.length_take]; omega)) (srt_stable w n (l.drop (l.length / 2)) (by rw [List.length_drop]; omega))
      rwa [List.take_append_drop] at this
theorem srt_length (n : Nat) (l : List α) : (srt lt n l).length = l.length := (srt_perm n l).length_eq

/-! ### laying in one by one -/
variable (lt)
/-- x, behind all that are not greater. -/
def lay (x : α) : List α → List α
  | [] => [x]
  | y :: l => if lt x y = true then x :: y :: l else y :: lay x l
variable {lt}
theorem lay_perm (x : α) : ∀ l, (lay lt x l).Perm (x :: l)
  | [] => List.Perm.refl _
  | y :: l => by
    rw [lay]
    split
    · exact List.Perm.refl _
    · exact ((lay_perm x l).cons y).trans (List.Perm.swap x y l)
theorem lay_eq (w : Weak lt) (x : α) : ∀ l, Sorted lt l → lay lt x l = mrg lt l [x]
  | [], _ => by rw [lay, mrg_nil]
  | y :: l, h => by
    rw [lay, mrg]
    split
    · rw [mrg_nil']
    · rw [lay_eq w x l (List.pairwise_cons.1 h).2]
theorem lay_stable (w : Weak lt) {l r : List α} (h : Stable lt l r) (x : α) : Stable lt (l ++ [x]) (lay lt x r) := by
  rw [lay_eq w x r h.sorted]
  exact mrg_stable w h (Stable.refl (List.pairwise_singleton _ _))
end
end PL
