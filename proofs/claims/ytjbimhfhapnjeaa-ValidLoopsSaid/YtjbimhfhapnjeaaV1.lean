/- Places in their order; the first two that are alike. -/
import Derived.Test.YtjbimhfhapnjeaaF1
import Derived.Test.YtjbimhfhapnjeaaV0
set_option linter.unusedVariables false
set_option linter.unusedSimpArgs false
namespace Go.Proofs.Ytjbimhfhapnjeaa.Pure
open Go.RowKit Go.Proofs.Ytjbimhfhapnjeaa.AM PL

/-! ### the first pair -/
theorem row_spec (f : Nat → Nat → Bool) {n a : Nat} : ∀ (d b : Nat), n - b = d → b ≤ n → (row f n a b = none → ∀ k, b ≤ k → k < n → f a k = false) ∧ (∀ k, row f n a b = some k → b ≤ k ∧ k < n ∧ f a k = true ∧ ∀ k', b ≤ k' → k' < n → f a k' = true → k ≤ k')
  | 0, b, hd, hb => by
    obtain rfl : b = n := by omega
    rw [row_end]
    exact ⟨fun _ k h1 h2 => (by omega), fun k h => (by cases h)⟩
  | d + 1, b, hd, hb => by
    obtain ⟨h1, h2⟩ := row_spec f (n := n) (a := a) d (b + 1) (by omega) (by omega)
    rw [row_step f (show b < n by omega)]
    cases hf : f a b with
    | true =>
      simp only [if_true]
      refine ⟨fun h => (by cases h), fun k h => ?_⟩
      obtain rfl : b = k := by injection h
      exact ⟨Nat.le_refl _, by omega, hf, fun k' h _ _ => h⟩
    | false =>
      simp only [Bool.false_eq_true, if_false]
      refine ⟨fun h k hk hn => ?_, fun k h => ?_⟩
      · by_cases e : k = b
        · rw [e]; exact hf
        · exact h1 h k (by omega) hn
      · obtain ⟨g1, g2, g3, g4⟩ := h2 k h
        refine ⟨by omega, g2, g3, fun k' hk hn hf' => ?_⟩
        by_cases e : k' = b
        · rw [e, hf] at hf'; cases hf'
        · exact g4 k' (by omega) hn hf'
theorem srch_spec (f : Nat → Nat → Bool) {n : Nat} : ∀ (d a : Nat), n - a = d → a ≤ n → (srch f n a = none → ∀ i k, a ≤ i → i < k → k < n → f i k = false) ∧
    (∀ i k, srch f n a = some (i, k) → a ≤ i ∧ i < k ∧ k < n ∧ f i k = true ∧ (∀ i' k', a ≤ i' → i' < k' → k' < n → f i' k' = true → i ≤ i') ∧ ∀ k', i < k' → k' < n → f i k' = true → k ≤ k')
  | 0, a, hd, ha => by
    obtain rfl : a = n := by omega
    rw [srch_end]
    exact ⟨fun _ i k h1 h2 h3 => (by omega), fun i k h => (by cases h)⟩
  | d + 1, a, hd, ha => by
    obtain ⟨h1, h2⟩ := srch_spec f (n := n) d (a + 1) (by omega) (by omega)
    obtain ⟨r1, r2⟩ := row_spec f (n := n) (a := a) _ (a + 1) rfl (by omega)
    rw [srch_step f (show a < n by omega)]
    cases hr : row f n a (a + 1) with
    | some b =>
      obtain ⟨g1, g2, g3, g4⟩ := r2 b hr
      refine ⟨fun h => (by cases h), fun i k h => ?_⟩
      simp only [Option.some.injEq, Prod.mk.injEq] at h
      obtain ⟨rfl, rfl⟩ := h
      exact ⟨Nat.le_refl _, by omega, g2, g3, fun i' k' h _ _ _ => h, fun k' h1 h2 h3 => g4 k' (by omega) h2 h3⟩
    | none =>
      have hno := r1 hr
      refine ⟨fun h i k hi hk hn => ?_, fun i k h => ?_⟩
      · by_cases e : i = a
        · rw [e]; exact hno k (by omega) hn
        · exact h1 h i k (by omega) hk hn
      · obtain ⟨g1, g2, g3, g4, g5, g6⟩ := h2 i k h
        refine ⟨by omega, g2, g3, g4, fun i' k' hi hk hn hf => ?_, g6⟩
        by_cases e : i' = a
        · rw [e, hno k' (by omega) hn] at hf; cases hf
        · exact g5 i' k' (by omega) hk hn hf

/-! ### places -/
def ltP (a b : Pt) : Bool := decide (a.1 < b.1) || (decide (a.1 = b.1) && decide (a.2 < b.2))
theorem less_f (k : Nat) (a b : Pt) : g_sorts_Less k a b = some (ltP a b) := by
  unfold g_sorts_Less ltP
  simp only [meet]
  by_cases h : a.1 < b.1
  · rw [bif_T h, decide_eq_true h]; rfl
  · rw [bif_F h, decide_eq_false h]
    by_cases h' : a.1 = b.1
    · rw [bif_T h', decide_eq_true h']; rfl
    · rw [bif_F h', decide_eq_false h']; rfl
theorem weakP : Weak ltP where
  asymm := by intro x y h; simp [ltP] at h ⊢; omega
  neg := by intro x y z h1 h2; simp [ltP] at h1 h2 ⊢; omega
theorem eqvP {a b : Pt} : eqv ltP a b = true ↔ a = b := by
  obtain ⟨a1, a2⟩ := a
  obtain ⟨b1, b2⟩ := b
  simp [eqv, ltP]; omega
def ltI (p : List Pt) (i j : Int) : Bool := ltP (pt p i) (pt p j)
theorem weakI (p : List Pt) : Weak (ltI p) := ⟨fun _ _ h => weakP.asymm _ _ h, fun _ _ _ h1 h2 => weakP.neg _ _ _ h1 h2⟩
def idx (n : Nat) : List Int := (List.range n).map Int.ofNat
theorem mem_idx {n : Nat} {i : Int} : i ∈ idx n ↔ 0 ≤ i ∧ i < n := by
  simp only [idx, List.mem_map, List.mem_range]
  constructor
  · rintro ⟨j, hj, rfl⟩; simp only [Int.ofNat_eq_natCast]; omega
  · rintro ⟨h0, h1⟩; exact ⟨i.toNat, by omega, by simp only [Int.ofNat_eq_natCast]; omega⟩
theorem idx_length (n : Nat) : (idx n).length = n := by simp [idx]
theorem idx_succ (n : Nat) : idx (n + 1) = idx n ++ [(n : Int)] := by simp [idx, List.range_succ]
def ord (p : List Pt) : List Int := srt (ltI p) p.length (idx p.length)
theorem ord_stable (p : List Pt) : Stable (ltI p) (idx p.length) (ord p) := srt_stable (weakI p) _ _ (by rw [idx_length]; exact Nat.le_refl _)
theorem mem_ord {p : List Pt} {i : Int} : i ∈ ord p ↔ 0 ≤ i ∧ i < p.length := (ord_stable p).perm.mem_iff.trans mem_idx
theorem ord_length (p : List Pt) : (ord p).length = p.length := by rw [(ord_stable p).perm.length_eq, idx_length]
theorem ord_nodup (p : List Pt) : (ord p).Nodup := by
  refine (ord_stable p).perm.symm.nodup ?_
  unfold idx
  refine List.Pairwise.map _ (fun a b h => ?_) List.nodup_range
  simp only [Int.ofNat_eq_natCast]; omega
theorem ord_le (p : List Pt) {s t : Nat} (h : s < t) (ht : t < (ord p).length) : ltP (pt p ((ord p)[t])) (pt p ((ord p)[s]'(by omega))) = false :=
  List.pairwise_iff_getElem.1 (ord_stable p).sorted s t (by omega) ht h
theorem ord_eq (p : List Pt) {s t : Nat} (h : s < t) (ht : t < (ord p).length) (e : pt p ((ord p)[s]'(by omega)) = pt p ((ord p)[t])) : (ord p)[s]'(by omega) < (ord p)[t] := by
  have hf := (ord_stable p).filt ((ord p)[s]'(by omega))
  have hp : (idx p.length).Pairwise (fun a b => a < b) := by
    unfold idx
    refine List.Pairwise.map _ (fun a b h => ?_) List.pairwise_lt_range
    simp only [Int.ofNat_eq_natCast]; omega
  have h1 := hp.filter (eqv (ltI p) ((ord p)[s]'(by omega)))
  rw [← hf, List.pairwise_filter] at h1
  refine List.pairwise_iff_getElem.1 h1 s t (by omega) ht h ?_ ?_
  · exact (weakI p).eqv_self _
  · have := eqvP.2 e
    exact this
theorem ord_has (p : List Pt) (i : Int) (h0 : 0 ≤ i) (h1 : i < p.length) : ∃ s, ∃ h : s < (ord p).length, (ord p)[s] = i :=
  List.mem_iff_getElem.1 (mem_ord.2 ⟨h0, h1⟩)
theorem ord_in (p : List Pt) {s : Nat} (h : s < (ord p).length) : 0 ≤ (ord p)[s] ∧ (ord p)[s] < p.length := mem_ord.1 (List.getElem_mem _)

/-! ### the program's order -/
theorem order1_f (k : Nat) (p : List Pt) (i j : Int) (hi : inr i p.length) (hj : inr j p.length) : g_sorts_Order_1 k i j p = some (ltI p i j) := by
  unfold g_sorts_Order_1 b_sorts_Order_1
  rw [inb_r hi, gT, inb_r hj, gT]
  simp only [etaP, less_f, bnd_s]
  rfl
theorem few_t {n : Nat} (h : n < 4294967296) : few n = true := decide_eq_true h
theorem merge_f (m : Nat) (p : List Pt) (a b : List Int) (ha : ∀ i ∈ a, inr i p.length) (hb : ∀ i ∈ b, inr i p.length) (hl : a.length + b.length ≤ 350) : g_sorts_Merge_int (m + 400) a b ((), p) = some (mrg (ltI p) a b) := by
  unfold g_sorts_Merge_int b_sorts_Merge_int
  refine loop_rel (fun n s v => ∃ a b out : List Int, n = a.length + b.length ∧ s = (a, b, ((), p), out) ∧ (∀ i ∈ a, inr i p.length) ∧ (∀ i ∈ b, inr i p.length) ∧ out.length + a.length + b.length ≤ 350 ∧ v = some (out ++ mrg (ltI p) a b)) ?_ (m + 400) (a.length + b.length) _ _ ⟨a, b, [], rfl, rfl, ha, hb, by simpa using hl, rfl⟩ (by omega)
  rintro n s v ⟨a, b, out, rfl, rfl, ha, hb, hl, rfl⟩ next hn
  simp only [meet]
  cases a with
  | nil =>
    rw [bif_F (by simp), cF, gd_t (few_t (by simp at hl ⊢ <;> omega)), gd_t (few_t (by simp at hl ⊢ <;> omega)), mrg_nil]
    simp
  | cons x a =>
    rw [bif_T (by simp <;> omega)]
    cases b with
    | nil =>
      rw [decide_eq_false (show ¬ ((([] : List Int).length : Int) > 0) by simp), cF, gd_t (few_t (by simp at hl ⊢ <;> omega)), gd_t (few_t (by simp at hl ⊢ <;> omega)), mrg_nil']
      simp
    | cons y b =>
      rw [decide_eq_true (show (((y :: b).length : Nat) : Int) > 0 by simp <;> omega), cT]
      have hx := ha x List.mem_cons_self
      have hy := hb y List.mem_cons_self
      rw [gd_t (inb_t (by simp <;> omega)), gd_t (inb_t (by simp <;> omega))]
      have ex : rdD 0 (x :: a) 0 = x := rfl
      have ey : rdD 0 (y :: b) 0 = y := rfl
      rw [ex, ey, order1_f _ p y x hy hx, bnd_s, mrg]
      cases h : ltI p y x with
      | true =>
        rw [cT, gd_t (inb_t (by simp <;> omega)), gd_t (few_t (by simp at hl ⊢ <;> omega)), gd_t (decide_eq_true (by simp <;> omega))]
        simp only [if_true]
        exact hn _ _ _ (by simp) ⟨x :: a, b, out ++ [y], rfl, rfl, ha, fun i hi => hb i (List.mem_cons_of_mem _ hi), by simp at hl ⊢ <;> omega, by simp⟩
      | false =>
        rw [cF, gd_t (inb_t (by simp <;> omega)), gd_t (few_t (by simp at hl ⊢ <;> omega)), gd_t (decide_eq_true (by simp <;> omega))]
        simp only [Bool.false_eq_true, if_false]
        exact hn _ _ _ (by simp <;> omega) ⟨a, y :: b, out ++ [x], rfl, rfl, fun i hi => ha i (List.mem_cons_of_mem _ hi), hb, by simp at hl ⊢ <;> omega, by simp⟩
theorem sort_r (m : Nat) (p : List Pt) : ∀ (n : Nat) (l : List Int), l.length ≤ n → l.length ≤ 350 → (∀ i ∈ l, inr i p.length) → r_sorts_Sort_int (m + 400) (n + 1) l ((), p) = some (srt (ltI p) n l) := by
  intro n
  induction n with
  | zero =>
    intro l hn hl hi
    show b_sorts_Sort_int (m + 400) (r_sorts_Sort_int (m + 400) 0) (g_sorts_Merge_int (m + 400)) l ((), p) = _
    unfold b_sorts_Sort_int
    rw [bif_T (by omega), gd_t (few_t (by omega))]
    rfl
  | succ n ih =>
    intro l hn hl hi
    show b_sorts_Sort_int (m + 400) (r_sorts_Sort_int (m + 400) (n + 1)) (g_sorts_Merge_int (m + 400)) l ((), p) = _
    unfold b_sorts_Sort_int
    by_cases h : l.length < 2
    · rw [bif_T (by omega), gd_t (few_t (by omega)), srt, if_pos h]
    · have ht : (l.length : Int).tdiv 2 = ((l.length / 2 : Nat) : Int) := by
        rw [Int.tdiv_eq_ediv_of_nonneg (by omega)]; omega
      rw [bif_F (by omega), srt, if_neg h, ht, w64_id (by omega) (by omega), gd_t (decide_eq_true (by omega)), gd_t (decide_eq_true (by omega))]
      have e1 : tkL l ((l.length / 2 : Nat) : Int) = l.take (l.length / 2) := by unfold tkL; rw [Int.toNat_natCast]
      have e2 : dpL l ((l.length / 2 : Nat) : Int) = l.drop (l.length / 2) := by unfold dpL; rw [Int.toNat_natCast]
      simp only [e1, e2]
      have hit : ∀ i ∈ l.take (l.length / 2), inr i p.length := fun i h => hi i (List.mem_of_mem_take h)
      have hid : ∀ i ∈ l.drop (l.length / 2), inr i p.length := fun i h => hi i (List.mem_of_mem_drop h)
      rw [ih _ (by rw [List.length_take]; omega) (by rw [List.length_take]; omega) hit, bnd_s, gd_t (decide_eq_true (by omega)), gd_t (decide_eq_true (by omega)), ih _ (by rw [List.length_drop]; omega) (by rw [List.length_drop]; omega) hid, bnd_s]
      rw [merge_f m p _ _ (fun i h => hit i ((srt_perm _ _).mem_iff.1 h)) (fun i h => hid i ((srt_perm _ _).mem_iff.1 h)) (by rw [srt_length, srt_length, List.length_take, List.length_drop]; omega), bnd_s]
theorem order_f (m : Nat) (p : List Pt) (hl : p.length ≤ 350) : g_sorts_Order (m + 400) p = some (ord p) := by
  unfold g_sorts_Order b_sorts_Order
  refine loop_list (fun i => (p, idx i, (p.length : Int), (i : Int))) p.length (fun _ => some (ord p)) ?_ ?_ (m + 400) 0 (Nat.zero_le _) (by omega)
  · intro next
    dsimp only
    rw [bif_F (by omega)]
    have : g_sorts_Sort_int (m + 400) (idx p.length) ((), p) = some (srt (ltI p) (m + 399) (idx p.length)) := sort_r m p (m + 399) (idx p.length) (by rw [idx_length]; omega) (by rw [idx_length]; omega) (fun i hi => mem_idx.1 hi)
    rw [this, bnd_s]
    congr 1
    exact Stable.unique (weakI p) (srt_stable (weakI p) _ _ (by rw [idx_length]; omega)) (ord_stable p)
  · intro i hi next hn
    dsimp only at hn ⊢
    rw [bif_T (by omega), gd_t (few_t (by rw [idx_length]; omega)), w64_id (by omega) (by omega), ← idx_succ]
    exact hn

/-! ### the first two that are alike -/
def alk (p : List Pt) (i k : Nat) : Bool := decide (pt p (i : Int) = pt p (k : Int))
def Eqs (p : List Pt) (i j : Nat) : Prop := i < j ∧ j < p.length ∧ pt p (i : Int) = pt p (j : Int)
theorem ord_next (p : List Pt) {i j : Nat} (h : Eqs p i j) : ∃ t : Nat, ∃ ht : t + 1 < (ord p).length, (ord p)[t] = (i : Int) ∧ pt p ((ord p)[t + 1]) = pt p (i : Int) ∧ (ord p)[t + 1] ≤ (j : Int) := by
  obtain ⟨hij, hj, he⟩ := h
  obtain ⟨s, hs, es⟩ := ord_has p (i : Int) (by omega) (by omega)
  obtain ⟨t, ht, et⟩ := ord_has p (j : Int) (by omega) (by omega)
  have hst : s < t := by
    rcases Nat.lt_trichotomy s t with h | h | h
    · exact h
    · subst h; omega
    · have := ord_eq p h hs (by rw [et, es]; exact he.symm)
      omega
  refine ⟨s, by omega, es, ?_, ?_⟩
  · by_cases e : s + 1 = t
    · subst e; rw [et]; exact he.symm
    · have h1 := ord_le p (s := s) (t := s + 1) (by omega) (by omega)
      have h2 := ord_le p (s := s + 1) (t := t) (by omega) ht
      rw [es] at h1
      rw [et, ← he] at h2
      exact (eqvP.1 (by simp [eqv, h1, h2]))
  · by_cases e : s + 1 = t
    · subst e; rw [et]; exact Int.le_refl _
    · have h1 := ord_le p (s := s) (t := s + 1) (by omega) (by omega)
      have h2 := ord_le p (s := s + 1) (t := t) (by omega) ht
      rw [es] at h1
      rw [et, ← he] at h2
      have h3 : pt p ((ord p)[s + 1]) = pt p (i : Int) := eqvP.1 (by simp [eqv, h1, h2])
      have := ord_eq p (s := s + 1) (t := t) (by omega) ht (by rw [et, h3]; exact he)
      rw [et] at this
      omega
def TwTo (p : List Pt) (n : Nat) (r : Int × Int × Bool) : Prop :=
  (r = (0, 0, false) ∧ ∀ t, ∀ _ : t + 1 < (ord p).length, t + 1 < n → pt p ((ord p)[t + 1]) ≠ pt p ((ord p)[t])) ∨
  ∃ t, ∃ _ : t + 1 < (ord p).length, t + 1 < n ∧ r = ((ord p)[t], (ord p)[t + 1], true) ∧ pt p ((ord p)[t + 1]) = pt p ((ord p)[t]) ∧ ∀ u, ∀ _ : u + 1 < (ord p).length, u + 1 < n → pt p ((ord p)[u + 1]) = pt p ((ord p)[u]) → (ord p)[t] ≤ (ord p)[u]
theorem TwTo.is {p : List Pt} {n : Nat} {r : Int × Int × Bool} (hn : (ord p).length ≤ n) (h : TwTo p n r) : r = resv (srch (alk p) p.length 0) := by
  obtain ⟨s1, s2⟩ := srch_spec (alk p) (n := p.length) _ 0 rfl (Nat.zero_le _)
  rcases h with ⟨rfl, h⟩ | ⟨t, ht, _, rfl, he, h⟩
  · cases hs : srch (alk p) p.length 0 with
    | none => rfl
    | some q =>
      obtain ⟨i, j⟩ := q
      obtain ⟨_, h1, h2, h3, _⟩ := s2 i j hs
      obtain ⟨t, ht, e1, e2, _⟩ := ord_next p (i := i) (j := j) ⟨h1, h2, of_decide_eq_true h3⟩
      exact absurd (by rw [e2, e1]) (h t ht (by omega))
  · have b1 := ord_in p (s := t) (by omega)
    have b2 := ord_in p ht
    have hlt := ord_eq p (s := t) (t := t + 1) (by omega) ht he.symm
    obtain ⟨i, hi⟩ := Int.eq_ofNat_of_zero_le b1.1
    obtain ⟨j, hj⟩ := Int.eq_ofNat_of_zero_le b2.1
    have hij : Eqs p i j := ⟨by omega, by omega, by rw [← hi, ← hj]; exact he.symm⟩
    cases hs : srch (alk p) p.length 0 with
    | none =>
      have := s1 hs i j (Nat.zero_le _) hij.1 hij.2.1
      rw [show alk p i j = true from decide_eq_true hij.2.2] at this
      cases this
    | some q =>
      obtain ⟨i', j'⟩ := q
      obtain ⟨_, h1, h2, h3, h4, h5⟩ := s2 i' j' hs
      have m1 := h4 i j (Nat.zero_le _) hij.1 hij.2.1 (decide_eq_true hij.2.2)
      obtain ⟨u, hu, e1, e2, e3⟩ := ord_next p (i := i') (j := j') ⟨h1, h2, of_decide_eq_true h3⟩
      have m2 := h u hu (by omega) (by rw [e2, e1])
      have ei : i' = i := by omega
      subst ei
      have hut : u = t := (List.getElem_inj (ord_nodup p)).1 (by rw [e1, hi])
      subst hut
      have m3 := h5 j hij.1 hij.2.1 (decide_eq_true hij.2.2)
      have ej : j' = j := by omega
      subst ej
      simp only [resv, hi, hj]
theorem twice_f (m : Nat) (p : List Pt) (hl : p.length ≤ 350) : g_sorts_Twice (m + 400) p = some (resv (srch (alk p) p.length 0)) := by
  unfold g_sorts_Twice b_sorts_Twice
  rw [order_f m p hl, bnd_s]
  have hL := ord_length p
  refine loop_rel (fun c s v => ∃ (n : Nat) (r : Int × Int × Bool), 1 ≤ n ∧ n ≤ p.length + 1 ∧ c = p.length + 1 - n ∧ s = (p, r.1, r.2.1, r.2.2, ord p, (n : Int)) ∧ TwTo p n r ∧ v = some (resv (srch (alk p) p.length 0))) ?_ (m + 400) p.length _ _ ⟨1, (0, 0, false), by omega, by omega, by omega, rfl, .inl ⟨rfl, fun t _ h => by omega⟩, rfl⟩ (by omega)
  rintro c s v ⟨n, r, h1, hn1, rfl, rfl, hT, rfl⟩ next hn
  simp only [meet]
  by_cases hlt : n < p.length
  · obtain ⟨q, rfl⟩ : ∃ q, n = q + 1 := ⟨n - 1, by omega⟩
    have b1 := ord_in p (s := q) (by omega)
    have b2 := ord_in p (s := q + 1) (by omega)
    have w1 : w64 (((q + 1 : Nat) : Int) - 1) = (q : Int) := by rw [w64_id (by omega) (by omega)]; omega
    have w2 : w64 (((q + 1 : Nat) : Int) + 1) = ((q + 1 + 1 : Nat) : Int) := by rw [w64_id (by omega) (by omega)]; omega
    rw [bif_T (by omega), w1, w2, gd_t (inb_t ⟨by omega, by omega⟩), gd_t (inb_t ⟨by omega, by omega⟩), rd_get 0 (ord p) q (by omega), rd_get 0 (ord p) (q + 1) (by omega), gd_t (inb_t ⟨b1.1, b1.2⟩), gd_t (inb_t ⟨b2.1, b2.2⟩), eqP]
    have up : ∀ r', TwTo p (q + 1 + 1) r' → next (p, r'.1, r'.2.1, r'.2.2, ord p, ((q + 1 + 1 : Nat) : Int)) = some (resv (srch (alk p) p.length 0)) := fun r' h => hn (p.length + 1 - (q + 1 + 1)) _ _ (by omega) ⟨q + 1 + 1, r', by omega, by omega, rfl, rfl, h, rfl⟩
    by_cases he : pt p ((ord p)[q]'(by omega)) = pt p ((ord p)[q + 1]'(by omega))
    · rw [bif_T (show rdD (0, 0) p ((ord p)[q]'(by omega)) = rdD (0, 0) p ((ord p)[q + 1]'(by omega)) from he)]
      rcases hT with ⟨rfl, hno⟩ | ⟨t, ht, htn, rfl, hte, hmin⟩
      · refine up ((ord p)[q], (ord p)[q + 1], true) (.inr ⟨q, by omega, by omega, rfl, he.symm, fun u hu hum hue => ?_⟩)
        by_cases e : u = q
        · subst e; exact Int.le_refl _
        · exact absurd hue (hno u hu (by omega))
      · simp only [Bool.not_true, cF]
        by_cases hl' : (ord p)[q]'(by omega) < (ord p)[t]
        · rw [decide_eq_true hl', cT]
          refine up ((ord p)[q], (ord p)[q + 1], true) (.inr ⟨q, by omega, by omega, rfl, he.symm, fun u hu hum hue => ?_⟩)
          by_cases e : u = q
          · subst e; exact Int.le_refl _
          · have := hmin u hu (by omega) hue
            omega
        · rw [decide_eq_false hl', cF]
          refine up ((ord p)[t], (ord p)[t + 1], true) (.inr ⟨t, ht, by omega, rfl, hte, fun u hu hum hue => ?_⟩)
          by_cases e : u = q
          · subst e; omega
          · exact hmin u hu (by omega) hue
    · rw [bif_F (show ¬ rdD (0, 0) p ((ord p)[q]'(by omega)) = rdD (0, 0) p ((ord p)[q + 1]'(by omega)) from he), cF]
      refine up r ?_
      rcases hT with ⟨h, hno⟩ | ⟨t, ht, htn, hr, hte, hmin⟩
      · refine .inl ⟨h, fun u hu hum hue => ?_⟩
        by_cases e : u = q
        · subst e; exact he hue.symm
        · exact hno u hu (by omega) hue
      · refine .inr ⟨t, ht, by omega, hr, hte, fun u hu hum hue => ?_⟩
        by_cases e : u = q
        · subst e; exact absurd hue.symm he
        · exact hmin u hu (by omega) hue
  · rw [bif_F (by omega), ← hT.is (by omega)]
end Go.Proofs.Ytjbimhfhapnjeaa.Pure
