/- The sorting functions' plain forms: what the printed functions come to, from some number of rounds on. -/
import Derived.Test.YtfmeicojiadeiaaPx6
import Derived.Test.YtfmeicojiadeiaaE
set_option linter.unusedSimpArgs false
namespace Go.Proofs.Ytfmeicojiadeiaa.Pure
open PL Go.RowKit Go.Proofs.YtfmeicojiadeiaaW.PrintWords Go.Proofs.YtfmeicojiadeiaaW.PrintLast Go.Proofs.YtfmeicojiadeiaaW.PrintMore Go.Proofs.Ytfmeicojiadeiaa.P

theorem wrap_id {x : Int} (h0 : -9223372036854775808 ≤ x) (h1 : x ≤ 9223372036854775807) : wrap64 x = x := by unfold wrap64; omega

/-! ### Merge and Sort of whole numbers -/
theorem merge_int_ev (f : Int → Int → Option Bool) (lt : Int → Int → Bool) (a b : List Int) : ∀ out : List Int, (∀ x ∈ a, ∀ y ∈ b, f y x = some (lt y x)) → out.length + a.length + b.length < 17592186044416 →
    Evn (fun k => sorts_Merge_int.l0 k a b f out) (out ++ mrg lt a b) := by
  induction a, b using mrg.induct lt with
  | case1 b =>
    intro out _ hl
    simp only [List.length_nil] at hl
    refine Evn.step ?_; simp only [sorts_Merge_int.l0]
    refine Evn.neg (by simp) ?_
    refine Evn.step ?_; simp only [sorts_Merge_int.j1]
    refine Evn.neg (by simp) (Evn.pos (by first | (simp; done) | (simp; omega)) (Evn.bind (Evn.ret _) (Evn.pos (by first | (simp; done) | (simp; omega)) ?_)))
    rw [mrg_nil]; simp only [List.append_nil]; exact Evn.ret _
  | case2 x a =>
    intro out _ hl
    simp only [List.length_nil] at hl
    refine Evn.step ?_; simp only [sorts_Merge_int.l0]
    refine Evn.pos (by first | (simp; done) | (simp; omega)) ?_
    refine Evn.step ?_; simp only [sorts_Merge_int.j1]
    refine Evn.neg (by simp) (Evn.pos (by first | (simp at hl ⊢; done) | (simp at hl ⊢; omega)) (Evn.bind (Evn.ret _) (Evn.pos (by first | (simp at hl ⊢; done) | (simp at hl ⊢; omega)) ?_)))
    rw [mrg_nil']; simp only [List.append_nil]; exact Evn.ret _
  | case3 x a y b h ih =>
    intro out hf hl
    simp only [List.length_cons] at hl
    refine Evn.step ?_; simp only [sorts_Merge_int.l0]
    refine Evn.pos (by first | (simp; done) | (simp; omega)) ?_
    refine Evn.step ?_; simp only [sorts_Merge_int.j1]
    refine Evn.pos (by first | (simp; done) | (simp; omega)) (Evn.pos (by first | (simp; done) | (simp; omega)) (Evn.pos (by first | (simp; done) | (simp; omega)) ?_))
    refine Evn.bind (a := true) (Evn.const ?_) ?_
    · have := hf x (by simp) y (by simp); rw [h] at this; exact this
    refine Evn.pos rfl (Evn.pos (by omega) (Evn.pos (by first | (simp; done) | (simp; omega)) ?_))
    rw [mrg, if_pos h]
    have := ih (out ++ [y]) (fun u hu v hv => hf u hu v (List.mem_cons_of_mem _ hv)) (by first | (simp; done) | (simp; omega))
    simp only [List.append_assoc, List.singleton_append] at this
    exact this
  | case4 x a y b h ih =>
    intro out hf hl
    simp only [List.length_cons] at hl
    refine Evn.step ?_; simp only [sorts_Merge_int.l0]
    refine Evn.pos (by first | (simp; done) | (simp; omega)) ?_
    refine Evn.step ?_; simp only [sorts_Merge_int.j1]
    refine Evn.pos (by first | (simp; done) | (simp; omega)) (Evn.pos (by first | (simp; done) | (simp; omega)) (Evn.pos (by first | (simp; done) | (simp; omega)) ?_))
    refine Evn.bind (a := false) (Evn.const ?_) ?_
    · have := hf x (by simp) y (by simp)
      have e : lt y x = false := by simpa using h
      rw [e] at this; exact this
    refine Evn.neg (by simp) (Evn.pos (by omega) (Evn.pos (by first | (simp; done) | (simp; omega)) ?_))
    rw [mrg, if_neg h]
    have := ih (out ++ [x]) (fun u hu v hv => hf u (List.mem_cons_of_mem _ hu) v hv) (by first | (simp; done) | (simp; omega))
    simp only [List.append_assoc, List.singleton_append] at this
    exact this
theorem merge_int (f : Int → Int → Option Bool) (lt : Int → Int → Bool) (a b : List Int) (hf : ∀ x ∈ a, ∀ y ∈ b, f y x = some (lt y x)) (hl : a.length + b.length < 17592186044416) : Evn (fun k => sorts_Merge_int.f k a b f) (mrg lt a b) :=
  merge_int_ev f lt a b [] hf (by simpa using hl)
theorem half_id {n : Nat} (h : n < 17592186044416) : wrap64 ((n : Int) / 2) = ((n / 2 : Nat) : Int) := by
  rw [wrap_id (by omega) (by omega)]; omega
theorem sort_int (f : Int → Int → Option Bool) (lt : Int → Int → Bool) : ∀ (n : Nat) (l : List Int), l.length ≤ n → (∀ x ∈ l, ∀ y ∈ l, f x y = some (lt x y)) → l.length < 17592186044416 → Evn (fun k => sorts_Sort_int.f k l f) (srt lt n l)
  | 0, l, h, _, hl => by
    refine Evn.step ?_; simp only [sorts_Sort_int.f]
    exact Evn.pos (by omega) (Evn.pos (by simpa using hl) (by rw [srt]; exact Evn.ret _))
  | n + 1, l, h, hf, hl => by
    refine Evn.step ?_; simp only [sorts_Sort_int.f]
    by_cases hs : l.length < 2
    · exact Evn.pos (by omega) (Evn.pos (by simpa using hl) (by rw [srt, if_pos hs]; exact Evn.ret _))
    · refine Evn.neg (by omega) ?_
      rw [half_id hl]
      refine Evn.pos (by omega) (Evn.pos (by omega) ?_)
      rw [Int.toNat_natCast, srt, if_neg hs]
      refine Evn.bind (sort_int f lt n _ (by rw [List.length_take]; omega) (fun x hx y hy => hf x (List.mem_of_mem_take hx) y (List.mem_of_mem_take hy)) (by rw [List.length_take]; omega)) ?_
      refine Evn.bind (sort_int f lt n _ (by rw [List.length_drop]; omega) (fun x hx y hy => hf x (List.mem_of_mem_drop hx) y (List.mem_of_mem_drop hy)) (by rw [List.length_drop]; omega)) ?_
      refine Evn.bind (merge_int f lt _ _ (fun x hx y hy => ?_) (by rw [srt_length, srt_length, List.length_take, List.length_drop]; omega)) (Evn.ret _)
      exact hf y (List.mem_of_mem_drop ((srt_perm _ _).mem_iff.1 hy)) x (List.mem_of_mem_take ((srt_perm _ _).mem_iff.1 hx))

/-! ### places -/
instance : DecidableEq S28 := fun a b => decidable_of_iff (a.f0 = b.f0 ∧ a.f1 = b.f1) (by cases a; cases b; simp)
def ltP (a b : S28) : Bool := decide (a.f0 < b.f0) || (decide (a.f0 = b.f0) && decide (a.f1 < b.f1))
theorem less_f (a b : S28) : sorts_Less.f a.f0 a.f1 b.f0 b.f1 = some (ltP a b) := by
  unfold sorts_Less.f ltP
  split
  · simp [*]
  · split <;> simp [*]
theorem refLess_f (a b : S28) : parquetref07_Less.f a.f0 a.f1 b.f0 b.f1 = some (ltP a b) := by
  unfold parquetref07_Less.f ltP
  split
  · simp [*]
  · rename_i h; simp [h]
theorem weakP : Weak ltP where
  asymm := by intro x y h; simp [ltP] at h ⊢; omega
  neg := by intro x y z h1 h2; simp [ltP] at h1 h2 ⊢; omega
theorem eqvP {a b : S28} : eqv ltP a b = true ↔ a = b := by
  cases a; cases b
  simp [eqv, ltP]; omega
/-- The numbers' own order: by their places. -/
def ltI (p : List S28) (i j : Int) : Bool := ltP (rd_T28 p i) (rd_T28 p j)
theorem weakI (p : List S28) : Weak (ltI p) := ⟨fun _ _ h => weakP.asymm _ _ h, fun _ _ _ h1 h2 => weakP.neg _ _ _ h1 h2⟩
def idx (n : Nat) : List Int := (List.range n).map Int.ofNat
theorem mem_idx {n : Nat} {i : Int} : i ∈ idx n ↔ 0 ≤ i ∧ i < n := by
  simp only [idx, List.mem_map, List.mem_range]
  constructor
  · rintro ⟨j, hj, rfl⟩; simp only [Int.ofNat_eq_natCast]; omega
  · rintro ⟨h0, h1⟩; exact ⟨i.toNat, by omega, by simp only [Int.ofNat_eq_natCast]; omega⟩
theorem idx_length (n : Nat) : (idx n).length = n := by simp [idx]
theorem idx_succ (n : Nat) : idx (n + 1) = idx n ++ [(n : Int)] := by simp [idx, List.range_succ]
def ord (p : List S28) : List Int := srt (ltI p) p.length (idx p.length)
theorem ord_stable (p : List S28) : Stable (ltI p) (idx p.length) (ord p) := srt_stable (weakI p) _ _ (by rw [idx_length]; exact Nat.le_refl _)
theorem mem_ord {p : List S28} {i : Int} : i ∈ ord p ↔ 0 ≤ i ∧ i < p.length := (ord_stable p).perm.mem_iff.trans mem_idx
theorem ord_length (p : List S28) : (ord p).length = p.length := by rw [(ord_stable p).perm.length_eq, idx_length]
theorem order1_f (p : List S28) (i j : Int) (h0 : 0 ≤ i) (h1 : i < p.length) (h2 : 0 ≤ j) (h3 : j < p.length) : sorts_Order_1.f i j p = some (ltI p i j) := by
  unfold sorts_Order_1.f
  rw [if_pos h0, if_pos h1, if_pos h2, if_pos h3, less_f]; rfl
theorem order_ev (p : List S28) (hp : p.length ≤ 4294967296) : Evn (fun k => sorts_Order.f k p) (ord p) := by
  unfold sorts_Order.f
  have key : ∀ d i : Nat, i + d = p.length → Evn (fun k => sorts_Order.l0 k (idx i) (p.length : Int) (i : Int) p) (ord p) := by
    intro d
    induction d with
    | zero =>
      intro i hi
      refine Evn.step ?_; simp only [sorts_Order.l0]
      refine Evn.neg (by omega) (Evn.bind (sort_int _ (ltI p) p.length (idx i) (by rw [idx_length]; omega) (fun x hx y hy => ?_) (by rw [idx_length]; omega)) ?_)
      · rw [mem_idx] at hx hy
        exact order1_f p x y hx.1 (by omega) hy.1 (by omega)
      · rw [show i = p.length by omega]; exact Evn.ret _
    | succ d ih =>
      intro i hi
      refine Evn.step ?_; simp only [sorts_Order.l0]
      refine Evn.pos (by omega) (Evn.pos (by rw [idx_length]; omega) ?_)
      rw [wrap_id (by omega) (by omega)]
      have := ih (i + 1) (by omega)
      rw [idx_succ] at this
      exact this
  exact key p.length 0 (by omega)
theorem rd_getElem (p : List S28) (i : Nat) (h : i < p.length) : rd_T28 p (i : Int) = p[i] := by
  simp [rd_T28, List.getD_eq_getElem?_getD, h]
theorem rdI_getElem (l : List Int) (i : Nat) (h : i < l.length) : rd l (i : Int) = l[i] := by
  simp [rd, List.getD_eq_getElem?_getD, h]
theorem rd_mem (l : List Int) (i : Int) (h0 : 0 ≤ i) (h : i < l.length) : rd l i ∈ l := by
  obtain ⟨j, rfl⟩ := Int.eq_ofNat_of_zero_le h0
  rw [rdI_getElem l j (by omega)]
  exact List.getElem_mem _

/-- Two rows of numbers, held against each other. -/
theorem same_ev (a b : List Int) (ha : a.length ≤ 9223372036854775807) : Evn (fun k => parquetref00_SameInts.f k a b) (decide (a = b)) := by
  unfold parquetref00_SameInts.f
  by_cases hl : a.length = b.length
  · refine Evn.pos (by omega) ?_
    have key : ∀ d i : Nat, i + d = a.length → a.take i = b.take i → Evn (fun k => parquetref00_SameInts.l0 k a b (i : Int)) (decide (a = b)) := by
      intro d
      induction d with
      | zero =>
        intro i hi ht
        refine Evn.step ?_; simp only [parquetref00_SameInts.l0]
        refine Evn.neg (by omega) ((Evn.ret _).to ?_)
        rw [List.take_of_length_le (by omega), List.take_of_length_le (by omega)] at ht
        simp [ht]
      | succ d ih =>
        intro i hi ht
        refine Evn.step ?_; simp only [parquetref00_SameInts.l0]
        refine Evn.pos (by omega) (Evn.pos (by omega) (Evn.pos (by omega) ?_))
        rw [rdI_getElem a i (by omega), rdI_getElem b i (by omega)]
        refine Evn.ite (fun he => ?_) (fun he => (Evn.ret _).to ?_)
        · rw [wrap_id (by omega) (by omega)]
          refine ih (i + 1) (by omega) ?_
          rw [List.take_succ_eq_append_getElem (by omega), List.take_succ_eq_append_getElem (by omega), ht, he]
        · symm; rw [decide_eq_false_iff_not]; rintro rfl; exact he rfl
    exact key a.length 0 (by omega) (by simp)
  · refine Evn.neg (by omega) ((Evn.ret _).to ?_)
    symm; rw [decide_eq_false_iff_not]; rintro rfl; exact hl rfl
theorem known_ev : Evn (fun k => parquetlaw07_known.f k) true := by
  have h : parquetlaw07_known.f 60 = some true := by decide +kernel
  refine ⟨60, fun k hk => ?_⟩
  obtain ⟨d, rfl⟩ : ∃ d, k = 60 + d := ⟨k - 60, by omega⟩
  induction d with
  | zero => exact h
  | succ d ih => exact parquetlaw07_known.mono (60 + d) _ (ih (by omega))

/-! ### the order, by its places -/
theorem ord_nodup (p : List S28) : (ord p).Nodup := by
  refine (ord_stable p).perm.symm.nodup ?_
  unfold idx
  refine List.Pairwise.map _ (fun a b h => ?_) List.nodup_range
  simp only [Int.ofNat_eq_natCast]; omega
theorem ord_le (p : List S28) {s t : Nat} (h : s < t) (ht : t < (ord p).length) : ltP (rd_T28 p ((ord p)[t])) (rd_T28 p ((ord p)[s]'(by omega))) = false :=
  List.pairwise_iff_getElem.1 (ord_stable p).sorted s t (by omega) ht h
theorem ord_eq (p : List S28) {s t : Nat} (h : s < t) (ht : t < (ord p).length) (e : rd_T28 p ((ord p)[s]'(by omega)) = rd_T28 p ((ord p)[t])) : (ord p)[s]'(by omega) < (ord p)[t] := by
  have hf := (ord_stable p).filt ((ord p)[s]'(by omega))
  have hp : (idx p.length).Pairwise (fun a b => a < b) := by
    unfold idx
    refine List.Pairwise.map _ (fun a b h => ?_) List.pairwise_lt_range
    simp only [Int.ofNat_eq_natCast]; omega
  have h1 := hp.filter (eqv (ltI p) ((ord p)[s]'(by omega)))
  rw [← hf, List.pairwise_filter] at h1
  refine List.pairwise_iff_getElem.1 h1 s t (by omega) ht h ?_ ?_
  · exact (weakI p).eqv_self _
  · have := eqvP.2 e
    exact this
theorem ord_has (p : List S28) (i : Int) (h0 : 0 ≤ i) (h1 : i < p.length) : ∃ s, ∃ h : s < (ord p).length, (ord p)[s] = i :=
  List.mem_iff_getElem.1 (mem_ord.2 ⟨h0, h1⟩)
theorem ord_in (p : List S28) {s : Nat} (h : s < (ord p).length) : 0 ≤ (ord p)[s] ∧ (ord p)[s] < p.length := mem_ord.1 (List.getElem_mem _)

/-! ### ranks -/
def firstB (p : List S28) (k : Nat) : Bool := (List.range k).all fun (j : Nat) => !decide (rd_T28 p j = rd_T28 p k)
def cnt (p : List S28) (q : S28) (m : Nat) : Nat := (List.range m).countP fun (k : Nat) => ltP (rd_T28 p k) q && firstB p k
theorem cnt_succ (p : List S28) (q : S28) (m : Nat) : cnt p q (m + 1) = cnt p q m + if (ltP (rd_T28 p m) q && firstB p m) = true then 1 else 0 := by
  simp only [cnt, List.range_succ, List.countP_append, List.countP_singleton]
theorem cnt_le (p : List S28) (q : S28) (m : Nat) : cnt p q m ≤ m := by
  have := List.countP_le_length (p := fun (k : Nat) => ltP (rd_T28 p k) q && firstB p k) (l := List.range m)
  simpa [cnt] using this
/-- How many different places are less. -/
def rk (p : List S28) (q : S28) : Nat := cnt p q p.length
theorem firsts (p : List S28) (a : S28) : ∀ m : Nat, ((∃ k : Nat, k < m ∧ rd_T28 p (k : Int) = a) → (List.range m).countP (fun (k : Nat) => decide (rd_T28 p k = a) && firstB p k) = 1) ∧ ((¬ ∃ k : Nat, k < m ∧ rd_T28 p (k : Int) = a) → (List.range m).countP (fun (k : Nat) => decide (rd_T28 p k = a) && firstB p k) = 0) := by
  intro m
  induction m with
  | zero => simp
  | succ m ih =>
    rw [List.range_succ, List.countP_append, List.countP_singleton]
    by_cases h : ∃ k : Nat, k < m ∧ rd_T28 p (k : Int) = a
    · refine ⟨fun _ => ?_, fun hn => absurd ⟨h.choose, by have := h.choose_spec; omega, h.choose_spec.2⟩ hn⟩
      rw [ih.1 h]
      obtain ⟨k, hk, e⟩ := h
      have : (decide (rd_T28 p (m : Int) = a) && firstB p m) = false := by
        rw [Bool.and_eq_false_iff]
        by_cases hm : rd_T28 p (m : Int) = a
        · right
          rw [firstB, List.all_eq_false]
          exact ⟨k, List.mem_range.2 hk, by simp [e, hm]⟩
        · left; simpa using hm
      rw [this]; rfl
    · rw [ih.2 h]
      by_cases hm : rd_T28 p (m : Int) = a
      · refine ⟨fun _ => ?_, fun hn => absurd ⟨m, by omega, hm⟩ hn⟩
        have : (decide (rd_T28 p (m : Int) = a) && firstB p m) = true := by
          rw [Bool.and_eq_true, firstB, List.all_eq_true]
          refine ⟨by simpa using hm, fun j hj => ?_⟩
          rw [List.mem_range] at hj
          simp only [Bool.not_eq_true', decide_eq_false_iff_not]
          intro e
          exact h ⟨j, hj, by rw [e, hm]⟩
        rw [this]; rfl
      · refine ⟨fun hn => ?_, fun _ => ?_⟩
        · obtain ⟨k, hk, e⟩ := hn
          by_cases hkm : k = m
          · subst hkm; exact absurd e hm
          · exact absurd ⟨k, by omega, e⟩ h
        · have : (decide (rd_T28 p (m : Int) = a) && firstB p m) = false := by rw [Bool.and_eq_false_iff]; left; simpa using hm
          rw [this]; rfl
theorem countP_split {α : Type} (f g h : α → Bool) : ∀ l : List α, (∀ x ∈ l, f x = (g x || h x)) → (∀ x ∈ l, (g x && h x) = false) → l.countP f = l.countP g + l.countP h
  | [], _, _ => rfl
  | x :: l, h1, h2 => by
    have ih := countP_split f g h l (fun y hy => h1 y (List.mem_cons_of_mem _ hy)) (fun y hy => h2 y (List.mem_cons_of_mem _ hy))
    have a1 := h1 x List.mem_cons_self
    have a2 := h2 x List.mem_cons_self
    rw [List.countP_cons, List.countP_cons, List.countP_cons, ih, a1]
    cases hg : g x <;> cases hh : h x <;> simp [hg, hh] at a2 ⊢ <;> omega
theorem rk_next (p : List S28) (a b : S28) (hlt : ltP a b = true) (ha : ∃ k : Nat, k < p.length ∧ rd_T28 p (k : Int) = a) (hno : ∀ k : Nat, k < p.length → ltP (rd_T28 p k) b = true → ltP a (rd_T28 p k) = false) : rk p b = rk p a + 1 := by
  have hs := countP_split (fun k : Nat => ltP (rd_T28 p k) b && firstB p k) (fun k : Nat => ltP (rd_T28 p k) a && firstB p k) (fun k : Nat => decide (rd_T28 p k = a) && firstB p k) (List.range p.length) ?_ ?_
  · rw [(firsts p a _).1 ha] at hs
    exact hs
  · intro k hk
    rw [List.mem_range] at hk
    have hn := hno k hk
    cases hf : firstB p k with
    | false => simp
    | true =>
      simp only [Bool.and_true]
      cases h1 : ltP (rd_T28 p k) b with
      | true =>
        have h2 := hn h1
        cases h3 : ltP (rd_T28 p k) a with
        | true => rfl
        | false =>
          have : rd_T28 p k = a := (eqvP.1 (by simp [eqv, h2, h3]))
          simp [this]
      | false =>
        cases h3 : ltP (rd_T28 p k) a with
        | true => rw [weakP.trans h3 hlt] at h1; cases h1
        | false =>
          have : ¬ rd_T28 p k = a := by rintro e; rw [e, hlt] at h1; cases h1
          simp [this]
  · intro k _
    by_cases e : rd_T28 p k = a
    · rw [e, weakP.irr]; simp
    · simp [e]
theorem rk_least (p : List S28) (b : S28) (hno : ∀ k : Nat, k < p.length → ltP (rd_T28 p k) b = false) : rk p b = 0 := by
  unfold rk cnt
  rw [List.countP_eq_zero]
  intro k hk
  rw [List.mem_range] at hk
  simp [hno k hk]
def ranks (p : List S28) : List Int := (List.range p.length).map fun i => ((rk p (rd_T28 p (i : Nat)) : Nat) : Int)
theorem ranks_length (p : List S28) : (ranks p).length = p.length := by simp [ranks]
theorem ranks_get (p : List S28) (i : Nat) (h : i < p.length) : rd (ranks p) (i : Int) = rk p (rd_T28 p (i : Nat)) := by
  rw [rdI_getElem _ i (by rw [ranks_length]; exact h)]; simp [ranks]
/-- Along the order ranks rise by nought or one. -/
theorem rk_along (p : List S28) {t : Nat} (ht : t + 1 < (ord p).length) : rk p (rd_T28 p ((ord p)[t + 1])) = if rd_T28 p ((ord p)[t + 1]) = rd_T28 p ((ord p)[t]'(by omega)) then rk p (rd_T28 p ((ord p)[t]'(by omega))) else rk p (rd_T28 p ((ord p)[t]'(by omega))) + 1 := by
  split
  · rename_i h; rw [h]
  · rename_i h
    have h1 := ord_le p (s := t) (t := t + 1) (by omega) ht
    have hlt : ltP (rd_T28 p ((ord p)[t]'(by omega))) (rd_T28 p ((ord p)[t + 1])) = true := by
      cases e : ltP (rd_T28 p ((ord p)[t]'(by omega))) (rd_T28 p ((ord p)[t + 1])) with
      | true => rfl
      | false => exact absurd (eqvP.1 (show eqv ltP _ _ = true by simp [eqv, h1, e])) h
    have hi := ord_in p (s := t) (by omega)
    refine rk_next p _ _ hlt ⟨((ord p)[t]'(by omega)).toNat, by omega, by rw [Int.toNat_of_nonneg hi.1]⟩ ?_
    intro k hk hb
    obtain ⟨s, hs, e⟩ := ord_has p (k : Int) (by omega) (by omega)
    rw [← e] at hb ⊢
    by_cases hst : s < t
    · exact ord_le p hst (by omega)
    · by_cases hst2 : s = t
      · subst hst2; exact weakP.irr _
      · by_cases hst3 : s = t + 1
        · subst hst3; rw [weakP.irr] at hb; cases hb
        · rw [ord_le p (s := t + 1) (t := s) (by omega) hs] at hb; cases hb
theorem rk_begin (p : List S28) (h : 0 < (ord p).length) : rk p (rd_T28 p ((ord p)[0])) = 0 := by
  refine rk_least p _ fun k hk => ?_
  obtain ⟨s, hs, e⟩ := ord_has p (k : Int) (by omega) (by omega)
  rw [← e]
  by_cases h0 : s = 0
  · subst h0; exact weakP.irr _
  · exact ord_le p (s := 0) (t := s) (by omega) hs
theorem eqB {a b : S28} : ((a.f0 == b.f0 && (a.f1 == b.f1)) = true) ↔ a = b := by
  cases a; cases b; simp
theorem neB {a b : S28} : ((!(a.f0 == b.f0) || (!(a.f1 == b.f1))) = true) ↔ a ≠ b := by
  cases a; cases b; simp; omega
theorem list_ext_rd {a b : List Int} (hl : a.length = b.length) (h : ∀ i : Nat, i < a.length → rd a (i : Int) = rd b (i : Int)) : a = b := by
  refine List.ext_getElem hl fun i h1 h2 => ?_
  have := h i h1
  rwa [rdI_getElem a i h1, rdI_getElem b i h2] at this
theorem rd_set (l : List Int) (i j : Nat) (x : Int) (hi : i < l.length) : rd (l.set j x) (i : Int) = if i = j then x else rd l (i : Int) := by
  rw [rdI_getElem _ i (by simpa using hi), List.getElem_set, rdI_getElem l i hi]
  by_cases e : j = i
  · subst e; simp
  · simp [e, Ne.symm e]
theorem ranks_ev (p : List S28) (hp : p.length ≤ 4294967296) : Evn (fun k => sorts_Ranks.f k p) (ranks p) := by
  unfold sorts_Ranks.f
  refine Evn.pos (by omega) (Evn.pos (by omega) (Evn.bind (order_ev p hp) ?_))
  have hL := ord_length p
  have key : ∀ d t : Nat, t + d = p.length → ∀ (out : List Int) (rank last : Int), out.length = p.length →
      (∀ s (h : s < t) (h2 : s < (ord p).length), rd out ((ord p)[s]) = rk p (rd_T28 p ((ord p)[s]))) →
      (t = 0 → rank = 0 ∧ last = -1) → (∀ (h : 0 < t) (h2 : t - 1 < (ord p).length), last = (ord p)[t - 1] ∧ rank = rk p (rd_T28 p ((ord p)[t - 1]))) →
      Evn (fun k => sorts_Ranks.l0 k p out rank last (ord p) ((ord p).length : Int) (t : Int)) (ranks p) := by
    intro d
    induction d with
    | zero =>
      intro t ht out rank last hol hdone _ _
      refine Evn.step ?_; simp only [sorts_Ranks.l0]
      refine Evn.neg (by omega) ((Evn.ret _).to ?_)
      refine list_ext_rd (by rw [ranks_length, hol]) fun i hi => ?_
      rw [ranks_get p i (by omega)]
      obtain ⟨s, hs, e⟩ := ord_has p (i : Int) (by omega) (by omega)
      have := hdone s (by omega) hs
      rw [e] at this
      exact this
    | succ d ih =>
      intro t ht out rank last hol hdone h0 h1
      have htl : t < (ord p).length := by omega
      have hin := ord_in p htl
      refine Evn.step ?_; simp only [sorts_Ranks.l0]
      refine Evn.pos (by omega) (Evn.pos (by omega) (Evn.pos (by omega) ?_))
      rw [rdI_getElem _ t htl, wrap_id (x := (t : Int) + 1) (by omega) (by omega)]
      have hset : ∀ r : Int, r = rk p (rd_T28 p ((ord p)[t])) → Evn (fun k => sorts_Ranks.l0 k p (out.set ((ord p)[t]).toNat r) r ((ord p)[t]) (ord p) ((ord p).length : Int) ((t : Int) + 1)) (ranks p) := by
        intro r hr
        refine ih (t + 1) (by omega) (out.set ((ord p)[t]).toNat r) r ((ord p)[t]) (by simpa using hol) ?_ (by omega) (fun _ _ => ⟨by simp, by simpa using hr⟩)
        intro s hs h2
        have hsi := ord_in p h2
        obtain ⟨j, hj⟩ := Int.eq_ofNat_of_zero_le hsi.1
        rw [hj, rd_set _ _ _ _ (by omega)]
        by_cases e : s = t
        · subst e
          rw [if_pos (by omega), hr, hj]
        · have hne : (ord p)[s] ≠ (ord p)[t] := fun h => e ((List.getElem_inj (ord_nodup p)).1 h)
          rw [if_neg (by omega), ← hj]
          exact hdone s (by omega) h2
      by_cases hz : t = 0
      · obtain ⟨rfl, rfl⟩ := h0 hz
        subst hz
        refine Evn.neg (by omega) (Evn.pos (by omega) (Evn.pos (by omega) (hset 0 ?_)))
        rw [rk_begin p htl]; rfl
      · obtain ⟨hl, hr⟩ := h1 (by omega) (by omega)
        have hlin := ord_in p (s := t - 1) (by omega)
        have hal := rk_along p (t := t - 1) (by omega)
        simp only [show t - 1 + 1 = t by omega] at hal
        rw [hl, hr]
        refine Evn.pos (by omega) (Evn.pos (by omega) (Evn.pos (by omega) (Evn.pos (by omega) (Evn.pos (by omega) ?_))))
        refine Evn.ite (fun he => Evn.pos (by omega) (hset _ ?_)) (fun he => Evn.pos (by omega) ?_)
        · rw [eqB] at he; rw [hal, if_pos he]
        · rw [eqB] at he
          have hb := cnt_le p (rd_T28 p ((ord p)[t - 1])) p.length
          rw [wrap_id (by omega) (by have : (rk p (rd_T28 p ((ord p)[t - 1])) : Nat) ≤ p.length := hb; omega)]
          refine hset _ ?_
          rw [hal, if_neg he]; omega
  exact key p.length 0 (by omega) _ 0 (-1) (by simp) (by omega) (fun _ => ⟨rfl, rfl⟩) (by omega)
end Go.Proofs.Ytfmeicojiadeiaa.Pure
