/- The first two places that are alike, and the box: what the printed functions come to. -/
import Derived.Test.YtfmeicojiadeiaaQ
set_option linter.unusedSimpArgs false
namespace Go.Proofs.Ytfmeicojiadeiaa.Pure
open PL Go.RowKit Go.Proofs.YtfmeicojiadeiaaW.PrintWords Go.Proofs.YtfmeicojiadeiaaW.PrintLast Go.Proofs.YtfmeicojiadeiaaW.PrintMore Go.Proofs.Ytfmeicojiadeiaa.P

/-! ### the first two that are alike -/
def Eqs (p : List S28) (i j : Nat) : Prop := i < j ∧ j < p.length ∧ rd_T28 p (i : Int) = rd_T28 p (j : Int)
def IsTw (p : List S28) (r : Int × Int × Bool) : Prop :=
  (r = (0, 0, false) ∧ ∀ i j, ¬ Eqs p i j) ∨ ∃ i j : Nat, r = ((i : Int), (j : Int), true) ∧ Eqs p i j ∧ (∀ i' j', Eqs p i' j' → i ≤ i') ∧ (∀ j', Eqs p i j' → j ≤ j')
theorem IsTw.unique {p : List S28} {r s : Int × Int × Bool} (hr : IsTw p r) (hs : IsTw p s) : r = s := by
  rcases hr with ⟨rfl, h⟩ | ⟨i, j, rfl, h, h1, h2⟩ <;> rcases hs with ⟨rfl, g⟩ | ⟨i', j', rfl, g, g1, g2⟩
  · rfl
  · exact absurd g (h _ _)
  · exact absurd h (g _ _)
  · have e : i = i' := Nat.le_antisymm (h1 _ _ g) (g1 _ _ h)
    subst e
    have e : j = j' := Nat.le_antisymm (h2 _ g) (g2 _ h)
    subst e
    rfl
/-- Of two that are alike, the first one's neighbour in the order is alike, and no later than the other. -/
theorem ord_next (p : List S28) {i j : Nat} (h : Eqs p i j) : ∃ t : Nat, ∃ ht : t + 1 < (ord p).length, (ord p)[t] = (i : Int) ∧ rd_T28 p ((ord p)[t + 1]) = rd_T28 p (i : Int) ∧ (ord p)[t + 1] ≤ (j : Int) := by
  obtain ⟨hij, hj, he⟩ := h
  obtain ⟨s, hs, es⟩ := ord_has p (i : Int) (by omega) (by omega)
  obtain ⟨t, ht, et⟩ := ord_has p (j : Int) (by omega) (by omega)
  have hst : s < t := by
    rcases Nat.lt_trichotomy s t with h | h | h
    · exact h
    · subst h; omega
    · have := ord_eq p h hs (by rw [et, es]; exact he.symm)
      omega
  refine ⟨s, by omega, es, ?_, ?_⟩
  · by_cases e : s + 1 = t
    · subst e; rw [et]; exact he.symm
    · have h1 := ord_le p (s := s) (t := s + 1) (by omega) (by omega)
      have h2 := ord_le p (s := s + 1) (t := t) (by omega) ht
      rw [es] at h1
      rw [et, ← he] at h2
      exact (eqvP.1 (by simp [eqv, h1, h2]))
  · by_cases e : s + 1 = t
    · subst e; rw [et]; exact Int.le_refl _
    · have h1 := ord_le p (s := s) (t := s + 1) (by omega) (by omega)
      have h2 := ord_le p (s := s + 1) (t := t) (by omega) ht
      rw [es] at h1
      rw [et, ← he] at h2
      have h3 : rd_T28 p ((ord p)[s + 1]) = rd_T28 p (i : Int) := eqvP.1 (by simp [eqv, h1, h2])
      have := ord_eq p (s := s + 1) (t := t) (by omega) ht (by rw [et, h3]; exact he)
      rw [et] at this
      omega
/-- What is held of the neighbours before place n of the order. -/
def TwTo (p : List S28) (n : Nat) (r : Int × Int × Bool) : Prop :=
  (r = (0, 0, false) ∧ ∀ t, ∀ _ : t + 1 < (ord p).length, t + 1 < n → rd_T28 p ((ord p)[t + 1]) ≠ rd_T28 p ((ord p)[t])) ∨
  ∃ t, ∃ _ : t + 1 < (ord p).length, t + 1 < n ∧ r = ((ord p)[t], (ord p)[t + 1], true) ∧ rd_T28 p ((ord p)[t + 1]) = rd_T28 p ((ord p)[t]) ∧ ∀ u, ∀ _ : u + 1 < (ord p).length, u + 1 < n → rd_T28 p ((ord p)[u + 1]) = rd_T28 p ((ord p)[u]) → (ord p)[t] ≤ (ord p)[u]
theorem TwTo.is {p : List S28} {n : Nat} {r : Int × Int × Bool} (hn : (ord p).length ≤ n) (h : TwTo p n r) : IsTw p r := by
  rcases h with ⟨rfl, h⟩ | ⟨t, ht, _, rfl, he, h⟩
  · refine Or.inl ⟨rfl, fun i j hij => ?_⟩
    obtain ⟨t, ht, e1, e2, _⟩ := ord_next p hij
    exact h t ht (by omega) (by rw [e2, e1])
  · have b1 := ord_in p (s := t) (by omega)
    have b2 := ord_in p ht
    have hlt := ord_eq p (s := t) (t := t + 1) (by omega) ht he.symm
    obtain ⟨i, hi⟩ := Int.eq_ofNat_of_zero_le b1.1
    obtain ⟨j, hj⟩ := Int.eq_ofNat_of_zero_le b2.1
    refine Or.inr ⟨i, j, by rw [hi, hj], ⟨by omega, by omega, by rw [← hi, ← hj]; exact he.symm⟩, fun i' j' h' => ?_, fun j' h' => ?_⟩
    · obtain ⟨u, hu, e1, e2, _⟩ := ord_next p h'
      have := h u hu (by omega) (by rw [e2, e1])
      omega
    · obtain ⟨u, hu, e1, _, e3⟩ := ord_next p h'
      have hut : u = t := (List.getElem_inj (ord_nodup p)).1 (by rw [e1, hi])
      subst hut
      omega
theorem twice_ev (p : List S28) (hp : p.length ≤ 4294967296) : ∃ r, IsTw p r ∧ Evn (fun k => sorts_Twice.f k p) r := by
  have key : ∀ d n : Nat, n + d = p.length ∨ (d = 0 ∧ p.length ≤ n ∧ n ≤ 1) → 1 ≤ n → ∀ x5 x6 x7, TwTo p n (x5, x6, x7) → ∃ r, IsTw p r ∧ Evn (fun k => sorts_Twice.l0 k p x5 x6 x7 (ord p) (n : Int)) r := by
    intro d
    have hL := ord_length p
    induction d with
    | zero =>
      intro n hn h1 x5 x6 x7 h
      refine ⟨_, h.is (by omega), Evn.step ?_⟩
      simp only [sorts_Twice.l0]
      exact Evn.neg (by omega) (Evn.ret _)
    | succ d ih =>
      intro n hn h1 x5 x6 x7 h
      have hn' : n + (d + 1) = p.length := by omega
      obtain ⟨m, rfl⟩ : ∃ m, n = m + 1 := ⟨n - 1, by omega⟩
      have w1 : wrap64 (((m + 1 : Nat) : Int) - 1) = (m : Int) := by rw [wrap_id (by omega) (by omega)]; omega
      have w2 : wrap64 (((m + 1 : Nat) : Int) + 1) = ((m + 1 + 1 : Nat) : Int) := by rw [wrap_id (by omega) (by omega)]; omega
      have b1 := ord_in p (s := m) (by omega)
      have b2 := ord_in p (s := m + 1) (by omega)
      suffices hs : ∃ y5 y6 y7, TwTo p (m + 1 + 1) (y5, y6, y7) ∧ ∀ r, Evn (fun k => sorts_Twice.l0 k p y5 y6 y7 (ord p) ((m + 1 + 1 : Nat) : Int)) r → Evn (fun k => sorts_Twice.l0 k p x5 x6 x7 (ord p) ((m + 1 : Nat) : Int)) r by
        obtain ⟨y5, y6, y7, ht, hr⟩ := hs
        obtain ⟨r, h3, h4⟩ := ih (m + 1 + 1) (by omega) (by omega) y5 y6 y7 ht
        exact ⟨r, h3, hr r h4⟩
      have up : ∀ {y : Int × Int × Bool} r, Evn (fun k => if (((rd_T28 p ((ord p)[m]'(by omega))).f0 == (rd_T28 p ((ord p)[m + 1]'(by omega))).f0) && ((rd_T28 p ((ord p)[m]'(by omega))).f1 == (rd_T28 p ((ord p)[m + 1]'(by omega))).f1)) = true then (if x7 = true then (if (ord p)[m]'(by omega) < x5 then sorts_Twice.l0 k p ((ord p)[m]'(by omega)) ((ord p)[m + 1]'(by omega)) true (ord p) ((m + 1 + 1 : Nat) : Int) else sorts_Twice.l0 k p x5 x6 x7 (ord p) ((m + 1 + 1 : Nat) : Int)) else sorts_Twice.l0 k p ((ord p)[m]'(by omega)) ((ord p)[m + 1]'(by omega)) true (ord p) ((m + 1 + 1 : Nat) : Int)) else sorts_Twice.l0 k p x5 x6 x7 (ord p) ((m + 1 + 1 : Nat) : Int)) r → Evn (fun k => sorts_Twice.l0 k p x5 x6 x7 (ord p) ((m + 1 : Nat) : Int)) r := by
        intro _ r h
        refine Evn.step ?_; simp only [sorts_Twice.l0]
        rw [w1, w2, rdI_getElem _ m (by omega), rdI_getElem _ (m + 1) (by omega)]
        exact Evn.pos (by omega) (Evn.pos (by omega) (Evn.pos (by omega) (Evn.pos (by omega) (Evn.pos b1.1 (Evn.pos b1.2 (Evn.pos b2.1 (Evn.pos b2.2 h)))))))
      by_cases he : rd_T28 p ((ord p)[m]'(by omega)) = rd_T28 p ((ord p)[m + 1]'(by omega))
      · by_cases h7 : x7 = true
        · subst h7
          rcases h with ⟨h, _⟩ | ⟨t, ht, htn, hr, hte, hmin⟩
          · cases h
          · obtain ⟨rfl, rfl, _⟩ : x5 = (ord p)[t] ∧ x6 = (ord p)[t + 1] ∧ true = true := by simpa using hr
            by_cases hl : (ord p)[m]'(by omega) < (ord p)[t]
            · refine ⟨(ord p)[m], (ord p)[m + 1], true, Or.inr ⟨m, by omega, by omega, rfl, he.symm, fun u hu hum hue => ?_⟩, fun r hr => up (y := r) r (Evn.pos (eqB.2 he) (Evn.pos rfl (Evn.pos hl hr)))⟩
              by_cases e : u = m
              · subst e; exact Int.le_refl _
              · have := hmin u hu (by omega) hue
                omega
            · refine ⟨_, _, _, Or.inr ⟨t, ht, by omega, rfl, hte, fun u hu hum hue => ?_⟩, fun r hr => up (y := r) r (Evn.pos (eqB.2 he) (Evn.pos rfl (Evn.neg hl hr)))⟩
              by_cases e : u = m
              · subst e; omega
              · exact hmin u hu (by omega) hue
        · rcases h with ⟨h, hno⟩ | ⟨t, ht, htn, hr, hte, hmin⟩
          · refine ⟨(ord p)[m], (ord p)[m + 1], true, Or.inr ⟨m, by omega, by omega, rfl, he.symm, fun u hu hum hue => ?_⟩, fun r hr => up (y := r) r (Evn.pos (eqB.2 he) (Evn.neg h7 hr))⟩
            by_cases e : u = m
            · subst e; exact Int.le_refl _
            · exact absurd hue (hno u hu (by omega))
          · exact absurd (by simpa using hr : x5 = (ord p)[t] ∧ x6 = (ord p)[t + 1] ∧ x7 = true).2.2 h7
      · refine ⟨x5, x6, x7, ?_, fun r hr => up (y := r) r (Evn.neg (fun h => he (eqB.1 h)) hr)⟩
        rcases h with ⟨h, hno⟩ | ⟨t, ht, htn, hr, hte, hmin⟩
        · refine Or.inl ⟨h, fun u hu hum hue => ?_⟩
          by_cases e : u = m
          · subst e; exact he hue.symm
          · exact hno u hu (by omega) hue
        · refine Or.inr ⟨t, ht, by omega, hr, hte, fun u hu hum hue => ?_⟩
          by_cases e : u = m
          · subst e; exact absurd hue.symm he
          · exact hmin u hu (by omega) hue
  obtain ⟨r, h1, h2⟩ := key (p.length - 1) 1 (by omega) (by omega) 0 0 false (Or.inl ⟨rfl, fun t _ h => by omega⟩)
  exact ⟨r, h1, Evn.bind (order_ev p hp) h2⟩

/-! ### the box -/
/-- The least of g's first n, and g 0. -/
def mnN (g : Nat → Int) : Nat → Int
  | 0 => g 0
  | n + 1 => mn (mnN g n) (g n)
def mxN (g : Nat → Int) : Nat → Int
  | 0 => g 0
  | n + 1 => mx (mxN g n) (g n)
theorem mnN_le (g : Nat → Int) : ∀ {n k : Nat}, k < n → mnN g n ≤ g k
  | 0, k, h => by omega
  | n + 1, k, h => by
    rw [mnN, mn]
    by_cases e : k = n
    · subst e; split <;> omega
    · have := mnN_le g (n := n) (k := k) (by omega)
      split <;> omega
theorem mxN_le (g : Nat → Int) : ∀ {n k : Nat}, k < n → g k ≤ mxN g n
  | 0, k, h => by omega
  | n + 1, k, h => by
    rw [mxN, mx]
    by_cases e : k = n
    · subst e; split <;> omega
    · have := mxN_le g (n := n) (k := k) (by omega)
      split <;> omega
theorem mnN_mem (g : Nat → Int) : ∀ n : Nat, ∃ k, (k < n ∨ k = 0) ∧ mnN g n = g k
  | 0 => ⟨0, Or.inr rfl, rfl⟩
  | n + 1 => by
    rw [mnN, mn]
    split
    · exact ⟨n, Or.inl (by omega), rfl⟩
    · obtain ⟨k, h, e⟩ := mnN_mem g n
      exact ⟨k, by omega, e⟩
theorem mxN_mem (g : Nat → Int) : ∀ n : Nat, ∃ k, (k < n ∨ k = 0) ∧ mxN g n = g k
  | 0 => ⟨0, Or.inr rfl, rfl⟩
  | n + 1 => by
    rw [mxN, mx]
    split
    · exact ⟨n, Or.inl (by omega), rfl⟩
    · obtain ⟨k, h, e⟩ := mxN_mem g n
      exact ⟨k, by omega, e⟩
theorem mn_self (a : Int) : mn a a = a := by unfold mn; split <;> rfl
theorem mx_self (a : Int) : mx a a = a := by unfold mx; split <;> rfl
def gx (p : List S28) (k : Nat) : Int := (rd_T28 p (k : Int)).f0
def gy (p : List S28) (k : Nat) : Int := (rd_T28 p (k : Int)).f1
def box (p : List S28) : Int × Int × Int × Int × Bool := if p.length = 0 then (0, 0, 0, 0, false) else (mnN (gx p) p.length, mnN (gy p) p.length, mxN (gx p) p.length, mxN (gy p) p.length, true)
theorem box_ev (p : List S28) (hp : p.length ≤ 4294967296) : Evn (fun k => sorts_Box.f k p) (box p) := by
  unfold sorts_Box.f box
  by_cases h0 : p.length = 0
  · exact Evn.pos (by omega) ((Evn.ret _).to (by rw [if_pos h0]))
  · refine Evn.neg (by omega) (Evn.pos (by omega) ?_)
    rw [if_neg h0]
    have key : ∀ d i : Nat, i + d = p.length → Evn (fun k => sorts_Box.l0 k p (p.length : Int) (i : Int) (mnN (gx p) i) (mnN (gy p) i) (mxN (gx p) i) (mxN (gy p) i)) (mnN (gx p) p.length, mnN (gy p) p.length, mxN (gx p) p.length, mxN (gy p) p.length, true) := by
      intro d
      induction d with
      | zero =>
        intro i hi
        refine Evn.step ?_; simp only [sorts_Box.l0]
        obtain rfl : i = p.length := by omega
        exact Evn.neg (by omega) (Evn.ret _)
      | succ d ih =>
        intro i hi
        refine Evn.step ?_; simp only [sorts_Box.l0]
        refine Evn.pos (by omega) (Evn.pos (by omega) (Evn.pos (by omega) ?_))
        rw [wrap_id (by omega) (by omega)]
        exact ih (i + 1) (by omega)
    exact key p.length 0 (by omega)
end Go.Proofs.Ytfmeicojiadeiaa.Pure
