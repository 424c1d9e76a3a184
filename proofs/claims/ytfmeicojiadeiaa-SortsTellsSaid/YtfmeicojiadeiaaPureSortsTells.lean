import Derived.Test.YtfmeicojiadeiaaPx11
import Derived.Test.YtfmeicojiadeiaaR
set_option linter.unusedSimpArgs false
namespace Go.Proofs.Ytfmeicojiadeiaa.Pure
open PL Go.RowKit Go.Proofs.YtfmeicojiadeiaaW.PrintWords Go.Proofs.YtfmeicojiadeiaaW.PrintLast Go.Proofs.YtfmeicojiadeiaaW.PrintMore Go.Proofs.Ytfmeicojiadeiaa.P

/-! ### the document's first two that are alike -/
theorem refTwice_ev (p : List S28) (hp : p.length ≤ 4294967296) : ∃ r, IsTw p r ∧ Evn (fun k => parquetref07_Twice.f k p) r := by
  unfold parquetref07_Twice.f
  have key : ∀ d i : Nat, i + d = p.length → (∀ i' j', Eqs p i' j' → i ≤ i') → ∃ r, IsTw p r ∧ Evn (fun k => parquetref07_Twice.l0 k p (i : Int)) r := by
    intro d
    induction d with
    | zero =>
      intro i hi hno
      refine ⟨_, Or.inl ⟨rfl, fun i' j' h => ?_⟩, Evn.step ?_⟩
      · have := hno _ _ h; have := h.1; have := h.2.1; omega
      · simp only [parquetref07_Twice.l0]
        exact Evn.neg (by omega) (Evn.ret _)
    | succ d ih =>
      intro i hi hno
      have inner : ∀ e j : Nat, j + e = p.length → i < j → (∀ j', Eqs p i j' → j ≤ j') → ∃ r, IsTw p r ∧ Evn (fun k => parquetref07_Twice.l1 k p (i : Int) (j : Int)) r := by
        intro e
        induction e with
        | zero =>
          intro j hj hij hnj
          obtain ⟨r, h1, h2⟩ := ih (i + 1) (by omega) (fun i' j' h => by
            have := hno _ _ h
            by_cases e : i' = i
            · subst e; have := hnj _ h; have := h.2.1; omega
            · omega)
          refine ⟨r, h1, Evn.step ?_⟩
          simp only [parquetref07_Twice.l1]
          refine Evn.neg (by omega) ?_
          rw [wrap_id (by omega) (by omega)]
          exact h2
        | succ e ih2 =>
          intro j hj hij hnj
          by_cases he : rd_T28 p (i : Int) = rd_T28 p (j : Int)
          · refine ⟨_, Or.inr ⟨i, j, rfl, ⟨hij, by omega, he⟩, hno, hnj⟩, Evn.step ?_⟩
            simp only [parquetref07_Twice.l1]
            exact Evn.pos (by omega) (Evn.pos (by omega) (Evn.pos (by omega) (Evn.pos (by omega) (Evn.pos (eqB.2 he) (Evn.ret _)))))
          · obtain ⟨r, h1, h2⟩ := ih2 (j + 1) (by omega) (by omega) (fun j' h => by
              have := hnj _ h
              by_cases e : j' = j
              · subst e; exact absurd h.2.2 he
              · omega)
            refine ⟨r, h1, Evn.step ?_⟩
            simp only [parquetref07_Twice.l1]
            refine Evn.pos (by omega) (Evn.pos (by omega) (Evn.pos (by omega) (Evn.pos (by omega) (Evn.neg (fun h => he (eqB.1 h)) ?_))))
            rw [wrap_id (by omega) (by omega)]
            exact h2
      obtain ⟨r, h1, h2⟩ := inner (p.length - (i + 1)) (i + 1) (by omega) (by omega) (fun j' h => h.1)
      refine ⟨r, h1, Evn.step ?_⟩
      simp only [parquetref07_Twice.l0]
      refine Evn.pos (by omega) ?_
      rw [wrap_id (by omega) (by omega)]
      exact h2
  exact key p.length 0 (by omega) (fun _ _ _ => Nat.zero_le _)

/-! ### the document's box -/
theorem refBox_ev (p : List S28) (hp : p.length ≤ 4294967296) : Evn (fun k => parquetref07_Box.f k p) (box p) := by
  unfold parquetref07_Box.f box
  have fin : ∀ a b c d r, (if p.length = 0 then ((0 : Int), (0 : Int), (0 : Int), (0 : Int), false) else (mnN (gx p) p.length, mnN (gy p) p.length, mxN (gx p) p.length, mxN (gy p) p.length, true)) = r → (if p.length = 0 then a = 0 ∧ b = 0 ∧ c = 0 ∧ d = 0 else a = mnN (gx p) p.length ∧ b = mnN (gy p) p.length ∧ c = mxN (gx p) p.length ∧ d = mxN (gy p) p.length) → Evn (fun k => parquetref07_Box.l0 k p (p.length : Int) a b c d) r := by
    intro a b c d r hr hb
    refine Evn.step ?_; simp only [parquetref07_Box.l0]
    refine Evn.neg (by omega) ((Evn.ret _).to ?_)
    subst hr
    split at hb
    · rename_i h; obtain ⟨rfl, rfl, rfl, rfl⟩ := hb; simp [h]
    · rename_i h; obtain ⟨rfl, rfl, rfl, rfl⟩ := hb; rw [if_neg h]; simp; omega
  generalize hr : (if p.length = 0 then ((0 : Int), (0 : Int), (0 : Int), (0 : Int), false) else (mnN (gx p) p.length, mnN (gy p) p.length, mxN (gx p) p.length, mxN (gy p) p.length, true)) = r at fin ⊢
  have step : ∀ i : Nat, i < p.length → ∀ a b c d, (i ≠ 0 → a = mnN (gx p) i ∧ b = mnN (gy p) i ∧ c = mxN (gx p) i ∧ d = mxN (gy p) i) → Evn (fun k => parquetref07_Box.l0 k p ((i + 1 : Nat) : Int) (mnN (gx p) (i + 1)) (mnN (gy p) (i + 1)) (mxN (gx p) (i + 1)) (mxN (gy p) (i + 1))) r → Evn (fun k => parquetref07_Box.l0 k p (i : Int) a b c d) r := by
    intro i hi a b c d h0 hev
    have w1 : wrap64 ((i : Int) + 1) = ((i + 1 : Nat) : Int) := by rw [wrap_id (by omega) (by omega)]; rfl
    have ex : gx p i = (rd_T28 p (i : Int)).f0 := rfl
    have ey : gy p i = (rd_T28 p (i : Int)).f1 := rfl
    by_cases hz : i = 0
    · subst hz
      simp only [mnN, mxN, mn_self, mx_self, ex, ey, Int.ofNat_zero] at hev
      refine Evn.step ?_; simp only [parquetref07_Box.l0]
      refine Evn.pos (by omega) (Evn.pos (by omega) ?_)
      refine Evn.step ?_; simp only [parquetref07_Box.j1]
      refine Evn.pos trivial (Evn.pos (by omega) (Evn.pos (by omega) ?_))
      refine Evn.step ?_; simp only [parquetref07_Box.j2]
      refine Evn.pos (by omega) ?_
      refine Evn.step ?_; simp only [parquetref07_Box.j3]
      refine Evn.pos trivial (Evn.pos (by omega) (Evn.pos (by omega) ?_))
      refine Evn.step ?_; simp only [parquetref07_Box.j4]
      refine Evn.pos (by omega) ?_
      refine Evn.step ?_; simp only [parquetref07_Box.j5]
      refine Evn.pos trivial (Evn.pos (by omega) (Evn.pos (by omega) (Evn.pos (by omega) ?_)))
      rw [w1]; exact hev
    · obtain ⟨rfl, rfl, rfl, rfl⟩ := h0 hz
      simp only [mnN, mxN, ex, ey] at hev
      refine Evn.step ?_; simp only [parquetref07_Box.l0]
      refine Evn.pos (by omega) (Evn.neg (by omega) (Evn.pos (by omega) ?_))
      have j2 : Evn (fun k => parquetref07_Box.j2 k p (i : Int) (mn (mnN (gx p) i) (rd_T28 p (i : Int)).f0) (mnN (gy p) i) (mxN (gx p) i) (mxN (gy p) i)) r := by
        refine Evn.step ?_; simp only [parquetref07_Box.j2]
        refine Evn.neg (by omega) (Evn.pos (by omega) (Evn.pos (by omega) ?_))
        have j4 : Evn (fun k => parquetref07_Box.j4 k p (i : Int) (mn (mnN (gx p) i) (rd_T28 p (i : Int)).f0) (mn (mnN (gy p) i) (rd_T28 p (i : Int)).f1) (mxN (gx p) i) (mxN (gy p) i)) r := by
          refine Evn.step ?_; simp only [parquetref07_Box.j4]
          refine Evn.neg (by omega) (Evn.pos (by omega) (Evn.pos (by omega) ?_))
          refine Evn.step ?_; simp only [parquetref07_Box.j5, w1]
          refine Evn.ite (fun h => ?_) (fun h => ?_)
          · have hm : mx (mxN (gx p) i) (rd_T28 p (i : Int)).f0 = (rd_T28 p (i : Int)).f0 := by unfold mx; rw [if_pos (by simpa using h)]
            rw [hm] at hev
            refine Evn.pos (by omega) (Evn.pos (by omega) (Evn.neg (by omega) (Evn.ite (fun h => ?_) (fun h => ?_))))
            · exact hev.congr fun k => by unfold mx; rw [if_pos (by omega)]
            · exact hev.congr fun k => by unfold mx; rw [if_neg (by omega)]
          · have hm : mx (mxN (gx p) i) (rd_T28 p (i : Int)).f0 = mxN (gx p) i := by unfold mx; rw [if_neg (by simpa using h)]
            rw [hm] at hev
            refine Evn.neg (by omega) (Evn.pos (by omega) (Evn.pos (by omega) (Evn.ite (fun h => ?_) (fun h => ?_))))
            · exact hev.congr fun k => by unfold mx; rw [if_pos (by omega)]
            · exact hev.congr fun k => by unfold mx; rw [if_neg (by omega)]
        refine Evn.step ?_; simp only [parquetref07_Box.j3]
        refine Evn.ite (fun h => ?_) (fun h => ?_)
        · have hm : mn (mnN (gy p) i) (rd_T28 p (i : Int)).f1 = (rd_T28 p (i : Int)).f1 := by unfold mn; rw [if_pos (by simpa using h)]
          rw [hm] at j4
          exact Evn.pos (by omega) (Evn.pos (by omega) j4)
        · have hm : mn (mnN (gy p) i) (rd_T28 p (i : Int)).f1 = mnN (gy p) i := by unfold mn; rw [if_neg (by simpa using h)]
          rw [hm] at j4
          exact j4
      refine Evn.step ?_; simp only [parquetref07_Box.j1]
      refine Evn.ite (fun h => ?_) (fun h => ?_)
      · have hm : mn (mnN (gx p) i) (rd_T28 p (i : Int)).f0 = (rd_T28 p (i : Int)).f0 := by unfold mn; rw [if_pos (by simpa using h)]
        rw [hm] at j2
        exact Evn.pos (by omega) (Evn.pos (by omega) j2)
      · have hm : mn (mnN (gx p) i) (rd_T28 p (i : Int)).f0 = mnN (gx p) i := by unfold mn; rw [if_neg (by simpa using h)]
        rw [hm] at j2
        exact j2
  have key : ∀ d i : Nat, i + d = p.length → i ≠ 0 → Evn (fun k => parquetref07_Box.l0 k p (i : Int) (mnN (gx p) i) (mnN (gy p) i) (mxN (gx p) i) (mxN (gy p) i)) r := by
    intro d
    induction d with
    | zero =>
      intro i hi h0
      obtain rfl : i = p.length := by omega
      exact fin _ _ _ _ r rfl (by rw [if_neg h0]; exact ⟨rfl, rfl, rfl, rfl⟩)
    | succ d ih =>
      intro i hi h0
      exact step i (by omega) _ _ _ _ (fun _ => ⟨rfl, rfl, rfl, rfl⟩) (ih (i + 1) (by omega) (by omega))
  by_cases h0 : p.length = 0
  · have := fin 0 0 0 0 r rfl (by rw [if_pos h0]; exact ⟨rfl, rfl, rfl, rfl⟩)
    rw [h0] at this
    exact this
  · exact step 0 (by omega) 0 0 0 0 (fun h => absurd rfl h) (key (p.length - 1) 1 (by omega) (by omega))

theorem SortsTells : parquetlaw07_SortsTells.Pure := by
  intro p a0 a1 b0 b1 _ _ _ _ _
  refine Evn.get ?_
  unfold parquetlaw07_SortsTells.f
  refine Evn.ite (fun _ => Evn.bind known_ev (Evn.ret _)) fun hp => ?_
  have hp' : p.length ≤ 300 := by omega
  obtain ⟨r, r1, r2⟩ := twice_ev p (by omega)
  obtain ⟨s, s1, s2⟩ := refTwice_ev p (by omega)
  obtain rfl := r1.unique s1
  refine Evn.bind r2 (Evn.bind s2 (Evn.bind (box_ev p (by omega)) (Evn.bind (refBox_ev p (by omega)) (Evn.bind (Evn.const (less_f ⟨a0, a1⟩ ⟨b0, b1⟩)) ?_))))
  refine Evn.pos rfl (Evn.pos rfl (Evn.pos (by simp) (Evn.pos (by simp) (Evn.pos (by simp) (Evn.pos (by simp) (Evn.bind (Evn.const (refLess_f ⟨a0, a1⟩ ⟨b0, b1⟩)) (Evn.pos (by simp) ?_)))))))
  refine Evn.ite (fun h => Evn.pos ?_ (Evn.bind known_ev (Evn.ret _))) (fun h => Evn.bind (Evn.const (less_f ⟨b0, b1⟩ ⟨a0, a1⟩)) (Evn.pos ?_ (Evn.bind known_ev (Evn.ret _))))
  · simp only [ltP, Bool.or_eq_true, Bool.and_eq_true, decide_eq_true_eq] at h
    by_cases e : a0 = b0
    · by_cases f : a1 = b1
      · omega
      · simp [f]
    · simp [e]
  · simp only [ltP, Bool.or_eq_true, Bool.and_eq_true, decide_eq_true_eq] at h
    by_cases e : a0 = b0
    · subst e
      by_cases f : a1 = b1
      · subst f; simp [ltP]
      · have : b1 < a1 := by omega
        simp [ltP, this, f]
    · have : b0 < a0 := by omega
      simp [ltP, this, e]
end Go.Proofs.Ytfmeicojiadeiaa.Pure
