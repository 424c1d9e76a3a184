/- What two segments have in common: what the functions come to. -/
import Derived.Test.YtpkkcjmblocjdaaGreatH2
set_option linter.unusedSimpArgs false
set_option linter.unusedVariables false
namespace Go.Proofs.YtpkkcjmblocjdaaGreat.Pure
open Go.RowKit Go.Proofs.YtpkkcjmblocjdaaGreat.AM

theorem loop_list {α ρ : Type} {f : α → (α → Option ρ) → Option ρ} (st : Nat → α) (n : Nat) (P : Nat → Option ρ) (h0 : ∀ next, f (st n) next = P n) (hs : ∀ i, i < n → ∀ next, next (st (i + 1)) = P (i + 1) → f (st i) next = P i) :
    ∀ (q i : Nat), i ≤ n → n - i < q → loopN f q (st i) = P i
  | 0, i, _, h => by omega
  | q + 1, i, hi, h => by
    rw [loop_s]
    by_cases e : i = n
    · subst e; exact h0 _
    · exact hs i (by omega) _ (loop_list st n P h0 hs q (i + 1) (by omega) (by omega))
abbrev Pt : Type := Int × Int
theorem cT {α : Type} (x y : α) : (bif true then x else y) = x := rfl
theorem cF {α : Type} (x y : α) : (bif false then x else y) = y := rfl
theorem etaP (a : Pt) : (a.1, a.2) = a := rfl
theorem eqP {a b : Pt} : ((decide (a.1 = b.1)) && (decide (a.2 = b.2))) = decide (a = b) := by
  rw [Bool.eq_iff_iff]; cases a; cases b; simp
def Fit (p : Pt) : Prop := -4294967296 ≤ p.1 ∧ p.1 ≤ 4294967296 ∧ -4294967296 ≤ p.2 ∧ p.2 ≤ 4294967296
instance (p : Pt) : Decidable (Fit p) := inferInstanceAs (Decidable (_ ∧ _ ∧ _ ∧ _))
theorem rd_get {α : Type} (d : α) (l : List α) (i : Nat) (h : i < l.length) : rdD d l (i : Int) = l[i] := by
  simp [rdD, List.getD_eq_getElem?_getD, h]
theorem fits_f (m : Nat) (l : List Pt) (hl : l.length ≤ 5) : g_pred_Fits (m + 6) l = some (l.all fun p => decide (Fit p)) := by
  unfold g_pred_Fits
  refine loop_list (fun i => (l, (l.length : Int), (i : Int))) l.length (fun i => some ((l.drop i).all fun p => decide (Fit p))) ?_ ?_ (m + 6) 0 (Nat.zero_le _) (by omega)
  · intro next
    dsimp only
    rw [bif_F (by omega), List.drop_length]; rfl
  · intro i hi next hn
    dsimp only at hn ⊢
    rw [bif_T (by omega), gd_t (inb_t ⟨by omega, by omega⟩), rd_get _ l i hi]
    simp only [meet]
    rw [w64_id (by omega) (by omega), List.drop_eq_getElem_cons hi, List.all_cons]
    generalize l[i] = p
    have hn' : next (l, (l.length : Int), (i : Int) + 1) = some ((l.drop (i + 1)).all fun p => decide (Fit p)) := hn
    rw [hn']
    by_cases h : Fit p
    · have h' := h
      unfold Fit at h'
      rw [bif_F (by omega), bif_F (by omega), bif_F (by omega), bif_F (by omega), decide_eq_true h, Bool.true_and]
    · rw [decide_eq_false h, Bool.false_and]
      unfold Fit at h
      by_cases h1 : p.1 < -4294967296
      · rw [bif_T h1]; rfl
      · rw [bif_F h1]
        by_cases h2 : p.1 > 4294967296
        · rw [bif_T h2]; rfl
        · rw [bif_F h2]
          by_cases h3 : p.2 < -4294967296
          · rw [bif_T h3]; rfl
          · rw [bif_F h3, bif_T (by omega)]
theorem small_f (m : Nat) (l : List Int) (hl : l.length ≤ 5) (hx : ∀ x ∈ l, -4611686018427387904 ≤ x ∧ x ≤ 4611686018427387904) : g_pred_small (m + 6) l = some (l.all fun x => decide ((x.natAbs : Int) < 1073741824)) := by
  unfold g_pred_small b_pred_small
  refine loop_list (fun i => (l, (l.length : Int), (i : Int))) l.length (fun i => some ((l.drop i).all fun x => decide ((x.natAbs : Int) < 1073741824))) ?_ ?_ (m + 6) 0 (Nat.zero_le _) (by omega)
  · intro next
    dsimp only
    rw [bif_F (by omega), List.drop_length]; rfl
  · intro i hi next hn
    dsimp only at hn ⊢
    have hm := hx l[i] (List.getElem_mem _)
    rw [bif_T (by omega), gd_t (inb_t ⟨by omega, by omega⟩), rd_get _ l i hi, w64_id (by omega) (by omega), List.drop_eq_getElem_cons hi, List.all_cons]
    generalize l[i] = p at hm
    have hn' : next (l, (l.length : Int), (i : Int) + 1) = some ((l.drop (i + 1)).all fun x => decide ((x.natAbs : Int) < 1073741824)) := hn
    rw [hn', size_f (by omega) (by omega), bnd_s]
    by_cases h : (p.natAbs : Int) < 1073741824
    · rw [bif_F (by omega), decide_eq_true h, Bool.true_and]
    · rw [bif_T (by omega), decide_eq_false h, Bool.false_and]
def crs (a b c : Pt) : Int := (b.1 - a.1) * (c.2 - a.2) - (b.2 - a.2) * (c.1 - a.1)
theorem orient_f (m : Nat) (a b c : Pt) (ha : Fit a) (hb : Fit b) (hc : Fit c) : g_pred_orient (m + 6) a b c = some (sg (crs a b c)) := by
  unfold Fit at ha hb hc
  unfold g_pred_orient b_pred_orient crs
  rw [w64_id (x := b.1 - a.1) (by omega) (by omega), w64_id (x := c.2 - a.2) (by omega) (by omega), w64_id (x := b.2 - a.2) (by omega) (by omega), w64_id (x := c.1 - a.1) (by omega) (by omega)]
  have hp : -8589934592 ≤ b.1 - a.1 ∧ b.1 - a.1 ≤ 8589934592 := by omega
  have hq : -8589934592 ≤ c.2 - a.2 ∧ c.2 - a.2 ≤ 8589934592 := by omega
  have hr : -8589934592 ≤ b.2 - a.2 ∧ b.2 - a.2 ≤ 8589934592 := by omega
  have hs : -8589934592 ≤ c.1 - a.1 ∧ c.1 - a.1 ≤ 8589934592 := by omega
  generalize b.1 - a.1 = p at *
  generalize c.2 - a.2 = q at *
  generalize b.2 - a.2 = r at *
  generalize c.1 - a.1 = s at *
  rw [small_f m _ (by simp) (by intro x hx; simp at hx; omega), bnd_s, show m + 6 = (m + 1) + 5 from rfl, cross_f (by omega) (by omega) (by omega) (by omega) (by omega) (by omega) (by omega) (by omega), bnd_s]
  by_cases h : ([p, q, r, s].all fun x => decide ((x.natAbs : Int) < 1073741824)) = true
  · rw [bif_t h]
    simp at h
    obtain ⟨h1, h2, h3, h4⟩ := h
    have b1 : ((p * q).natAbs : Int) ≤ 1073741824 * 1073741824 := by
      rw [Int.natAbs_mul, Int.natCast_mul]
      exact Int.mul_le_mul (Int.le_of_lt h1) (Int.le_of_lt h2) (by omega) (by omega)
    have b2 : ((r * s).natAbs : Int) ≤ 1073741824 * 1073741824 := by
      rw [Int.natAbs_mul, Int.natCast_mul]
      exact Int.mul_le_mul (Int.le_of_lt h3) (Int.le_of_lt h4) (by omega) (by omega)
    generalize p * q = m at *
    generalize r * s = n at *
    rw [w64_id (x := m) (by omega) (by omega), w64_id (x := n) (by omega) (by omega), w64_id (x := m - n) (by omega) (by omega)]
    by_cases h : m - n > 0
    · rw [bif_T h, sg, if_pos h]
    · rw [bif_F h, sg, if_neg h]
      by_cases h' : m - n < 0
      · rw [bif_T h', if_pos h']
      · rw [bif_F h', if_neg h']
  · rw [bif_f (by simpa using h)]
def ori (a b c : Pt) : Int := if Fit a ∧ Fit b ∧ Fit c then sg (crs a b c) else 0
theorem all3 {a b c : Pt} : ([a, b, c].all fun p => decide (Fit p)) = decide (Fit a ∧ Fit b ∧ Fit c) := by
  rw [Bool.eq_iff_iff]; simp
theorem all4 {a b c d : Pt} : ([a, b, c, d].all fun p => decide (Fit p)) = decide (Fit a ∧ Fit b ∧ Fit c ∧ Fit d) := by
  rw [Bool.eq_iff_iff]; simp
theorem Orient_f (m : Nat) (a b c : Pt) : g_pred_Orient (m + 6) a b c = some (ori a b c) := by
  unfold g_pred_Orient b_pred_Orient ori
  simp only [etaP]
  rw [fits_f m [a, b, c] (by simp), bnd_s, all3]
  by_cases h : Fit a ∧ Fit b ∧ Fit c
  · rw [if_pos h, bif_f (by simp [h]), orient_f m a b c h.1 h.2.1 h.2.2, bnd_s]
  · rw [if_neg h, bif_t (by simp [h])]
def Btw (a b c : Int) : Prop := (a ≤ c ∨ b ≤ c) ∧ (c ≤ a ∨ c ≤ b)
instance (a b c : Int) : Decidable (Btw a b c) := inferInstanceAs (Decidable (_ ∧ _))
theorem between_f (k : Nat) (a b c : Int) : g_meet_between k a b c = some (decide (Btw a b c)) := by
  unfold g_meet_between
  simp only [meet]
  have h1 : (mnI a b ≤ c) ↔ (a ≤ c ∨ b ≤ c) := by unfold mnI; split <;> omega
  have h2 : (c ≤ mxI a b) ↔ (c ≤ a ∨ c ≤ b) := by unfold mxI; split <;> omega
  by_cases h : mnI a b ≤ c
  · rw [bif_T h]
    congr 1; rw [decide_eq_decide]; unfold Btw; constructor
    · exact fun x => ⟨h1.1 h, h2.1 x⟩
    · exact fun x => h2.2 x.2
  · rw [bif_F h]
    congr 1; symm; rw [decide_eq_false_iff_not]; exact fun x => h (h1.2 x.1)
def On (a b p : Pt) : Prop := a ≠ b ∧ (Fit a ∧ Fit b ∧ Fit p) ∧ crs a b p = 0 ∧ Btw a.1 b.1 p.1 ∧ Btw a.2 b.2 p.2
instance (a b p : Pt) : Decidable (On a b p) := inferInstanceAs (Decidable (_ ∧ _))
theorem sg_zero {x : Int} : sg x = 0 ↔ x = 0 := by unfold sg; (repeat' split) <;> omega
theorem On_f (m : Nat) (a b p : Pt) : g_meet_On (m + 6) a b p = some (decide (On a b p)) := by
  unfold g_meet_On b_meet_On
  simp only [etaP, meet, eqP]
  have no : ∀ h : ¬ On a b p, (some false : Option Bool) = some (decide (On a b p)) := fun h => by rw [decide_eq_false h]
  by_cases h : a = b
  · rw [bif_f (by simp [h])]
    exact no fun x => x.1 h
  rw [bif_t (by simp [h]), fits_f m [a, b, p] (by simp), bnd_s, all3]
  by_cases hf : Fit a ∧ Fit b ∧ Fit p
  · rw [bif_T hf, Orient_f, bnd_s, ori, if_pos hf]
    by_cases h0 : sg (crs a b p) = 0
    · rw [bif_T h0, between_f, bnd_s]
      by_cases h1 : Btw a.1 b.1 p.1
      · rw [bif_T h1, between_f, bnd_s]
        congr 1
        rw [decide_eq_decide]
        exact ⟨fun x => ⟨h, hf, sg_zero.1 h0, h1, x⟩, fun x => x.2.2.2.2⟩
      · rw [bif_F h1]
        exact no fun x => h1 x.2.2.2.1
    · rw [bif_F h0]
      exact no fun x => h0 (sg_zero.2 x.2.2.1)
  · rw [bif_F hf]
    exact no fun x => hf x.2.1
def Ins (a b p : Pt) : Prop := On a b p ∧ p ≠ a ∧ p ≠ b
instance (a b p : Pt) : Decidable (Ins a b p) := inferInstanceAs (Decidable (_ ∧ _))
theorem Inside_f (m : Nat) (a b p : Pt) : g_meet_Inside (m + 6) a b p = some (decide (Ins a b p)) := by
  unfold g_meet_Inside b_meet_Inside
  simp only [etaP, meet, eqP]
  have no : ∀ h : ¬ Ins a b p, (some false : Option Bool) = some (decide (Ins a b p)) := fun h => by rw [decide_eq_false h]
  rw [On_f, bnd_s]
  by_cases h : On a b p
  · rw [bif_T h]
    by_cases h1 : p = a
    · rw [bif_f (by simp [h1])]
      exact no fun x => x.2.1 h1
    · rw [bif_t (by simp [h1])]
      congr 1
      rw [← decide_not, decide_eq_decide]
      exact ⟨fun x => ⟨h, h1, x⟩, fun x => x.2.2⟩
  · rw [bif_F h]
    exact no fun x => h x.1
theorem count_f (m : Nat) (l : List Bool) (hl : l.length ≤ 5) : g_meet_count (m + 6) l = some ((l.count true : Nat) : Int) := by
  unfold g_meet_count
  refine loop_list (fun i => ((((l.take i).count true : Nat) : Int), l, (l.length : Int), (i : Int))) l.length (fun _ => some ((l.count true : Nat) : Int)) ?_ ?_ (m + 6) 0 (Nat.zero_le _) (by omega)
  · intro next
    dsimp only
    rw [bif_F (by omega), List.take_length]
  · intro i hi next hn
    dsimp only at hn ⊢
    have hc : (l.take i).count true ≤ i := Nat.le_trans List.count_le_length (by rw [List.length_take]; omega)
    rw [List.take_succ_eq_append_getElem hi, List.count_append, List.count_singleton] at hn
    rw [bif_T (by omega), gd_t (inb_t ⟨by omega, by omega⟩), rd_get _ l i hi]
    simp only [meet]
    rw [w64_id (x := (i : Int) + 1) (by omega) (by omega), w64_id (by omega) (by omega)]
    generalize l[i] = b at hn ⊢
    cases b
    · exact hn
    · exact hn
def ends (a b c d : Pt) : Nat := [decide (a = c), decide (a = d), decide (b = c), decide (b = d)].count true
def inss (a b c d : Pt) : Nat := [decide (Ins a b c), decide (Ins a b d), decide (Ins c d a), decide (Ins c d b)].count true
def Cro (a b c d : Pt) : Prop := ori a b c * ori a b d < 0 ∧ ori c d a * ori c d b < 0
instance (a b c d : Pt) : Decidable (Cro a b c d) := inferInstanceAs (Decidable (_ ∧ _))
def Bad (a b c d : Pt) : Prop := a = b ∨ c = d ∨ ¬ (Fit a ∧ Fit b ∧ Fit c ∧ Fit d)
instance (a b c d : Pt) : Decidable (Bad a b c d) := inferInstanceAs (Decidable (_ ∨ _))
def how (a b c d : Pt) : Int := if Cro a b c d then 3 else if ends a b c d = 2 ∨ inss a b c d > 1 ∨ (ends a b c d = 1 ∧ inss a b c d = 1) then 4 else if ends a b c d = 1 then 1 else if inss a b c d = 1 then 2 else 0
def segs (a b c d : Pt) : Int × Int := if Bad a b c d then (0, 2) else (how a b c d, 0)
theorem ori_range (a b c : Pt) : -1 ≤ ori a b c ∧ ori a b c ≤ 1 := by unfold ori sg; (repeat' split) <;> omega
theorem prod_range {x y : Int} (h1 : -1 ≤ x ∧ x ≤ 1) (h2 : -1 ≤ y ∧ y ≤ 1) : -1 ≤ x * y ∧ x * y ≤ 1 := by
  have : x = -1 ∨ x = 0 ∨ x = 1 := by omega
  rcases this with rfl | rfl | rfl <;> omega
theorem Segs_f (m : Nat) (a b c d : Pt) : g_meet_Segs (m + 6) a b c d = some (segs a b c d) := by
  unfold g_meet_Segs b_meet_Segs
  simp only [etaP, meet, eqP]
  by_cases h1 : a = b
  · rw [bif_T h1]
    simp only [cT, cF]
    rw [segs, if_pos (show Bad a b c d from Or.inl h1)]
  rw [bif_F h1]
  by_cases h2 : c = d
  · rw [bif_T h2]
    simp only [cT, cF]
    rw [segs, if_pos (show Bad a b c d from Or.inr (Or.inl h2))]
  rw [bif_F h2, fits_f m [a, b, c, d] (by simp), bnd_s, all4]
  by_cases hnf : ¬ (Fit a ∧ Fit b ∧ Fit c ∧ Fit d)
  · rw [bif_t (by simp [hnf]), segs, if_pos (show Bad a b c d from Or.inr (Or.inr hnf))]
  have hf := Decidable.not_not.1 hnf
  have hb : ¬ Bad a b c d := by
    rintro (h | h | h)
    · exact h1 h
    · exact h2 h
    · exact h hf
  rw [bif_f (by simp [hf]), segs, if_neg hb, count_f m _ (by simp), Inside_f, Inside_f, Inside_f, Inside_f]
  simp only [bnd_s]
  rw [count_f m _ (by simp), Orient_f, Orient_f, Orient_f, Orient_f]
  simp only [bnd_s]
  have r1 := prod_range (ori_range a b c) (ori_range a b d)
  have r2 := prod_range (ori_range c d a) (ori_range c d b)
  rw [w64_id (by omega) (by omega), w64_id (by omega) (by omega)]
  have e1 : [decide (a = c), decide (a = d), decide (b = c), decide (b = d)].count true = ends a b c d := rfl
  have e2 : [decide (Ins a b c), decide (Ins a b d), decide (Ins c d a), decide (Ins c d b)].count true = inss a b c d := rfl
  rw [e1, e2]
  by_cases hc : Cro a b c d
  · rw [bif_T hc.1, bif_T hc.2, how, if_pos hc]
  · have hx : ∀ X : Bool → Option (Int × Int), (bif decide (ori a b c * ori a b d < 0) then X (decide (ori c d a * ori c d b < 0)) else X false) = X false := by
      intro X
      by_cases h3 : ori a b c * ori a b d < 0
      · rw [bif_T h3, decide_eq_false (fun h4 => hc ⟨h3, h4⟩)]
      · rw [bif_F h3]
    rw [hx (fun y17 => bif y17 then some (3, 0) else _)]
    simp only [cF]
    rw [how, if_neg hc]
    by_cases q1 : ends a b c d = 2
    · rw [bif_T (by omega), cT, if_pos (Or.inl q1)]
    · rw [bif_F (by omega)]
      by_cases q2 : inss a b c d > 1
      · rw [bif_T (by omega), cT, if_pos (Or.inr (Or.inl q2))]
      · rw [bif_F (by omega)]
        by_cases q3 : ends a b c d = 1
        · rw [bif_T (show ((ends a b c d : Nat) : Int) = 1 by omega)]
          by_cases q4 : inss a b c d = 1
          · rw [decide_eq_true (show ((inss a b c d : Nat) : Int) = 1 by omega), cT, if_pos (Or.inr (Or.inr ⟨q3, q4⟩))]
          · rw [decide_eq_false (show ¬ ((inss a b c d : Nat) : Int) = 1 by omega), if_neg (by omega)]
            rw [cF, bif_T (by omega), if_pos q3]
        · rw [bif_F (show ¬ ((ends a b c d : Nat) : Int) = 1 by omega), if_neg (by omega)]
          rw [bif_F (show ¬ ((ends a b c d : Nat) : Int) = 1 by omega), if_neg q3]
          by_cases q4 : inss a b c d = 1
          · rw [bif_T (by omega), if_pos q4]
          · rw [bif_F (by omega), if_neg q4]
end Go.Proofs.YtpkkcjmblocjdaaGreat.Pure
