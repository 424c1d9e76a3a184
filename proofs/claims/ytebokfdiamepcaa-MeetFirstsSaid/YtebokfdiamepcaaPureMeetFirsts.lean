/- The plain law of MeetFirsts. -/
import Derived.Test.YtebokfdiamepcaaPureMeetTells
set_option linter.unusedVariables false
set_option linter.unusedSimpArgs false
namespace Go.Proofs.Ytebokfdiamepcaa.Pure
open Go.RowKit Go.Proofs.Ytebokfdiamepcaa.AM
/-- A loop, by a relation of rounds left, state and answer. -/
theorem loop_rel {α ρ : Type} (R : Nat → α → Option ρ → Prop) {f : α → (α → Option ρ) → Option ρ} (h : ∀ n s v, R n s v → ∀ next, (∀ n' s' v', n' < n → R n' s' v' → next s' = v') → f s next = v) :
    ∀ (q n : Nat) (s : α) (v : Option ρ), R n s v → n < q → loopN f q s = v
  | 0, n, s, v, _, hq => by omega
  | q + 1, n, s, v, hr, hq => by
    rw [loop_s]
    exact h n s v hr _ fun n' s' v' hn hr' => loop_rel R h q n' s' v' hr' (by omega)
abbrev Sg : Type := Pt × Pt
def badS (s : Sg) : Prop := ¬ (Fit s.1 ∧ Fit s.2) ∨ s.1 = s.2
instance (s : Sg) : Decidable (badS s) := inferInstanceAs (Decidable (_ ∨ _))
def sat (l : List Sg) (i : Int) : Sg := rdD ((0, 0), 0, 0) l i
def crossing (l : List Sg) (i k : Nat) : Bool := decide ((segs (sat l i).1 (sat l i).2 (sat l k).1 (sat l k).2).1 > 1)
def row (f : Nat → Nat → Bool) (n a b : Nat) : Option Nat := (List.range' b (n - b)).find? (f a)
def srch (f : Nat → Nat → Bool) (n a : Nat) : Option (Nat × Nat) := (List.range' a (n - a)).findSome? fun a => (row f n a (a + 1)).map fun b => (a, b)
theorem row_end (f : Nat → Nat → Bool) (n a : Nat) : row f n a n = none := by unfold row; rw [Nat.sub_self]; rfl
theorem row_step (f : Nat → Nat → Bool) {n a b : Nat} (h : b < n) : row f n a b = if f a b = true then some b else row f n a (b + 1) := by
  unfold row
  rw [show n - b = (n - (b + 1)) + 1 by omega, List.range'_succ, List.find?_cons]
  cases f a b <;> simp
theorem srch_end (f : Nat → Nat → Bool) (n : Nat) : srch f n n = none := by unfold srch; rw [Nat.sub_self]; rfl
theorem srch_step (f : Nat → Nat → Bool) {n a : Nat} (h : a < n) : srch f n a = match row f n a (a + 1) with | some b => some (a, b) | none => srch f n (a + 1) := by
  conv => lhs; unfold srch
  rw [show n - a = (n - (a + 1)) + 1 by omega, List.range'_succ, List.findSome?_cons]
  cases row f n a (a + 1) <;> rfl
def resv : Option (Nat × Nat) → Int × Int × Bool
  | some (a, b) => (a, b, true)
  | none => (0, 0, false)
def firstv (l : List Sg) : Int × Int × Bool := if (l.any fun s => decide (badS s)) = true then (0, 0, false) else resv (srch (crossing l) l.length 0)
theorem all2 {a b : Pt} : ([a, b].all fun p => decide (Fit p)) = decide (Fit a ∧ Fit b) := by
  rw [Bool.eq_iff_iff]; simp
theorem First_f (m : Nat) (l : List Sg) (hl : l.length ≤ 40) : g_meet_First (m + 100) l = some (firstv l) := by
  have segsL : ∀ a b c d, g_meet_Segs (m + 100) a b c d = some (segs a b c d) := fun a b c d => Segs_f (m + 94) a b c d
  have fitsL : ∀ l : List Pt, l.length ≤ 5 → g_pred_Fits (m + 100) l = some (l.all fun p => decide (Fit p)) := fun l h => fits_f (m + 94) l h
  unfold g_meet_First b_meet_First firstv
  refine loop_list (fun i => (l, l, (l.length : Int), (i : Int))) l.length (fun i => some (if ((l.drop i).any fun s => decide (badS s)) = true then (0, 0, false) else resv (srch (crossing l) l.length 0))) ?_ ?_ (m + 100) 0 (Nat.zero_le _) (by omega)
  · intro next
    dsimp only
    rw [bif_F (by omega), List.drop_length, List.any_nil, if_neg (by simp)]
    refine loop_list (fun i => (l, l, (l.length : Int), (i : Int))) l.length (fun i => some (resv (srch (crossing l) l.length i))) ?_ ?_ (m + 100) 0 (Nat.zero_le _) (by omega)
    · intro next
      dsimp only
      rw [bif_F (by omega), srch_end]; rfl
    · intro i hi next hn
      dsimp only at hn ⊢
      rw [bif_T (by omega), gd_t (inb_t ⟨by omega, by omega⟩), w64_id (by omega) (by omega), srch_step _ hi]
      have hn' : next (l, l, (l.length : Int), (i : Int) + 1) = some (resv (srch (crossing l) l.length (i + 1))) := hn
      refine (loop_list (fun b => (l, (i : Int), sat l i, (b : Int), l, (l.length : Int), (i : Int))) l.length (fun b => some (resv (match row (crossing l) l.length i b with | some b => some (i, b) | none => srch (crossing l) l.length (i + 1)))) ?_ ?_ (m + 100) (i + 1) (by omega) (by omega))
      · intro next2
        dsimp only
        rw [bif_F (by omega), row_end, w64_id (x := (i : Int) + 1) (by omega) (by omega)]
        rw [hn']
      · intro b hb next2 hn2
        dsimp only at hn2 ⊢
        rw [bif_T (by omega), gd_t (inb_t ⟨by omega, by omega⟩), gd_t (inb_t ⟨by omega, by omega⟩), w64_id (x := (b : Int) + 1) (by omega) (by omega), row_step _ hb]
        simp only [etaP]
        rw [segsL, bnd_s]
        have e : decide ((segs (sat l i).1 (sat l i).2 (rdD ((0, 0), 0, 0) l (b : Int)).1 (rdD ((0, 0), 0, 0) l (b : Int)).2).1 > 1) = crossing l i b := rfl
        rw [e]
        cases crossing l i b
        · exact hn2
        · rfl
  · intro i hi next hn
    dsimp only at hn ⊢
    rw [bif_T (by omega), gd_t (inb_t ⟨by omega, by omega⟩), rd_get _ l i hi, List.drop_eq_getElem_cons hi, List.any_cons]
    generalize l[i] = s at hn ⊢
    have hn' : next (l, l, (l.length : Int), (i : Int) + 1) = some (if ((l.drop (i + 1)).any fun s => decide (badS s)) = true then (0, 0, false) else resv (srch (crossing l) l.length 0)) := hn
    simp only [meet, etaP]
    rw [w64_id (by omega) (by omega), fitsL _ (by simp), bnd_s, all2]
    simp only [decide_true, Bool.true_and, eqP]
    by_cases h : Fit s.1 ∧ Fit s.2
    · rw [decide_eq_true h]
      by_cases h' : s.2 = s.1
      · rw [decide_eq_true h', decide_eq_true (show badS s from .inr h'.symm)]; rfl
      · rw [decide_eq_false h', decide_eq_false (show ¬ badS s from fun x => x.elim (fun y => y h) (fun y => h' y.symm))]
        exact hn'
    · rw [decide_eq_false h, decide_eq_true (show badS s from .inl h)]; rfl
theorem firsts_law (m : Nat) (l : List Sg) : g_parquetlaw04_MeetFirsts (m + 100) l = some true := by
  have kn : g_parquetlaw04_known (m + 100) = some true := known_f (m + 94)
  unfold g_parquetlaw04_MeetFirsts b_parquetlaw04_MeetFirsts
  rw [kn]
  by_cases hl : (l.length : Int) > 40
  · rw [bif_T hl]; rfl
  rw [bif_F hl, gd_t (by unfold few; simp; omega), First_f m l (by omega), bnd_s]
  simp only [meet, bnd_s]
  generalize hF : firstv l = F
  obtain ⟨i, k, ok⟩ := F
  dsimp only
  -- the third loop
  let fin : Int → Int → Bool → Option Bool := fun x y is => some (decide (i = x) && decide (k = y) && (ok == is))
  let T : Int → Int → Bool → Option Bool := fun x y is => if (l.any fun s => decide (badS s)) = true then fin 0 0 false else fin x y is
  let V : Nat → Option Bool := fun a => match srch (crossing l) l.length a with | some (x, y) => T x y true | none => T 0 0 false
  let R1 : Nat → (List Sg × List Sg × Int × Int × Bool × Int × Int × Bool × Int) → Option Bool → Prop := fun n s v =>
    (∃ a : Nat, a ≤ l.length ∧ n = l.length - a + 1 ∧ s = (l, l, i, k, ok, 0, 0, false, (a : Int)) ∧ v = V a) ∨ (∃ (x y c : Int), n = 0 ∧ s = (l, l, i, k, ok, x, y, true, c) ∧ v = T x y true)
  have hfinal : V 0 = some true := by
    show (match srch (crossing l) l.length 0 with | some (x, y) => T x y true | none => T 0 0 false) = some true
    unfold firstv at hF
    show (match srch (crossing l) l.length 0 with | some (x, y) => (if (l.any fun s => decide (badS s)) = true then fin 0 0 false else fin x y true) | none => (if (l.any fun s => decide (badS s)) = true then fin 0 0 false else fin 0 0 false)) = some true
    by_cases hb : (l.any fun s => decide (badS s)) = true
    · rw [if_pos hb] at hF
      obtain ⟨rfl, rfl, rfl⟩ : i = 0 ∧ k = 0 ∧ ok = false := by simpa [eq_comm] using hF
      simp only [if_pos hb]
      cases srch (crossing l) l.length 0 <;> rfl
    · rw [if_neg hb] at hF
      simp only [if_neg hb]
      revert hF
      cases srch (crossing l) l.length 0 with
      | none => intro hF; obtain ⟨rfl, rfl, rfl⟩ : i = 0 ∧ k = 0 ∧ ok = false := by simpa [resv, eq_comm] using hF
                rfl
      | some p => 
        obtain ⟨a, b⟩ := p
        intro hF; obtain ⟨rfl, rfl, rfl⟩ : i = a ∧ k = b ∧ ok = true := by simpa [resv, eq_comm] using hF
        show some (decide ((a : Int) = a) && decide ((b : Int) = b) && (true == true)) = some true
        simp
  refine (loop_rel R1 ?_ (m + 100) (l.length + 1) _ (V 0) (.inl ⟨0, by omega, by omega, rfl, rfl⟩) (by omega)).trans hfinal
  intro n s v hr next hnext
  -- what stands behind the loops
  have hT : ∀ (f : (List Sg × List Sg × Int × Int × Bool × Int × Int × Bool × Int) → ((List Sg × List Sg × Int × Int × Bool × Int × Int × Bool × Int) → Option Bool) → Option Bool),
      (∀ (a : Nat) (x y : Int) (is : Bool), a < l.length → ∀ next, (∀ x y is, next (l, l, i, k, ok, x, y, is, (a : Int) + 1) = if ((l.drop (a + 1)).any fun s => decide (badS s)) = true then fin 0 0 false else fin x y is) →
        f (l, l, i, k, ok, x, y, is, (a : Int)) next = if ((l.drop a).any fun s => decide (badS s)) = true then fin 0 0 false else fin x y is) →
      (∀ (x y : Int) (is : Bool), ∀ next, f (l, l, i, k, ok, x, y, is, (l.length : Int)) next = fin x y is) →
      ∀ x y is, loopN f (m + 100) (l, l, i, k, ok, x, y, is, 0) = T x y is := by
    intro f h1 h2 x y is
    refine loop_rel (fun n s v => ∃ (a : Nat) (x y : Int) (is : Bool), a ≤ l.length ∧ n = l.length - a ∧ s = (l, l, i, k, ok, x, y, is, (a : Int)) ∧ v = if ((l.drop a).any fun s => decide (badS s)) = true then fin 0 0 false else fin x y is) ?_ (m + 100) l.length _ _ ⟨0, x, y, is, by omega, by omega, rfl, rfl⟩ (by omega)
    rintro n s v ⟨a, x, y, is, ha, rfl, rfl, rfl⟩ next hn
    by_cases e : a = l.length
    · subst e
      rw [h2, List.drop_length]; rfl
    · exact h1 a x y is (by omega) next fun x y is => hn (l.length - (a + 1)) _ _ (by omega) ⟨a + 1, x, y, is, by omega, rfl, rfl, rfl⟩
  rcases hr with ⟨a, ha, rfl, rfl, rfl⟩ | ⟨x, y, c, rfl, rfl, rfl⟩
  · by_cases hal : a < l.length
    case pos =>
      dsimp only
      rw [bif_T (by omega), Bool.not_false, cT, w64_id (by omega) (by omega)]
      have hV : V a = match row (crossing l) l.length a (a + 1) with | some y => T a y true | none => V (a + 1) := by
        show (match srch (crossing l) l.length a with | some (x, y) => T x y true | none => T 0 0 false) = _
        rw [srch_step _ hal]
        cases row (crossing l) l.length a (a + 1) <;> rfl
      rw [hV]
      refine loop_rel (fun n s v => (∃ b : Nat, b ≤ l.length ∧ n = l.length - b + 1 ∧ s = (l, l, i, k, ok, 0, 0, false, (a : Int), (b : Int)) ∧ v = match row (crossing l) l.length a b with | some y => T a y true | none => V (a + 1)) ∨ (∃ (x y c d : Int), n = 0 ∧ s = (l, l, i, k, ok, x, y, true, c, d) ∧ v = T x y true)) ?_ (m + 100) (l.length - (a + 1) + 1) _ _ (.inl ⟨a + 1, by omega, rfl, rfl, rfl⟩) (by omega)
      rintro n s v (⟨b, hb, rfl, rfl, rfl⟩ | ⟨x, y, c, d, rfl, rfl, rfl⟩) next2 hn2
      · by_cases hbl : b < l.length
        · dsimp only
          rw [bif_T (by omega), Bool.not_false, cT, gd_t (inb_t ⟨by omega, by omega⟩), gd_t (inb_t ⟨by omega, by omega⟩), gd_t (inb_t ⟨by omega, by omega⟩), gd_t (inb_t ⟨by omega, by omega⟩), row_step _ hbl]
          rw [rSegs_f, bnd_s, rsegs_eq, w64_id (x := (b : Int) + 1) (by omega) (by omega)]
          have e : decide ((segs (rdD ((0, 0), 0, 0) l (a : Int)).1 (rdD ((0, 0), 0, 0) l (a : Int)).2 (rdD ((0, 0), 0, 0) l (b : Int)).1 (rdD ((0, 0), 0, 0) l (b : Int)).2).1 > 1) = crossing l a b := rfl
          simp only [etaP]
          rw [e]
          cases crossing l a b
          · exact hn2 (l.length - (b + 1) + 1) _ _ (by omega) (.inl ⟨b + 1, by omega, rfl, rfl, rfl⟩)
          · exact hn2 0 _ _ (by omega) (.inr ⟨a, b, a, b + 1, rfl, rfl, rfl⟩)
        · obtain rfl : b = l.length := by omega
          dsimp only
          rw [bif_F (by omega), cF, row_end, w64_id (x := (a : Int) + 1) (by omega) (by omega)]
          exact hnext (l.length - (a + 1) + 1) _ _ (by omega) (.inl ⟨a + 1, by omega, rfl, rfl, rfl⟩)
      · dsimp only
        have e : ∀ (X : Bool → Option Bool), (bif decide (d < (l.length : Int)) then X (!true) else X false) = X false := by intro X; cases decide (d < (l.length : Int)) <;> rfl
        rw [Bool.not_true, cF]
        have e : ∀ (X : Option Bool), (bif decide (d < (l.length : Int)) then X else X) = X := by intro X; cases decide (d < (l.length : Int)) <;> rfl
        rw [e]
        exact hnext 0 _ _ (by omega) (.inr ⟨_, _, _, rfl, rfl, rfl⟩)
    obtain rfl : a = l.length := by omega
    have hV : V l.length = T 0 0 false := by
      show (match srch (crossing l) l.length l.length with | some (x, y) => T x y true | none => T 0 0 false) = _
      rw [srch_end]
    rw [hV]
    dsimp only
    rw [bif_F (by omega), cF]
    refine hT _ ?_ ?_ _ _ _
    · intro a x y is ha next hn
      dsimp only
      have hin : inb (a : Int) l.length = true := inb_t ⟨by omega, by omega⟩
      have gT : ∀ {ρ : Type} (x : Option ρ), gd true x = x := fun x => rfl
      rw [bif_T (by omega), rd_get _ l a ha, List.drop_eq_getElem_cons ha, List.any_cons, w64_id (by omega) (by omega)]
      generalize l[a] = s
      simp only [hin, gT, etaP, eqP, fitL, bnd_s, decide_true, Bool.true_and, Bool.not_true, cF, cT]
      rw [hn, hn]
      by_cases e1 : s.1 = s.2
      · rw [bif_T e1, decide_eq_true (show badS s from .inr e1), Bool.true_or, if_pos rfl]; first | rfl | exact ite_self _
      · rw [bif_F e1]
        by_cases e2 : Fit s.1
        · rw [decide_eq_true e2, Bool.not_true, cF]
          by_cases e3 : Fit s.2
          · rw [decide_eq_true e3, Bool.not_true, cF, decide_eq_false (show ¬ badS s from fun x => x.elim (fun y => y ⟨e2, e3⟩) e1), Bool.false_or]
          · rw [decide_eq_false e3, Bool.not_false, cT, decide_eq_true (show badS s from .inl fun x => e3 x.2), Bool.true_or, if_pos rfl]; first | rfl | exact ite_self _
        · rw [decide_eq_false e2, Bool.not_false, cT, decide_eq_true (show badS s from .inl fun x => e2 x.1), Bool.true_or, if_pos rfl]; first | rfl | exact ite_self _
    · intro x y is next
      dsimp only
      rw [bif_F (by omega)]
      show _ = some (decide (i = x) && decide (k = y) && (ok == is))
      cases decide (i = x) <;> cases decide (k = y) <;> cases ok == is <;> rfl
  · dsimp only
    have e : ∀ (X : Option Bool), (bif decide (c < (l.length : Int)) then X else X) = X := by intro X; cases decide (c < (l.length : Int)) <;> rfl
    rw [Bool.not_true, cF, e]
    refine hT _ ?_ ?_ _ _ _
    · intro a x y is ha next hn
      dsimp only
      have hin : inb (a : Int) l.length = true := inb_t ⟨by omega, by omega⟩
      have gT : ∀ {ρ : Type} (x : Option ρ), gd true x = x := fun x => rfl
      rw [bif_T (by omega), rd_get _ l a ha, List.drop_eq_getElem_cons ha, List.any_cons, w64_id (by omega) (by omega)]
      generalize l[a] = s
      simp only [hin, gT, etaP, eqP, fitL, bnd_s, decide_true, Bool.true_and, Bool.not_true, cF, cT]
      rw [hn, hn]
      by_cases e1 : s.1 = s.2
      · rw [bif_T e1, decide_eq_true (show badS s from .inr e1), Bool.true_or, if_pos rfl]; first | rfl | exact ite_self _
      · rw [bif_F e1]
        by_cases e2 : Fit s.1
        · rw [decide_eq_true e2, Bool.not_true, cF]
          by_cases e3 : Fit s.2
          · rw [decide_eq_true e3, Bool.not_true, cF, decide_eq_false (show ¬ badS s from fun x => x.elim (fun y => y ⟨e2, e3⟩) e1), Bool.false_or]
          · rw [decide_eq_false e3, Bool.not_false, cT, decide_eq_true (show badS s from .inl fun x => e3 x.2), Bool.true_or, if_pos rfl]; first | rfl | exact ite_self _
        · rw [decide_eq_false e2, Bool.not_false, cT, decide_eq_true (show badS s from .inl fun x => e2 x.1), Bool.true_or, if_pos rfl]; first | rfl | exact ite_self _
    · intro x y is next
      dsimp only
      rw [bif_F (by omega)]
      show _ = some (decide (i = x) && decide (k = y) && (ok == is))
      cases decide (i = x) <;> cases decide (k = y) <;> cases ok == is <;> rfl
theorem MeetFirsts (x0 : (List ((Int × Int) × (Int × Int)))) (g0 : Kd.good (.sl (.pair (.pair kI kI) (.pair kI kI))) x0) : ∃ k, g_parquetlaw04_MeetFirsts k x0 = some true :=
  ⟨100, by have := firsts_law 0 x0; rwa [Nat.zero_add] at this⟩
end Go.Proofs.Ytebokfdiamepcaa.Pure
