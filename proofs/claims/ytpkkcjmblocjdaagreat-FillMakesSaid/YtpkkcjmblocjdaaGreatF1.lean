/- What two segments have in common, from whichever end; the first two of a row that meet otherwise than they may. -/
import Derived.Test.YtpkkcjmblocjdaaGreatW3
import Derived.Test.YtpkkcjmblocjdaaGreatH20
set_option linter.unusedVariables false
set_option linter.unusedSimpArgs false
namespace Go.Proofs.YtpkkcjmblocjdaaGreat.Pure
open Go.RowKit Go.Proofs.YtpkkcjmblocjdaaGreat.AM
theorem bad_swap {a b c d : Pt} : Bad b a c d ↔ Bad a b c d := by
  unfold Bad
  exact ⟨fun h => h.imp Eq.symm (Or.imp id fun h x => h ⟨x.2.1, x.1, x.2.2⟩), fun h => h.imp Eq.symm (Or.imp id fun h x => h ⟨x.2.1, x.1, x.2.2⟩)⟩
theorem bad_turn {a b c d : Pt} : Bad c d a b ↔ Bad a b c d := by
  unfold Bad
  constructor
  · rintro (h | h | h)
    · exact .inr (.inl h)
    · exact .inl h
    · exact .inr (.inr fun x => h ⟨x.2.2.1, x.2.2.2, x.1, x.2.1⟩)
  · rintro (h | h | h)
    · exact .inr (.inl h)
    · exact .inl h
    · exact .inr (.inr fun x => h ⟨x.2.2.1, x.2.2.2, x.1, x.2.1⟩)
theorem how_turn {a b c d : Pt} : how c d a b = how a b c d := by
  have sy : ∀ x y : Pt, decide (x = y) = decide (y = x) := fun x y => by rw [decide_eq_decide]; exact eq_comm
  have e1 : ends c d a b = ends a b c d := by
    unfold ends
    rw [sy c a, sy c b, sy d a, sy d b]
    generalize decide (a = c) = x; generalize decide (a = d) = y; generalize decide (b = c) = z; generalize decide (b = d) = w
    cases x <;> cases y <;> cases z <;> cases w <;> rfl
  have e2 : inss c d a b = inss a b c d := by
    unfold inss
    generalize decide (Ins a b c) = x; generalize decide (Ins a b d) = y; generalize decide (Ins c d a) = z; generalize decide (Ins c d b) = w
    cases x <;> cases y <;> cases z <;> cases w <;> rfl
  have e3 : Cro c d a b ↔ Cro a b c d := by unfold Cro; exact and_comm
  unfold how
  rw [e1, e2]
  simp only [e3]
theorem segs_swap (a b c d : Pt) : segs b a c d = segs a b c d := by
  unfold segs; simp only [bad_swap (a := a) (b := b), how_swap (a := a) (b := b)]
theorem segs_turn (a b c d : Pt) : segs c d a b = segs a b c d := by
  unfold segs; simp only [bad_turn (a := a) (b := b), how_turn (a := a) (b := b)]
theorem segs_last (a b c d : Pt) : segs a b d c = segs a b c d := by
  rw [← segs_turn a b d c, segs_swap, segs_turn]
def badS (s : Sg) : Prop := ¬ (Fit s.1 ∧ Fit s.2) ∨ s.1 = s.2
instance (s : Sg) : Decidable (badS s) := inferInstanceAs (Decidable (_ ∨ _))
def sat (l : List Sg) (i : Int) : Sg := rdD ((0, 0), 0, 0) l i
def crossing (l : List Sg) (i k : Nat) : Bool := decide ((segs (sat l i).1 (sat l i).2 (sat l k).1 (sat l k).2).1 > 1)
def row (f : Nat → Nat → Bool) (n a b : Nat) : Option Nat := (List.range' b (n - b)).find? (f a)
def srch (f : Nat → Nat → Bool) (n a : Nat) : Option (Nat × Nat) := (List.range' a (n - a)).findSome? fun a => (row f n a (a + 1)).map fun b => (a, b)
theorem row_end (f : Nat → Nat → Bool) (n a : Nat) : row f n a n = none := by unfold row; rw [Nat.sub_self]; rfl
theorem row_step (f : Nat → Nat → Bool) {n a b : Nat} (h : b < n) : row f n a b = if f a b = true then some b else row f n a (b + 1) := by
  unfold row
  rw [show n - b = (n - (b + 1)) + 1 by omega, List.range'_succ, List.find?_cons]
  cases f a b <;> simp
theorem srch_end (f : Nat → Nat → Bool) (n : Nat) : srch f n n = none := by unfold srch; rw [Nat.sub_self]; rfl
theorem srch_step (f : Nat → Nat → Bool) {n a : Nat} (h : a < n) : srch f n a = match row f n a (a + 1) with | some b => some (a, b) | none => srch f n (a + 1) := by
  conv => lhs; unfold srch
  rw [show n - a = (n - (a + 1)) + 1 by omega, List.range'_succ, List.findSome?_cons]
  cases row f n a (a + 1) <;> rfl
def resv : Option (Nat × Nat) → Int × Int × Bool
  | some (a, b) => (a, b, true)
  | none => (0, 0, false)
def firstv (l : List Sg) : Int × Int × Bool := if (l.any fun s => decide (badS s)) = true then (0, 0, false) else resv (srch (crossing l) l.length 0)
theorem First_f (m : Nat) (l : List Sg) (hl : l.length ≤ 350) : g_meet_First (m + 400) l = some (firstv l) := by
  have segsL : ∀ a b c d, g_meet_Segs (m + 400) a b c d = some (segs a b c d) := fun a b c d => Segs_f (m + 394) a b c d
  have fitsL : ∀ l : List Pt, l.length ≤ 5 → g_pred_Fits (m + 400) l = some (l.all fun p => decide (Fit p)) := fun l h => fits_f (m + 394) l h
  unfold g_meet_First b_meet_First firstv
  refine loop_list (fun i => (l, l, (l.length : Int), (i : Int))) l.length (fun i => some (if ((l.drop i).any fun s => decide (badS s)) = true then (0, 0, false) else resv (srch (crossing l) l.length 0))) ?_ ?_ (m + 400) 0 (Nat.zero_le _) (by omega)
  · intro next
    dsimp only
    rw [bif_F (by omega), List.drop_length, List.any_nil, if_neg (by simp)]
    refine loop_list (fun i => (l, l, (l.length : Int), (i : Int))) l.length (fun i => some (resv (srch (crossing l) l.length i))) ?_ ?_ (m + 400) 0 (Nat.zero_le _) (by omega)
    · intro next
      dsimp only
      rw [bif_F (by omega), srch_end]; rfl
    · intro i hi next hn
      dsimp only at hn ⊢
      rw [bif_T (by omega), gd_t (inb_t ⟨by omega, by omega⟩), w64_id (by omega) (by omega), srch_step _ hi]
      have hn' : next (l, l, (l.length : Int), (i : Int) + 1) = some (resv (srch (crossing l) l.length (i + 1))) := hn
      refine (loop_list (fun b => (l, (i : Int), sat l i, (b : Int), l, (l.length : Int), (i : Int))) l.length (fun b => some (resv (match row (crossing l) l.length i b with | some b => some (i, b) | none => srch (crossing l) l.length (i + 1)))) ?_ ?_ (m + 400) (i + 1) (by omega) (by omega))
      · intro next2
        dsimp only
        rw [bif_F (by omega), row_end, w64_id (x := (i : Int) + 1) (by omega) (by omega)]
        rw [hn']
      · intro b hb next2 hn2
        dsimp only at hn2 ⊢
        rw [bif_T (by omega), gd_t (inb_t ⟨by omega, by omega⟩), gd_t (inb_t ⟨by omega, by omega⟩), w64_id (x := (b : Int) + 1) (by omega) (by omega), row_step _ hb]
        simp only [etaP]
        rw [segsL, bnd_s]
        have e : decide ((segs (sat l i).1 (sat l i).2 (rdD ((0, 0), 0, 0) l (b : Int)).1 (rdD ((0, 0), 0, 0) l (b : Int)).2).1 > 1) = crossing l i b := rfl
        rw [e]
        cases crossing l i b
        · exact hn2
        · rfl
  · intro i hi next hn
    dsimp only at hn ⊢
    rw [bif_T (by omega), gd_t (inb_t ⟨by omega, by omega⟩), rd_get _ l i hi, List.drop_eq_getElem_cons hi, List.any_cons]
    generalize l[i] = s at hn ⊢
    have hn' : next (l, l, (l.length : Int), (i : Int) + 1) = some (if ((l.drop (i + 1)).any fun s => decide (badS s)) = true then (0, 0, false) else resv (srch (crossing l) l.length 0)) := hn
    simp only [meet, etaP]
    rw [w64_id (by omega) (by omega), fitsL _ (by simp), bnd_s, all2]
    simp only [decide_true, Bool.true_and, eqP]
    by_cases h : Fit s.1 ∧ Fit s.2
    · rw [decide_eq_true h]
      by_cases h' : s.2 = s.1
      · rw [decide_eq_true h', decide_eq_true (show badS s from .inr h'.symm)]; rfl
      · rw [decide_eq_false h', decide_eq_false (show ¬ badS s from fun x => x.elim (fun y => y h) (fun y => h' y.symm))]
        exact hn'
    · rw [decide_eq_false h, decide_eq_true (show badS s from .inl h)]; rfl
end Go.Proofs.YtpkkcjmblocjdaaGreat.Pure
