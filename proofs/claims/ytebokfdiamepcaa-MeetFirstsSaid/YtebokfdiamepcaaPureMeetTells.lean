/- The plain law of MeetTells. -/
import Derived.Test.YtebokfdiamepcaaH20
set_option linter.unusedVariables false
set_option linter.unusedSimpArgs false
namespace Go.Proofs.Ytebokfdiamepcaa.Pure
open Go.RowKit Go.Proofs.Ytebokfdiamepcaa.AM
theorem bad_swap {a b c d : Pt} : Bad b a c d ↔ Bad a b c d := by
  unfold Bad
  exact ⟨fun h => h.imp Eq.symm (Or.imp id fun h x => h ⟨x.2.1, x.1, x.2.2⟩), fun h => h.imp Eq.symm (Or.imp id fun h x => h ⟨x.2.1, x.1, x.2.2⟩)⟩
theorem bad_turn {a b c d : Pt} : Bad c d a b ↔ Bad a b c d := by
  unfold Bad
  constructor
  · rintro (h | h | h)
    · exact .inr (.inl h)
    · exact .inl h
    · exact .inr (.inr fun x => h ⟨x.2.2.1, x.2.2.2, x.1, x.2.1⟩)
  · rintro (h | h | h)
    · exact .inr (.inl h)
    · exact .inl h
    · exact .inr (.inr fun x => h ⟨x.2.2.1, x.2.2.2, x.1, x.2.1⟩)
theorem how_turn {a b c d : Pt} : how c d a b = how a b c d := by
  have sy : ∀ x y : Pt, decide (x = y) = decide (y = x) := fun x y => by rw [decide_eq_decide]; exact eq_comm
  have e1 : ends c d a b = ends a b c d := by
    unfold ends
    rw [sy c a, sy c b, sy d a, sy d b]
    generalize decide (a = c) = x; generalize decide (a = d) = y; generalize decide (b = c) = z; generalize decide (b = d) = w
    cases x <;> cases y <;> cases z <;> cases w <;> rfl
  have e2 : inss c d a b = inss a b c d := by
    unfold inss
    generalize decide (Ins a b c) = x; generalize decide (Ins a b d) = y; generalize decide (Ins c d a) = z; generalize decide (Ins c d b) = w
    cases x <;> cases y <;> cases z <;> cases w <;> rfl
  have e3 : Cro c d a b ↔ Cro a b c d := by unfold Cro; exact and_comm
  unfold how
  rw [e1, e2]
  simp only [e3]
theorem segs_swap (a b c d : Pt) : segs b a c d = segs a b c d := by
  unfold segs; simp only [bad_swap (a := a) (b := b), how_swap (a := a) (b := b)]
theorem segs_turn (a b c d : Pt) : segs c d a b = segs a b c d := by
  unfold segs; simp only [bad_turn (a := a) (b := b), how_turn (a := a) (b := b)]
theorem segs_last (a b c d : Pt) : segs a b d c = segs a b c d := by
  rw [← segs_turn a b d c, segs_swap, segs_turn]
theorem tells_law (m : Nat) (a b c d : Pt) : g_parquetlaw04_MeetTells (m + 100) a b c d = some true := by
  have segsL : ∀ a b c d, g_meet_Segs (m + 100) a b c d = some (segs a b c d) := fun a b c d => Segs_f (m + 94) a b c d
  have kn : g_parquetlaw04_known (m + 100) = some true := known_f (m + 94)
  unfold g_parquetlaw04_MeetTells b_parquetlaw04_MeetTells
  simp only [etaP, meet]
  rw [segsL, segsL, segsL, segsL, rSegs_f, kn, rsegs_eq, segs_swap a b c d, segs_turn a b c d, segs_last a b c d]
  simp only [bnd_s, decide_true, cT]
theorem MeetTells (x0 : (Int × Int)) (x1 : (Int × Int)) (x2 : (Int × Int)) (x3 : (Int × Int)) (g0 : Kd.good (.pair kI kI) x0) (g1 : Kd.good (.pair kI kI) x1) (g2 : Kd.good (.pair kI kI) x2) (g3 : Kd.good (.pair kI kI) x3) : ∃ k, g_parquetlaw04_MeetTells k x0 x1 x2 x3 = some true :=
  ⟨100, by have := tells_law 0 x0 x1 x2 x3; rwa [Nat.zero_add] at this⟩
end Go.Proofs.Ytebokfdiamepcaa.Pure
