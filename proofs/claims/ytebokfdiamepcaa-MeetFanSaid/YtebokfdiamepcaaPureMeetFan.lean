/- The plain law of MeetFan. -/
import Derived.Test.YtebokfdiamepcaaH16
set_option linter.unusedVariables false
set_option linter.unusedSimpArgs false
namespace Go.Proofs.Ytebokfdiamepcaa.Pure
open Go.RowKit Go.Proofs.Ytebokfdiamepcaa.AM
theorem crs_turn (a b c : Pt) : crs a c b = -crs a b c := by unfold crs; grind
theorem how_fan {a b c : Pt} (hb : ¬ Bad a b a c) : (ori a b c = 0 → On a b c ∨ On a c b → how a b a c = 4) ∧ (¬ (On a b c ∨ On a c b) → how a b a c = 1) ∧ (ori a b c ≠ 0 → how a b a c = 1) := by
  have hab : a ≠ b := fun e => hb (Or.inl e)
  have hac : a ≠ c := fun e => hb (Or.inr (Or.inl e))
  have hf : Fit a ∧ Fit b ∧ Fit a ∧ Fit c := Decidable.not_not.1 fun e => hb (Or.inr (Or.inr e))
  obtain ⟨fa, fb, _, fc⟩ := hf
  have hc : ¬ Cro a b a c := by
    rintro ⟨h, _⟩
    have e : ori a b a = 0 := by
      have : crs a b a = 0 := by unfold crs; grind
      unfold ori; rw [this]; split <;> rfl
    rw [e, Int.zero_mul] at h
    omega
  have na : ∀ x y : Pt, ¬ Ins x y x := fun x y h => h.2.1 rfl
  have e2 : inss a b a c = [decide (Ins a b c), decide (Ins a c b)].count true := by
    unfold inss
    rw [decide_eq_false (na a b), decide_eq_false (na a c)]
    generalize decide (Ins a b c) = x; generalize decide (Ins a c b) = y
    cases x <;> cases y <;> rfl
  have on1 : On a b c ↔ Ins a b c ∨ c = b := by
    rw [on_iff hab ⟨fa, fb, fc⟩]
    exact ⟨fun h => h.imp id fun h => h.resolve_left (fun e => hac e.symm), fun h => h.imp id .inr⟩
  have on2 : On a c b ↔ Ins a c b ∨ b = c := by
    rw [on_iff hac ⟨fa, fc, fb⟩]
    exact ⟨fun h => h.imp id fun h => h.resolve_left (fun e => hab e.symm), fun h => h.imp id .inr⟩
  by_cases hbc : b = c
  · have e1 : ends a b a c = 2 := by
      unfold ends
      rw [decide_eq_true (rfl : a = a), decide_eq_false hac, decide_eq_false (fun e : b = a => hab e.symm), decide_eq_true hbc]
      rfl
    have h4 : how a b a c = 4 := by rw [how, if_neg hc, if_pos (Or.inl e1)]
    have ho : ori a b c = 0 := by
      have : crs a b c = 0 := by rw [← hbc]; unfold crs; grind
      unfold ori; rw [this]; split <;> rfl
    exact ⟨fun _ _ => h4, fun h => absurd (.inl (on1.2 (.inr hbc.symm))) h, fun h => absurd ho h⟩
  · have e1 : ends a b a c = 1 := by
      unfold ends
      rw [decide_eq_true (rfl : a = a), decide_eq_false hac, decide_eq_false (fun e : b = a => hab e.symm), decide_eq_false hbc]
      rfl
    have o1 : On a b c ↔ Ins a b c := by rw [on1]; exact ⟨fun h => h.resolve_right (fun e => hbc e.symm), .inl⟩
    have o2 : On a c b ↔ Ins a c b := by rw [on2]; exact ⟨fun h => h.resolve_right hbc, .inl⟩
    have one : ¬ (Ins a b c ∨ Ins a c b) → how a b a c = 1 := by
      intro h
      have e3 : inss a b a c = 0 := by
        rw [e2, decide_eq_false (fun x => h (.inl x)), decide_eq_false (fun x => h (.inr x))]; rfl
      rw [how, if_neg hc, if_neg (by omega), if_pos e1]
    refine ⟨fun _ h => ?_, fun h => one (by rw [← o1, ← o2]; exact h), fun h => one ?_⟩
    · have e3 : inss a b a c > 0 := by
        rw [e2]
        rcases h with h | h
        · rw [decide_eq_true (o1.1 h)]; simp
        · rw [decide_eq_true (o2.1 h)]
          cases decide (Ins a b c) <;> decide
      rw [how, if_neg hc, if_pos (by omega)]
    · rintro (h' | h')
      · exact h (by unfold ori; rw [h'.1.2.2.1]; split <;> rfl)
      · have : crs a b c = 0 := by have := h'.1.2.2.1; rw [crs_turn] at this; omega
        exact h (by unfold ori; rw [this]; split <;> rfl)
theorem fan_law (m : Nat) (a b c : Pt) : g_parquetlaw04_MeetFan (m + 100) a b c = some true := by
  have segsL : ∀ a b c d, g_meet_Segs (m + 100) a b c d = some (segs a b c d) := fun a b c d => Segs_f (m + 94) a b c d
  have onL : ∀ a b p, g_meet_On (m + 100) a b p = some (decide (On a b p)) := fun a b p => On_f (m + 94) a b p
  have kn : g_parquetlaw04_known (m + 100) = some true := known_f (m + 94)
  unfold g_parquetlaw04_MeetFan b_parquetlaw04_MeetFan
  simp only [etaP, meet]
  rw [segsL, kn, rOrient_f, onL, onL]
  simp only [bnd_s]
  by_cases hb : Bad a b a c
  · rw [segs, if_pos hb]; rfl
  rw [segs, if_neg hb]
  simp only [decide_true, Bool.not_true, cF]
  obtain ⟨h1, h2, h3⟩ := how_fan hb
  by_cases ho : ori a b c = 0
  · rw [bif_T ho]
    by_cases q1 : On a b c
    · rw [bif_T q1, h1 ho (.inl q1)]; rfl
    · rw [bif_F q1]
      by_cases q2 : On a c b
      · rw [decide_eq_true q2, h1 ho (.inr q2)]; rfl
      · rw [decide_eq_false q2, h2 (fun x => x.elim q1 q2)]; rfl
  · rw [bif_F ho, h3 ho]; rfl
theorem MeetFan (x0 : (Int × Int)) (x1 : (Int × Int)) (x2 : (Int × Int)) (g0 : Kd.good (.pair kI kI) x0) (g1 : Kd.good (.pair kI kI) x1) (g2 : Kd.good (.pair kI kI) x2) : ∃ k, g_parquetlaw04_MeetFan k x0 x1 x2 = some true :=
  ⟨100, by have := fan_law 0 x0 x1 x2; rwa [Nat.zero_add] at this⟩
end Go.Proofs.Ytebokfdiamepcaa.Pure
