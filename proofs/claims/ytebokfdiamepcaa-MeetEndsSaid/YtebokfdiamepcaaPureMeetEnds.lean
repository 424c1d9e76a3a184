/- The plain law of MeetEnds. -/
import Derived.Test.YtebokfdiamepcaaH4
set_option linter.unusedVariables false
namespace Go.Proofs.Ytebokfdiamepcaa.Pure
open Go.RowKit Go.Proofs.Ytebokfdiamepcaa.AM
theorem ends_law (m : Nat) (a b c d : Pt) : g_parquetlaw04_MeetEnds (m + 6) a b c d = some true := by
  unfold g_parquetlaw04_MeetEnds b_parquetlaw04_MeetEnds
  simp only [etaP]
  rw [Segs_f, known_f, On_f, On_f, On_f, On_f, Inside_f, Inside_f, Inside_f, Inside_f]
  simp only [bnd_s]
  by_cases hb : Bad a b c d
  · rw [segs, if_pos hb]; rfl
  rw [segs, if_neg hb]
  simp only [decide_true, Bool.not_true, cF]
  have he := ons_eq hb
  have key : ∀ l mm : List Bool, l.length = 4 → mm.length = 4 → l.count true = ons a b c d → mm.count true = inss a b c d → ∀ (f : _ → (_ → Option Bool) → Option Bool),
      (∀ next, f (how a b c d, ((l.count true : Nat) : Int), l, mm, ((mm.count true : Nat) : Int), ((4 : Nat) : Int)) next = some true) →
      (∀ i (hi : i < 4) (hl : i < l.length) (hm : i < mm.length) next, f (how a b c d, (((l.take i).count true : Nat) : Int), l, mm, (((mm.take i).count true : Nat) : Int), (i : Int)) next = next (how a b c d, (((l.take i).count true + (if l[i] = true then 1 else 0) : Nat) : Int), l, mm, (((mm.take i).count true + (if mm[i] = true then 1 else 0) : Nat) : Int), ((i + 1 : Nat) : Int))) →
      loopN f (m + 6) (how a b c d, 0, l, mm, 0, 0) = some true := by
    intro l mm hl hm cl cm f h0 hs
    refine loop_list (fun i => (how a b c d, (((l.take i).count true : Nat) : Int), l, mm, (((mm.take i).count true : Nat) : Int), (i : Int))) 4 (fun _ => some true) ?_ ?_ (m + 6) 0 (Nat.zero_le _) (by omega)
    · intro next
      rw [List.take_of_length_le (by omega), List.take_of_length_le (by omega)]
      exact h0 next
    · intro i hi next hn
      rw [hs i hi (by omega) (by omega) next]
      rw [List.take_succ_eq_append_getElem (by omega), List.take_succ_eq_append_getElem (by omega), List.count_append, List.count_append, List.count_singleton, List.count_singleton] at hn
      have e : ∀ b : Bool, (if (b == true) = true then 1 else 0 : Nat) = if b = true then 1 else 0 := by decide
      rw [e, e] at hn
      exact hn
  refine key [decide (On a b c), decide (On a b d), decide (On c d a), decide (On c d b)] [decide (Ins a b c), decide (Ins a b d), decide (Ins c d a), decide (Ins c d b)] rfl rfl rfl rfl _ ?_ ?_
  · intro next
    have e1 : [decide (On a b c), decide (On a b d), decide (On c d a), decide (On c d b)].count true = ons a b c d := rfl
    have e2 : [decide (Ins a b c), decide (Ins a b d), decide (Ins c d a), decide (Ins c d b)].count true = inss a b c d := rfl
    dsimp only
    rw [e1, e2, bif_F (by omega)]
    simp only [meet]
    by_cases hc : Cro a b c d
    · have h3 : how a b c d = 3 := by rw [how, if_pos hc]
      rw [h3, cro_ons hc]
      rfl
    · by_cases h4 : ends a b c d = 2 ∨ inss a b c d > 1 ∨ (ends a b c d = 1 ∧ inss a b c d = 1)
      · have h : how a b c d = 4 := by rw [how, if_neg hc, if_pos h4]
        rw [h]
        simp only [show decide ((4 : Int) = 0) = false from rfl, show decide ((4 : Int) = 3) = false from rfl, show decide ((4 : Int) = 1) = false from rfl, show decide ((4 : Int) = 2) = false from rfl, show decide ((4 : Int) = 4) = true from rfl, decide_true, cT, cF]
        rw [bif_T (show ((ons a b c d : Nat) : Int) ≥ 2 by omega)]
        by_cases h5 : ((ons a b c d : Nat) : Int) = 4
        · rw [bif_T h5]
        · rw [bif_F h5, bif_T (show ((inss a b c d : Nat) : Int) > 0 by omega)]
      · by_cases h1 : ends a b c d = 1
        · have h : how a b c d = 1 := by rw [how, if_neg hc, if_neg h4, if_pos h1]
          rw [h]
          simp only [show decide ((1 : Int) = 0) = false from rfl, show decide ((1 : Int) = 3) = false from rfl, show decide ((1 : Int) = 1) = true from rfl, decide_true, cT, cF]
          rw [bif_T (show ((ons a b c d : Nat) : Int) = 2 by omega), bif_T (show ((inss a b c d : Nat) : Int) = 0 by omega)]
        · by_cases h2 : inss a b c d = 1
          · have h : how a b c d = 2 := by rw [how, if_neg hc, if_neg h4, if_neg h1, if_pos h2]
            rw [h]
            simp only [show decide ((2 : Int) = 0) = false from rfl, show decide ((2 : Int) = 3) = false from rfl, show decide ((2 : Int) = 1) = false from rfl, show decide ((2 : Int) = 2) = true from rfl, decide_true, cT, cF]
            rw [bif_T (show ((ons a b c d : Nat) : Int) = 1 by omega), bif_T (show ((inss a b c d : Nat) : Int) = 1 by omega)]
          · have h : how a b c d = 0 := by rw [how, if_neg hc, if_neg h4, if_neg h1, if_neg h2]
            rw [h]
            simp only [decide_true, cT]
            rw [bif_T (show ((ons a b c d : Nat) : Int) = 0 by omega)]
  · intro i hi hl hm next
    dsimp only
    have c1 : ([decide (On a b c), decide (On a b d), decide (On c d a), decide (On c d b)].take i).count true ≤ i := Nat.le_trans List.count_le_length (by rw [List.length_take]; omega)
    have c2 : ([decide (Ins a b c), decide (Ins a b d), decide (Ins c d a), decide (Ins c d b)].take i).count true ≤ i := Nat.le_trans List.count_le_length (by rw [List.length_take]; omega)
    rw [bif_T (by omega), gd_t (inb_t ⟨by omega, by omega⟩)]
    simp only [meet]
    rw [rd_get _ _ i hl, rd_get _ _ i hm]
    generalize [decide (On a b c), decide (On a b d), decide (On c d a), decide (On c d b)] = l at *
    generalize [decide (Ins a b c), decide (Ins a b d), decide (Ins c d a), decide (Ins c d b)] = mm at *
    have hin : inb (i : Int) mm.length = true := inb_t ⟨by omega, by omega⟩
    rw [hin, w64_id (x := (i : Int) + 1) (by omega) (by omega), w64_id (x := (((l.take i).count true : Nat) : Int) + 1) (by omega) (by omega), w64_id (x := (((mm.take i).count true : Nat) : Int) + 1) (by omega) (by omega)]
    generalize l[i] = x
    generalize mm[i] = y
    cases x <;> cases y <;> rfl
theorem MeetEnds (x0 : (Int × Int)) (x1 : (Int × Int)) (x2 : (Int × Int)) (x3 : (Int × Int)) (g0 : Kd.good (.pair kI kI) x0) (g1 : Kd.good (.pair kI kI) x1) (g2 : Kd.good (.pair kI kI) x2) (g3 : Kd.good (.pair kI kI) x3) : ∃ k, g_parquetlaw04_MeetEnds k x0 x1 x2 x3 = some true :=
  ⟨6, ends_law 0 x0 x1 x2 x3⟩
end Go.Proofs.Ytebokfdiamepcaa.Pure
