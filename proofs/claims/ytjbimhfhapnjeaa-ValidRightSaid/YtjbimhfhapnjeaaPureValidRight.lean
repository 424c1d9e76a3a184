/- The plain law of ValidRight. -/
import Derived.Test.YtjbimhfhapnjeaaV17
set_option linter.unusedVariables false
namespace Go.Proofs.Ytjbimhfhapnjeaa.Pure
open Go.RowKit Go.Proofs.Ytjbimhfhapnjeaa.AM PL
theorem sumT : ∀ (R : List (List Int)) (i : Nat), ((R.take i).flatten.length : Int) = ((R.take i).map fun r => (r.length : Int)).sum := by
  intro R i
  generalize R.take i = Q
  induction Q with
  | nil => rfl
  | cons a Q ih => rw [List.flatten_cons, List.length_append, List.map_cons, List.sum_cons, ← ih]; omega
theorem right_law (m : Nat) (p : Poly) : g_parquetlaw10_ValidRight (m + 1000) p = some true := by
  unfold g_parquetlaw10_ValidRight b_parquetlaw10_ValidRight
  simp only [meet]
  obtain ⟨bb, hb, hmm⟩ := many_f (m + 1000) p
  rw [show g_parquetlaw10_many (m + 1000) (p.1, p.2.1, p.2.2) = some bb from hb, bnd_s, known_f, bnd_s]
  cases bb with
  | true => rfl
  | false =>
    rw [cF]
    rcases small_of (hmm rfl) with h | h
    · rw [show g_valid_First (m + 1000) (p.1, p.2.1, p.2.2) = some (fz, 2) from First_bad m h, bnd_s]
      refine (bif_t (by rfl)).trans ?_
      rfl
    have hP := h.P
    have hL := h.L
    have hlen := h.len
    rw [show g_valid_First (m + 1000) (p.1, p.2.1, p.2.2) = some (flaw p, 0) from First_ok m h, bnd_s]
    refine (bif_f (by rfl)).trans ?_
    cases hg : good0 p with
    | false =>
      have : decide ((flaw p).1 = 0) = false := hg
      rw [this]; rfl
    | true =>
    have e0 : decide ((flaw p).1 = 0) = true := hg
    have R := good0_right h hg
    rw [e0, Bool.not_true, cF, show g_valid_Loops (m + 1000) (p.1, p.2.1, p.2.2) = some (loopsv p) from Loops_f m h, bnd_s]
    have el : loopsv p = (outs p.2.1 p.1.length p.1.length, 0) := by unfold loopsv; rw [if_pos hg]
    rw [el]
    have hne := R.outs_ne
    have hcnt := flat_count R.lp
    have hol := outs_len p.2.1 p.1.length p.1.length
    have h3 := R.three
    generalize outs p.2.1 p.1.length p.1.length = O at hne hcnt hol h3 ⊢
    refine (bif_f (by rfl)).trans ?_
    dsimp only
    rw [bif_F (by omega), decide_eq_false (by omega), cF]
    have e1 : ((O.take 0).flatten.length : Int) = 0 := by simp
    rw [← e1]
    refine loop_list (fun i => (p, O, ((O.take i).flatten.length : Int), (i : Int))) O.length (fun _ => some true) ?_ ?_ (m + 1000) 0 (Nat.zero_le _) (by omega)
    · intro next
      dsimp only
      rw [bif_F (by omega), List.take_length, hcnt]
      refine (bif_f (by simp)).trans ?_
      rw [show g_parquetref10_All (m + 1000) (p.1, p.2.1, p.2.2) = some (sgs p) from rAll_f _ h, bnd_s]
      refine loop_list (fun i => (p, sgs p, (i : Int))) (sgs p).length (fun _ => some true) ?_ ?_ (m + 1000) 0 (Nat.zero_le _) (by omega)
      · intro next
        dsimp only
        rw [bif_F (by omega)]
      · intro i hi next hn
        have hok := h.s _ (List.getElem_mem hi)
        dsimp only at hn ⊢
        have hin : inb (i : Int) (sgs p).length = true := inb_t ⟨by omega, by omega⟩
        simp only [hin, gT]
        rw [bif_T (by omega), rd_get _ _ i hi, w64_id (x := (i : Int) + 1) (by omega) (by omega)]
        rw [bif_F (by have := hok.1.1; omega), bif_F (by have := hok.1.2; omega), bif_F (by have := hok.2.1; omega), bif_F (by have := hok.2.2; omega)]
        rw [show g_valid_Inside (m + 1000) (p.1, p.2.1, p.2.2) (sgs p)[i].1 (sgs p)[i].2 = some true from (Inside_v m h _ _).trans (by rw [insv_own R hi]), bnd_s, Bool.not_true, cF]
        exact hn
    · intro i hi next hn
      have hr := h3 _ (List.getElem_mem hi)
      dsimp only at hn ⊢
      rw [bif_T (by omega), gd_t (inb_t ⟨by omega, by omega⟩), gd_t (inb_t ⟨by omega, by omega⟩), rd_get _ O i hi, bif_F (by omega), w64_id (x := (i : Int) + 1) (by omega) (by omega)]
      have hle : (O.take (i + 1)).flatten.length ≤ O.flatten.length := by
        have : O.flatten = (O.take (i + 1)).flatten ++ (O.drop (i + 1)).flatten := by rw [← List.flatten_append, List.take_append_drop]
        rw [this, List.length_append]; omega
      have ef : (O.take (i + 1)).flatten.length = (O.take i).flatten.length + O[i].length := by
        rw [List.take_succ_eq_append_getElem hi, List.flatten_append, List.length_append]; simp
      rw [ef] at hn hle
      rw [w64_id (x := ((O.take i).flatten.length : Int) + (O[i].length : Int)) (by omega) (by omega)]
      rw [Int.natCast_add] at hn
      exact hn
theorem ValidRight (x0 : ((List (Int × Int)) × ((List (Int × Int)) × (List (Int × Int))))) (g0 : Kd.good (.pair (.sl (.pair kI kI)) (.pair (.sl (.pair kI kI)) (.sl (.pair kI kI)))) x0) : ∃ k, g_parquetlaw10_ValidRight k x0 = some true :=
  ⟨0 + 1000, right_law 0 x0⟩
end Go.Proofs.Ytjbimhfhapnjeaa.Pure
