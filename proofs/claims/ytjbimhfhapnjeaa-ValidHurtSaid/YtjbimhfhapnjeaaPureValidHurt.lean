/- The plain law of ValidHurt. -/
import Derived.Test.YtjbimhfhapnjeaaV21
set_option linter.unusedVariables false
namespace Go.Proofs.Ytjbimhfhapnjeaa.Pure
open Go.RowKit Go.Proofs.Ytjbimhfhapnjeaa.AM PL
theorem idx_at (a : Int) (n : Nat) (h0 : 0 < n) (h1 : n ≤ 1000) : ∃ j : Nat, j < n ∧ w64 ((IntKind.wrap .u64 a).tmod (IntKind.wrap .u64 (n : Int))) = (j : Int) := by
  rw [u64_id (x := (n : Int)) (by omega) (by omega), u64_mod]
  have e : 0 ≤ a % 18446744073709551616 := Int.emod_nonneg _ (by omega)
  rw [Int.tmod_eq_emod_of_nonneg e]
  have h2 := Int.emod_nonneg (a % 18446744073709551616) (show (n : Int) ≠ 0 by omega)
  have h3 := Int.emod_lt_of_pos (a % 18446744073709551616) (show (0 : Int) < (n : Int) by omega)
  refine ⟨((a % 18446744073709551616) % (n : Int)).toNat, by omega, ?_⟩
  rw [w64_id (by omega) (by omega)]; omega
def hit (q : Pt) : Prop := q.1 = 1048576 ∨ q.2 = 1048576
instance (q : Pt) : Decidable (hit q) := inferInstanceAs (Decidable (_ ∨ _))
def hstep (w : Flw) (q : Pt) : Flw := if hit q then (8, w.2) else w
theorem hstep_y {w : Flw} {q : Pt} (h : hit q) : hstep w q = (8, w.2) := if_pos h
theorem hstep_n {w : Flw} {q : Pt} (h : ¬ hit q) : hstep w q = w := if_neg h
theorem hfold_8 : ∀ (P : List Pt) (w : Flw), w.1 = 8 → (P.foldl hstep w).1 = 8
  | [], w, h => h
  | q :: P, w, h => hfold_8 P _ (by unfold hstep; split; rfl; exact h)
theorem hfold : ∀ (P : List Pt) (w : Flw), ((∀ q ∈ P, ¬ hit q) → w.1 = 8) → (P.foldl hstep w).1 = 8
  | [], w, h => h (fun q hq => by cases hq)
  | q :: P, w, h => by
    rw [List.foldl_cons]
    by_cases hq : hit q
    · exact hfold_8 P _ (by unfold hstep; rw [if_pos hq])
    · unfold hstep
      rw [if_neg hq]
      exact hfold P w fun h' => h fun x hx => (List.mem_cons.1 hx).elim (fun e => e ▸ hq) (h' x)
theorem hurt_law (m : Nat) (p : Poly) (a : Int) : g_parquetlaw10_ValidHurt (m + 1000) p a = some true := by
  unfold g_parquetlaw10_ValidHurt b_parquetlaw10_ValidHurt
  simp only [meet]
  obtain ⟨bb, hb, hmm⟩ := many_f (m + 1000) p
  rw [show g_parquetlaw10_many (m + 1000) (p.1, p.2.1, p.2.2) = some bb from hb, bnd_s, known_f, bnd_s]
  cases bb with
  | true => rfl
  | false =>
  rw [cF]
  have hmm := hmm rfl
  by_cases cL : (p.2.1.length : Int) < 3
  · rw [bif_T cL]; rfl
  rw [bif_F cL]
  by_cases cP : (p.1.length : Int) < 3
  · rw [bif_T cP]; rfl
  rw [bif_F cP]
  by_cases cP' : (p.1.length : Int) > 198
  · rw [bif_T cP']; rfl
  rw [bif_F cP', show g_parquetref05_Check (m + 1000) (p.1, p.2.1, p.2.2) = ans (chk p) from rchk_f m p]
  cases hc : chk p with
  | false => rfl
  | true =>
  have sm : Sm p := (small_of hmm).resolve_left (by rw [hc]; simp)
  have h : Lt p := ⟨sm, by have := sm.P; unfold manyv at hmm; omega, by have := sm.L; unfold manyv at hmm; omega, by have := sm.I; unfold manyv at hmm; omega⟩
  have hP := h.P
  have hL := h.L
  have hI := h.I
  rw [show ans true = some 0 from rfl, bnd_s]
  refine (bif_f (by rfl)).trans ?_
  rw [show g_valid_First (m + 1000) (p.1, p.2.1, p.2.2) = some (flaw p, 0) from First_ok m sm, bnd_s]
  refine (bif_f (by rfl)).trans ?_
  cases hg : good0 p with
  | false =>
    have e0 : decide ((flaw p).1 = 0) = false := hg
    rw [e0]; rfl
  | true =>
  have e0 : decide ((flaw p).1 = 0) = true := hg
  have R := good0_right sm hg
  rw [e0, Bool.not_true, cF]
  have fP : few p.1.length = true := few_t (by omega)
  have fL : few p.2.1.length = true := few_t (by omega)
  have fI : few p.2.2.length = true := few_t (by omega)
  have fP1 : few (p.1.length + 1) = true := few_t (by omega)
  have fL1 : few (p.2.1.length + 1) = true := few_t (by omega)
  obtain ⟨j, hj, ej⟩ := idx_at a p.1.length (by omega) (by omega)
  obtain ⟨k, hk, ek⟩ := idx_at a p.2.1.length (by omega) (by omega)
  have z1 : (!(decide ((IntKind.wrap .u64 (p.1.length : Int)) = 0))) = true := by rw [u64_id (by omega) (by omega), decide_eq_false (by omega)]; rfl
  have z2 : (!(decide ((IntKind.wrap .u64 (p.2.1.length : Int)) = 0))) = true := by rw [u64_id (by omega) (by omega), decide_eq_false (by omega)]; rfl
  have i1 : inb (j : Int) p.1.length = true := inb_t ⟨by omega, by omega⟩
  have i2 : inb (k : Int) p.2.1.length = true := inb_t ⟨by omega, by omega⟩
  have k1 : w64 ((k : Int) + 1) = ((k + 1 : Nat) : Int) := by rw [w64_id (by omega) (by omega)]; omega
  have t1 : tkL p.2.1 (k : Int) = p.2.1.take k := by unfold tkL; rw [Int.toNat_natCast]
  have t2 : dpL p.2.1 ((k + 1 : Nat) : Int) = p.2.1.drop (k + 1) := by unfold dpL; rw [Int.toNat_natCast]
  have l1 : few (p.2.1.take k).length = true := few_t (by rw [List.length_take]; omega)
  have l2 : few ((p.2.1.take k).length + (p.2.1.drop (k + 1)).length) = true := few_t (by rw [List.length_take, List.length_drop]; omega)
  have d1 : decide (0 ≤ (k : Int)) = true := decide_eq_true (by omega)
  have d2 : decide ((k : Int) ≤ (p.2.1.length : Int)) = true := decide_eq_true (by omega)
  have d3 : decide (0 ≤ ((k + 1 : Nat) : Int)) = true := decide_eq_true (by omega)
  have d4 : decide (((k + 1 : Nat) : Int) ≤ (p.2.1.length : Int)) = true := decide_eq_true (by omega)
  have r1 : rdD (0, 0) p.1 (j : Int) = p.1[j] := rd_get _ _ j hj
  have r2 : rdD (0, 0) p.2.1 (k : Int) = p.2.1[k] := rd_get _ _ k hk
  have A := First_ok m (hurtA_sm h j hj)
  have B := First_ok m (hurtB_sm h k hk)
  have C := First_ok m (hurtC_sm h R k)
  have D := First_ok m (hurtD_sm h)
  have E := First_ok m (fewer_sm h (List.Sublist.refl p.2.1) (List.drop_sublist 1 p.2.2))
  have a1 := hurtA h j hj
  have b1 := hurtB h R k hk
  have c1 := hurtC h R k hk
  have dd := hurtD h R
  have ii := hurtI R h
  simp only [fP, fL, fI, fP1, fL1, ej, ek, z1, z2, i1, i2, k1, t1, t2, l1, l2, d1, d2, d3, d4, r1, r2, gT, etaP]
  unfold far at D dd
  rw [A, bnd_s, B, bnd_s, C, bnd_s, D, bnd_s]
  generalize hfa : flaw (p.1 ++ [p.1[j]], p.2.1, p.2.2) = fa at a1 ⊢
  generalize hfb : flaw (p.1, p.2.1 ++ [p.2.1[k]], p.2.2) = fb at b1 ⊢
  generalize hfc : flaw (p.1, p.2.1.take k ++ p.2.1.drop (k + 1), p.2.2) = fc at c1 ⊢
  generalize hfd : flaw (p.1 ++ [((1048576 : Int), (1048576 : Int))], p.2.1, p.2.2) = fd at dd ⊢
  refine loop_list (fun i => (p, fa, fb, fc, (p.1.take i).foldl hstep fd, (i : Int))) p.1.length (fun _ => some true) ?_ ?_ (m + 1000) 0 (Nat.zero_le _) (by omega)
  · intro next
    have h8 : ((p.1.take p.1.length).foldl hstep fd).1 = 8 := by
      rw [List.take_length]
      refine hfold _ _ fun hno => dd fun q hq => ?_
      have := hno q hq
      unfold hit at this
      omega
    generalize (p.1.take p.1.length).foldl hstep fd = w at h8
    have fin : (bnd (g_valid_First (m + 1000) (p.1, p.2.1, p.2.2.drop 1)) fun r42 =>
        bif decide (fa.1 = 1) then bif decide (fb.1 = 3) then bif decide (fc.1 = 5) then bif decide (w.1 = 8) then bif decide (r42.1.1 = 0) then some true else some false else some false else some false else some false else some false) = some true := by
      rw [E, bnd_s, a1, b1, c1, h8, ii]; rfl
    dsimp only
    rw [bif_F (by omega)]
    by_cases c : (p.2.2.length : Int) > 0
    · rw [bif_T c, gd_t (decide_eq_true (by omega))]
      simp only [fP, fL, fI, gT]
      exact fin
    · rw [bif_F c]
      have : p.2.2 = p.2.2.drop 1 := by
        rw [List.eq_nil_of_length_eq_zero (show p.2.2.length = 0 by omega)]; rfl
      rw [← this] at fin
      simp only [fP, fL, fI, gT]
      exact fin
  · intro i hi next hn
    dsimp only at hn ⊢
    rw [bif_T (by omega), gd_t (inb_t ⟨by omega, by omega⟩)]
    rw [gd_t (inb_t (i := (i : Int)) (n := p.1.length) ⟨by omega, by omega⟩)]
    rw [rd_get _ p.1 i hi, w64_id (x := (i : Int) + 1) (by omega) (by omega)]
    rw [List.take_succ_eq_append_getElem hi, List.foldl_append] at hn
    replace hn : next (p, fa, fb, fc, hstep ((p.1.take i).foldl hstep fd) p.1[i], (i : Int) + 1) = some true := hn
    by_cases q1 : p.1[i].1 = 1048576
    · rw [hstep_y (Or.inl q1)] at hn
      rw [bif_T q1, cT]
      exact hn
    · rw [bif_F q1]
      by_cases q2 : p.1[i].2 = 1048576
      · rw [hstep_y (Or.inr q2)] at hn
        rw [bif_T q2]
        exact hn
      · rw [hstep_n (fun x => x.elim q1 q2)] at hn
        rw [bif_F q2]
        exact hn
theorem ValidHurt (x0 : ((List (Int × Int)) × ((List (Int × Int)) × (List (Int × Int))))) (x1 : Int) (g0 : Kd.good (.pair (.sl (.pair kI kI)) (.pair (.sl (.pair kI kI)) (.sl (.pair kI kI)))) x0) (g1 : Kd.good kI x1) : ∃ k, g_parquetlaw10_ValidHurt k x0 x1 = some true :=
  ⟨0 + 1000, hurt_law 0 x0 x1⟩
end Go.Proofs.Ytjbimhfhapnjeaa.Pure
