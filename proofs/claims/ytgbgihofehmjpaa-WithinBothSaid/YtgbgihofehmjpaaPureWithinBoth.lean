/- The plain law of WithinBoth. -/
import Derived.Test.YtgbgihofehmjpaaW5
set_option linter.unusedVariables false
set_option linter.unusedSimpArgs false
namespace Go.Proofs.Ytgbgihofehmjpaa.Pure
open Go.RowKit Go.Proofs.Ytgbgihofehmjpaa.AM
theorem okg_app (A B : List Sg) : okg 1 (A ++ B) = (okg 1 A && okg 1 B) := by unfold okg; rw [List.all_append]
def shf (n : Int) (s : Pt) : Pt := (s.1 + n, s.2 + n)
theorem pt_first {A B : List Pt} {i : Int} (h : inr i A.length) : pt (A ++ B) i = pt A i := by
  obtain ⟨j, rfl⟩ := Int.eq_ofNat_of_zero_le h.1
  have hj : j < A.length := by have := h.2; omega
  rw [pt_get (p := A ++ B) (by simp; omega), pt_get hj, List.getElem_append_left hj]
theorem pt_second {A B : List Pt} {i : Int} (h : inr i B.length) : pt (A ++ B) (i + (A.length : Int)) = pt B i := by
  obtain ⟨j, rfl⟩ := Int.eq_ofNat_of_zero_le h.1
  have hj : j < B.length := by have := h.2; omega
  have e : (j : Int) + (A.length : Int) = ((A.length + j : Nat) : Int) := by omega
  rw [e, pt_get (p := A ++ B) (by simp; omega), pt_get hj, List.getElem_append_right (by omega)]
  simp
/-- Of two rings together. -/
theorem at_both (A B : List Pt) (q : Pt) : atv (A ++ B) (ringv A.length ++ (ringv B.length).map (shf A.length)) 1 q = atg 1 (cyc A ++ cyc B) q := by
  have hin : ∀ s ∈ ringv A.length ++ (ringv B.length).map (shf A.length), inr s.1 (A ++ B).length ∧ inr s.2 (A ++ B).length := by
    intro s hs
    rcases List.mem_append.1 hs with hs | hs
    · exact ringv_in _ _ (by simp) s hs
    · obtain ⟨t, ht, rfl⟩ := List.mem_map.1 hs
      have := ringv_in _ _ (Nat.le_refl _) t ht
      unfold inr shf at *
      simp only [List.length_append]
      omega
  have e1 : (ringv A.length ++ (ringv B.length).map (shf A.length)).map (sgm (A ++ B) 1) = cyc A ++ cyc B := by
    rw [List.map_append, ring_cyc, List.map_map]
    have e2 : (cyc A).map (fun s => (sc 1 s.1, sc 1 s.2)) = cyc A := scl_one _
    have e3 : (ringv B.length).map (sgm B 1) = cyc B := by
      have := ring_cyc B [] 1
      rw [List.append_nil] at this
      rw [this]; exact scl_one _
    rw [e2, ← e3]
    congr 1
    apply List.map_congr_left
    intro s hs
    have := ringv_in _ _ (Nat.le_refl _) s hs
    simp only [Function.comp, sgm_one, shf]
    rw [pt_second this.1, pt_second this.2]
  unfold atv atg
  rw [okl_map _ _ _ hin, e1, scl_one]
theorem whr_app (A B : List Sg) (q : Pt) : whr (A ++ B) q = if rim A q = true ∨ rim B q = true then 0 else if xor (par A q) (par B q) = true then 1 else -1 := by
  unfold whr
  rw [rim_app, par_app]
  simp only [Bool.or_eq_true]
theorem both_core (A B : List Sg) (q : Pt) :
    ((¬ (atg 1 A q).2 = 0 ∨ ¬ (atg 1 B q).2 = 0) → atg 1 (A ++ B) q = (0, 2)) ∧
    ((atg 1 A q).2 = 0 → (atg 1 B q).2 = 0 → (atg 1 (A ++ B) q).2 = 0 ∧
      (((atg 1 A q).1 = 0 ∨ (atg 1 B q).1 = 0) → (atg 1 (A ++ B) q).1 = 0) ∧
      (¬ ((atg 1 A q).1 = 0 ∨ (atg 1 B q).1 = 0) → ((atg 1 (A ++ B) q).1 = 1 ↔ ¬ (atg 1 A q).1 = (atg 1 B q).1) ∧ ¬ (atg 1 (A ++ B) q).1 = 0)) := by
  unfold atg
  rw [okg_app, scl_one, scl_one, scl_one, whr_app]
  unfold whr
  generalize okg 1 A = o1
  generalize okg 1 B = o2
  generalize rim A q = r1
  generalize rim B q = r2
  generalize par A q = p1
  generalize par B q = p2
  by_cases h : Fit q <;> cases o1 <;> cases o2 <;> cases r1 <;> cases r2 <;> cases p1 <;> cases p2 <;> simp [h]
theorem both_law (m : Nat) (p : List Pt) (k : Int) (q : Pt) : g_parquetlaw09_WithinBoth (m + 400) p k q = some true := by
  unfold g_parquetlaw09_WithinBoth b_parquetlaw09_WithinBoth
  rw [known_f]
  simp only [meet, bnd_s, etaP]
  by_cases h1 : (p.length : Int) > 60
  · rw [bif_T h1]; rfl
  rw [bif_F h1]
  by_cases h2 : (p.length : Int) < 6
  · rw [decide_eq_true h2]; rfl
  rw [decide_eq_false h2, cF]
  have hu : IntKind.wrap .u64 (w64 ((p.length : Int) - 5)) = (p.length : Int) - 5 := by
    rw [w64_id (by omega) (by omega), u64_id (by omega) (by omega)]
  have hk : 0 ≤ IntKind.wrap .u64 k := by rw [u64_mod]; omega
  obtain ⟨n, hn, hn1, hn2⟩ : ∃ n : Nat, w64 (3 + (w64 ((IntKind.wrap .u64 k).tmod (IntKind.wrap .u64 (w64 ((p.length : Int) - 5)))))) = (n : Int) ∧ 3 ≤ n ∧ n + 3 ≤ p.length := by
    rw [hu, Int.tmod_eq_emod_of_nonneg hk]
    have a1 := Int.emod_nonneg (IntKind.wrap .u64 k) (show (p.length : Int) - 5 ≠ 0 by omega)
    have a2 := Int.emod_lt_of_pos (IntKind.wrap .u64 k) (show 0 < (p.length : Int) - 5 by omega)
    generalize IntKind.wrap .u64 k % ((p.length : Int) - 5) = z at a1 a2
    rw [w64_id (x := z) (by omega) (by omega), w64_id (by omega) (by omega)]
    exact ⟨(3 + z).toNat, by omega, by omega, by omega⟩
  rw [hn, hu]
  have g1 : (!(decide ((p.length : Int) - 5 = 0))) = true := by rw [decide_eq_false (by omega)]; rfl
  have g2 : decide (0 ≤ (n : Int)) = true := decide_eq_true (by omega)
  have g3 : decide ((n : Int) ≤ (p.length : Int)) = true := decide_eq_true (by omega)
  have t1 : tkL p (n : Int) = p.take n := by unfold tkL; rw [Int.toNat_natCast]
  have t2 : dpL p (n : Int) = p.drop n := by unfold dpL; rw [Int.toNat_natCast]
  simp only [g1, g2, g3, gT, t1, t2]
  obtain ⟨A, B, hp, hA, hA1, hB, hB1⟩ : ∃ A B, p = A ++ B ∧ p.take n = A ∧ A.length = n ∧ p.drop n = B ∧ B.length + n = p.length := ⟨p.take n, p.drop n, (List.take_append_drop n p).symm, rfl, by rw [List.length_take]; omega, rfl, by rw [List.length_drop]; omega⟩
  rw [hA, hB, ring_f m A (by omega), bnd_s, ring_f m B (by omega), bnd_s, gd_t (by unfold few; rw [ringv_len]; simp; omega)]
  have fin : ∀ l, l = ringv A.length ++ (ringv B.length).map (shf A.length) → g_within_At (m + 400) p l q = some (atg 1 (cyc A ++ cyc B) q) := by
    rintro l rfl
    rw [At_f m _ _ _ (by simp [ringv_len]; omega), hp, at_both]
  refine Eq.trans (congrArg (loopN _ (m + 400)) ?_) (loop_list (fun i => (p, q, (n : Int), ringv A.length, ringv B.length, ringv A.length ++ ((ringv B.length).take i).map (shf A.length), (i : Int))) (ringv B.length).length (fun _ => some true) ?_ ?_ (m + 400) 0 (Nat.zero_le _) (by rw [ringv_len]; omega))
  · rw [List.take_zero, List.map_nil, List.append_nil]; rfl
  · intro next
    dsimp only
    simp only [g2, g3, gT, t1, t2]
    rw [bif_F (by omega), hA, hB, At_f m A _ q (by rw [ringv_len]; omega), At_f m B _ q (by rw [ringv_len]; omega), fin _ (by rw [List.take_length]), atv_ring', atv_ring']
    simp only [bnd_s]
    obtain ⟨c1, c2⟩ := both_core (cyc A) (cyc B) q
    by_cases e1 : (atg 1 (cyc A) q).2 = 0
    · rw [decide_eq_true e1, Bool.not_true, cF]
      by_cases e2 : (atg 1 (cyc B) q).2 = 0
      · rw [decide_eq_true e2, Bool.not_true, cF]
        obtain ⟨d1, d2, d3⟩ := c2 e1 e2
        rw [decide_eq_true d1]
        by_cases f1 : (atg 1 (cyc A) q).1 = 0
        · rw [decide_eq_true f1, d2 (.inl f1)]; rfl
        · rw [decide_eq_false f1]
          by_cases f2 : (atg 1 (cyc B) q).1 = 0
          · rw [decide_eq_true f2, d2 (.inr f2)]; rfl
          · rw [decide_eq_false f2]
            obtain ⟨d4, d5⟩ := d3 (by rintro (x | x); exact f1 x; exact f2 x)
            rw [decide_eq_decide.2 d4, decide_not, decide_eq_false d5]
            simp only [beq_self_eq_true, cT, cF, Bool.not_false]
      · rw [c1 (.inr e2), decide_eq_false e2]; rfl
    · rw [c1 (.inl e1), decide_eq_false e1]; rfl
  · intro i hi next hn
    dsimp only at hn ⊢
    have hin : inb (i : Int) (ringv B.length).length = true := inb_t ⟨by omega, by omega⟩
    have hi2 := hi
    rw [ringv_len] at hi2
    rw [bif_T (by omega), w64_id (x := (i : Int) + 1) (by omega) (by omega)]
    simp only [hin, gT, rd_get _ _ i hi]
    rw [gd_t (by unfold few; simp [ringv_len]; omega)]
    rw [List.take_succ_eq_append_getElem hi, List.map_append, ← List.append_assoc] at hn
    have hs := ringv_in _ _ (Nat.le_refl _) _ (List.getElem_mem hi)
    unfold inr at hs
    rw [w64_id (by omega) (by omega), w64_id (by omega) (by omega), ← hA1]
    rw [← hA1] at hn
    exact hn
theorem WithinBoth (x0 : (List (Int × Int))) (x1 : Int) (x2 : (Int × Int)) (g0 : Kd.good (.sl (.pair kI kI)) x0) (g1 : Kd.good kI x1) (g2 : Kd.good (.pair kI kI) x2) : ∃ k, g_parquetlaw09_WithinBoth k x0 x1 x2 = some true :=
  ⟨400, by have := both_law 0 x0 x1 x2; rwa [Nat.zero_add] at this⟩
end Go.Proofs.Ytgbgihofehmjpaa.Pure
