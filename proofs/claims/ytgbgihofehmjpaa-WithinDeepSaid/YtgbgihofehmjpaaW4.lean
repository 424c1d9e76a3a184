/- In how many others each ring lies. -/
import Derived.Test.YtgbgihofehmjpaaW3
set_option linter.unusedVariables false
set_option linter.unusedSimpArgs false
set_option linter.unusedSectionVars false
namespace Go.Proofs.Ytgbgihofehmjpaa.Pure
open Go.RowKit Go.Proofs.Ytgbgihofehmjpaa.AM
def ix (r : List Int) (i : Nat) : Int := rdD 0 r (i : Int)
def segsv (r : List Int) : List Pt := (List.range r.length).map fun i => (ix r i, ix r ((i + 1) % r.length))
theorem segsv_len (r : List Int) : (segsv r).length = r.length := by unfold segsv; simp
theorem tmod_nat (i n : Nat) : ((i : Int) + 1).tmod (n : Int) = (((i + 1) % n : Nat) : Int) := by
  rw [Int.tmod_eq_emod_of_nonneg (by omega)]; simp
theorem segs_f (m : Nat) (r : List Int) (hl : r.length ≤ 350) : g_within_segs (m + 400) r = some (segsv r) := by
  unfold g_within_segs
  refine loop_list (fun i => (r, (List.range i).map fun i => (ix r i, ix r ((i + 1) % r.length)), r, (r.length : Int), (i : Int))) r.length (fun _ => some (segsv r)) ?_ ?_ (m + 400) 0 (Nat.zero_le _) (by omega)
  · intro next
    dsimp only
    rw [bif_F (by omega)]; rfl
  · intro i hi next hn
    dsimp only at hn ⊢
    have hm : (i + 1) % r.length < r.length := Nat.mod_lt _ (by omega)
    rw [bif_T (by omega), gd_t (inb_t ⟨by omega, by omega⟩), gd_t (show (!(decide ((r.length : Int) = 0))) = true by rw [decide_eq_false (by omega)]; rfl), w64_id (x := (i : Int) + 1) (by omega) (by omega), tmod_nat, gd_t (inb_t ⟨Int.natCast_nonneg _, Int.ofNat_lt.2 hm⟩), gd_t (by unfold few; simp; omega)]
    rw [List.range_succ, List.map_append] at hn
    exact hn
theorem rSegs_f (m : Nat) (r : List Int) (hl : r.length ≤ 350) : g_parquetref09_Segs (m + 400) r = some (segsv r) := by
  unfold g_parquetref09_Segs
  refine loop_list (fun i => (r, (List.range i).map fun i => (ix r i, ix r ((i + 1) % r.length)), (i : Int))) r.length (fun _ => some (segsv r)) ?_ ?_ (m + 400) 0 (Nat.zero_le _) (by omega)
  · intro next
    dsimp only
    rw [bif_F (by omega)]; rfl
  · intro i hi next hn
    dsimp only at hn ⊢
    simp only [meet]
    have hm : (i + 1) % r.length < r.length := Nat.mod_lt _ (by omega)
    rw [List.range_succ, List.map_append] at hn
    have hin : inb (i : Int) r.length = true := inb_t ⟨by omega, by omega⟩
    have hfew : few (((List.range i).map fun i => (ix r i, ix r ((i + 1) % r.length))).length + 1) = true := by unfold few; simp; omega
    rw [bif_T (by omega), w64_id (x := (i : Int) + 1) (by omega) (by omega)]
    simp only [hin, gT, hfew]
    by_cases e : (i : Int) + 1 = (r.length : Int)
    · rw [bif_T e, gd_t (inb_t ⟨by omega, by omega⟩)]
      have e2 : (i + 1) % r.length = 0 := by rw [show i + 1 = r.length by omega]; exact Nat.mod_self _
      simp only [List.map_cons, List.map_nil, e2] at hn
      exact hn
    · rw [bif_F e, gd_t (inb_t ⟨by omega, by omega⟩)]
      have e2 : (i + 1) % r.length = i + 1 := Nat.mod_eq_of_lt (by omega)
      simp only [List.map_cons, List.map_nil, e2] at hn
      exact hn
def rg (R : List (List Int)) (i : Nat) : List Int := rdD [] R (i : Int)
def okr (p : List Pt) (r : List Int) : Bool := okl p 1 (segsv r) && !decide (r.length = 0)
def inn (p : List Pt) (R : List (List Int)) (i k : Nat) : Bool := !decide (k = i) && decide ((atv p (segsv (rg R k)) 1 (pt p (ix (rg R i) 0))).1 = 1)
def cnt (p : List Pt) (R : List (List Int)) (i : Nat) : Nat → Nat
  | 0 => 0
  | k + 1 => cnt p R i k + if inn p R i k = true then 1 else 0
theorem cnt_succ (p : List Pt) (R : List (List Int)) (i k : Nat) : cnt p R i (k + 1) = cnt p R i k + if inn p R i k = true then 1 else 0 := rfl
theorem cnt_le (p : List Pt) (R : List (List Int)) (i : Nat) : ∀ k, cnt p R i k ≤ k
  | 0 => Nat.le_refl _
  | k + 1 => by
    have := cnt_le p R i k
    unfold cnt; split <;> omega
def deepv (p : List Pt) (R : List (List Int)) : List Int × Int := if (R.all fun r => okr p r) = true then ((List.range R.length).map fun i => (cnt p R i R.length : Int), 0) else ([], 2)
theorem okr_first {p : List Pt} {r : List Int} (h : okr p r = true) : r.length ≠ 0 ∧ okl p 1 (segsv r) = true ∧ inr (ix r 0) p.length ∧ Fit (pt p (ix r 0)) := by
  unfold okr at h
  simp only [Bool.and_eq_true, Bool.not_eq_true', decide_eq_false_iff_not] at h
  refine ⟨h.2, h.1, ?_⟩
  have hm : (ix r 0, ix r ((0 + 1) % r.length)) ∈ segsv r := by
    unfold segsv
    exact List.mem_map.2 ⟨0, List.mem_range.2 (by omega), rfl⟩
  have := of_decide_eq_true (List.all_eq_true.1 h.1 _ hm)
  exact ⟨this.1.1, this.2.2.1.1⟩
section
variable (m : Nat) (p : List Pt) (R : List (List Int)) (hR : R.length ≤ 350) (hr : ∀ r ∈ R, r.length ≤ 350)
include hR hr
theorem rg_mem {i : Nat} (hi : i < R.length) : rg R i ∈ R := by unfold rg; rw [rd_get _ R i hi]; exact List.getElem_mem _
theorem inb0 {r : List Int} (h : r.length ≠ 0) : inb 0 r.length = true := inb_t ⟨by omega, by omega⟩
omit hR hr in
theorem all_drop {i : Nat} (h : ∀ r ∈ R, okr p r = true) : ((R.drop i).all fun r => okr p r) = true := List.all_eq_true.2 fun r hx => h r (List.mem_of_mem_drop hx)
theorem Deep_f : g_within_Deep (m + 400) p R = some (deepv p R) := by
  unfold g_within_Deep b_within_Deep
  refine loop_rel (fun n s v => ∃ i : Nat, i ≤ R.length ∧ (∀ r ∈ R.take i, okr p r = true) ∧ n = R.length - i ∧ s = (p, R, R, (R.length : Int), (i : Int)) ∧ v = some (deepv p R)) ?_ (m + 400) R.length _ _ ⟨0, by omega, by simp, rfl, rfl, rfl⟩ (by omega)
  rintro n s v ⟨i, hi, hok, rfl, rfl, rfl⟩ next hn
  by_cases e : i = R.length
  · subst e
    rw [List.take_length] at hok
    have hd : deepv p R = ((List.range R.length).map fun i => (cnt p R i R.length : Int), 0) := by
      unfold deepv; rw [if_pos (List.all_eq_true.2 hok)]
    dsimp only
    rw [bif_F (by omega), hd]
    refine loop_list (fun i => (p, R, (List.range i).map fun i => (cnt p R i R.length : Int), R, (R.length : Int), (i : Int))) R.length (fun _ => some ((List.range R.length).map fun i => (cnt p R i R.length : Int), 0)) ?_ ?_ (m + 400) 0 (Nat.zero_le _) (by omega)
    · intro next
      dsimp only
      rw [bif_F (by omega)]
    · intro i hi next hn
      dsimp only at hn ⊢
      rw [bif_T (by omega), gd_t (inb_t ⟨by omega, by omega⟩)]
      have hme := rg_mem R hR hr hi
      obtain ⟨q1, q2, q3, q4⟩ := okr_first (hok _ hme)
      refine loop_list (fun k => (p, R, (List.range i).map fun i => (cnt p R i R.length : Int), (i : Int), rg R i, (cnt p R i k : Int), R, (R.length : Int), (i : Int), R, (R.length : Int), (k : Int))) R.length (fun _ => some ((List.range R.length).map fun i => (cnt p R i R.length : Int), 0)) ?_ ?_ (m + 400) 0 (Nat.zero_le _) (by omega)
      · intro next2
        dsimp only
        rw [bif_F (by omega), gd_t (by unfold few; simp; omega), w64_id (x := (i : Int) + 1) (by omega) (by omega)]
        rw [List.range_succ, List.map_append] at hn
        exact hn
      · intro k hk next2 hn2
        dsimp only at hn2 ⊢
        simp only [meet]
        have hmk := rg_mem R hR hr hk
        have hc := cnt_le p R i k
        have es : rdD [] R (k : Int) = rg R k := rfl
        have e0 : rdD 0 (rg R i) 0 = ix (rg R i) 0 := rfl
        have e1 : rdD (0, 0) p (ix (rg R i) 0) = pt p (ix (rg R i) 0) := rfl
        rw [bif_T (by omega), gd_t (inb_t ⟨by omega, by omega⟩), es, segs_f m _ (hr _ hmk), bnd_s, gd_t (inb0 R hR hr q1), e0, gd_t (inb_r q3)]
        simp only [e1, etaP]
        rw [At_f m p _ _ (by rw [segsv_len]; exact hr _ hmk), bnd_s, w64_id (x := (k : Int) + 1) (by omega) (by omega), w64_id (x := (cnt p R i k : Int) + 1) (by omega) (by omega)]
        have ek : decide ((k : Int) = (i : Int)) = decide (k = i) := by rw [decide_eq_decide]; omega
        rw [ek]
        have hz0 : inn p R i k = (!decide (k = i) && decide ((atv p (segsv (rg R k)) 1 (pt p (ix (rg R i) 0))).1 = 1)) := rfl
        rw [cnt_succ, hz0] at hn2
        cases hk0 : decide (k = i)
        · cases hz : decide ((atv p (segsv (rg R k)) 1 (pt p (ix (rg R i) 0))).1 = 1)
          · rw [hk0, hz] at hn2; exact hn2
          · rw [hk0, hz] at hn2; exact hn2
        · rw [hk0] at hn2; exact hn2
  · have hi' : i < R.length := by omega
    dsimp only
    simp only [meet]
    rw [bif_T (by omega), gd_t (inb_t ⟨by omega, by omega⟩), w64_id (x := (i : Int) + 1) (by omega) (by omega), rd_get _ R i hi']
    have hmem : R[i] ∈ R := List.getElem_mem _
    have hl := hr R[i] hmem
    have htake : R.take (i + 1) = R.take i ++ [R[i]] := by rw [List.take_succ_eq_append_getElem hi']
    have hn' : okr p R[i] = true → next (p, R, R, (R.length : Int), (i : Int) + 1) = some (deepv p R) := fun h => hn (R.length - (i + 1)) _ _ (by omega) ⟨i + 1, by omega, by
      rw [htake]; intro r hx
      rcases List.mem_append.1 hx with hx | hx
      · exact hok r hx
      · rw [List.mem_singleton] at hx; rw [hx]; exact h, rfl, rfl, rfl⟩
    have hbad : ¬ okr p R[i] = true → deepv p R = ([], 2) := by
      intro h; unfold deepv; rw [if_neg]; intro ha; exact h (List.all_eq_true.1 ha _ hmem)
    rw [segs_f m _ hl, bnd_s, fine_f m p _ (by rw [segsv_len]; exact hl), bnd_s]
    by_cases h : okl p 1 (segsv R[i]) = true
    · rw [if_pos h]
      by_cases h0 : R[i].length = 0
      · rw [decide_eq_true (show (R[i].length : Int) = 0 by omega), hbad (by unfold okr; simp [h0])]; rfl
      · rw [decide_eq_false (show ¬ (R[i].length : Int) = 0 by omega)]
        exact hn' (by unfold okr; simp [h0, h])
    · rw [if_neg h, hbad (by unfold okr; simp [h])]; rfl
theorem rDeep_f : g_parquetref09_Deep (m + 400) p R = some (deepv p R) := by
  unfold g_parquetref09_Deep b_parquetref09_Deep
  refine loop_rel (fun n s v => ∃ i : Nat, i ≤ R.length ∧ (∀ r ∈ R.take i, okr p r = true) ∧ n = R.length - i ∧ s = (p, R, (i : Int)) ∧ v = some (deepv p R)) ?_ (m + 400) R.length _ _ ⟨0, by omega, by simp, rfl, rfl, rfl⟩ (by omega)
  rintro n s v ⟨i, hi, hok, rfl, rfl, rfl⟩ next hn
  by_cases e : i = R.length
  · subst e
    rw [List.take_length] at hok
    have hd : deepv p R = ((List.range R.length).map fun i => (cnt p R i R.length : Int), 0) := by
      unfold deepv; rw [if_pos (List.all_eq_true.2 hok)]
    dsimp only
    rw [bif_F (by omega), hd]
    refine loop_list (fun i => (p, R, (List.range i).map fun i => (cnt p R i R.length : Int), (i : Int))) R.length (fun _ => some ((List.range R.length).map fun i => (cnt p R i R.length : Int), 0)) ?_ ?_ (m + 400) 0 (Nat.zero_le _) (by omega)
    · intro next
      dsimp only
      rw [bif_F (by omega)]
    · intro i hi next hn
      dsimp only at hn ⊢
      rw [bif_T (by omega)]
      have hme := rg_mem R hR hr hi
      obtain ⟨q1, q2, q3, q4⟩ := okr_first (hok _ hme)
      refine loop_list (fun k => (p, R, (List.range i).map fun i => (cnt p R i R.length : Int), (i : Int), (cnt p R i k : Int), (k : Int))) R.length (fun _ => some ((List.range R.length).map fun i => (cnt p R i R.length : Int), 0)) ?_ ?_ (m + 400) 0 (Nat.zero_le _) (by omega)
      · intro next2
        dsimp only
        rw [bif_F (by omega), gd_t (by unfold few; simp; omega), w64_id (x := (i : Int) + 1) (by omega) (by omega)]
        rw [List.range_succ, List.map_append] at hn
        exact hn
      · intro k hk next2 hn2
        dsimp only at hn2 ⊢
        simp only [meet]
        have hmk := rg_mem R hR hr hk
        have hc := cnt_le p R i k
        obtain ⟨_, z2, _, _⟩ := okr_first (hok _ hmk)
        have es : rdD [] R (k : Int) = rg R k := rfl
        have es2 : rdD [] R (i : Int) = rg R i := rfl
        have e0 : rdD 0 (rg R i) 0 = ix (rg R i) 0 := rfl
        have e1 : rdD (0, 0) p (ix (rg R i) 0) = pt p (ix (rg R i) 0) := rfl
        have i1 : inb (k : Int) R.length = true := inb_t ⟨by omega, by omega⟩
        have i2 : inb (i : Int) R.length = true := inb_t ⟨by omega, by omega⟩
        rw [bif_T (by omega), w64_id (x := (k : Int) + 1) (by omega) (by omega), w64_id (x := (cnt p R i k : Int) + 1) (by omega) (by omega)]
        simp only [i1, i2, gT, es, es2, e0, e1, inb0 R hR hr q1, inb_r q3, etaP]
        rw [rSegs_f m _ (hr _ hmk), bnd_s, Where_f m p _ 1 _ (by omega) (by omega) (by rw [segsv_len]; exact hr _ hmk) z2 q4, bnd_s]
        have ea : atv p (segsv (rg R k)) 1 (pt p (ix (rg R i) 0)) = (whr ((segsv (rg R k)).map (sgm p 1)) (pt p (ix (rg R i) 0)), 0) := by
          unfold atv; rw [if_pos ⟨z2, q4⟩]
        have ek : decide ((k : Int) = (i : Int)) = decide (k = i) := by rw [decide_eq_decide]; omega
        rw [ek]
        have hz0 : inn p R i k = (!decide (k = i) && decide ((atv p (segsv (rg R k)) 1 (pt p (ix (rg R i) 0))).1 = 1)) := rfl
        rw [cnt_succ, hz0] at hn2
        rw [ea] at hn2
        cases hk0 : decide (k = i)
        · cases hz : decide (whr ((segsv (rg R k)).map (sgm p 1)) (pt p (ix (rg R i) 0)) = 1)
          · rw [hk0, hz] at hn2; exact hn2
          · rw [hk0, hz] at hn2; exact hn2
        · rw [hk0] at hn2; exact hn2
  · have hi' : i < R.length := by omega
    dsimp only
    simp only [meet]
    have hin : inb (i : Int) R.length = true := inb_t ⟨by omega, by omega⟩
    rw [bif_T (by omega), w64_id (x := (i : Int) + 1) (by omega) (by omega), rd_get _ R i hi']
    simp only [hin, gT]
    have hmem : R[i] ∈ R := List.getElem_mem _
    have hl := hr R[i] hmem
    have htake : R.take (i + 1) = R.take i ++ [R[i]] := by rw [List.take_succ_eq_append_getElem hi']
    have hn' : okr p R[i] = true → next (p, R, (i : Int) + 1) = some (deepv p R) := fun h => hn (R.length - (i + 1)) _ _ (by omega) ⟨i + 1, by omega, by
      rw [htake]; intro r hx
      rcases List.mem_append.1 hx with hx | hx
      · exact hok r hx
      · rw [List.mem_singleton] at hx; rw [hx]; exact h, rfl, rfl, rfl⟩
    have hbad : ¬ okr p R[i] = true → deepv p R = ([], 2) := by
      intro h; unfold deepv; rw [if_neg]; intro ha; exact h (List.all_eq_true.1 ha _ hmem)
    rw [rSegs_f m _ hl, bnd_s, Check_f m p _ 1 (by omega) (by omega) (by rw [segsv_len]; exact hl), bnd_s]
    by_cases h0 : R[i].length = 0
    · rw [decide_eq_true (show (R[i].length : Int) = 0 by omega), hbad (by unfold okr; simp [h0])]; rfl
    · rw [decide_eq_false (show ¬ (R[i].length : Int) = 0 by omega)]
      by_cases h : okl p 1 (segsv R[i]) = true
      · rw [h]
        exact hn' (by unfold okr; simp [h0, h])
      · rw [hbad (by unfold okr; simp [h])]
        rw [Bool.not_eq_true] at h
        rw [h]; rfl
end
theorem same_f (m : Nat) (a : List Int) (hl : a.length ≤ 350) : g_parquetref00_SameInts (m + 400) a a = some true := by
  unfold g_parquetref00_SameInts
  rw [bif_f (by simp)]
  refine loop_list (fun i => (a, a, (i : Int))) a.length (fun _ => some true) ?_ ?_ (m + 400) 0 (Nat.zero_le _) (by omega)
  · intro next
    dsimp only
    rw [bif_F (by omega)]
  · intro i hi next hn
    dsimp only at hn ⊢
    rw [bif_T (by omega), gd_t (inb_t ⟨by omega, by omega⟩), gd_t (inb_t ⟨by omega, by omega⟩), bif_f (by simp), w64_id (x := (i : Int) + 1) (by omega) (by omega)]
    exact hn
theorem deepv_len (p : List Pt) (R : List (List Int)) : (deepv p R).1.length ≤ R.length := by
  unfold deepv; split <;> simp
end Go.Proofs.Ytgbgihofehmjpaa.Pure
