/- How many ends are at each place; whether segments are there twice. -/
import Derived.Test.YtjbimhfhapnjeaaV3
set_option linter.unusedVariables false
set_option linter.unusedSimpArgs false
namespace Go.Proofs.Ytjbimhfhapnjeaa.Pure
open Go.RowKit Go.Proofs.Ytjbimhfhapnjeaa.AM PL

def dgr (L : List Pt) (i : Int) : Nat := (L.countP fun s => decide (s.1 = i)) + L.countP fun s => decide (s.2 = i)
def dgs (L : List Pt) (n : Nat) : List Int := (List.range n).map fun (i : Nat) => (dgr L (i : Int) : Int)
theorem dgr_snoc (L : List Pt) (s : Pt) (i : Int) : dgr (L ++ [s]) i = dgr L i + (if s.1 = i then 1 else 0) + (if s.2 = i then 1 else 0) := by
  unfold dgr
  rw [List.countP_append, List.countP_append, List.countP_singleton, List.countP_singleton]
  by_cases h1 : s.1 = i <;> by_cases h2 : s.2 = i <;> simp [h1, h2] <;> omega
theorem dgr_le (L : List Pt) (i : Int) : dgr L i ≤ 2 * L.length := by
  unfold dgr
  have h1 := List.countP_le_length (p := fun s : Pt => decide (s.1 = i)) (l := L)
  have h2 := List.countP_le_length (p := fun s : Pt => decide (s.2 = i)) (l := L)
  omega
theorem dgs_len (L : List Pt) (n : Nat) : (dgs L n).length = n := by unfold dgs; simp
theorem dgs_get (L : List Pt) (n : Nat) {i : Nat} (h : i < n) : rdD 0 (dgs L n) (i : Int) = (dgr L (i : Int) : Int) := by
  rw [rd_get 0 _ i (by rw [dgs_len]; exact h)]
  simp [dgs]
theorem dgs_snoc (L : List Pt) (n : Nat) (a b : Nat) (ha : a < n) (hb : b < n) (hab : a ≠ b) (hl : L.length ≤ 1000) :
    stL (stL (dgs L n) (a : Int) (w64 (rdD 0 (dgs L n) (a : Int) + 1))) (b : Int) (w64 (rdD 0 (stL (dgs L n) (a : Int) (w64 (rdD 0 (dgs L n) (a : Int) + 1))) (b : Int) + 1)) = dgs (L ++ [((a : Int), (b : Int))]) n := by
  have h1 := dgr_le L (a : Int)
  have h2 := dgr_le L (b : Int)
  have hne : rdD 0 (stL (dgs L n) (a : Int) (w64 (rdD 0 (dgs L n) (a : Int) + 1))) (b : Int) = (dgr L (b : Int) : Int) := by
    rw [← dgs_get L n hb]
    unfold rdD stL
    simp only [Int.toNat_natCast, List.getD_eq_getElem?_getD]
    rw [List.getElem?_set_ne hab]
  rw [hne, dgs_get L n ha, w64_id (by omega) (by omega), w64_id (by omega) (by omega)]
  unfold stL
  simp only [Int.toNat_natCast]
  apply List.ext_getElem
  · simp [dgs_len]
  · intro j h3 h4
    have hj : j < n := by rw [dgs_len] at h4; exact h4
    rw [List.getElem_set, List.getElem_set]
    simp only [dgs, List.getElem_map, List.getElem_range]
    rw [dgr_snoc]
    dsimp only
    by_cases e1 : b = j
    · subst e1
      rw [if_pos rfl, if_neg (by omega), if_pos rfl]; omega
    · rw [if_neg e1]
      by_cases e2 : a = j
      · subst e2
        rw [if_pos rfl, if_pos rfl, if_neg (by omega)]; omega
      · rw [if_neg e2, if_neg (by omega), if_neg (by omega)]; omega
theorem Degrees_f (m : Nat) (n : Nat) (L : List Pt) (hn : n ≤ 350) (hL : L.length ≤ 350) (h : ∀ s ∈ L, oks n s ∧ s.1 ≠ s.2) : g_rings_Degrees (m + 1000) (n : Int) L = some (dgs L n, 0) := by
  unfold g_rings_Degrees
  simp only [meet]
  rw [bif_F (by omega), show (decide ((n : Int) > 1048576)) = false from decide_eq_false (by omega), cF, gd_t (decide_eq_true (by omega)), gd_t (by unfold fewI; exact few_t (by omega))]
  have e0 : rpL (n : Int) (0 : Int) = dgs (L.take 0) n := by
    unfold rpL dgs
    rw [Int.toNat_natCast]
    apply List.ext_getElem
    · simp
    · intro j h1 h2
      simp [dgr]
  rw [e0]
  refine loop_list (fun i => ((n : Int), dgs (L.take i) n, L, (L.length : Int), (i : Int))) L.length (fun _ => some (dgs L n, 0)) ?_ ?_ (m + 1000) 0 (Nat.zero_le _) (by omega)
  · intro next
    dsimp only
    rw [bif_F (by omega), List.take_length]
  · intro i hi next hn'
    have hs := h _ (List.getElem_mem hi)
    dsimp only at hn' ⊢
    rw [bif_T (by omega), gd_t (inb_t ⟨by omega, by omega⟩), rd_get _ L i hi, w64_id (x := (i : Int) + 1) (by omega) (by omega)]
    rw [List.take_succ_eq_append_getElem hi] at hn'
    generalize L[i] = s at hs hn' ⊢
    obtain ⟨⟨⟨a0, a1⟩, ⟨b0, b1⟩⟩, hne⟩ := hs
    obtain ⟨s1, s2⟩ := s
    dsimp only at a0 a1 b0 b1 hne hn' ⊢
    obtain ⟨a, rfl⟩ := Int.eq_ofNat_of_zero_le a0
    obtain ⟨b, rfl⟩ := Int.eq_ofNat_of_zero_le b0
    rw [bif_F (by omega), bif_F (by omega), bif_F (by omega), bif_F (by omega), decide_eq_false (by omega), cF]
    have hl1 : inb (a : Int) (dgs (L.take i) n).length = true := inb_t ⟨by omega, by rw [dgs_len]; omega⟩
    have hl2 : ∀ x, inb (b : Int) (stL (dgs (L.take i) n) (a : Int) x).length = true := fun x => inb_t ⟨by omega, by unfold stL; rw [List.length_set, dgs_len]; omega⟩
    have hl3 : inb (b : Int) (dgs (L.take i) n).length = true := inb_t ⟨by omega, by rw [dgs_len]; omega⟩
    simp only [hl1, hl2, hl3, gT]
    rw [dgs_snoc _ n a b (by omega) (by omega) (by omega) (by rw [List.length_take]; omega)]
    exact hn'

/-! ### twice -/
def nrm (s : Pt) : Pt := (mnI s.1 s.2, mxI s.1 s.2)
abbrev kk : Kd := .pair (.int .i64) (.int .i64)
theorem eqT_kk (a b : Pt) : Kd.eqT kk a b = decide (a = b) := by
  show (intEq a.1 b.1 && intEq a.2 b.2) = _
  unfold intEq
  exact eqP
theorem no_lk {κ ν : Kd} {es : List (κ.T × ν.T)} {x : κ.T} (h : ∀ q ∈ es, Kd.eqT κ x q.1 = false) : lkM κ ν es x = ν.dflt ∧ hsM κ ν es x = false := by
  constructor
  · unfold lkM
    rw [List.find?_eq_none.2 (fun q hq => by rw [h q hq]; simp)]
  · unfold hsM
    rw [List.any_eq_false]
    intro q hq
    rw [h q hq]; simp
theorem tw_step {ρ : Type} {es : List (kk.T × Kd.T .bool)} {x : kk.T} (h : ∀ q ∈ es, Kd.eqT kk x q.1 = false) (A B : Option ρ) : (bif lkM kk .bool es x then A else gd (!(hsM kk .bool es x)) B) = B := by
  obtain ⟨h1, h2⟩ := no_lk h
  rw [h2]
  have h1' : lkM kk .bool es x = false := h1
  rw [h1']
  rfl
theorem twiceR_f (m : Nat) (L : List Pt) (hL : L.length ≤ 350) (h : L.Pairwise fun a b => nrm a ≠ nrm b) : g_rings_twice (m + 1000) L = some (-1) := by
  unfold g_rings_twice
  refine loop_list (fun i => (((L.take i).map fun s => (nrm s, true) : List (Pt × Bool)), L, (L.length : Int), (i : Int))) L.length (fun _ => some (-1)) ?_ ?_ (m + 1000) 0 (Nat.zero_le _) (by omega)
  · intro next
    dsimp only
    rw [bif_F (by omega)]
  · intro i hi next hn
    dsimp only at hn ⊢
    rw [bif_T (by omega), gd_t (inb_t ⟨by omega, by omega⟩), rd_get _ L i hi, w64_id (x := (i : Int) + 1) (by omega) (by omega)]
    have hno : ∀ q ∈ ((L.take i).map fun s => (nrm s, true) : List (Pt × Bool)), Kd.eqT kk (nrm L[i]) q.1 = false := by
      intro q hq
      obtain ⟨s, hs, rfl⟩ := List.mem_map.1 hq
      obtain ⟨j, hj, rfl⟩ := List.mem_iff_getElem.1 hs
      rw [List.length_take] at hj
      rw [eqT_kk]
      refine decide_eq_false fun e => ?_
      dsimp only at e
      rw [List.getElem_take] at e
      exact List.pairwise_iff_getElem.1 h j i (by omega) hi (by omega) e.symm
    rw [List.take_succ_eq_append_getElem hi, List.map_append] at hn
    exact (tw_step (x := nrm L[i]) hno _ _).trans hn

/-! ### a place where no loop goes through -/
def odd (L : List Pt) : Nat → Nat → Bool := fun _ k => decide (dgr L (k : Int) ≠ 0) && decide (dgr L (k : Int) ≠ 2)
def s5 (p : Poly) : Option Nat := row (odd p.2.1) p.1.length 0 0
theorem r1_f (k : Nat) (L : List Pt) (i : Nat) : g_rings_Rings_1 k (dgr L (i : Int) : Int) = some (odd L 0 i) := by
  unfold g_rings_Rings_1 odd
  simp only [meet]
  rw [show decide ((dgr L (i : Int) : Int) = 0) = decide (dgr L (i : Int) = 0) from decide_eq_decide.2 (by omega), show decide ((dgr L (i : Int) : Int) = 2) = decide (dgr L (i : Int) = 2) from decide_eq_decide.2 (by omega), show decide (dgr L (i : Int) ≠ 0) = !decide (dgr L (i : Int) = 0) from decide_not, show decide (dgr L (i : Int) ≠ 2) = !decide (dgr L (i : Int) = 2) from decide_not]
  cases decide (dgr L (i : Int) = 0) <;> cases decide (dgr L (i : Int) = 2) <;> rfl
theorem IndexFunc_f (m : Nat) (n : Nat) (L : List Pt) (hn : n ≤ 350) : g_slices_IndexFunc_int_int (m + 1000) (dgs L n) ((), ()) = some (match row (odd L) n 0 0 with | some k => (k : Int) | none => -1) := by
  unfold g_slices_IndexFunc_int_int b_slices_IndexFunc_int_int
  refine loop_list (fun i => (dgs L n, ((), ()), ((dgs L n).length : Int), (i : Int))) n (fun i => some (match row (odd L) n 0 i with | some k => (k : Int) | none => -1)) ?_ ?_ (m + 1000) 0 (Nat.zero_le _) (by omega)
  · intro next
    dsimp only
    rw [bif_F (by rw [dgs_len]; omega), row_end]
  · intro i hi next hn'
    dsimp only at hn' ⊢
    rw [bif_T (by rw [dgs_len]; omega), gd_t (inb_t ⟨by omega, by rw [dgs_len]; omega⟩), dgs_get L n hi, r1_f, bnd_s, row_step _ hi, w64_id (x := (i : Int) + 1) (by omega) (by omega)]
    cases odd L 0 i
    · exact hn'
    · rfl
end Go.Proofs.Ytjbimhfhapnjeaa.Pure
