/- Loops of a right input, segments that may be laid; the chapter's example. -/
import Derived.Test.YtjbimhfhapnjeaaV8
set_option linter.unusedVariables false
set_option linter.unusedSimpArgs false
namespace Go.Proofs.Ytjbimhfhapnjeaa.Pure
open Go.RowKit Go.Proofs.Ytjbimhfhapnjeaa.AM PL

def good0 (p : Poly) : Bool := decide ((flaw p).1 = 0)
structure Right (p : Poly) : Prop where
  fine : Fine p
  n4 : s4 p = none
  n5 : s5 p = none
  n6 : p.2.1.length ≠ 0
  n7 : s7 p = none
  n8 : s8 p = none
theorem good0_right {p : Poly} (h : Sm p) (hg : good0 p = true) : Right p := by
  have hg := of_decide_eq_true hg
  unfold flaw at hg
  cases h1 : s1 p with
  | some q => rw [h1] at hg; exact absurd hg (by show ¬ (1 : Int) = 0; decide)
  | none =>
  cases h2 : s2 p with
  | some q => rw [h1, h2] at hg; exact absurd hg (by show ¬ (2 : Int) = 0; decide)
  | none =>
  cases h3 : s3 p with
  | some q => rw [h1, h2, h3] at hg; exact absurd hg (by show ¬ (3 : Int) = 0; decide)
  | none =>
  cases h4 : s4 p with
  | some q => rw [h1, h2, h3, h4] at hg; exact absurd hg (by show ¬ (4 : Int) = 0; decide)
  | none =>
  rw [h1, h2, h3, h4] at hg
  replace hg : (rest p).1 = 0 := hg
  unfold rest at hg
  cases h5 : s5 p with
  | some q => rw [h5] at hg; exact absurd hg (by show ¬ (5 : Int) = 0; decide)
  | none =>
  rw [h5] at hg
  replace hg : (six p (one 7 (s7 p) (one 8 (s8 p) fz))).1 = 0 := hg
  unfold six at hg
  by_cases h6 : p.2.1.length = 0
  · rw [if_pos h6] at hg; exact absurd hg (by show ¬ (6 : Int) = 0; decide)
  rw [if_neg h6] at hg
  cases h7 : s7 p with
  | some q => rw [h7] at hg; exact absurd hg (by show ¬ (7 : Int) = 0; decide)
  | none =>
  rw [h7] at hg
  replace hg : (one 8 (s8 p) fz).1 = 0 := hg
  cases h8 : s8 p with
  | some q => rw [h8] at hg; exact absurd hg (by show ¬ (8 : Int) = 0; decide)
  | none => exact ⟨⟨h, h1, h2, h3⟩, h4, h5, h6, h7, h8⟩
theorem Right.good {p : Poly} (h : Right p) : flaw p = fz := by
  unfold flaw rest six
  rw [h.fine.n1, h.fine.n2, h.fine.n3, h.n4, h.n5, if_neg h.n6, h.n7, h.n8]; rfl
theorem vright_f (m : Nat) {p : Poly} (h : Sm p) : g_valid_right (m + 1000) p = some (good0 p) := by
  unfold g_valid_right b_valid_right
  rw [show g_valid_First (m + 1000) (p.1, p.2.1, p.2.2) = some (flaw p, 0) from First_ok m h, bnd_s]
  rfl
theorem vright_bad (m : Nat) {p : Poly} (h : chk p = false) : g_valid_right (m + 1000) p = some false := by
  unfold g_valid_right b_valid_right
  rw [show g_valid_First (m + 1000) (p.1, p.2.1, p.2.2) = some (fz, 2) from First_bad m h, bnd_s]
  rfl
theorem rRight_f (m : Nat) {p : Poly} (h : Sm p) : g_parquetref10_Right (m + 1000) p = some (good0 p) := by
  unfold g_parquetref10_Right b_parquetref10_Right
  rw [show g_parquetref10_First (m + 1000) (p.1, p.2.1, p.2.2) = some (flaw p, 0) from rFirst_ok m h, bnd_s]
  rfl
theorem rRight_bad (m : Nat) {p : Poly} (h : chk p = false) : g_parquetref10_Right (m + 1000) p = some false := by
  unfold g_parquetref10_Right b_parquetref10_Right
  rw [show g_parquetref10_First (m + 1000) (p.1, p.2.1, p.2.2) = some (fz, 2) from rFirst_bad m h, bnd_s]
  rfl
def loopsv (p : Poly) : List (List Int) × Int := if good0 p = true then (outs p.2.1 p.1.length p.1.length, 0) else ([], 2)
theorem Loops_f (m : Nat) {p : Poly} (h : Sm p) : g_valid_Loops (m + 1000) p = some (loopsv p) := by
  unfold g_valid_Loops b_valid_Loops loopsv
  rw [show g_valid_right (m + 1000) (p.1, p.2.1, p.2.2) = some (good0 p) from vright_f m h, bnd_s]
  cases hg : good0 p with
  | false => rfl
  | true =>
    have R := good0_right h hg
    rw [Bool.not_true, cF, Rings_f m p.1.length p.2.1 (by have := h.P; omega) (by have := h.L; omega) R.fine.okL R.fine.twoL, bnd_s]
    have e : row (odd p.2.1) p.1.length 0 0 = none := R.n5
    unfold ringsv
    rw [e]; rfl
theorem Loops_bad (m : Nat) {p : Poly} (h : chk p = false) : g_valid_Loops (m + 1000) p = some ([], 2) := by
  unfold g_valid_Loops b_valid_Loops
  rw [show g_valid_right (m + 1000) (p.1, p.2.1, p.2.2) = some false from vright_bad m h, bnd_s]
  rfl

/-! ### may a segment be laid -/
def mid1 (p : Poly) (a b : Int) : Bool := decide ((midv p.1 p.2.1 [a, b]).1 = 1)
def isl (p : Poly) (a b : Int) : Nat → List Pt → Bool
  | _, [] => mid1 p a b
  | i, s :: r => if s = (a, b) ∨ s = (b, a) then (decide (i < p.2.1.length) || mid1 p a b) else if (segs (pt p.1 a) (pt p.1 b) (pt p.1 s.1) (pt p.1 s.2)).1 > 1 then false else isl p a b (i + 1) r
def noIns (p : Poly) (a b : Int) : Bool := p.1.all fun q => !decide (Ins (pt p.1 a) (pt p.1 b) q)
def may (p : Poly) (a b : Int) : Bool := decide (inr a p.1.length ∧ inr b p.1.length ∧ a ≠ b)
def insv (p : Poly) (a b : Int) : Bool := good0 p && (may p a b && (noIns p a b && isl p a b 0 (sgs p)))
theorem insdT (m : Nat) (a b c : Pt) : g_meet_Inside (m + 1000) a b c = some (decide (Ins a b c)) := Inside_f (m + 994) a b c
theorem segsT (m : Nat) (a b c d : Pt) : g_meet_Segs (m + 1000) a b c d = some (segs a b c d) := Segs_f (m + 994) a b c d
theorem Inside_bad (m : Nat) {p : Poly} (h : chk p = false) (a b : Int) : g_valid_Inside (m + 1000) p a b = some false := by
  unfold g_valid_Inside b_valid_Inside
  simp only [meet]
  rw [show g_valid_right (m + 1000) (p.1, p.2.1, p.2.2) = some false from vright_bad m h, bnd_s]
  rfl
theorem Inside_v (m : Nat) {p : Poly} (h : Sm p) (a b : Int) : g_valid_Inside (m + 1000) p a b = some (insv p a b) := by
  have hP := h.P
  have hL := h.L
  have hlen := h.len
  unfold g_valid_Inside b_valid_Inside
  simp only [meet]
  rw [show g_valid_right (m + 1000) (p.1, p.2.1, p.2.2) = some (good0 p) from vright_f m h, bnd_s]
  unfold insv
  cases hg : good0 p with
  | false => rfl
  | true =>
  rw [Bool.not_true, cF, Bool.true_and]
  have no : ∀ h : ¬ (inr a p.1.length ∧ inr b p.1.length ∧ a ≠ b), may p a b = false := fun h => decide_eq_false h
  by_cases c1 : a < 0
  · rw [bif_T c1, cT, no (fun h => by have := h.1.1; omega)]; rfl
  rw [bif_F c1]
  by_cases c2 : a ≥ (p.1.length : Int)
  · rw [bif_T c2, cT, no (fun h => by have := h.1.2; omega)]; rfl
  rw [bif_F c2]
  by_cases c3 : b < 0
  · rw [bif_T c3, cT, no (fun h => by have := h.2.1.1; omega)]; rfl
  rw [bif_F c3]
  by_cases c4 : b ≥ (p.1.length : Int)
  · rw [bif_T c4, cT, no (fun h => by have := h.2.1.2; omega)]; rfl
  rw [bif_F c4]
  by_cases c5 : a = b
  · rw [bif_T c5, no (fun h => h.2.2 c5)]; rfl
  rw [bif_F c5, show may p a b = true from decide_eq_true ⟨⟨by omega, by omega⟩, ⟨by omega, by omega⟩, c5⟩, Bool.true_and]
  have ia : inb a p.1.length = true := inb_t ⟨by omega, by omega⟩
  have ib : inb b p.1.length = true := inb_t ⟨by omega, by omega⟩
  refine loop_list (fun i => (a, b, p, p.1, (p.1.length : Int), (i : Int))) p.1.length (fun i => some (((p.1.drop i).all fun q => !decide (Ins (pt p.1 a) (pt p.1 b) q)) && isl p a b 0 (sgs p))) ?_ ?_ (m + 1000) 0 (Nat.zero_le _) (by omega)
  · intro next
    dsimp only
    rw [bif_F (by omega), List.drop_length, List.all_nil, Bool.true_and]
    rw [show g_valid_all (m + 1000) (p.1, p.2.1, p.2.2) = some (sgs p) from all_f _ h, bnd_s]
    refine loop_list (fun i => (a, b, p, sgs p, ((sgs p).length : Int), (i : Int))) (sgs p).length (fun i => some (isl p a b i ((sgs p).drop i))) ?_ ?_ (m + 1000) 0 (Nat.zero_le _) (by omega)
    · intro next
      dsimp only
      rw [bif_F (by omega), List.drop_length, halfT m _ _ _ _ (by omega), bnd_s]
      rfl
    · intro i hi next hn
      have hok := h.s _ (List.getElem_mem hi)
      dsimp only at hn ⊢
      rw [bif_T (by omega), gd_t (inb_t ⟨by omega, by omega⟩), rd_get _ _ i hi, w64_id (x := (i : Int) + 1) (by omega) (by omega), List.drop_eq_getElem_cons hi, isl]
      have e1 : inb (sgs p)[i].1 p.1.length = true := inb_r hok.1
      have e2 : inb (sgs p)[i].2 p.1.length = true := inb_r hok.2
      simp only [ia, ib, e1, e2, gT]
      have q1 : ((decide ((sgs p)[i].1 = a)) && (decide ((sgs p)[i].2 = b))) = decide ((sgs p)[i] = (a, b)) := eqP (a := (sgs p)[i]) (b := (a, b))
      have q2 : ((decide ((sgs p)[i].1 = b)) && (decide ((sgs p)[i].2 = a))) = decide ((sgs p)[i] = (b, a)) := eqP (a := (sgs p)[i]) (b := (b, a))
      rw [q1, q2]
      have yes : (bnd (g_within_Halfway (m + 1000) p.1 p.2.1 a b) fun r29 => bif decide ((i : Int) < (p.2.1.length : Int)) then some true else some (decide (r29.1 = 1))) = some (decide (i < p.2.1.length) || mid1 p a b) := by
        rw [halfT m _ _ _ _ (by omega), bnd_s]
        by_cases hi' : i < p.2.1.length
        · rw [bif_T (by omega), decide_eq_true hi']; rfl
        · rw [bif_F (by omega), decide_eq_false hi']; rfl
      by_cases c6 : (sgs p)[i] = (a, b)
      · rw [bif_T c6, cT, if_pos (.inl c6)]
        exact yes
      rw [bif_F c6]
      by_cases c7 : (sgs p)[i] = (b, a)
      · rw [bif_T c7, if_pos (.inr c7)]
        exact yes
      rw [bif_F c7, if_neg (fun h => h.elim c6 c7), segsT, bnd_s]
      by_cases c8 : (segs (pt p.1 a) (pt p.1 b) (pt p.1 (sgs p)[i].1) (pt p.1 (sgs p)[i].2)).1 > 1
      · rw [if_pos c8]
        exact bif_t (decide_eq_true c8)
      · rw [if_neg c8]
        exact (bif_f (decide_eq_false c8)).trans hn
  · intro i hi next hn
    dsimp only at hn ⊢
    rw [bif_T (by omega), gd_t (inb_t ⟨by omega, by omega⟩)]
    simp only [ia, ib, gT]
    rw [insdT, bnd_s, w64_id (x := (i : Int) + 1) (by omega) (by omega), rd_get _ p.1 i hi, List.drop_eq_getElem_cons hi, List.all_cons]
    by_cases c : Ins (pt p.1 a) (pt p.1 b) p.1[i]
    · rw [decide_eq_true c]
      exact bif_t (decide_eq_true c)
    · rw [decide_eq_false c, Bool.not_false, Bool.true_and]
      exact (bif_f (decide_eq_false c)).trans hn

/-! ### the chapter's example -/
def sq1 : Poly := ([(0, 0), (4, 0), (4, 4), (0, 4)], [(0, 1), (1, 2), (2, 3), (3, 0)], [(0, 2)])
def sq2 : Poly := ([(0, 0), (4, 0), (4, 4), (0, 4)], [(0, 1), (1, 2), (2, 3), (3, 0), (0, 2)], [])
def sq3 : Poly := ([(0, 0), (4, 0), (4, 4), (0, 4)], [(1, 2), (2, 3), (3, 0)], [(0, 2)])
theorem known_f (m : Nat) : g_parquetlaw10_known (m + 1000) = some true := by
  have h1 : Sm sq1 := ⟨by decide +kernel, by decide, by decide, by decide⟩
  have h2 : Sm sq2 := ⟨by decide +kernel, by decide, by decide, by decide⟩
  have h3 : Sm sq3 := ⟨by decide +kernel, by decide, by decide, by decide⟩
  have f1 : flaw sq1 = fz := by decide +kernel
  have f2 : flaw sq2 = (5, 0, 0) := by decide +kernel
  have f3 : (flaw sq3).1 = 5 := by decide +kernel
  have l1 : loopsv sq1 = ([[0, 1, 2, 3]], 0) := by decide +kernel
  have i1 : insv sq1 0 1 = true := by decide +kernel
  have i2 : insv sq1 1 3 = false := by decide +kernel
  unfold g_parquetlaw10_known b_parquetlaw10_known
  rw [show g_valid_First (m + 1000) ([(0, 0), (4, 0), (4, 4), (0, 4)], [(0, 1), (1, 2), (2, 3), (3, 0)], [(0, 2)]) = some (flaw sq1, 0) from First_ok m h1, bnd_s]
  rw [show g_valid_First (m + 1000) ([(0, 0), (4, 0), (4, 4), (0, 4)], [(0, 1), (1, 2), (2, 3), (3, 0), (0, 2)], []) = some (flaw sq2, 0) from First_ok m h2, bnd_s]
  rw [show g_valid_First (m + 1000) ([(0, 0), (4, 0), (4, 4), (0, 4)], dpL [(0, 1), (1, 2), (2, 3), (3, 0)] 1, [(0, 2)]) = some (flaw sq3, 0) from First_ok m h3, bnd_s]
  rw [show g_valid_Loops (m + 1000) ([(0, 0), (4, 0), (4, 4), (0, 4)], [(0, 1), (1, 2), (2, 3), (3, 0)], [(0, 2)]) = some (loopsv sq1) from Loops_f m h1, bnd_s]
  rw [show g_valid_Inside (m + 1000) ([(0, 0), (4, 0), (4, 4), (0, 4)], [(0, 1), (1, 2), (2, 3), (3, 0)], [(0, 2)]) 0 1 = some (insv sq1 0 1) from Inside_v m h1 0 1]
  rw [show g_valid_Inside (m + 1000) ([(0, 0), (4, 0), (4, 4), (0, 4)], [(0, 1), (1, 2), (2, 3), (3, 0)], [(0, 2)]) 1 3 = some (insv sq1 1 3) from Inside_v m h1 1 3]
  rw [f1, f2, f3, l1, i1, i2]
  rfl
def manyv (p : Poly) : Prop := (p.1.length > 60 ∧ p.1.length ≤ 200) ∨ (p.2.1.length > 80 ∧ p.2.1.length ≤ 400) ∨ (p.2.2.length > 80 ∧ p.2.2.length ≤ 400) ∨ p.1.length > 300 ∨ p.2.1.length > 500 ∨ p.2.2.length > 500
theorem many_f (k : Nat) (p : Poly) : ∃ b, g_parquetlaw10_many k p = some b ∧ (b = false → ¬ manyv p) := by
  unfold g_parquetlaw10_many
  simp only [meet]
  have key : ∀ x : Option Bool, (∃ b, x = some b ∧ (b = false → ¬ manyv p)) → ∃ b, x = some b ∧ (b = false → ¬ manyv p) := fun _ h => h
  have last : ¬ (p.1.length > 60 ∧ p.1.length ≤ 200) → ¬ (p.2.1.length > 80 ∧ p.2.1.length ≤ 400) → ¬ (p.2.2.length > 80 ∧ p.2.2.length ≤ 400) →
      ∃ b, (bif decide ((p.1.length : Int) > 300) then some true else bif decide ((p.2.1.length : Int) > 500) then some true else some (decide ((p.2.2.length : Int) > 500))) = some b ∧ (b = false → ¬ manyv p) := by
    intro h1 h2 h3
    by_cases c1 : (p.1.length : Int) > 300
    · rw [bif_T c1]; exact ⟨true, rfl, fun h => by cases h⟩
    rw [bif_F c1]
    by_cases c2 : (p.2.1.length : Int) > 500
    · rw [bif_T c2]; exact ⟨true, rfl, fun h => by cases h⟩
    rw [bif_F c2]
    refine ⟨_, rfl, fun h => ?_⟩
    have := of_decide_eq_false h
    unfold manyv
    omega
  have third : ¬ (p.1.length > 60 ∧ p.1.length ≤ 200) → ¬ (p.2.1.length > 80 ∧ p.2.1.length ≤ 400) →
      ∃ b, (bif decide ((p.2.2.length : Int) > 80) then bif decide ((p.2.2.length : Int) ≤ 400) then some true else (bif decide ((p.1.length : Int) > 300) then some true else bif decide ((p.2.1.length : Int) > 500) then some true else some (decide ((p.2.2.length : Int) > 500))) else (bif decide ((p.1.length : Int) > 300) then some true else bif decide ((p.2.1.length : Int) > 500) then some true else some (decide ((p.2.2.length : Int) > 500)))) = some b ∧ (b = false → ¬ manyv p) := by
    intro h1 h2
    by_cases c1 : (p.2.2.length : Int) > 80
    · rw [bif_T c1]
      by_cases c2 : (p.2.2.length : Int) ≤ 400
      · rw [bif_T c2]; exact ⟨true, rfl, fun h => by cases h⟩
      · rw [bif_F c2]; exact last h1 h2 (by omega)
    · rw [bif_F c1]; exact last h1 h2 (by omega)
  have second : ¬ (p.1.length > 60 ∧ p.1.length ≤ 200) →
      ∃ b, (bif decide ((p.2.1.length : Int) > 80) then bif decide ((p.2.1.length : Int) ≤ 400) then some true else (bif decide ((p.2.2.length : Int) > 80) then bif decide ((p.2.2.length : Int) ≤ 400) then some true else (bif decide ((p.1.length : Int) > 300) then some true else bif decide ((p.2.1.length : Int) > 500) then some true else some (decide ((p.2.2.length : Int) > 500))) else (bif decide ((p.1.length : Int) > 300) then some true else bif decide ((p.2.1.length : Int) > 500) then some true else some (decide ((p.2.2.length : Int) > 500)))) else (bif decide ((p.2.2.length : Int) > 80) then bif decide ((p.2.2.length : Int) ≤ 400) then some true else (bif decide ((p.1.length : Int) > 300) then some true else bif decide ((p.2.1.length : Int) > 500) then some true else some (decide ((p.2.2.length : Int) > 500))) else (bif decide ((p.1.length : Int) > 300) then some true else bif decide ((p.2.1.length : Int) > 500) then some true else some (decide ((p.2.2.length : Int) > 500))))) = some b ∧ (b = false → ¬ manyv p) := by
    intro h1
    by_cases c1 : (p.2.1.length : Int) > 80
    · rw [bif_T c1]
      by_cases c2 : (p.2.1.length : Int) ≤ 400
      · rw [bif_T c2]; exact ⟨true, rfl, fun h => by cases h⟩
      · rw [bif_F c2]; exact third h1 (by omega)
    · rw [bif_F c1]; exact third h1 (by omega)
  by_cases c1 : (p.1.length : Int) > 60
  · rw [bif_T c1]
    by_cases c2 : (p.1.length : Int) ≤ 200
    · rw [bif_T c2]; exact ⟨true, rfl, fun h => by cases h⟩
    · rw [bif_F c2]; exact second (by omega)
  · rw [bif_F c1]; exact second (by omega)
/-- What is left: it may not be looked at, or it is small. -/
theorem small_of {p : Poly} (h : ¬ manyv p) : chk p = false ∨ Sm p := by
  cases hc : chk p with
  | false => exact .inl rfl
  | true =>
    refine .inr ?_
    have h3 : few3 p := by
      unfold chk at hc
      simp only [Bool.and_eq_true] at hc
      exact of_decide_eq_true hc.1
    unfold few3 at h3
    unfold manyv at h
    exact ⟨hc, by omega, by omega, by omega⟩
theorem notMany {p : Poly} (h : ¬ manyv p) : p.1.length ≤ 300 ∧ p.2.1.length ≤ 500 ∧ p.2.2.length ≤ 500 := by unfold manyv at h; omega
theorem sameP_f (m : Nat) (l : List Pt) (hl : l.length ≤ 600) : g_parquetref05_SamePoints (m + 1000) l l = some true := by
  unfold g_parquetref05_SamePoints
  rw [show (!(decide ((l.length : Int) = (l.length : Int)))) = false from by rw [decide_eq_true rfl]; rfl, cF]
  refine loop_list (fun i => (l, l, (i : Int))) l.length (fun _ => some true) ?_ ?_ (m + 1000) 0 (Nat.zero_le _) (by omega)
  · intro next
    dsimp only
    rw [bif_F (by omega)]
  · intro i hi next hn
    dsimp only at hn ⊢
    rw [bif_T (by omega), gd_t (inb_t ⟨by omega, by omega⟩), gd_t (inb_t ⟨by omega, by omega⟩), eqP, decide_eq_true rfl, Bool.not_true, cF, w64_id (by omega) (by omega)]
    exact hn
theorem sameS_f (m : Nat) (l : List Pt) (hl : l.length ≤ 600) : g_parquetref05_SameSegs (m + 1000) l l = some true := by
  unfold g_parquetref05_SameSegs
  rw [show (!(decide ((l.length : Int) = (l.length : Int)))) = false from by rw [decide_eq_true rfl]; rfl, cF]
  refine loop_list (fun i => (l, l, (i : Int))) l.length (fun _ => some true) ?_ ?_ (m + 1000) 0 (Nat.zero_le _) (by omega)
  · intro next
    dsimp only
    rw [bif_F (by omega)]
  · intro i hi next hn
    dsimp only at hn ⊢
    rw [bif_T (by omega), gd_t (inb_t ⟨by omega, by omega⟩), gd_t (inb_t ⟨by omega, by omega⟩), eqP, decide_eq_true rfl, Bool.not_true, cF, w64_id (by omega) (by omega)]
    exact hn
theorem same_f (m : Nat) {p : Poly} (h : p.1.length ≤ 300 ∧ p.2.1.length ≤ 500 ∧ p.2.2.length ≤ 500) : g_parquetref05_Same (m + 1000) p p = some true := by
  unfold g_parquetref05_Same b_parquetref05_Same
  simp only [meet]
  rw [sameP_f m _ (by omega), bnd_s, cT, sameS_f m _ (by omega), bnd_s, cT, sameS_f m _ (by omega), bnd_s]
end Go.Proofs.Ytjbimhfhapnjeaa.Pure
