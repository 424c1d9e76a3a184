/- What may be looked at at all. -/
import Derived.Test.YtjbimhfhapnjeaaV1
set_option linter.unusedVariables false
set_option linter.unusedSimpArgs false
namespace Go.Proofs.Ytjbimhfhapnjeaa.Pure
open Go.RowKit Go.Proofs.Ytjbimhfhapnjeaa.AM PL

abbrev Poly : Type := List Pt × List Pt × List Pt
def okq (q : Pt) : Prop := (-1048576 ≤ q.1 ∧ q.1 ≤ 1048576) ∧ (-1048576 ≤ q.2 ∧ q.2 ≤ 1048576)
instance (q : Pt) : Decidable (okq q) := inferInstanceAs (Decidable (_ ∧ _))
def oks (n : Nat) (s : Pt) : Prop := inr s.1 n ∧ inr s.2 n
instance (n : Nat) (s : Pt) : Decidable (oks n s) := inferInstanceAs (Decidable ((_ ∧ _) ∧ (_ ∧ _)))
def few3 (p : Poly) : Prop := p.1.length ≤ 200 ∧ p.2.1.length ≤ 400 ∧ p.2.2.length ≤ 400
instance (p : Poly) : Decidable (few3 p) := inferInstanceAs (Decidable (_ ∧ _ ∧ _))
def oksl (n : Nat) (l : List Pt) : Bool := l.all fun s => decide (oks n s)
def okql (l : List Pt) : Bool := l.all fun q => decide (okq q)
def chk (p : Poly) : Bool := decide (few3 p) && (okql p.1 && (oksl p.1.length p.2.1 && oksl p.1.length p.2.2))
theorem in_f (k : Nat) (x lo hi : Int) : g_input_in k x lo hi = some (decide (lo ≤ x ∧ x ≤ hi)) := by
  unfold g_input_in
  simp only [meet]
  by_cases h : x ≥ lo
  · rw [bif_T h]; congr 1; rw [decide_eq_decide]; omega
  · rw [bif_F h]; congr 1; exact (decide_eq_false (by omega)).symm
theorem okql_cons (q : Pt) (l : List Pt) : okql (q :: l) = (decide (okq q) && okql l) := rfl
theorem oksl_cons (n : Nat) (s : Pt) (l : List Pt) : oksl n (s :: l) = (decide (oks n s) && oksl n l) := rfl
def ans (b : Bool) : Option Int := some (if b = true then 0 else 2)
theorem chk_f (m : Nat) (p : Poly) : g_input_Check (m + 600) p = ans (chk p) := by
  obtain ⟨P, L, I⟩ := p
  unfold g_input_Check b_input_Check
  simp only [meet]
  by_cases h1 : (P.length : Int) > 200
  · rw [bif_T h1, cT, show chk (P, L, I) = false from by unfold chk; rw [decide_eq_false (fun h => by have := h.1; dsimp only at this; omega)]; rfl]; rfl
  rw [bif_F h1]
  by_cases h2 : (L.length : Int) > 400
  · rw [bif_T h2, cT, show chk (P, L, I) = false from by unfold chk; rw [decide_eq_false (fun h => by have := h.2.1; dsimp only at this; omega)]; rfl]; rfl
  rw [bif_F h2]
  by_cases h3 : (I.length : Int) > 400
  · rw [bif_T h3, show chk (P, L, I) = false from by unfold chk; rw [decide_eq_false (fun h => by have := h.2.2; dsimp only at this; omega)]; rfl]; rfl
  rw [bif_F h3, show chk (P, L, I) = (okql P && (oksl P.length L && oksl P.length I)) from by unfold chk; rw [decide_eq_true (show few3 (P, L, I) from ⟨by dsimp only; omega, by dsimp only; omega, by dsimp only; omega⟩)]; rfl]
  refine loop_list (fun i => ((P, L, I), P, (P.length : Int), (i : Int))) P.length (fun i => ans (okql (P.drop i) && (oksl P.length L && oksl P.length I))) ?_ ?_ (m + 600) 0 (Nat.zero_le _) (by omega)
  · intro next
    dsimp only
    rw [bif_F (by omega), List.drop_length, show okql [] = true from rfl, Bool.true_and]
    have inner : ∀ (X : List Pt) (j : Nat) (q : Poly × (List Pt × List Pt) × Int × List Pt × Int × Int → (Poly × (List Pt × List Pt) × Int × List Pt × Int × Int → Option Int) → Option Int) (w : Bool), X.length ≤ 400 →
        (∀ next, q ((P, L, I), (L, I), (j : Int), X, (X.length : Int), (X.length : Int)) next = ans w) →
        (∀ (i : Nat) (hi : i < X.length) next, q ((P, L, I), (L, I), (j : Int), X, (X.length : Int), (i : Int)) next = if oks P.length X[i] then next ((P, L, I), (L, I), (j : Int), X, (X.length : Int), ((i + 1 : Nat) : Int)) else some 2) →
        loopN q (m + 600) ((P, L, I), (L, I), (j : Int), X, (X.length : Int), 0) = ans (oksl P.length X && w) := by
      intro X j q w hX he hs
      refine loop_list (fun i => ((P, L, I), (L, I), (j : Int), X, (X.length : Int), (i : Int))) X.length (fun i => ans (oksl P.length (X.drop i) && w)) ?_ ?_ (m + 600) 0 (Nat.zero_le _) (by omega)
      · intro next
        rw [he, List.drop_length]; rfl
      · intro i hi next hn
        rw [hs i hi, List.drop_eq_getElem_cons hi, oksl_cons]
        by_cases h : oks P.length X[i]
        · rw [if_pos h, decide_eq_true h, Bool.true_and]; exact hn
        · rw [if_neg h, decide_eq_false h]; rfl
    have body : ∀ (X : List Pt) (i : Nat) (hi : i < X.length), X.length ≤ 400 → ∀ (z : Option Int) (t : Bool → Option Int), t true = some 2 → t false = z →
        (gd (inb (i : Int) X.length) <| bnd (g_input_in (m + 600) (rdD (0, 0) X (i : Int)).1 0 (w64 ((P.length : Int) - 1))) fun r38 => bif !r38 then t true else bnd (g_input_in (m + 600) (rdD (0, 0) X (i : Int)).2 0 (w64 ((P.length : Int) - 1))) fun r39 => t (!r39)) = if oks P.length X[i] then z else some 2 := by
      intro X i hi hX z t ht hf
      rw [gd_t (inb_t ⟨by omega, by omega⟩), rd_get _ X i hi, w64_id (by omega) (by omega), in_f, bnd_s, in_f, bnd_s]
      generalize X[i] = s
      by_cases c1 : 0 ≤ s.1 ∧ s.1 ≤ (P.length : Int) - 1
      · rw [decide_eq_true c1, Bool.not_true, cF]
        by_cases c2 : 0 ≤ s.2 ∧ s.2 ≤ (P.length : Int) - 1
        · rw [decide_eq_true c2, Bool.not_true, hf, if_pos (show oks P.length s from ⟨⟨by omega, by omega⟩, ⟨by omega, by omega⟩⟩)]
        · rw [decide_eq_false c2, Bool.not_false, ht, if_neg (fun h : oks P.length s => c2 ⟨h.2.1, by have := h.2.2; omega⟩)]
      · rw [decide_eq_false c1, Bool.not_false, cT, ht, if_neg (fun h : oks P.length s => c1 ⟨h.1.1, by have := h.1.2; omega⟩)]
    rw [loop_s]
    dsimp only
    rw [bif_T (show (0 : Int) < 2 by omega), bif_T rfl]
    refine inner L 0 _ (oksl P.length I) (by omega) ?_ ?_
    · intro next
      dsimp only
      rw [bif_F (by omega), show m + 599 = (m + 598) + 1 from rfl, loop_s]
      dsimp only
      rw [bif_T (show w64 (((0 : Nat) : Int) + 1) < 2 by decide), bif_F (show ¬ w64 (((0 : Nat) : Int) + 1) = 0 by decide), bif_T (show w64 (((0 : Nat) : Int) + 1) = 1 by decide)]
      rw [← Bool.and_true (oksl P.length I)]
      refine inner I 1 _ true (by omega) ?_ ?_
      · intro next
        dsimp only
        rw [bif_F (by omega), show m + 598 = (m + 597) + 1 from rfl, loop_s]
        dsimp only
        rw [bif_F (show ¬ w64 (((1 : Nat) : Int) + 1) < 2 by decide)]
        rfl
      · intro i hi next
        dsimp only
        rw [bif_T (by omega)]
        exact body I i hi (by omega) _ (fun b => bif b then some 2 else next ((P, L, I), (L, I), ((1 : Nat) : Int), I, (I.length : Int), w64 ((i : Int) + 1))) rfl (by rw [w64_id (by omega) (by omega)]; rfl)
    · intro i hi next
      dsimp only
      rw [bif_T (by omega)]
      exact body L i hi (by omega) _ (fun b => bif b then some 2 else next ((P, L, I), (L, I), ((0 : Nat) : Int), L, (L.length : Int), w64 ((i : Int) + 1))) rfl (by rw [w64_id (by omega) (by omega)]; rfl)
  · intro i hi next hn
    dsimp only at hn ⊢
    rw [bif_T (by omega), gd_t (inb_t ⟨by omega, by omega⟩), rd_get _ P i hi, w64_id (by omega) (by omega), List.drop_eq_getElem_cons hi, okql_cons, in_f, bnd_s, in_f, bnd_s]
    have hn' : next ((P, L, I), P, (P.length : Int), (i : Int) + 1) = ans (okql (P.drop (i + 1)) && (oksl P.length L && oksl P.length I)) := hn
    generalize P[i] = q
    by_cases c1 : -1048576 ≤ q.1 ∧ q.1 ≤ 1048576
    · rw [decide_eq_true c1, Bool.not_true, cF]
      by_cases c2 : -1048576 ≤ q.2 ∧ q.2 ≤ 1048576
      · rw [decide_eq_true c2, Bool.not_true, cF, decide_eq_true (show okq q from ⟨c1, c2⟩), Bool.true_and]; exact hn'
      · rw [decide_eq_false c2, Bool.not_false, cT, decide_eq_false (fun h : okq q => c2 h.2)]; rfl
    · rw [decide_eq_false c1, Bool.not_false, cT, cT, decide_eq_false (fun h : okq q => c1 h.1)]; rfl
theorem rchk_f (m : Nat) (p : Poly) : g_parquetref05_Check (m + 1000) p = ans (chk p) := by
  obtain ⟨P, L, I⟩ := p
  unfold g_parquetref05_Check
  simp only [meet]
  by_cases h1 : (P.length : Int) > 200
  · rw [bif_T h1, cT, show chk (P, L, I) = false from by unfold chk; rw [decide_eq_false (fun h => by have := h.1; dsimp only at this; omega)]; rfl]; rfl
  rw [bif_F h1]
  by_cases h2 : (L.length : Int) > 400
  · rw [bif_T h2, cT, show chk (P, L, I) = false from by unfold chk; rw [decide_eq_false (fun h => by have := h.2.1; dsimp only at this; omega)]; rfl]; rfl
  rw [bif_F h2]
  by_cases h3 : (I.length : Int) > 400
  · rw [bif_T h3, show chk (P, L, I) = false from by unfold chk; rw [decide_eq_false (fun h => by have := h.2.2; dsimp only at this; omega)]; rfl]; rfl
  rw [bif_F h3, show chk (P, L, I) = (okql P && (oksl P.length L && oksl P.length I)) from by unfold chk; rw [decide_eq_true (show few3 (P, L, I) from ⟨by dsimp only; omega, by dsimp only; omega, by dsimp only; omega⟩)]; rfl]
  have e : oksl P.length (L ++ I) = (oksl P.length L && oksl P.length I) := by unfold oksl; rw [List.all_append]
  rw [← e]
  refine loop_list (fun i => ((P, L, I), (P.length : Int), (i : Int))) P.length (fun i => ans (okql (P.drop i) && oksl P.length (L ++ I))) ?_ ?_ (m + 1000) 0 (Nat.zero_le _) (by omega)
  · intro next
    dsimp only
    rw [bif_F (by omega), List.drop_length, show okql [] = true from rfl, Bool.true_and]
    refine loop_list (fun i => ((P, L, I), (P.length : Int), (i : Int))) (L ++ I).length (fun i => ans (oksl P.length ((L ++ I).drop i))) ?_ ?_ (m + 1000) 0 (Nat.zero_le _) (by rw [List.length_append]; omega)
    · intro next
      dsimp only
      rw [w64_id (by omega) (by omega), bif_F (by rw [List.length_append]; omega), List.drop_length]
      rfl
    · intro i hi next hn
      have hi' := hi
      rw [List.length_append] at hi'
      dsimp only at hn ⊢
      rw [w64_id (x := (L.length : Int) + (I.length : Int)) (by omega) (by omega), bif_T (by omega), List.drop_eq_getElem_cons hi, oksl_cons]
      have hn' : next ((P, L, I), (P.length : Int), (i : Int) + 1) = ans (oksl P.length ((L ++ I).drop (i + 1))) := hn
      have tail : ∀ s : Pt, (bif decide (s.1 < 0) then (bif true then some 2 else next ((P, L, I), (P.length : Int), w64 ((i : Int) + 1))) else bif decide (s.1 ≥ (P.length : Int)) then (bif true then some 2 else next ((P, L, I), (P.length : Int), w64 ((i : Int) + 1))) else bif decide (s.2 < 0) then (bif true then some 2 else next ((P, L, I), (P.length : Int), w64 ((i : Int) + 1))) else (bif decide (s.2 ≥ (P.length : Int)) then some 2 else next ((P, L, I), (P.length : Int), w64 ((i : Int) + 1)))) = ans (decide (oks P.length s) && oksl P.length ((L ++ I).drop (i + 1))) := by
        intro s
        rw [w64_id (by omega) (by omega), hn']
        by_cases c1 : s.1 < 0
        · rw [bif_T c1, cT, decide_eq_false (fun h : oks P.length s => by have := h.1.1; omega)]; rfl
        rw [bif_F c1]
        by_cases c2 : s.1 ≥ (P.length : Int)
        · rw [bif_T c2, cT, decide_eq_false (fun h : oks P.length s => by have := h.1.2; omega)]; rfl
        rw [bif_F c2]
        by_cases c3 : s.2 < 0
        · rw [bif_T c3, cT, decide_eq_false (fun h : oks P.length s => by have := h.2.1; omega)]; rfl
        rw [bif_F c3]
        by_cases c4 : s.2 ≥ (P.length : Int)
        · rw [bif_T c4, decide_eq_false (fun h : oks P.length s => by have := h.2.2; omega)]; rfl
        rw [bif_F c4, decide_eq_true (show oks P.length s from ⟨⟨by omega, by omega⟩, ⟨by omega, by omega⟩⟩), Bool.true_and]
      by_cases hL : i < L.length
      · rw [bif_T (by omega), gd_t (inb_t ⟨by omega, by omega⟩), rd_get _ L i hL, List.getElem_append_left hL]
        exact tail _
      · have ei : w64 ((i : Int) - (L.length : Int)) = ((i - L.length : Nat) : Int) := by rw [w64_id (by omega) (by omega)]; omega
        rw [bif_F (by omega), ei, gd_t (inb_t ⟨by omega, by omega⟩), rd_get _ I (i - L.length) (by omega), List.getElem_append_right (by omega)]
        exact tail _
  · intro i hi next hn
    dsimp only at hn ⊢
    have hin : inb (i : Int) P.length = true := inb_t ⟨by omega, by omega⟩
    simp only [hin, gT]
    rw [bif_T (by omega), rd_get _ P i hi, w64_id (by omega) (by omega), List.drop_eq_getElem_cons hi, okql_cons]
    have hn' : next ((P, L, I), (P.length : Int), (i : Int) + 1) = ans (okql (P.drop (i + 1)) && oksl P.length (L ++ I)) := hn
    generalize P[i] = q
    by_cases c1 : q.1 > 1048576
    · rw [bif_T c1, cT, decide_eq_false (fun h : okq q => by have := h.1; omega)]; rfl
    rw [bif_F c1]
    by_cases c2 : q.1 < -1048576
    · rw [bif_T c2, cT, decide_eq_false (fun h : okq q => by have := h.1; omega)]; rfl
    rw [bif_F c2]
    by_cases c3 : q.2 > 1048576
    · rw [bif_T c3, cT, decide_eq_false (fun h : okq q => by have := h.2; omega)]; rfl
    rw [bif_F c3]
    by_cases c4 : q.2 < -1048576
    · rw [bif_T c4, decide_eq_false (fun h : okq q => by have := h.2; omega)]; rfl
    rw [bif_F c4, decide_eq_true (show okq q from ⟨⟨by omega, by omega⟩, ⟨by omega, by omega⟩⟩), Bool.true_and]
    exact hn'
end Go.Proofs.Ytjbimhfhapnjeaa.Pure
