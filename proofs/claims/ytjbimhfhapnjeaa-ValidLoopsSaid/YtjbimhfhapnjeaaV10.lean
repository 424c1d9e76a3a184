/- All loops, by the reference. -/
import Derived.Test.YtjbimhfhapnjeaaV9
set_option linter.unusedVariables false
set_option linter.unusedSimpArgs false
namespace Go.Proofs.Ytjbimhfhapnjeaa.Pure
open Go.RowKit Go.Proofs.Ytjbimhfhapnjeaa.AM PL

theorem rDegrees_f (m n : Nat) (L : List Pt) (hn : n ≤ 350) (hL : L.length ≤ 350) (h : ∀ s ∈ L, oks n s ∧ s.1 ≠ s.2) : g_parquetref08_Degrees (m + 1000) (n : Int) L = some (dgs L n, 0) := by
  unfold g_parquetref08_Degrees
  simp only [meet]
  rw [bif_F (by omega)]
  refine (bif_f (decide_eq_false (by omega))).trans ?_
  refine loop_list (fun i => ((n : Int), L, (i : Int))) L.length (fun _ => some (dgs L n, 0)) ?_ ?_ (m + 1000) 0 (Nat.zero_le _) (by omega)
  · intro next
    dsimp only
    rw [bif_F (by omega), gd_t (decide_eq_true (by omega)), gd_t (by unfold fewI; exact few_t (by omega))]
    have e0 : rpL (n : Int) (0 : Int) = dgs (L.take 0) n := by
      unfold rpL dgs
      rw [Int.toNat_natCast]
      apply List.ext_getElem
      · simp
      · intro j h1 h2
        simp [dgr]
    rw [e0]
    refine loop_list (fun i => (L, dgs (L.take i) n, (i : Int))) L.length (fun _ => some (dgs L n, 0)) ?_ ?_ (m + 1000) 0 (Nat.zero_le _) (by omega)
    · intro next
      dsimp only
      rw [bif_F (by omega), List.take_length]
    · intro i hi next hn'
      have hs := h _ (List.getElem_mem hi)
      dsimp only at hn' ⊢
      have hin : inb (i : Int) L.length = true := inb_t ⟨by omega, by omega⟩
      simp only [hin, gT]
      rw [bif_T (by omega), rd_get _ L i hi, w64_id (x := (i : Int) + 1) (by omega) (by omega)]
      rw [List.take_succ_eq_append_getElem hi] at hn'
      generalize L[i] = s at hs hn' ⊢
      obtain ⟨⟨⟨a0, a1⟩, ⟨b0, b1⟩⟩, hne⟩ := hs
      obtain ⟨s1, s2⟩ := s
      dsimp only at a0 a1 b0 b1 hne hn' ⊢
      obtain ⟨a, rfl⟩ := Int.eq_ofNat_of_zero_le a0
      obtain ⟨b, rfl⟩ := Int.eq_ofNat_of_zero_le b0
      have hl1 : inb (a : Int) (dgs (L.take i) n).length = true := inb_t ⟨by omega, by rw [dgs_len]; omega⟩
      have hl2 : ∀ x, inb (b : Int) (stL (dgs (L.take i) n) (a : Int) x).length = true := fun x => inb_t ⟨by omega, by unfold stL; rw [List.length_set, dgs_len]; omega⟩
      have hl3 : inb (b : Int) (dgs (L.take i) n).length = true := inb_t ⟨by omega, by rw [dgs_len]; omega⟩
      simp only [hl1, hl2, hl3, gT]
      rw [dgs_snoc _ n a b (by omega) (by omega) (by omega) (by rw [List.length_take]; omega)]
      exact hn'
  · intro i hi next hn'
    have hs := h _ (List.getElem_mem hi)
    dsimp only at hn' ⊢
    rw [bif_T (by omega), gd_t (inb_t ⟨by omega, by omega⟩), rd_get _ L i hi, w64_id (x := (i : Int) + 1) (by omega) (by omega)]
    generalize L[i] = s at hs ⊢
    obtain ⟨⟨⟨a0, a1⟩, ⟨b0, b1⟩⟩, hne⟩ := hs
    rw [bif_F hne, bif_F (by omega), bif_F (by omega), bif_F (by omega)]
    exact (bif_f (decide_eq_false (by omega))).trans hn'
theorem like_f (k : Nat) (a b : Pt) : g_parquetref08_like k a b = some (decide (nrm a = nrm b)) := by
  unfold g_parquetref08_like
  simp only [meet]
  have key : decide (nrm a = nrm b) = decide ((a.1 = b.1 ∧ a.2 = b.2) ∨ (a.1 = b.2 ∧ a.2 = b.1)) := decide_eq_decide.2 ⟨nrm_inv, nrm_eq⟩
  rw [key]
  by_cases c1 : a.1 = b.1
  · rw [bif_T c1]
    by_cases c2 : a.2 = b.2
    · rw [bif_T c2, decide_eq_true (.inl ⟨c1, c2⟩)]
    · rw [bif_F c2]
      by_cases c3 : a.1 = b.2
      · rw [bif_T c3]; congr 1; rw [decide_eq_decide]; exact ⟨fun h => .inr ⟨c3, h⟩, fun h => h.elim (fun h => absurd h.2 c2) (fun h => h.2)⟩
      · rw [bif_F c3, decide_eq_false (fun h => h.elim (fun h => c2 h.2) (fun h => c3 h.1))]
  · rw [bif_F c1]
    by_cases c3 : a.1 = b.2
    · rw [bif_T c3]; congr 1; rw [decide_eq_decide]; exact ⟨fun h => .inr ⟨c3, h⟩, fun h => h.elim (fun h => absurd h.1 c1) (fun h => h.2)⟩
    · rw [bif_F c3, decide_eq_false (fun h => h.elim (fun h => c1 h.1) (fun h => c3 h.1))]
def bs (row : List Int) (b u : Int) : Int := if u ∈ row then b else if b < 0 ∨ u < b then u else b
def bsv (L : List Pt) (at' : Int) (row : List Int) : Int := (nl L at').foldl (bs row) (-1)
theorem bsv_snoc (L : List Pt) (s : Pt) (hs : s.1 ≠ s.2) (at' : Int) (row : List Int) : bsv (L ++ [s]) at' row = if s.1 = at' then bs row (bsv L at' row) s.2 else if s.2 = at' then bs row (bsv L at' row) s.1 else bsv L at' row := by
  unfold bsv
  rw [nl_snoc, List.foldl_append]
  by_cases h1 : s.1 = at'
  · rw [if_pos h1, if_pos h1, if_neg (fun e => hs (h1.trans e.symm))]; rfl
  · rw [if_neg h1, if_neg h1]
    by_cases h2 : s.2 = at'
    · rw [if_pos h2, if_pos h2]; rfl
    · rw [if_neg h2, if_neg h2]; rfl
theorem beside_f (m n : Nat) (L : List Pt) (at' : Int) (row : List Int) (hL : L.length ≤ 350) (hr : row.length ≤ 350) (h : ∀ s ∈ L, oks n s ∧ s.1 ≠ s.2) : g_parquetref08_beside (m + 1000) L at' row = some (bsv L at' row) := by
  unfold g_parquetref08_beside
  refine loop_list (fun i => (L, at', row, bsv (L.take i) at' row, (i : Int))) L.length (fun _ => some (bsv L at' row)) ?_ ?_ (m + 1000) 0 (Nat.zero_le _) (by omega)
  · intro next
    dsimp only
    rw [bif_F (by omega), List.take_length]
  · intro i hi next hn'
    have hs := h _ (List.getElem_mem hi)
    dsimp only at hn' ⊢
    have hin : inb (i : Int) L.length = true := inb_t ⟨by omega, by omega⟩
    simp only [hin, gT, meet]
    rw [bif_T (by omega), rd_get _ L i hi]
    rw [List.take_succ_eq_append_getElem hi, bsv_snoc _ _ hs.2] at hn'
    generalize L[i] = s at hs hn' ⊢
    generalize bsv (L.take i) at' row = best at hn' ⊢
    -- whatever is beside goes the same way
    have inner : ∀ (k0 : Int) (f : List Pt × Int × List Int × Int × Int × Int × Int → (List Pt × Int × List Int × Int × Int × Int × Int → Option Int) → Option Int),
        (∀ kk next, f (L, at', row, best, (i : Int), kk, (row.length : Int)) next = if kk ≥ 0 ∧ (best < 0 ∨ kk < best) then (some (bsv L at' row)) else (some (bsv L at' row))) → True := fun _ _ _ => trivial
    have nx : ∀ b : Int, b = (if s.1 = at' then bs row best s.2 else if s.2 = at' then bs row best s.1 else best) → next (L, at', row, b, w64 ((i : Int) + 1)) = some (bsv L at' row) := by
      intro b hb
      rw [w64_id (x := (i : Int) + 1) (by omega) (by omega), hb]
      exact hn'
    have run : ∀ k0 : Int, (k0 = -1 ∨ 0 ≤ k0) → (∀ b, b = (if k0 < 0 then best else bs row best k0) → next (L, at', row, b, w64 ((i : Int) + 1)) = some (bsv L at' row)) →
        loopN (α := List (Int × Int) × Int × List Int × Int × Int × Int × Int) (fun (x19, x20, x21, x22, x23, x24, x25) next18 =>
          bif decide (x25 < (x21.length : Int)) then
            gd (inb x25 x21.length) <|
            bif decide ((rdD 0 x21 x25) = x24) then next18 (x19, x20, x21, x22, x23, (-1), w64 (x25 + 1)) else next18 (x19, x20, x21, x22, x23, x24, w64 (x25 + 1))
          else
            bif decide (x24 ≥ 0) then (bif decide (x22 < 0) then (bif true then next (x19, x20, x21, x24, w64 (x23 + 1)) else next (x19, x20, x21, x22, w64 (x23 + 1))) else (bif decide (x24 < x22) then next (x19, x20, x21, x24, w64 (x23 + 1)) else next (x19, x20, x21, x22, w64 (x23 + 1)))) else (bif false then next (x19, x20, x21, x24, w64 (x23 + 1)) else next (x19, x20, x21, x22, w64 (x23 + 1)))) (m + 1000) (L, at', row, best, (i : Int), k0, 0) = some (bsv L at' row) := by
      intro k0 hk0 hb
      refine loop_list (fun j => (L, at', row, best, (i : Int), (if k0 ∈ row.take j then -1 else k0), (j : Int))) row.length (fun _ => some (bsv L at' row)) ?_ ?_ (m + 1000) 0 (Nat.zero_le _) (by omega)
      · intro next2
        dsimp only
        rw [bif_F (by omega), List.take_length]
        by_cases hm : k0 ∈ row
        · rw [if_pos hm, bif_F (by omega), cF]
          refine hb _ ?_
          unfold bs
          rw [if_pos hm]
          split <;> rfl
        · rw [if_neg hm]
          by_cases hk : k0 ≥ 0
          · rw [bif_T hk]
            by_cases hbst : best < 0
            · rw [bif_T hbst, cT]
              refine hb _ ?_
              unfold bs
              rw [if_neg (by omega), if_neg hm, if_pos (.inl hbst)]
            · rw [bif_F hbst]
              by_cases hlt : k0 < best
              · rw [bif_T hlt]
                refine hb _ ?_
                unfold bs
                rw [if_neg (by omega), if_neg hm, if_pos (.inr hlt)]
              · rw [bif_F hlt]
                refine hb _ ?_
                unfold bs
                rw [if_neg (by omega), if_neg hm, if_neg (fun h => h.elim hbst hlt)]
          · rw [bif_F hk, cF]
            refine hb _ ?_
            rw [if_pos (by omega)]
      · intro j hj next2 hn2
        dsimp only at hn2 ⊢
        rw [bif_T (by omega), gd_t (inb_t ⟨by omega, by omega⟩), rd_get _ row j hj, w64_id (x := (j : Int) + 1) (by omega) (by omega)]
        rw [List.take_succ_eq_append_getElem hj] at hn2
        by_cases hm : k0 ∈ row.take j
        · rw [if_pos hm]
          rw [if_pos (List.mem_append_left _ hm)] at hn2
          by_cases e : row[j] = -1
          · rw [bif_T e]; exact hn2
          · rw [bif_F e]; exact hn2
        · rw [if_neg hm]
          by_cases e : row[j] = k0
          · rw [bif_T e]
            rw [if_pos (List.mem_append_right _ (by rw [e]; simp))] at hn2
            exact hn2
          · rw [bif_F e]
            rw [if_neg (fun h => (List.mem_append.1 h).elim hm (fun h => e (List.mem_singleton.1 h).symm))] at hn2
            exact hn2
    by_cases c1 : s.1 = at'
    · have c2 : ¬ s.2 = at' := fun e => hs.2 (c1.trans e.symm)
      rw [bif_T c1, bif_F c2]
      refine run s.2 (.inr hs.1.2.1) (fun b hb => nx b ?_)
      rw [hb, if_neg (by have := hs.1.2.1; omega), if_pos c1]
    · rw [bif_F c1]
      by_cases c2 : s.2 = at'
      · rw [bif_T c2]
        refine run s.1 (.inr hs.1.1.1) (fun b hb => nx b ?_)
        rw [hb, if_neg (by have := hs.1.1.1; omega), if_neg c1, if_pos c2]
      · rw [bif_F c2]
        refine run (-1) (.inl rfl) (fun b hb => nx b ?_)
        rw [hb, if_pos (by omega), if_neg c1, if_neg c2]
end Go.Proofs.Ytjbimhfhapnjeaa.Pure
