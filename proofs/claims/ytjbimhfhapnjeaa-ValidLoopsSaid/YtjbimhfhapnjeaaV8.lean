/- The first flaw, by the reference. -/
import Derived.Test.YtjbimhfhapnjeaaV7
set_option linter.unusedVariables false
set_option linter.unusedSimpArgs false
namespace Go.Proofs.Ytjbimhfhapnjeaa.Pure
open Go.RowKit Go.Proofs.Ytjbimhfhapnjeaa.AM PL

theorem midT (m : Nat) (p l : List Pt) (r : List Int) (h1 : 1 ≤ r.length) (h3 : r.length ≤ 3) (hl : l.length ≤ 350) : g_parquetref09_Middle (m + 1000) p l r = some (midv p l r) := rMiddle_f (m + 600) p l r h1 h3 hl
theorem whereT (m : Nat) (p l : List Pt) (q : Pt) (hl : l.length ≤ 350) (hk : okl p 1 l = true) (hq : Fit q) : g_parquetref09_Where (m + 1000) p l 1 q = some ((atv p l 1 q).1) := by
  rw [show m + 1000 = (m + 600) + 400 from rfl, Where_f (m + 600) p l 1 q (by omega) (by omega) hl hk hq]
  unfold atv
  rw [if_pos ⟨hk, hq⟩]
theorem dgr_pos {L : List Pt} {v : Int} {s : Pt} (hs : s ∈ L) (h : s.1 = v ∨ s.2 = v) : dgr L v ≠ 0 := by
  unfold dgr
  rcases h with h | h
  · have : 0 < L.countP fun s => decide (s.1 = v) := List.countP_pos_iff.2 ⟨s, hs, by simpa using h⟩
    omega
  · have : 0 < L.countP fun s => decide (s.2 = v) := List.countP_pos_iff.2 ⟨s, hs, by simpa using h⟩
    omega
theorem loops_f (m : Nat) {p : Poly} (h : Fine p) : g_parquetref10_loops (m + 1000) p = some (rest p) := by
  have hP := h.sm.P
  have hL := h.sm.L
  have hI := h.sm.I
  have hlen := h.sm.len
  unfold g_parquetref10_loops b_parquetref10_loops
  refine loop_list (fun i => (p, fz, (i : Int))) p.1.length (fun i => some (one 5 (row (odd p.2.1) p.1.length 0 i) (six p (one 7 (s7 p) (one 8 (s8 p) fz))))) ?_ ?_ (m + 1000) 0 (Nat.zero_le _) (by omega)
  · intro next
    dsimp only
    rw [bif_F (by omega), row_end]
    show _ = some (six p (one 7 (s7 p) (one 8 (s8 p) fz)))
    unfold six
    by_cases h6 : p.2.1.length = 0
    · rw [bif_T (by omega), if_pos h6]
    rw [bif_F (by omega), if_neg h6]
    refine loop_list (fun i => (p, fz, (i : Int))) p.2.2.length (fun i => some (one 7 (row (outb p) p.2.2.length 0 i) (one 8 (s8 p) fz))) ?_ ?_ (m + 1000) 0 (Nat.zero_le _) (by omega)
    · intro next
      dsimp only
      rw [bif_F (by omega), row_end]
      rw [show g_parquetref10_All (m + 1000) (p.1, p.2.1, p.2.2) = some (sgs p) from rAll_f _ h.sm, bnd_s]
      refine loop_list (fun i => (p, fz, sgs p, (i : Int))) p.1.length (fun i => some (one 8 (row (strb p) p.1.length 0 i) fz)) ?_ ?_ (m + 1000) 0 (Nat.zero_le _) (by omega)
      · intro next
        dsimp only
        rw [bif_F (by omega), row_end]; rfl
      · intro i hi next hn
        dsimp only at hn ⊢
        rw [bif_T (by omega), row_step _ hi]
        have e : ∀ x : Bool, x = strb p 0 i → (bif x then some ((8 : Int), (i : Int), (0 : Int)) else next (p, fz, sgs p, (i : Int) + 1)) = some (one 8 (if strb p 0 i = true then some i else row (strb p) p.1.length 0 (i + 1)) fz) := by
          intro x hx
          rw [hx]
          cases strb p 0 i
          · exact hn
          · rfl
        refine loop_list (fun k => (p, fz, sgs p, (i : Int), decide (dgr ((sgs p).take k) (i : Int) ≠ 0), (k : Int))) (sgs p).length (fun _ => some (one 8 (if strb p 0 i = true then some i else row (strb p) p.1.length 0 (i + 1)) fz)) ?_ ?_ (m + 1000) 0 (Nat.zero_le _) (by omega)
        · intro next2
          dsimp only
          simp only [meet]
          rw [bif_F (by omega), List.take_length, w64_id (x := (i : Int) + 1) (by omega) (by omega)]
          by_cases hd : dgr (sgs p) (i : Int) = 0
          · rw [decide_eq_false (by omega), Bool.not_false, cT, gd_t (inb_t ⟨by omega, by omega⟩)]
            have hf : Fit (pt p.1 (i : Int)) := h.sm.fit ⟨by omega, by omega⟩
            rw [whereT m p.1 p.2.1 ((rdD (0, 0) p.1 (i : Int)).1, (rdD (0, 0) p.1 (i : Int)).2) (by omega) h.okl hf, bnd_s]
            refine e _ ?_
            unfold strb
            rw [decide_eq_true hd]; rfl
          · rw [decide_eq_true hd, Bool.not_true, cF]
            refine e false ?_
            unfold strb
            rw [decide_eq_false hd]; rfl
        · intro k hk next2 hn2
          have hok := h.ok _ (List.getElem_mem hk)
          dsimp only at hn2 ⊢
          have hin : inb (k : Int) (sgs p).length = true := inb_t ⟨by omega, by omega⟩
          simp only [hin, gT, meet]
          rw [bif_T (by omega), rd_get _ _ k hk, w64_id (x := (k : Int) + 1) (by omega) (by omega)]
          rw [List.take_succ_eq_append_getElem hk, dgr_snoc] at hn2
          by_cases c0 : dgr ((sgs p).take k) (i : Int) ≠ 0
          · rw [decide_eq_true c0, cT]
            rw [decide_eq_true (by omega)] at hn2
            exact hn2
          · rw [decide_eq_false c0, cF]
            by_cases c1 : (sgs p)[k].1 = (i : Int)
            · rw [bif_T c1]
              rw [if_pos c1, decide_eq_true (by omega)] at hn2
              exact hn2
            · rw [bif_F c1]
              rw [if_neg c1] at hn2
              by_cases c2 : (sgs p)[k].2 = (i : Int)
              · rw [decide_eq_true c2]
                rw [if_pos c2, decide_eq_true (by omega)] at hn2
                exact hn2
              · rw [decide_eq_false c2]
                rw [if_neg c2, decide_eq_false (by omega)] at hn2
                exact hn2
    · intro i hi next hn
      dsimp only at hn ⊢
      have hin : inb (i : Int) p.2.2.length = true := inb_t ⟨by omega, by omega⟩
      simp only [hin, gT]
      rw [bif_T (by omega), row_step _ hi, w64_id (by omega) (by omega), midT m _ _ _ (by simp) (by simp) (by omega), bnd_s]
      have e : (!(decide ((midv p.1 p.2.1 [(rdD (0, 0) p.2.2 (i : Int)).1, (rdD (0, 0) p.2.2 (i : Int)).2]).1 = 1))) = outb p 0 i := rfl
      rw [e]
      cases outb p 0 i
      · exact hn
      · rfl
  · intro i hi next hn
    dsimp only at hn ⊢
    rw [bif_T (by omega), row_step _ hi]
    have e : ∀ x : Bool, x = odd p.2.1 0 i → (bif x then some ((5 : Int), (i : Int), (0 : Int)) else next (p, fz, (i : Int) + 1)) = some (one 5 (if odd p.2.1 0 i = true then some i else row (odd p.2.1) p.1.length 0 (i + 1)) (six p (one 7 (s7 p) (one 8 (s8 p) fz)))) := by
      intro x hx
      rw [hx]
      cases odd p.2.1 0 i
      · exact hn
      · rfl
    refine loop_list (fun k => (p, fz, (i : Int), (dgr (p.2.1.take k) (i : Int) : Int), (k : Int))) p.2.1.length (fun _ => some (one 5 (if odd p.2.1 0 i = true then some i else row (odd p.2.1) p.1.length 0 (i + 1)) (six p (one 7 (s7 p) (one 8 (s8 p) fz))))) ?_ ?_ (m + 1000) 0 (Nat.zero_le _) (by omega)
    · intro next2
      dsimp only
      simp only [meet]
      rw [bif_F (by omega), List.take_length, w64_id (x := (i : Int) + 1) (by omega) (by omega)]
      have eo : odd p.2.1 0 i = (!decide ((dgr p.2.1 (i : Int) : Int) = 0) && !decide ((dgr p.2.1 (i : Int) : Int) = 2)) := by
        unfold odd
        rw [show decide ((dgr p.2.1 (i : Int) : Int) = 0) = decide (dgr p.2.1 (i : Int) = 0) from decide_eq_decide.2 (by omega), show decide ((dgr p.2.1 (i : Int) : Int) = 2) = decide (dgr p.2.1 (i : Int) = 2) from decide_eq_decide.2 (by omega)]
        rw [decide_not, decide_not]
      cases h0 : decide ((dgr p.2.1 (i : Int) : Int) = 0) with
      | true =>
        rw [Bool.not_true, cF]
        exact e false (by rw [eo, h0]; rfl)
      | false =>
        rw [Bool.not_false, cT]
        exact e _ (by rw [eo, h0]; rfl)
    · intro k hk next2 hn2
      have hok := h.okL _ (List.getElem_mem hk)
      have hdl := dgr_le (p.2.1.take k) (i : Int)
      have htl : (p.2.1.take k).length ≤ k := by rw [List.length_take]; omega
      dsimp only at hn2 ⊢
      have hin : inb (k : Int) p.2.1.length = true := inb_t ⟨by omega, by omega⟩
      simp only [hin, gT, meet]
      rw [bif_T (by omega), rd_get _ _ k hk, w64_id (x := (k : Int) + 1) (by omega) (by omega)]
      rw [List.take_succ_eq_append_getElem hk, dgr_snoc] at hn2
      by_cases c1 : p.2.1[k].1 = (i : Int)
      · rw [bif_T c1, cT, w64_id (x := (dgr (p.2.1.take k) (i : Int) : Int) + 1) (by omega) (by omega)]
        rw [if_pos c1, if_neg (fun c2 => hok.2 (c1.trans c2.symm))] at hn2
        exact hn2
      · rw [bif_F c1]
        rw [if_neg c1] at hn2
        by_cases c2 : p.2.1[k].2 = (i : Int)
        · rw [decide_eq_true c2, cT, w64_id (x := (dgr (p.2.1.take k) (i : Int) : Int) + 1) (by omega) (by omega)]
          rw [if_pos c2] at hn2
          exact hn2
        · rw [decide_eq_false c2, cF]
          rw [if_neg c2] at hn2
          exact hn2
theorem rFirst_ok (m : Nat) {p : Poly} (h : Sm p) : g_parquetref10_First (m + 1000) p = some (flaw p, 0) := by
  unfold g_parquetref10_First b_parquetref10_First
  rw [show g_parquetref05_Check (m + 1000) (p.1, p.2.1, p.2.2) = some 0 from by rw [rchk_f m p, h.chk]; rfl, bnd_s]
  rw [show (!(decide ((0 : Int) = 0))) = false from rfl, cF]
  rw [show g_parquetref10_pairs (m + 1000) (p.1, p.2.1, p.2.2) = some (four p) from pairs_f m h, bnd_s]
  simp only [meet]
  unfold flaw four
  cases h1 : s1 p with
  | some q => rfl
  | none =>
  cases h2 : s2 p with
  | some q => rfl
  | none =>
  cases h3 : s3 p with
  | some q => rfl
  | none =>
  cases h4 : s4 p with
  | some q => rfl
  | none =>
  have F : Fine p := ⟨h, h1, h2, h3⟩
  refine (bif_t (by rfl)).trans ?_
  rw [show g_parquetref10_loops (m + 1000) (p.1, p.2.1, p.2.2) = some (rest p) from loops_f m F, bnd_s]
  rfl
theorem rFirst_bad (m : Nat) {p : Poly} (h : chk p = false) : g_parquetref10_First (m + 1000) p = some (fz, 2) := by
  unfold g_parquetref10_First b_parquetref10_First
  rw [show g_parquetref05_Check (m + 1000) (p.1, p.2.1, p.2.2) = some 2 from by rw [rchk_f m p, h]; rfl, bnd_s]
  rfl
end Go.Proofs.Ytjbimhfhapnjeaa.Pure
