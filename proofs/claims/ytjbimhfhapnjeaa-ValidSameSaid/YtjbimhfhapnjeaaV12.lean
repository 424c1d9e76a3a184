/- All loops, by the reference. -/
import Derived.Test.YtjbimhfhapnjeaaV9
section
set_option linter.unusedVariables false
set_option linter.unusedSimpArgs false
namespace Go.Proofs.Ytjbimhfhapnjeaa.Pure
open Go.RowKit Go.Proofs.Ytjbimhfhapnjeaa.AM PL

theorem rDegrees_f (m n : Nat) (L : List Pt) (hn : n ≤ 350) (hL : L.length ≤ 350) (h : ∀ s ∈ L, oks n s ∧ s.1 ≠ s.2) : g_parquetref08_Degrees (m + 1000) (n : Int) L = some (dgs L n, 0) := by
  unfold g_parquetref08_Degrees
  simp only [meet]
  rw [bif_F (by omega)]
  refine (bif_f (decide_eq_false (by omega))).trans ?_
  refine loop_list (fun i => ((n : Int), L, (i : Int))) L.length (fun _ => some (dgs L n, 0)) ?_ ?_ (m + 1000) 0 (Nat.zero_le _) (by omega)
  · intro next
    dsimp only
    rw [bif_F (by omega), gd_t (decide_eq_true (by omega)), gd_t (by unfold fewI; exact few_t (by omega))]
    have e0 : rpL (n : Int) (0 : Int) = dgs (L.take 0) n := by
      unfold rpL dgs
      rw [Int.toNat_natCast]
      apply List.ext_getElem
      · simp
      · intro j h1 h2
        simp [dgr]
    rw [e0]
    refine loop_list (fun i => (L, dgs (L.take i) n, (i : Int))) L.length (fun _ => some (dgs L n, 0)) ?_ ?_ (m + 1000) 0 (Nat.zero_le _) (by omega)
    · intro next
      dsimp only
      rw [bif_F (by omega), List.take_length]
    · intro i hi next hn'
      have hs := h _ (List.getElem_mem hi)
      dsimp only at hn' ⊢
      have hin : inb (i : Int) L.length = true := inb_t ⟨by omega, by omega⟩
      simp only [hin, gT]
      rw [bif_T (by omega), rd_get _ L i hi, w64_id (x := (i : Int) + 1) (by omega) (by omega)]
      rw [List.take_succ_eq_append_getElem hi] at hn'
      generalize L[i] = s at hs hn' ⊢
      obtain ⟨⟨⟨a0, a1⟩, ⟨b0, b1⟩⟩, hne⟩ := hs
      obtain ⟨s1, s2⟩ := s
      dsimp only at a0 a1 b0 b1 hne hn' ⊢
      obtain ⟨a, rfl⟩ := Int.eq_ofNat_of_zero_le a0
      obtain ⟨b, rfl⟩ := Int.eq_ofNat_of_zero_le b0
      have hl1 : inb (a : Int) (dgs (L.take i) n).length = true := inb_t ⟨by omega, by rw [dgs_len]; omega⟩
      have hl2 : ∀ x, inb (b : Int) (stL (dgs (L.take i) n) (a : Int) x).length = true := fun x => inb_t ⟨by omega, by unfold stL; rw [List.length_set, dgs_len]; omega⟩
      have hl3 : inb (b : Int) (dgs (L.take i) n).length = true := inb_t ⟨by omega, by rw [dgs_len]; omega⟩
      simp only [hl1, hl2, hl3, gT]
      rw [dgs_snoc _ n a b (by omega) (by omega) (by omega) (by rw [List.length_take]; omega)]
      exact hn'
  · intro i hi next hn'
    have hs := h _ (List.getElem_mem hi)
    dsimp only at hn' ⊢
    rw [bif_T (by omega), gd_t (inb_t ⟨by omega, by omega⟩), rd_get _ L i hi, w64_id (x := (i : Int) + 1) (by omega) (by omega)]
    generalize L[i] = s at hs ⊢
    obtain ⟨⟨⟨a0, a1⟩, ⟨b0, b1⟩⟩, hne⟩ := hs
    rw [bif_F hne, bif_F (by omega), bif_F (by omega), bif_F (by omega)]
    exact (bif_f (decide_eq_false (by omega))).trans hn'
theorem like_f (k : Nat) (a b : Pt) : g_parquetref08_like k a b = some (decide (nrm a = nrm b)) := by
  unfold g_parquetref08_like
  simp only [meet]
  have key : decide (nrm a = nrm b) = decide ((a.1 = b.1 ∧ a.2 = b.2) ∨ (a.1 = b.2 ∧ a.2 = b.1)) := decide_eq_decide.2 ⟨nrm_inv, nrm_eq⟩
  rw [key]
  by_cases c1 : a.1 = b.1
  · rw [bif_T c1]
    by_cases c2 : a.2 = b.2
    · rw [bif_T c2, decide_eq_true (.inl ⟨c1, c2⟩)]
    · rw [bif_F c2]
      by_cases c3 : a.1 = b.2
      · rw [bif_T c3]; congr 1; rw [decide_eq_decide]; exact ⟨fun h => .inr ⟨c3, h⟩, fun h => h.elim (fun h => absurd h.2 c2) (fun h => h.2)⟩
      · rw [bif_F c3, decide_eq_false (fun h => h.elim (fun h => c2 h.2) (fun h => c3 h.1))]
  · rw [bif_F c1]
    by_cases c3 : a.1 = b.2
    · rw [bif_T c3]; congr 1; rw [decide_eq_decide]; exact ⟨fun h => .inr ⟨c3, h⟩, fun h => h.elim (fun h => absurd h.1 c1) (fun h => h.2)⟩
    · rw [bif_F c3, decide_eq_false (fun h => h.elim (fun h => c1 h.1) (fun h => c3 h.1))]
def bs (row : List Int) (b u : Int) : Int := if u ∈ row then b else if b < 0 ∨ u < b then u else b
def bsv (L : List Pt) (at' : Int) (row : List Int) : Int := (nl L at').foldl (bs row) (-1)
theorem bsv_snoc (L : List Pt) (s : Pt) (hs : s.1 ≠ s.2) (at' : Int) (row : List Int) : bsv (L ++ [s]) at' row = if s.1 = at' then bs row (bsv L at' row) s.2 else if s.2 = at' then bs row (bsv L at' row) s.1 else bsv L at' row := by
  unfold bsv
  rw [nl_snoc, List.foldl_append]
  by_cases h1 : s.1 = at'
  · rw [if_pos h1, if_pos h1, if_neg (fun e => hs (h1.trans e.symm))]; rfl
  · rw [if_neg h1, if_neg h1]
    by_cases h2 : s.2 = at'
    · rw [if_pos h2, if_pos h2]; rfl
    · rw [if_neg h2, if_neg h2]; rfl
theorem beside_f (m n : Nat) (L : List Pt) (at' : Int) (row : List Int) (hL : L.length ≤ 350) (hr : row.length ≤ 350) (h : ∀ s ∈ L, oks n s ∧ s.1 ≠ s.2) : g_parquetref08_beside (m + 1000) L at' row = some (bsv L at' row) := by
  unfold g_parquetref08_beside
  refine loop_list (fun i => (L, at', row, bsv (L.take i) at' row, (i : Int))) L.length (fun _ => some (bsv L at' row)) ?_ ?_ (m + 1000) 0 (Nat.zero_le _) (by omega)
  · intro next
    dsimp only
    rw [bif_F (by omega), List.take_length]
  · intro i hi next hn'
    have hs := h _ (List.getElem_mem hi)
    dsimp only at hn' ⊢
    have hin : inb (i : Int) L.length = true := inb_t ⟨by omega, by omega⟩
    simp only [hin, gT, meet]
    rw [bif_T (by omega), rd_get _ L i hi]
    rw [List.take_succ_eq_append_getElem hi, bsv_snoc _ _ hs.2] at hn'
    generalize L[i] = s at hs hn' ⊢
    generalize bsv (L.take i) at' row = best at hn' ⊢
    -- whatever is beside goes the same way
    have inner : ∀ (k0 : Int) (f : List Pt × Int × List Int × Int × Int × Int × Int → (List Pt × Int × List Int × Int × Int × Int × Int → Option Int) → Option Int),
        (∀ kk next, f (L, at', row, best, (i : Int), kk, (row.length : Int)) next = if kk ≥ 0 ∧ (best < 0 ∨ kk < best) then (some (bsv L at' row)) else (some (bsv L at' row))) → True := fun _ _ _ => trivial
    have nx : ∀ b : Int, b = (if s.1 = at' then bs row best s.2 else if s.2 = at' then bs row best s.1 else best) → next (L, at', row, b, w64 ((i : Int) + 1)) = some (bsv L at' row) := by
      intro b hb
      rw [w64_id (x := (i : Int) + 1) (by omega) (by omega), hb]
      exact hn'
    have run : ∀ k0 : Int, (k0 = -1 ∨ 0 ≤ k0) → (∀ b, b = (if k0 < 0 then best else bs row best k0) → next (L, at', row, b, w64 ((i : Int) + 1)) = some (bsv L at' row)) →
        loopN (α := List (Int × Int) × Int × List Int × Int × Int × Int × Int) (fun (x19, x20, x21, x22, x23, x24, x25) next18 =>
          bif decide (x25 < (x21.length : Int)) then
            gd (inb x25 x21.length) <|
            bif decide ((rdD 0 x21 x25) = x24) then next18 (x19, x20, x21, x22, x23, (-1), w64 (x25 + 1)) else next18 (x19, x20, x21, x22, x23, x24, w64 (x25 + 1))
          else
            bif decide (x24 ≥ 0) then (bif decide (x22 < 0) then (bif true then next (x19, x20, x21, x24, w64 (x23 + 1)) else next (x19, x20, x21, x22, w64 (x23 + 1))) else (bif decide (x24 < x22) then next (x19, x20, x21, x24, w64 (x23 + 1)) else next (x19, x20, x21, x22, w64 (x23 + 1)))) else (bif false then next (x19, x20, x21, x24, w64 (x23 + 1)) else next (x19, x20, x21, x22, w64 (x23 + 1)))) (m + 1000) (L, at', row, best, (i : Int), k0, 0) = some (bsv L at' row) := by
      intro k0 hk0 hb
      refine loop_list (fun j => (L, at', row, best, (i : Int), (if k0 ∈ row.take j then -1 else k0), (j : Int))) row.length (fun _ => some (bsv L at' row)) ?_ ?_ (m + 1000) 0 (Nat.zero_le _) (by omega)
      · intro next2
        dsimp only
        rw [bif_F (by omega), List.take_length]
        by_cases hm : k0 ∈ row
        · rw [if_pos hm, bif_F (by omega), cF]
          refine hb _ ?_
          unfold bs
          rw [if_pos hm]
          split <;> rfl
        · rw [if_neg hm]
          by_cases hk : k0 ≥ 0
          · rw [bif_T hk]
            by_cases hbst : best < 0
            · rw [bif_T hbst, cT]
              refine hb _ ?_
              unfold bs
              rw [if_neg (by omega), if_neg hm, if_pos (.inl hbst)]
            · rw [bif_F hbst]
              by_cases hlt : k0 < best
              · rw [bif_T hlt]
                refine hb _ ?_
                unfold bs
                rw [if_neg (by omega), if_neg hm, if_pos (.inr hlt)]
              · rw [bif_F hlt]
                refine hb _ ?_
                unfold bs
                rw [if_neg (by omega), if_neg hm, if_neg (fun h => h.elim hbst hlt)]
          · rw [bif_F hk, cF]
            refine hb _ ?_
            rw [if_pos (by omega)]
      · intro j hj next2 hn2
        dsimp only at hn2 ⊢
        rw [bif_T (by omega), gd_t (inb_t ⟨by omega, by omega⟩), rd_get _ row j hj, w64_id (x := (j : Int) + 1) (by omega) (by omega)]
        rw [List.take_succ_eq_append_getElem hj] at hn2
        by_cases hm : k0 ∈ row.take j
        · rw [if_pos hm]
          rw [if_pos (List.mem_append_left _ hm)] at hn2
          by_cases e : row[j] = -1
          · rw [bif_T e]; exact hn2
          · rw [bif_F e]; exact hn2
        · rw [if_neg hm]
          by_cases e : row[j] = k0
          · rw [bif_T e]
            rw [if_pos (List.mem_append_right _ (by rw [e]; simp))] at hn2
            exact hn2
          · rw [bif_F e]
            rw [if_neg (fun h => (List.mem_append.1 h).elim hm (fun h => e (List.mem_singleton.1 h).symm))] at hn2
            exact hn2
    by_cases c1 : s.1 = at'
    · have c2 : ¬ s.2 = at' := fun e => hs.2 (c1.trans e.symm)
      rw [bif_T c1, bif_F c2]
      refine run s.2 (.inr hs.1.2.1) (fun b hb => nx b ?_)
      rw [hb, if_neg (by have := hs.1.2.1; omega), if_pos c1]
    · rw [bif_F c1]
      by_cases c2 : s.2 = at'
      · rw [bif_T c2]
        refine run s.1 (.inr hs.1.1.1) (fun b hb => nx b ?_)
        rw [hb, if_neg (by have := hs.1.1.1; omega), if_neg c1, if_pos c2]
      · rw [bif_F c2]
        refine run (-1) (.inl rfl) (fun b hb => nx b ?_)
        rw [hb, if_pos (by omega), if_neg c1, if_neg c2]
end Go.Proofs.Ytjbimhfhapnjeaa.Pure
end
/- All loops, by the reference: they are the same. -/
section
set_option linter.unusedVariables false
set_option linter.unusedSimpArgs false
namespace Go.Proofs.Ytjbimhfhapnjeaa.Pure
open Go.RowKit Go.Proofs.Ytjbimhfhapnjeaa.AM PL

abbrev Dg (L : List Pt) (n : Nat) : Int → Prop := fun v => (0 ≤ v ∧ v < (n : Int)) ∧ dgr L v = 2
theorem bsv_walk {n : Nat} {L : List Pt} (lp : Lp n L) {i fr : Int} {r : List Int} {a : Int} (w : Wk (Dg L n) (nbr L) i fr r a) (hmin : r = [] → a = mnI (nbr L fr).1 (nbr L fr).2) :
    bsv L fr (fr :: r).reverse = if a = i then -1 else a := by
  have G := lp.rg
  have hfr := w.d fr List.mem_cons_self
  obtain ⟨x, y, e, e', hne, hx, hy⟩ := lp.two_nl hfr.2
  have hnv := G.nv fr hfr
  have hto := w.to
  have hpr := w.pr
  rw [e'] at hnv hto hpr hmin
  dsimp only at hnv hto hpr hmin
  have hval : bsv L fr (fr :: r).reverse = bs (fr :: r).reverse (bs (fr :: r).reverse (-1) x) y := by unfold bsv; rw [e]; rfl
  rw [hval]
  have hmem : ∀ u, u ∈ (fr :: r).reverse ↔ u ∈ fr :: r := fun u => List.mem_reverse
  cases r with
  | nil =>
    have hfi : fr = i := by have := w.last; simpa using this
    have hxr : ¬ x ∈ [fr].reverse := fun h => hnv.1 (by simpa using h)
    have hyr : ¬ y ∈ [fr].reverse := fun h => hnv.2 (by simpa using h)
    have ha := hmin rfl
    have e1 : bs [fr].reverse (-1) x = x := by unfold bs; rw [if_neg hxr, if_pos (.inl (by omega))]
    rw [e1]
    have hai : a ≠ i := by
      rw [← hfi]
      rcases hto with h | h <;> rw [h]
      · exact hnv.1
      · exact hnv.2
    rw [if_neg hai, ha]
    unfold bs mnI
    rw [if_neg hyr]
    by_cases c : y < x
    · rw [if_pos (.inr c), if_pos c]
    · rw [if_neg (fun h => h.elim (fun h => by omega) c), if_neg c]
  | cons p r =>
    obtain ⟨hp, hap⟩ := hpr p rfl
    have hpm : p ∈ (fr :: p :: r).reverse := (hmem p).2 (by simp)
    have hai : (a ∈ (fr :: p :: r).reverse) ↔ a = i := by
      rw [hmem]
      constructor
      · intro h
        by_cases e : a = i
        · exact e
        · exact absurd h (w.new G e)
      · intro h
        rw [h]
        exact List.mem_of_getLast? w.last
    have hone : ∀ u, 0 ≤ u → bs (fr :: p :: r).reverse (-1) u = if u ∈ (fr :: p :: r).reverse then -1 else u := by
      intro u hu
      unfold bs
      split
      · rfl
      · rw [if_pos (.inl (by omega))]
    rcases hp with hp | hp
    · have ha : a = y := hto.resolve_left (fun h => hap (h.trans hp.symm))
      subst hp
      rw [hone p hx, if_pos hpm, hone y hy, ← ha]
      by_cases c : a = i
      · rw [if_pos c, if_pos (hai.2 c)]
      · rw [if_neg c, if_neg (fun h => c (hai.1 h))]
    · have ha : a = x := hto.resolve_right (fun h => hap (h.trans hp.symm))
      subst hp
      have e2 : ∀ b, bs (fr :: p :: r).reverse b p = b := fun b => by unfold bs; rw [if_pos hpm]
      rw [e2, hone x hx, ← ha]
      by_cases c : a = i
      · rw [if_pos c, if_pos (hai.2 c)]
      · rw [if_neg c, if_neg (fun h => c (hai.1 h))]
theorem ring_len {n : Nat} {L : List Pt} (lp : Lp n L) {i : Int} (h : Dg L n i) : (ring (nbr L) n i).length ≤ n := by
  obtain ⟨fr, r, e, w, _⟩ := ring_spec lp.rg h
  rw [e, List.length_reverse]
  exact w.len lp.rg
theorem flat_len {n : Nat} {L : List Pt} (lp : Lp n L) : ∀ i, i ≤ n → (outs L n i).flatten.length ≤ i * n
  | 0, _ => by simp [outs]
  | i + 1, hi => by
    have ih := flat_len lp i (by omega)
    rw [outs_succ]
    unfold rstep
    by_cases c : dgr L (i : Int) = 0 ∨ (i : Int) ∈ (outs L n i).flatten
    · rw [if_pos c]
      exact Nat.le_trans ih (Nat.mul_le_mul_right _ (by omega))
    · rw [if_neg c]
      have hd : dgr L (i : Int) = 2 := (lp.deg i (by omega)).resolve_left (fun h => c (.inl h))
      have := ring_len lp (i := (i : Int)) ⟨⟨by omega, by omega⟩, hd⟩
      rw [List.flatten_append, List.length_append, Nat.succ_mul]
      simp only [List.flatten_cons, List.flatten_nil, List.append_nil]
      omega
theorem rRings_f (m n : Nat) (L : List Pt) (hm : 130000 ≤ m) (hn : n ≤ 350) (hL : L.length ≤ 350) (ok : ∀ s ∈ L, oks n s ∧ s.1 ≠ s.2) (two : L.Pairwise fun a b => nrm a ≠ nrm b) : g_parquetref08_Rings (m + 1000) (n : Int) L = some (ringsv L n) := by
  unfold g_parquetref08_Rings b_parquetref08_Rings
  rw [rDegrees_f m n L hn hL ok, bnd_s]
  rw [show (!(decide ((dgs L n, (0 : Int)).2 = 0))) = false from rfl, cF]
  refine loop_list (fun i => ((n : Int), L, dgs L n, (i : Int))) L.length (fun _ => some (ringsv L n)) ?_ ?_ (m + 1000) 0 (Nat.zero_le _) (by omega)
  · intro next
    dsimp only
    rw [bif_F (by omega)]
    unfold ringsv
    have step : ∀ (i : Nat) (hi : i < n) (A B : Option (List (List Int) × Int × Int)),
        (bif decide ((i : Int) < (n : Int)) then (gd (inb (i : Int) (dgs L n).length) <| bif !(decide ((rdD 0 (dgs L n) (i : Int)) = 0)) then (gd (inb (i : Int) (dgs L n).length) <| (bif !(decide ((rdD 0 (dgs L n) (i : Int)) = 2)) then A else B)) else (bif false then A else B)) else none) = if odd L 0 i = true then A else B := by
      intro i hi A B
      have hin : inb (i : Int) (dgs L n).length = true := inb_t ⟨by omega, by rw [dgs_len]; omega⟩
      simp only [hin, gT]
      rw [bif_T (by omega), dgs_get L n hi]
      have eo : odd L 0 i = (!decide ((dgr L (i : Int) : Int) = 0) && !decide ((dgr L (i : Int) : Int) = 2)) := by
        unfold odd
        rw [show decide ((dgr L (i : Int) : Int) = 0) = decide (dgr L (i : Int) = 0) from decide_eq_decide.2 (by omega), show decide ((dgr L (i : Int) : Int) = 2) = decide (dgr L (i : Int) = 2) from decide_eq_decide.2 (by omega)]
        rw [decide_not, decide_not]
      rw [eo]
      cases decide ((dgr L (i : Int) : Int) = 0) <;> cases decide ((dgr L (i : Int) : Int) = 2) <;> rfl
    have bifT : ∀ (i : Nat) (hi : i < n) (X Y : Option (List (List Int) × Int × Int)), (bif decide ((i : Int) < (n : Int)) then X else Y) = (bif decide ((i : Int) < (n : Int)) then X else none) := by
      intro i hi X Y
      rw [bif_T (by omega), bif_T (by omega)]
    obtain ⟨r1, r2⟩ := row_spec (odd L) (n := n) (a := 0) _ 0 rfl (Nat.zero_le _)
    cases hodd : row (odd L) n 0 0 with
    | some k =>
      obtain ⟨_, hk, hof, hmin⟩ := r2 k hodd
      refine loop_list (fun i => ((n : Int), L, dgs L n, (i : Int))) k (fun _ => some ([], (k : Int), 81)) ?_ ?_ (m + 1000) 0 (Nat.zero_le _) (by omega)
      · intro next
        dsimp only
        simp only [meet]
        rw [bifT k hk]
        refine (step k hk _ _).trans ?_
        rw [if_pos hof]
      · intro i hi next hn'
        dsimp only at hn' ⊢
        simp only [meet]
        rw [bifT i (by omega)]
        refine (step i (by omega) _ _).trans ?_
        rw [if_neg (fun h => by have := hmin i (Nat.zero_le _) (by omega) h; omega), w64_id (x := (i : Int) + 1) (by omega) (by omega)]
        exact hn'
    | none =>
      have lp := lp_of ok two hodd
      have G := lp.rg
      refine loop_list (fun i => ((n : Int), L, dgs L n, (i : Int))) n (fun _ => some (outs L n n, 0, 0)) ?_ ?_ (m + 1000) 0 (Nat.zero_le _) (by omega)
      · intro next
        dsimp only
        rw [bif_F (by omega)]
        refine loop_list (fun i => ((n : Int), L, dgs L n, outs L n i, (outs L n i).flatten, (i : Int))) n (fun _ => some (outs L n n, 0, 0)) ?_ ?_ (m + 1000) 0 (Nat.zero_le _) (by omega)
        · intro next
          dsimp only
          rw [bif_F (by omega)]
        · intro i hi next hn'
          have hfl := flat_len lp i (by omega)
          have hmul : i * n ≤ 350 * 350 := Nat.mul_le_mul (by omega) hn
          dsimp only at hn' ⊢
          simp only [meet]
          rw [bif_T (by omega), gd_t (inb_t ⟨by omega, by rw [dgs_len]; omega⟩), dgs_get L n hi]
          rw [outs_succ] at hn'
          have hsk : (dgr L (i : Int) = 0 ∨ (i : Int) ∈ (outs L n i).flatten) → next ((n : Int), L, dgs L n, outs L n i, (outs L n i).flatten, (i : Int) + 1) = some (outs L n n, 0, 0) := by
            intro h
            unfold rstep at hn'
            rw [if_pos h] at hn'
            exact hn'
          have ed : decide ((dgr L (i : Int) : Int) = 0) = decide (dgr L (i : Int) = 0 ∨ (i : Int) ∈ (outs L n i).flatten.take 0) := decide_eq_decide.2 (by simp)
          rw [ed]
          refine loop_list (fun k => ((n : Int), L, dgs L n, outs L n i, (outs L n i).flatten, (i : Int), decide (dgr L (i : Int) = 0 ∨ (i : Int) ∈ (outs L n i).flatten.take k), (k : Int))) (outs L n i).flatten.length (fun _ => some (outs L n n, 0, 0)) ?_ ?_ (m + 1000) 0 (Nat.zero_le _) (by omega)
          · intro next2
            dsimp only
            rw [bif_F (by omega), List.take_length, w64_id (x := (i : Int) + 1) (by omega) (by omega)]
            by_cases hs : dgr L (i : Int) = 0 ∨ (i : Int) ∈ (outs L n i).flatten
            · rw [decide_eq_true hs, cT]
              exact hsk hs
            rw [decide_eq_false hs, cF]
            unfold rstep at hn'
            rw [if_neg hs] at hn'
            have hdi : dgr L (i : Int) = 2 := (lp.deg i hi).resolve_left (fun h => hs (.inl h))
            have hD : Dg L n (i : Int) := ⟨⟨by omega, by omega⟩, hdi⟩
            obtain ⟨fr0, r0, hr0, w0, hi0⟩ := ring_spec G hD
            refine loop_rel (fun c s v => ∃ (fr : Int) (r : List Int) (a : Int), Wk (Dg L n) (nbr L) (i : Int) fr r a ∧ (r = [] → a = mnI (nbr L fr).1 (nbr L fr).2) ∧ c = n - (fr :: r).length ∧ walk (nbr L) (i : Int) (n + 1 - (fr :: r).length + 1) fr r a = fr0 :: r0 ∧
                s = ((n : Int), L, dgs L n, outs L n i, (outs L n i).flatten, (i : Int), (fr :: r).reverse) ∧ v = some (outs L n n, 0, 0)) ?_ (m + 1000) (n - 1) _ _ ⟨(i : Int), [], mnI (nbr L (i : Int)).1 (nbr L (i : Int)).2, Wk.first hD (mnI_or _ _), fun _ => rfl, by simp, ?_, rfl, rfl⟩ (by omega)
            · rintro c s v ⟨fr, r, a, w, hmin, rfl, hw, rfl, rfl⟩ next3 hn3
              have hlen := w.len G
              have hl1 : ((fr :: r).reverse).length = r.length + 1 := by simp
              have hlast : rdD 0 (fr :: r).reverse ((r.length : Nat) : Int) = fr := by
                rw [rd_get _ _ r.length (by simp)]; simp
              have el : w64 ((((fr :: r).reverse).length : Int) - 1) = ((r.length : Nat) : Int) := by
                simp only [List.length_cons] at hlen
                rw [hl1, w64_id (by omega) (by omega)]; omega
              dsimp only
              simp only [List.length_cons] at hlen
              rw [el, gd_t (inb_t ⟨by omega, by rw [hl1]; omega⟩), hlast, beside_f m n L fr _ hL (by rw [hl1]; omega) ok, bnd_s, bsv_walk lp w hmin]
              by_cases e : a = (i : Int)
              · rw [if_pos e, bif_T (by omega)]
                subst e
                rw [walk, if_pos rfl] at hw
                have hol := outs_len L n i
                rw [gd_t (few_t (by omega)), gd_t (few_t (by rw [hl1]; omega)), w64_id (x := (i : Int) + 1) (by omega) (by omega)]
                rw [hw, ← hr0]
                have ef : (outs L n i ++ [ring (nbr L) n (i : Int)]).flatten = (outs L n i).flatten ++ ring (nbr L) n (i : Int) := by simp
                rw [ef] at hn'
                exact hn'
              · have w' := w.step G e
                have ha := (w'.d a List.mem_cons_self).1
                have hlen' := w'.len G
                rw [if_neg e, bif_F (by omega), gd_t (few_t (by rw [hl1]; omega))]
                refine hn3 (n - (a :: fr :: r).length) _ _ (by simp only [List.length_cons] at hlen' ⊢; omega) ⟨a, fr :: r, oth (nbr L a) fr, w', fun h => (by cases h), rfl, ?_, by simp, rfl⟩
                rw [walk, if_neg e] at hw
                rw [show n + 1 - (a :: fr :: r).length + 1 = n + 1 - (fr :: r).length from by simp only [List.length_cons] at hlen' ⊢; omega]
                exact hw
            · have : ring (nbr L) n (i : Int) = (walk (nbr L) (i : Int) (n + 1) (i : Int) [] (mnI (nbr L (i : Int)).1 (nbr L (i : Int)).2)).reverse := rfl
              rw [this] at hr0
              have := List.reverse_inj.1 hr0
              rw [show n + 1 - [(i : Int)].length + 1 = n + 1 from by simp]
              exact this
          · intro k hk next2 hn2
            dsimp only at hn2 ⊢
            rw [bif_T (by omega), rd_get _ _ k hk, w64_id (x := (k : Int) + 1) (by omega) (by omega)]
            rw [List.take_succ_eq_append_getElem hk] at hn2
            by_cases c : dgr L (i : Int) = 0 ∨ (i : Int) ∈ (outs L n i).flatten.take k
            · rw [decide_eq_true c, cT]
              rw [decide_eq_true (c.imp id fun h => List.mem_append_left _ h)] at hn2
              exact hn2
            · rw [decide_eq_false c, cF, gd_t (inb_t ⟨by omega, by omega⟩)]
              have : decide ((outs L n i).flatten[k] = (i : Int)) = decide (dgr L (i : Int) = 0 ∨ (i : Int) ∈ (outs L n i).flatten.take k ++ [(outs L n i).flatten[k]]) := by
                rw [decide_eq_decide]
                constructor
                · intro h; exact .inr (List.mem_append_right _ (by rw [h]; simp))
                · rintro (h | h)
                  · exact absurd (.inl h) c
                  · rcases List.mem_append.1 h with h | h
                    · exact absurd (.inr h) c
                    · exact (List.mem_singleton.1 h).symm
              rw [this]
              exact hn2
      · intro i hi next hn'
        dsimp only at hn' ⊢
        simp only [meet]
        rw [bifT i (by omega)]
        refine (step i (by omega) _ _).trans ?_
        rw [if_neg (by rw [r1 hodd i (Nat.zero_le _) hi]; simp), w64_id (x := (i : Int) + 1) (by omega) (by omega)]
        exact hn'
  · intro i hi next hn'
    dsimp only at hn' ⊢
    rw [bif_T (by omega)]
    refine loop_list (fun k => ((n : Int), L, dgs L n, (i : Int), (k : Int))) i (fun _ => some (ringsv L n)) ?_ ?_ (m + 1000) 0 (Nat.zero_le _) (by omega)
    · intro next2
      dsimp only
      rw [bif_F (by omega), w64_id (x := (i : Int) + 1) (by omega) (by omega)]
      exact hn'
    · intro k hk next2 hn2
      dsimp only at hn2 ⊢
      rw [bif_T (by omega), gd_t (inb_t ⟨by omega, by omega⟩), gd_t (inb_t ⟨by omega, by omega⟩), rd_get _ L i hi, rd_get _ L k (by omega), w64_id (x := (k : Int) + 1) (by omega) (by omega)]
      simp only [etaP]
      rw [like_f, bnd_s, bif_F (fun e => List.pairwise_iff_getElem.1 two k i (by omega) hi hk e.symm)]
      exact hn2
end Go.Proofs.Ytjbimhfhapnjeaa.Pure
end
/- May a segment be laid: the reference, and from whichever end. -/
section
set_option linter.unusedVariables false
set_option linter.unusedSimpArgs false
namespace Go.Proofs.Ytjbimhfhapnjeaa.Pure
open Go.RowKit Go.Proofs.Ytjbimhfhapnjeaa.AM PL

theorem rLoops_f (m : Nat) (hm : 130000 ≤ m) {p : Poly} (h : Sm p) : g_parquetref10_Loops (m + 1000) p = some (loopsv p) := by
  unfold g_parquetref10_Loops b_parquetref10_Loops loopsv
  rw [show g_parquetref10_Right (m + 1000) (p.1, p.2.1, p.2.2) = some (good0 p) from rRight_f m h, bnd_s]
  cases hg : good0 p with
  | false => rfl
  | true =>
    have R := good0_right h hg
    rw [Bool.not_true, cF, rRings_f m p.1.length p.2.1 hm (by have := h.P; omega) (by have := h.L; omega) R.fine.okL R.fine.twoL, bnd_s]
    have e : row (odd p.2.1) p.1.length 0 0 = none := R.n5
    unfold ringsv
    rw [e]; rfl
theorem rLoops_bad (m : Nat) {p : Poly} (h : chk p = false) : g_parquetref10_Loops (m + 1000) p = some ([], 2) := by
  unfold g_parquetref10_Loops b_parquetref10_Loops
  rw [show g_parquetref10_Right (m + 1000) (p.1, p.2.1, p.2.2) = some false from rRight_bad m h, bnd_s]
  rfl
def rsl (p : Poly) (a b : Int) : Bool → Nat → List Pt → Bool
  | own, _, [] => own || mid1 p a b
  | own, i, s :: r => if s = (a, b) ∨ s = (b, a) then rsl p a b (own || decide (i < p.2.1.length)) (i + 1) r else if (segs (pt p.1 a) (pt p.1 b) (pt p.1 s.1) (pt p.1 s.2)).1 > 1 then false else rsl p a b own (i + 1) r
theorem rsl_off (p : Poly) (a b : Int) (own : Bool) : ∀ (r : List Pt) (i : Nat), (∀ s ∈ r, ¬ (s = (a, b) ∨ s = (b, a)) ∧ ¬ (segs (pt p.1 a) (pt p.1 b) (pt p.1 s.1) (pt p.1 s.2)).1 > 1) → rsl p a b own i r = (own || mid1 p a b)
  | [], i, _ => rfl
  | s :: r, i, h => by
    have hs := h s List.mem_cons_self
    rw [rsl, if_neg hs.1, if_neg hs.2]
    exact rsl_off p a b own r (i + 1) fun t ht => h t (List.mem_cons_of_mem _ ht)
theorem rsl_isl {p : Poly} (R : Right p) (a b : Int) : ∀ (d i : Nat), (sgs p).length - i = d → i ≤ (sgs p).length → rsl p a b false i ((sgs p).drop i) = isl p a b i ((sgs p).drop i)
  | 0, i, hd, hi => by
    obtain rfl : i = (sgs p).length := by omega
    rw [List.drop_length]; rfl
  | d + 1, i, hd, hi => by
    have hi' : i < (sgs p).length := by omega
    rw [List.drop_eq_getElem_cons hi', rsl, isl]
    by_cases c : (sgs p)[i] = (a, b) ∨ (sgs p)[i] = (b, a)
    · rw [if_pos c, if_pos c]
      refine rsl_off p a b _ _ _ fun s hs => ?_
      obtain ⟨k, hk, rfl⟩ := List.mem_iff_getElem.1 hs
      rw [List.length_drop] at hk
      rw [List.getElem_drop]
      have hk' : i + 1 + k < (sgs p).length := by omega
      have hn := List.pairwise_iff_getElem.1 R.fine.two i (i + 1 + k) hi' hk' (by omega)
      have hno := (srch_spec (crossing (ens p)) (n := (ens p).length) _ 0 rfl (Nat.zero_le _)).1 R.fine.n3 i (i + 1 + k) (Nat.zero_le _) (by omega) (by rw [ens_len]; exact hk')
      unfold crossing at hno
      rw [sat_ens p hi', sat_ens p hk', pt_nat hi', pt_nat hk'] at hno
      have hno' := of_decide_eq_false hno
      refine ⟨fun e => hn ?_, fun h => hno' ?_⟩
      · refine nrm_eq ?_
        rcases c with c | c <;> rcases e with e | e <;> rw [c, e]
        · exact .inl ⟨rfl, rfl⟩
        · exact .inr ⟨rfl, rfl⟩
        · exact .inr ⟨rfl, rfl⟩
        · exact .inl ⟨rfl, rfl⟩
      · rcases c with c | c
        · rw [c]; exact h
        · rw [c]
          show (segs (pt p.1 b) (pt p.1 a) (pt p.1 _) (pt p.1 _)).1 > 1
          rw [segs_swap]; exact h
    · rw [if_neg c, if_neg c]
      split
      · rfl
      · exact rsl_isl R a b d (i + 1) (by omega) (by omega)
theorem rinsT (m : Nat) (a b c : Pt) : g_parquetref04_Inside (m + 1000) a b c = some (decide (Ins a b c)) := rInside_f (m + 900) a b c
theorem rsegsT (m : Nat) (a b c d : Pt) : g_parquetref04_Segs (m + 1000) a b c d = some (segs a b c d) := by rw [← rsegs_eq]; exact rSegs_f (m + 900) a b c d
theorem rInside_bad (m : Nat) {p : Poly} (h : chk p = false) (a b : Int) : g_parquetref10_Inside (m + 1000) p a b = some false := by
  unfold g_parquetref10_Inside b_parquetref10_Inside
  simp only [meet]
  rw [show g_parquetref10_Right (m + 1000) (p.1, p.2.1, p.2.2) = some false from rRight_bad m h, bnd_s]
  rfl
theorem rInside_v (m : Nat) {p : Poly} (h : Sm p) (a b : Int) : g_parquetref10_Inside (m + 1000) p a b = some (insv p a b) := by
  have hP := h.P
  have hL := h.L
  have hlen := h.len
  unfold g_parquetref10_Inside b_parquetref10_Inside
  simp only [meet]
  rw [show g_parquetref10_Right (m + 1000) (p.1, p.2.1, p.2.2) = some (good0 p) from rRight_f m h, bnd_s]
  unfold insv
  cases hg : good0 p with
  | false => rfl
  | true =>
  have R := good0_right h hg
  rw [Bool.not_true, cF, Bool.true_and]
  have no : ∀ h : ¬ (inr a p.1.length ∧ inr b p.1.length ∧ a ≠ b), may p a b = false := fun h => decide_eq_false h
  by_cases c1 : a < 0
  · rw [bif_T c1, cT, no (fun h => by have := h.1.1; omega)]; rfl
  rw [bif_F c1]
  by_cases c3 : b < 0
  · rw [bif_T c3, cT, no (fun h => by have := h.2.1.1; omega)]; rfl
  rw [bif_F c3]
  by_cases c2 : a ≥ (p.1.length : Int)
  · rw [bif_T c2, cT, no (fun h => by have := h.1.2; omega)]; rfl
  rw [bif_F c2]
  by_cases c4 : b ≥ (p.1.length : Int)
  · rw [bif_T c4, cT, no (fun h => by have := h.2.1.2; omega)]; rfl
  rw [bif_F c4]
  by_cases c5 : a = b
  · rw [bif_T c5, no (fun h => h.2.2 c5)]; rfl
  rw [bif_F c5, show may p a b = true from decide_eq_true ⟨⟨by omega, by omega⟩, ⟨by omega, by omega⟩, c5⟩, Bool.true_and]
  have ia : inb a p.1.length = true := inb_t ⟨by omega, by omega⟩
  have ib : inb b p.1.length = true := inb_t ⟨by omega, by omega⟩
  refine loop_list (fun i => (a, b, p, (i : Int))) p.1.length (fun i => some (((p.1.drop i).all fun q => !decide (Ins (pt p.1 a) (pt p.1 b) q)) && isl p a b 0 (sgs p))) ?_ ?_ (m + 1000) 0 (Nat.zero_le _) (by omega)
  · intro next
    dsimp only
    rw [bif_F (by omega), List.drop_length, List.all_nil, Bool.true_and]
    rw [show g_parquetref10_All (m + 1000) (p.1, p.2.1, p.2.2) = some (sgs p) from rAll_f _ h, bnd_s]
    have hz : isl p a b 0 (sgs p) = rsl p a b false 0 (sgs p) := (rsl_isl R a b _ 0 rfl (Nat.zero_le _)).symm
    rw [hz]
    refine loop_rel (fun c s v => ∃ (i : Nat) (own : Bool), i ≤ (sgs p).length ∧ c = (sgs p).length - i ∧ s = (a, b, p, sgs p, own, (i : Int)) ∧ v = some (rsl p a b own i ((sgs p).drop i))) ?_ (m + 1000) (sgs p).length _ _ ⟨0, false, Nat.zero_le _, rfl, rfl, rfl⟩ (by omega)
    rintro c s v ⟨i, own, hi, rfl, rfl, rfl⟩ next hn
    dsimp only
    by_cases hlt : i < (sgs p).length
    · have hok := h.s _ (List.getElem_mem hlt)
      have hin : inb (i : Int) (sgs p).length = true := inb_t ⟨by omega, by omega⟩
      simp only [hin, gT]
      rw [bif_T (by omega), rd_get _ _ i hlt, w64_id (x := (i : Int) + 1) (by omega) (by omega), List.drop_eq_getElem_cons hlt, rsl]
      have go : ∀ own', next (a, b, p, sgs p, own', (i : Int) + 1) = some (rsl p a b own' (i + 1) ((sgs p).drop (i + 1))) := fun own' => hn ((sgs p).length - (i + 1)) _ _ (by omega) ⟨i + 1, own', by omega, rfl, rfl, rfl⟩
      have e1 : inb (sgs p)[i].1 p.1.length = true := inb_r hok.1
      have e2 : inb (sgs p)[i].2 p.1.length = true := inb_r hok.2
      simp only [ia, ib, e1, e2, gT]
      generalize (sgs p)[i] = s at hok e1 e2 ⊢
      have yes : ∀ own', own' = (own || decide (i < p.2.1.length)) → next (a, b, p, sgs p, own', (i : Int) + 1) = some (rsl p a b (own || decide (i < p.2.1.length)) (i + 1) ((sgs p).drop (i + 1))) := by
        intro own' h; rw [h]; exact go _
      have same : (bif own then next (a, b, p, sgs p, true, (i : Int) + 1) else next (a, b, p, sgs p, decide ((i : Int) < (p.2.1.length : Int)), (i : Int) + 1)) = some (rsl p a b (own || decide (i < p.2.1.length)) (i + 1) ((sgs p).drop (i + 1))) := by
        cases own with
        | true => exact yes true rfl
        | false => exact yes _ (by rw [Bool.false_or, decide_eq_decide]; omega)
      have other : ∀ z, z = next (a, b, p, sgs p, own, (i : Int) + 1) → (bnd (g_parquetref04_Segs (m + 1000) ((rdD (0, 0) p.1 a).1, (rdD (0, 0) p.1 a).2) ((rdD (0, 0) p.1 b).1, (rdD (0, 0) p.1 b).2) ((rdD (0, 0) p.1 s.1).1, (rdD (0, 0) p.1 s.1).2) ((rdD (0, 0) p.1 s.2).1, (rdD (0, 0) p.1 s.2).2)) fun r39 => bif decide (r39.1 > 1) then some false else z) = some (if (segs (pt p.1 a) (pt p.1 b) (pt p.1 s.1) (pt p.1 s.2)).1 > 1 then false else rsl p a b own (i + 1) ((sgs p).drop (i + 1))) := by
        intro z hz
        rw [rsegsT, bnd_s, hz]
        by_cases c8 : (segs (pt p.1 a) (pt p.1 b) (pt p.1 s.1) (pt p.1 s.2)).1 > 1
        · rw [if_pos c8]; exact bif_t (decide_eq_true c8)
        · rw [if_neg c8]; exact (bif_f (decide_eq_false c8)).trans (go own)
      have q1 : s = (a, b) ↔ s.1 = a ∧ s.2 = b := Prod.ext_iff
      have q2 : s = (b, a) ↔ s.1 = b ∧ s.2 = a := Prod.ext_iff
      by_cases c1 : s.1 = a
      · rw [bif_T c1]
        by_cases c2 : s.2 = b
        · rw [bif_T c2, cT, if_pos (.inl (q1.2 ⟨c1, c2⟩))]
          exact same
        · rw [bif_F c2]
          by_cases c3 : s.1 = b
          · rw [bif_T c3]
            exact absurd (c1.symm.trans c3) c5
          · rw [bif_F c3, cF, if_neg (fun h => h.elim (fun h => c2 (q1.1 h).2) (fun h => c3 (q2.1 h).1))]
            exact other _ rfl
      · rw [bif_F c1]
        by_cases c3 : s.1 = b
        · rw [bif_T c3]
          by_cases c4 : s.2 = a
          · rw [decide_eq_true c4, cT, if_pos (.inr (q2.2 ⟨c3, c4⟩))]
            exact same
          · rw [decide_eq_false c4, cF, if_neg (fun h => h.elim (fun h => c1 (q1.1 h).1) (fun h => c4 (q2.1 h).2))]
            exact other _ rfl
        · rw [bif_F c3, cF, if_neg (fun h => h.elim (fun h => c1 (q1.1 h).1) (fun h => c3 (q2.1 h).1))]
          exact other _ rfl
    · obtain rfl : i = (sgs p).length := by omega
      rw [bif_F (by omega), List.drop_length, midT m _ _ _ (by simp) (by simp) (by omega), bnd_s]
      cases own <;> rfl
  · intro i hi next hn
    dsimp only at hn ⊢
    have hin : inb (i : Int) p.1.length = true := inb_t ⟨by omega, by omega⟩
    rw [bif_T (by omega)]
    simp only [ia, ib, hin, gT]
    rw [rinsT, bnd_s, w64_id (x := (i : Int) + 1) (by omega) (by omega), rd_get _ p.1 i hi, List.drop_eq_getElem_cons hi, List.all_cons]
    by_cases c : Ins (pt p.1 a) (pt p.1 b) p.1[i]
    · rw [decide_eq_true c]
      exact bif_t (decide_eq_true c)
    · rw [decide_eq_false c, Bool.not_false, Bool.true_and]
      exact (bif_f (decide_eq_false c)).trans hn

/-! ### from whichever end -/
theorem midv_swap (p l : List Pt) (a b : Int) : midv p l [a, b] = midv p l [b, a] := by
  unfold midv
  have e1 : oki p [a, b] = oki p [b, a] := by
    rw [oki_cons, oki_cons, oki_cons, oki_cons]
    cases decide (OkI p a) <;> cases decide (OkI p b) <;> rfl
  have e2 : sumP p (0, 0) [a, b] = sumP p (0, 0) [b, a] := by
    simp only [sumP]
    refine Prod.ext ?_ ?_ <;> dsimp only <;> omega
  rw [e1, e2]
  rfl
theorem isl_swap (p : Poly) (a b : Int) : ∀ (l : List Pt) (i : Nat), isl p b a i l = isl p a b i l
  | [], i => by
    unfold isl mid1; rw [midv_swap]
  | s :: r, i => by
    have em : mid1 p b a = mid1 p a b := by unfold mid1; rw [midv_swap]
    rw [isl, isl, em, segs_swap, isl_swap p a b r (i + 1)]
    by_cases c : s = (a, b) ∨ s = (b, a)
    · rw [if_pos c, if_pos c.symm]
    · rw [if_neg c, if_neg (fun h => c h.symm)]
theorem insv_swap (p : Poly) (a b : Int) : insv p b a = insv p a b := by
  unfold insv
  have e1 : may p b a = may p a b := by
    unfold may
    rw [decide_eq_decide]
    exact ⟨fun h => ⟨h.2.1, h.1, fun e => h.2.2 e.symm⟩, fun h => ⟨h.2.1, h.1, fun e => h.2.2 e.symm⟩⟩
  have e2 : noIns p b a = noIns p a b := by
    unfold noIns
    congr 1
    funext q
    rw [decide_eq_decide.2 (ins_swap (a := pt p.1 b) (b := pt p.1 a) (p := q))]
  rw [e1, e2, isl_swap]
theorem sameI_f (m : Nat) (a : List Int) (hl : a.length ≤ 350) : g_parquetref00_SameInts (m + 1000) a a = some true := by
  unfold g_parquetref00_SameInts
  rw [show (!(decide ((a.length : Int) = (a.length : Int)))) = false from by rw [decide_eq_true rfl]; rfl, cF]
  refine loop_list (fun i => (a, a, (i : Int))) a.length (fun _ => some true) ?_ ?_ (m + 1000) 0 (Nat.zero_le _) (by omega)
  · intro next
    dsimp only
    rw [bif_F (by omega)]
  · intro i hi next hn
    dsimp only at hn ⊢
    rw [bif_T (by omega), gd_t (inb_t ⟨by omega, by omega⟩), gd_t (inb_t ⟨by omega, by omega⟩), decide_eq_true rfl, Bool.not_true, cF, w64_id (by omega) (by omega)]
    exact hn
theorem outs_mem {n : Nat} {L : List Pt} (lp : Lp n L) : ∀ i, i ≤ n → ∀ r ∈ outs L n i, ∃ v : Int, Dg L n v ∧ r = ring (nbr L) n v
  | 0, _, r, hr => by simp [outs] at hr
  | i + 1, hi, r, hr => by
    rw [outs_succ] at hr
    unfold rstep at hr
    split at hr
    · exact outs_mem lp i (by omega) r hr
    · rename_i c
      rcases List.mem_append.1 hr with hr | hr
      · exact outs_mem lp i (by omega) r hr
      · have hd : dgr L (i : Int) = 2 := (lp.deg i (by omega)).resolve_left (fun h => c (.inl h))
        exact ⟨(i : Int), ⟨⟨by omega, by omega⟩, hd⟩, List.mem_singleton.1 hr⟩
end Go.Proofs.Ytjbimhfhapnjeaa.Pure
end
