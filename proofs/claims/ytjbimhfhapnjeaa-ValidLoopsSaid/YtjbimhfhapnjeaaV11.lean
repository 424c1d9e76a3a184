/- All loops, by the reference: they are the same. -/
import Derived.Test.YtjbimhfhapnjeaaV10
set_option linter.unusedVariables false
set_option linter.unusedSimpArgs false
namespace Go.Proofs.Ytjbimhfhapnjeaa.Pure
open Go.RowKit Go.Proofs.Ytjbimhfhapnjeaa.AM PL

abbrev Dg (L : List Pt) (n : Nat) : Int → Prop := fun v => (0 ≤ v ∧ v < (n : Int)) ∧ dgr L v = 2
theorem bsv_walk {n : Nat} {L : List Pt} (lp : Lp n L) {i fr : Int} {r : List Int} {a : Int} (w : Wk (Dg L n) (nbr L) i fr r a) (hmin : r = [] → a = mnI (nbr L fr).1 (nbr L fr).2) :
    bsv L fr (fr :: r).reverse = if a = i then -1 else a := by
  have G := lp.rg
  have hfr := w.d fr List.mem_cons_self
  obtain ⟨x, y, e, e', hne, hx, hy⟩ := lp.two_nl hfr.2
  have hnv := G.nv fr hfr
  have hto := w.to
  have hpr := w.pr
  rw [e'] at hnv hto hpr hmin
  dsimp only at hnv hto hpr hmin
  have hval : bsv L fr (fr :: r).reverse = bs (fr :: r).reverse (bs (fr :: r).reverse (-1) x) y := by unfold bsv; rw [e]; rfl
  rw [hval]
  have hmem : ∀ u, u ∈ (fr :: r).reverse ↔ u ∈ fr :: r := fun u => List.mem_reverse
  cases r with
  | nil =>
    have hfi : fr = i := by have := w.last; simpa using this
    have hxr : ¬ x ∈ [fr].reverse := fun h => hnv.1 (by simpa using h)
    have hyr : ¬ y ∈ [fr].reverse := fun h => hnv.2 (by simpa using h)
    have ha := hmin rfl
    have e1 : bs [fr].reverse (-1) x = x := by unfold bs; rw [if_neg hxr, if_pos (.inl (by omega))]
    rw [e1]
    have hai : a ≠ i := by
      rw [← hfi]
      rcases hto with h | h <;> rw [h]
      · exact hnv.1
      · exact hnv.2
    rw [if_neg hai, ha]
    unfold bs mnI
    rw [if_neg hyr]
    by_cases c : y < x
    · rw [if_pos (.inr c), if_pos c]
    · rw [if_neg (fun h => h.elim (fun h => by omega) c), if_neg c]
  | cons p r =>
    obtain ⟨hp, hap⟩ := hpr p rfl
    have hpm : p ∈ (fr :: p :: r).reverse := (hmem p).2 (by simp)
    have hai : (a ∈ (fr :: p :: r).reverse) ↔ a = i := by
      rw [hmem]
      constructor
      · intro h
        by_cases e : a = i
        · exact e
        · exact absurd h (w.new G e)
      · intro h
        rw [h]
        exact List.mem_of_getLast? w.last
    have hone : ∀ u, 0 ≤ u → bs (fr :: p :: r).reverse (-1) u = if u ∈ (fr :: p :: r).reverse then -1 else u := by
      intro u hu
      unfold bs
      split
      · rfl
      · rw [if_pos (.inl (by omega))]
    rcases hp with hp | hp
    · have ha : a = y := hto.resolve_left (fun h => hap (h.trans hp.symm))
      subst hp
      rw [hone p hx, if_pos hpm, hone y hy, ← ha]
      by_cases c : a = i
      · rw [if_pos c, if_pos (hai.2 c)]
      · rw [if_neg c, if_neg (fun h => c (hai.1 h))]
    · have ha : a = x := hto.resolve_right (fun h => hap (h.trans hp.symm))
      subst hp
      have e2 : ∀ b, bs (fr :: p :: r).reverse b p = b := fun b => by unfold bs; rw [if_pos hpm]
      rw [e2, hone x hx, ← ha]
      by_cases c : a = i
      · rw [if_pos c, if_pos (hai.2 c)]
      · rw [if_neg c, if_neg (fun h => c (hai.1 h))]
theorem ring_len {n : Nat} {L : List Pt} (lp : Lp n L) {i : Int} (h : Dg L n i) : (ring (nbr L) n i).length ≤ n := by
  obtain ⟨fr, r, e, w, _⟩ := ring_spec lp.rg h
  rw [e, List.length_reverse]
  exact w.len lp.rg
theorem flat_len {n : Nat} {L : List Pt} (lp : Lp n L) : ∀ i, i ≤ n → (outs L n i).flatten.length ≤ i * n
  | 0, _ => by simp [outs]
  | i + 1, hi => by
    have ih := flat_len lp i (by omega)
    rw [outs_succ]
    unfold rstep
    by_cases c : dgr L (i : Int) = 0 ∨ (i : Int) ∈ (outs L n i).flatten
    · rw [if_pos c]
      exact Nat.le_trans ih (Nat.mul_le_mul_right _ (by omega))
    · rw [if_neg c]
      have hd : dgr L (i : Int) = 2 := (lp.deg i (by omega)).resolve_left (fun h => c (.inl h))
      have := ring_len lp (i := (i : Int)) ⟨⟨by omega, by omega⟩, hd⟩
      rw [List.flatten_append, List.length_append, Nat.succ_mul]
      simp only [List.flatten_cons, List.flatten_nil, List.append_nil]
      omega
theorem rRings_f (m n : Nat) (L : List Pt) (hm : 130000 ≤ m) (hn : n ≤ 350) (hL : L.length ≤ 350) (ok : ∀ s ∈ L, oks n s ∧ s.1 ≠ s.2) (two : L.Pairwise fun a b => nrm a ≠ nrm b) : g_parquetref08_Rings (m + 1000) (n : Int) L = some (ringsv L n) := by
  unfold g_parquetref08_Rings b_parquetref08_Rings
  rw [rDegrees_f m n L hn hL ok, bnd_s]
  rw [show (!(decide ((dgs L n, (0 : Int)).2 = 0))) = false from rfl, cF]
  refine loop_list (fun i => ((n : Int), L, dgs L n, (i : Int))) L.length (fun _ => some (ringsv L n)) ?_ ?_ (m + 1000) 0 (Nat.zero_le _) (by omega)
  · intro next
    dsimp only
    rw [bif_F (by omega)]
    unfold ringsv
    have step : ∀ (i : Nat) (hi : i < n) (A B : Option (List (List Int) × Int × Int)),
        (bif decide ((i : Int) < (n : Int)) then (gd (inb (i : Int) (dgs L n).length) <| bif !(decide ((rdD 0 (dgs L n) (i : Int)) = 0)) then (gd (inb (i : Int) (dgs L n).length) <| (bif !(decide ((rdD 0 (dgs L n) (i : Int)) = 2)) then A else B)) else (bif false then A else B)) else none) = if odd L 0 i = true then A else B := by
      intro i hi A B
      have hin : inb (i : Int) (dgs L n).length = true := inb_t ⟨by omega, by rw [dgs_len]; omega⟩
      simp only [hin, gT]
      rw [bif_T (by omega), dgs_get L n hi]
      have eo : odd L 0 i = (!decide ((dgr L (i : Int) : Int) = 0) && !decide ((dgr L (i : Int) : Int) = 2)) := by
        unfold odd
        rw [show decide ((dgr L (i : Int) : Int) = 0) = decide (dgr L (i : Int) = 0) from decide_eq_decide.2 (by omega), show decide ((dgr L (i : Int) : Int) = 2) = decide (dgr L (i : Int) = 2) from decide_eq_decide.2 (by omega)]
        rw [decide_not, decide_not]
      rw [eo]
      cases decide ((dgr L (i : Int) : Int) = 0) <;> cases decide ((dgr L (i : Int) : Int) = 2) <;> rfl
    have bifT : ∀ (i : Nat) (hi : i < n) (X Y : Option (List (List Int) × Int × Int)), (bif decide ((i : Int) < (n : Int)) then X else Y) = (bif decide ((i : Int) < (n : Int)) then X else none) := by
      intro i hi X Y
      rw [bif_T (by omega), bif_T (by omega)]
    obtain ⟨r1, r2⟩ := row_spec (odd L) (n := n) (a := 0) _ 0 rfl (Nat.zero_le _)
    cases hodd : row (odd L) n 0 0 with
    | some k =>
      obtain ⟨_, hk, hof, hmin⟩ := r2 k hodd
      refine loop_list (fun i => ((n : Int), L, dgs L n, (i : Int))) k (fun _ => some ([], (k : Int), 81)) ?_ ?_ (m + 1000) 0 (Nat.zero_le _) (by omega)
      · intro next
        dsimp only
        simp only [meet]
        rw [bifT k hk]
        refine (step k hk _ _).trans ?_
        rw [if_pos hof]
      · intro i hi next hn'
        dsimp only at hn' ⊢
        simp only [meet]
        rw [bifT i (by omega)]
        refine (step i (by omega) _ _).trans ?_
        rw [if_neg (fun h => by have := hmin i (Nat.zero_le _) (by omega) h; omega), w64_id (x := (i : Int) + 1) (by omega) (by omega)]
        exact hn'
    | none =>
      have lp := lp_of ok two hodd
      have G := lp.rg
      refine loop_list (fun i => ((n : Int), L, dgs L n, (i : Int))) n (fun _ => some (outs L n n, 0, 0)) ?_ ?_ (m + 1000) 0 (Nat.zero_le _) (by omega)
      · intro next
        dsimp only
        rw [bif_F (by omega)]
        refine loop_list (fun i => ((n : Int), L, dgs L n, outs L n i, (outs L n i).flatten, (i : Int))) n (fun _ => some (outs L n n, 0, 0)) ?_ ?_ (m + 1000) 0 (Nat.zero_le _) (by omega)
        · intro next
          dsimp only
          rw [bif_F (by omega)]
        · intro i hi next hn'
          have hfl := flat_len lp i (by omega)
          have hmul : i * n ≤ 350 * 350 := Nat.mul_le_mul (by omega) hn
          dsimp only at hn' ⊢
          simp only [meet]
          rw [bif_T (by omega), gd_t (inb_t ⟨by omega, by rw [dgs_len]; omega⟩), dgs_get L n hi]
          rw [outs_succ] at hn'
          have hsk : (dgr L (i : Int) = 0 ∨ (i : Int) ∈ (outs L n i).flatten) → next ((n : Int), L, dgs L n, outs L n i, (outs L n i).flatten, (i : Int) + 1) = some (outs L n n, 0, 0) := by
            intro h
            unfold rstep at hn'
            rw [if_pos h] at hn'
            exact hn'
          have ed : decide ((dgr L (i : Int) : Int) = 0) = decide (dgr L (i : Int) = 0 ∨ (i : Int) ∈ (outs L n i).flatten.take 0) := decide_eq_decide.2 (by simp)
          rw [ed]
          refine loop_list (fun k => ((n : Int), L, dgs L n, outs L n i, (outs L n i).flatten, (i : Int), decide (dgr L (i : Int) = 0 ∨ (i : Int) ∈ (outs L n i).flatten.take k), (k : Int))) (outs L n i).flatten.length (fun _ => some (outs L n n, 0, 0)) ?_ ?_ (m + 1000) 0 (Nat.zero_le _) (by omega)
          · intro next2
            dsimp only
            rw [bif_F (by omega), List.take_length, w64_id (x := (i : Int) + 1) (by omega) (by omega)]
            by_cases hs : dgr L (i : Int) = 0 ∨ (i : Int) ∈ (outs L n i).flatten
            · rw [decide_eq_true hs, cT]
              exact hsk hs
            rw [decide_eq_false hs, cF]
            unfold rstep at hn'
            rw [if_neg hs] at hn'
            have hdi : dgr L (i : Int) = 2 := (lp.deg i hi).resolve_left (fun h => hs (.inl h))
            have hD : Dg L n (i : Int) := ⟨⟨by omega, by omega⟩, hdi⟩
            obtain ⟨fr0, r0, hr0, w0, hi0⟩ := ring_spec G hD
            refine loop_rel (fun c s v => ∃ (fr : Int) (r : List Int) (a : Int), Wk (Dg L n) (nbr L) (i : Int) fr r a ∧ (r = [] → a = mnI (nbr L fr).1 (nbr L fr).2) ∧ c = n - (fr :: r).length ∧ walk (nbr L) (i : Int) (n + 1 - (fr :: r).length + 1) fr r a = fr0 :: r0 ∧
                s = ((n : Int), L, dgs L n, outs L n i, (outs L n i).flatten, (i : Int), (fr :: r).reverse) ∧ v = some (outs L n n, 0, 0)) ?_ (m + 1000) (n - 1) _ _ ⟨(i : Int), [], mnI (nbr L (i : Int)).1 (nbr L (i : Int)).2, Wk.first hD (mnI_or _ _), fun _ => rfl, by simp, ?_, rfl, rfl⟩ (by omega)
            · rintro c s v ⟨fr, r, a, w, hmin, rfl, hw, rfl, rfl⟩ next3 hn3
              have hlen := w.len G
              have hl1 : ((fr :: r).reverse).length = r.length + 1 := by simp
              have hlast : rdD 0 (fr :: r).reverse ((r.length : Nat) : Int) = fr := by
                rw [rd_get _ _ r.length (by simp)]; simp
              have el : w64 ((((fr :: r).reverse).length : Int) - 1) = ((r.length : Nat) : Int) := by
                simp only [List.length_cons] at hlen
                rw [hl1, w64_id (by omega) (by omega)]; omega
              dsimp only
              simp only [List.length_cons] at hlen
              rw [el, gd_t (inb_t ⟨by omega, by rw [hl1]; omega⟩), hlast, beside_f m n L fr _ hL (by rw [hl1]; omega) ok, bnd_s, bsv_walk lp w hmin]
              by_cases e : a = (i : Int)
              · rw [if_pos e, bif_T (by omega)]
                subst e
                rw [walk, if_pos rfl] at hw
                have hol := outs_len L n i
                rw [gd_t (few_t (by omega)), gd_t (few_t (by rw [hl1]; omega)), w64_id (x := (i : Int) + 1) (by omega) (by omega)]
                rw [hw, ← hr0]
                have ef : (outs L n i ++ [ring (nbr L) n (i : Int)]).flatten = (outs L n i).flatten ++ ring (nbr L) n (i : Int) := by simp
                rw [ef] at hn'
                exact hn'
              · have w' := w.step G e
                have ha := (w'.d a List.mem_cons_self).1
                have hlen' := w'.len G
                rw [if_neg e, bif_F (by omega), gd_t (few_t (by rw [hl1]; omega))]
                refine hn3 (n - (a :: fr :: r).length) _ _ (by simp only [List.length_cons] at hlen' ⊢; omega) ⟨a, fr :: r, oth (nbr L a) fr, w', fun h => (by cases h), rfl, ?_, by simp, rfl⟩
                rw [walk, if_neg e] at hw
                rw [show n + 1 - (a :: fr :: r).length + 1 = n + 1 - (fr :: r).length from by simp only [List.length_cons] at hlen' ⊢; omega]
                exact hw
            · have : ring (nbr L) n (i : Int) = (walk (nbr L) (i : Int) (n + 1) (i : Int) [] (mnI (nbr L (i : Int)).1 (nbr L (i : Int)).2)).reverse := rfl
              rw [this] at hr0
              have := List.reverse_inj.1 hr0
              rw [show n + 1 - [(i : Int)].length + 1 = n + 1 from by simp]
              exact this
          · intro k hk next2 hn2
            dsimp only at hn2 ⊢
            rw [bif_T (by omega), rd_get _ _ k hk, w64_id (x := (k : Int) + 1) (by omega) (by omega)]
            rw [List.take_succ_eq_append_getElem hk] at hn2
            by_cases c : dgr L (i : Int) = 0 ∨ (i : Int) ∈ (outs L n i).flatten.take k
            · rw [decide_eq_true c, cT]
              rw [decide_eq_true (c.imp id fun h => List.mem_append_left _ h)] at hn2
              exact hn2
            · rw [decide_eq_false c, cF, gd_t (inb_t ⟨by omega, by omega⟩)]
              have : decide ((outs L n i).flatten[k] = (i : Int)) = decide (dgr L (i : Int) = 0 ∨ (i : Int) ∈ (outs L n i).flatten.take k ++ [(outs L n i).flatten[k]]) := by
                rw [decide_eq_decide]
                constructor
                · intro h; exact .inr (List.mem_append_right _ (by rw [h]; simp))
                · rintro (h | h)
                  · exact absurd (.inl h) c
                  · rcases List.mem_append.1 h with h | h
                    · exact absurd (.inr h) c
                    · exact (List.mem_singleton.1 h).symm
              rw [this]
              exact hn2
      · intro i hi next hn'
        dsimp only at hn' ⊢
        simp only [meet]
        rw [bifT i (by omega)]
        refine (step i (by omega) _ _).trans ?_
        rw [if_neg (by rw [r1 hodd i (Nat.zero_le _) hi]; simp), w64_id (x := (i : Int) + 1) (by omega) (by omega)]
        exact hn'
  · intro i hi next hn'
    dsimp only at hn' ⊢
    rw [bif_T (by omega)]
    refine loop_list (fun k => ((n : Int), L, dgs L n, (i : Int), (k : Int))) i (fun _ => some (ringsv L n)) ?_ ?_ (m + 1000) 0 (Nat.zero_le _) (by omega)
    · intro next2
      dsimp only
      rw [bif_F (by omega), w64_id (x := (i : Int) + 1) (by omega) (by omega)]
      exact hn'
    · intro k hk next2 hn2
      dsimp only at hn2 ⊢
      rw [bif_T (by omega), gd_t (inb_t ⟨by omega, by omega⟩), gd_t (inb_t ⟨by omega, by omega⟩), rd_get _ L i hi, rd_get _ L k (by omega), w64_id (x := (k : Int) + 1) (by omega) (by omega)]
      simp only [etaP]
      rw [like_f, bnd_s, bif_F (fun e => List.pairwise_iff_getElem.1 two k i (by omega) hi hk e.symm)]
      exact hn2
end Go.Proofs.Ytjbimhfhapnjeaa.Pure
