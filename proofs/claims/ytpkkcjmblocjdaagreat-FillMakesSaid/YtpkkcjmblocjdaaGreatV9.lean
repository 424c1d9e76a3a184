/- All loops, by the program. -/
import Derived.Test.YtpkkcjmblocjdaaGreatV5
section
set_option linter.unusedVariables false
set_option linter.unusedSimpArgs false
namespace Go.Proofs.YtpkkcjmblocjdaaGreat.Pure
open Go.RowKit Go.Proofs.YtpkkcjmblocjdaaGreat.AM PL

def allv (L : List Pt) (n : Nat) : List Pt := (List.range n).map fun (j : Nat) => nbr L (j : Int)
theorem allv_len (L : List Pt) (n : Nat) : (allv L n).length = n := by unfold allv; simp
theorem allv_get (L : List Pt) (n : Nat) {i : Nat} (h : i < n) : rdD (0, 0) (allv L n) (i : Int) = nbr L (i : Int) := by
  rw [rd_get _ _ i (by rw [allv_len]; exact h)]
  simp [allv]
theorem nbr_snoc (L : List Pt) (s : Pt) (v : Int) (hs : s.1 ≠ s.2) : nbr (L ++ [s]) v = if s.1 = v then put (nbr L v) s.2 else if s.2 = v then put (nbr L v) s.1 else nbr L v := by
  unfold nbr
  rw [nl_snoc]
  unfold nbv
  rw [List.foldl_append]
  by_cases h1 : s.1 = v
  · rw [if_pos h1, if_pos h1, if_neg (fun e => hs (h1.trans e.symm))]; rfl
  · rw [if_neg h1, if_neg h1]
    by_cases h2 : s.2 = v
    · rw [if_pos h2, if_pos h2]; rfl
    · rw [if_neg h2, if_neg h2]; rfl
theorem allv_snoc (L : List Pt) (n a b : Nat) (ha : a < n) (hb : b < n) (hab : a ≠ b) :
    stL (stL (allv L n) (a : Int) (put (nbr L (a : Int)) (b : Int))) (b : Int) (put (nbr L (b : Int)) (a : Int)) = allv (L ++ [((a : Int), (b : Int))]) n := by
  unfold stL
  simp only [Int.toNat_natCast]
  apply List.ext_getElem
  · simp [allv_len]
  · intro j h3 h4
    have hj : j < n := by rw [allv_len] at h4; exact h4
    rw [List.getElem_set, List.getElem_set]
    simp only [allv, List.getElem_map, List.getElem_range]
    rw [nbr_snoc _ _ _ (by dsimp only; omega)]
    dsimp only
    by_cases e1 : b = j
    · subst e1
      rw [if_pos rfl, if_neg (by omega), if_pos rfl]
    · rw [if_neg e1]
      by_cases e2 : a = j
      · subst e2
        rw [if_pos rfl, if_pos rfl]
      · rw [if_neg e2, if_neg (by omega), if_neg (by omega)]
theorem allv_at (L : List Pt) (n a b : Nat) (x : Pt) (ha : a < n) (hb : b < n) (hab : a ≠ b) : rdD (0, 0) (stL (allv L n) (a : Int) x) (b : Int) = nbr L (b : Int) := by
  rw [← allv_get L n hb]
  unfold rdD stL
  simp only [Int.toNat_natCast, List.getD_eq_getElem?_getD]
  rw [List.getElem?_set_ne hab]
def sv (n : Nat) (F : List Int) : List Bool := (List.range n).map fun (j : Nat) => decide ((j : Int) ∈ F)
theorem sv_len (n : Nat) (F : List Int) : (sv n F).length = n := by unfold sv; simp
theorem sv_get (n : Nat) (F : List Int) {i : Nat} (h : i < n) : rdD false (sv n F) (i : Int) = decide ((i : Int) ∈ F) := by
  rw [rd_get _ _ i (by rw [sv_len]; exact h)]
  simp [sv]
theorem sv_snoc (n : Nat) (F : List Int) {k : Nat} (h : k < n) : stL (sv n F) (k : Int) true = sv n (F ++ [(k : Int)]) := by
  unfold stL
  simp only [Int.toNat_natCast]
  apply List.ext_getElem
  · simp [sv_len]
  · intro j h3 h4
    rw [List.getElem_set]
    simp only [sv, List.getElem_map, List.getElem_range]
    by_cases e : k = j
    · subst e; rw [if_pos rfl]; simp
    · rw [if_neg e, decide_eq_decide]; simp; omega
def rstep (L : List Pt) (n : Nat) (out : List (List Int)) (i : Nat) : List (List Int) := if dgr L (i : Int) = 0 ∨ (i : Int) ∈ out.flatten then out else out ++ [ring (nbr L) n (i : Int)]
def outs (L : List Pt) (n i : Nat) : List (List Int) := (List.range i).foldl (rstep L n) []
theorem outs_succ (L : List Pt) (n i : Nat) : outs L n (i + 1) = rstep L n (outs L n i) i := by
  unfold outs; rw [List.range_succ, List.foldl_append]; rfl
theorem outs_len (L : List Pt) (n : Nat) : ∀ i, (outs L n i).length ≤ i
  | 0 => Nat.le_refl _
  | i + 1 => by
    rw [outs_succ]
    have := outs_len L n i
    unfold rstep
    split
    · omega
    · rw [List.length_append, List.length_singleton]; omega
theorem other_f (k : Nat) (x : Pt) (f : Int) : g_rings_next_other k x f = some (oth x f) := by
  unfold g_rings_next_other oth
  by_cases h : x.1 = f
  · rw [bif_T h, if_pos h]
  · rw [bif_F h, if_neg h]
def ringsv (L : List Pt) (n : Nat) : List (List Int) × Int × Int := match row (odd L) n 0 0 with | some k => ([], (k : Int), 81) | none => (outs L n n, 0, 0)
theorem lp_of {n : Nat} {L : List Pt} (ok : ∀ s ∈ L, oks n s ∧ s.1 ≠ s.2) (two : L.Pairwise fun a b => nrm a ≠ nrm b) (h : row (odd L) n 0 0 = none) : Lp n L := by
  refine ⟨ok, two, fun v hv => ?_⟩
  have := (row_spec (odd L) (n := n) (a := 0) _ 0 rfl (Nat.zero_le _)).1 h v (Nat.zero_le _) hv
  unfold odd at this
  by_cases h0 : dgr L (v : Int) = 0
  · exact .inl h0
  · by_cases h2 : dgr L (v : Int) = 2
    · exact .inr h2
    · rw [decide_eq_true h0, decide_eq_true h2] at this
      cases this
theorem Rings_f (m n : Nat) (L : List Pt) (hn : n ≤ 350) (hL : L.length ≤ 350) (ok : ∀ s ∈ L, oks n s ∧ s.1 ≠ s.2) (two : L.Pairwise fun a b => nrm a ≠ nrm b) : g_rings_Rings (m + 1000) (n : Int) L = some (ringsv L n) := by
  unfold g_rings_Rings b_rings_Rings ringsv
  rw [Degrees_f m n L hn hL ok, bnd_s]
  rw [show (!(decide ((dgs L n, (0 : Int)).2 = 0))) = false from rfl, cF, twiceR_f m L hL two, bnd_s, bif_F (by omega), IndexFunc_f m n L hn, bnd_s]
  cases hodd : row (odd L) n 0 0 with
  | some k => rw [bif_T (show ((k : Nat) : Int) ≥ 0 by omega)]
  | none =>
    have lp := lp_of ok two hodd
    have G := lp.rg
    rw [bif_F (show ¬ ((-1 : Int) ≥ 0) by omega), gd_t (decide_eq_true (by omega)), gd_t (by unfold fewI; exact few_t (by omega))]
    simp only [meet]
    -- all places have no neighbours yet
    have e0 : ∀ i : Nat, i ≤ n → (List.replicate i ((-1 : Int), (-1 : Int)) ++ List.replicate (n - i) ((0 : Int), (0 : Int))).length = n := fun i hi => by simp; omega
    have er : rpL (n : Int) ((0 : Int), (0 : Int)) = List.replicate 0 ((-1 : Int), (-1 : Int)) ++ List.replicate (n - 0) ((0 : Int), (0 : Int)) := by
      unfold rpL; rw [Int.toNat_natCast]; simp
    have el : ((rpL (n : Int) ((0 : Int), (0 : Int)) : List (Int × Int)).length : Int) = (n : Int) := by
      unfold rpL; simp
    rw [el, er]
    refine loop_list (fun i => ((n : Int), L, dgs L n, List.replicate i ((-1 : Int), (-1 : Int)) ++ List.replicate (n - i) ((0 : Int), (0 : Int)), (n : Int), (i : Int))) n (fun _ => some (outs L n n, 0, 0)) ?_ ?_ (m + 1000) 0 (Nat.zero_le _) (by omega)
    · intro next
      dsimp only
      rw [bif_F (by omega), Nat.sub_self]
      have e1 : List.replicate n ((-1 : Int), (-1 : Int)) ++ List.replicate 0 ((0 : Int), (0 : Int)) = allv (L.take 0) n := by
        unfold allv
        apply List.ext_getElem
        · simp
        · intro j h1 h2
          simp [nbr, nl, nbv]
      rw [e1]
      refine loop_list (fun i => ((n : Int), dgs L n, allv (L.take i) n, L, (L.length : Int), (i : Int))) L.length (fun _ => some (outs L n n, 0, 0)) ?_ ?_ (m + 1000) 0 (Nat.zero_le _) (by omega)
      · intro next
        dsimp only
        rw [bif_F (by omega), List.take_length, gd_t (decide_eq_true (by omega)), gd_t (by unfold fewI; exact few_t (by omega)), allv_len]
        have e2 : rpL (n : Int) false = sv n (outs L n 0).flatten := by
          unfold rpL sv
          rw [Int.toNat_natCast]
          apply List.ext_getElem
          · simp
          · intro j h1 h2
            simp [outs]
        rw [e2]
        refine loop_list (fun i => (dgs L n, allv L n, sv n (outs L n i).flatten, outs L n i, (n : Int), (i : Int))) n (fun _ => some (outs L n n, 0, 0)) ?_ ?_ (m + 1000) 0 (Nat.zero_le _) (by omega)
        · intro next
          dsimp only
          rw [bif_F (by omega)]
        · intro i hi next hn'
          dsimp only at hn' ⊢
          rw [bif_T (by omega), gd_t (inb_t ⟨by omega, by rw [dgs_len]; omega⟩), dgs_get L n hi, w64_id (x := (i : Int) + 1) (by omega) (by omega)]
          rw [outs_succ] at hn'
          have skip : (dgr L (i : Int) = 0 ∨ (i : Int) ∈ (outs L n i).flatten) → next (dgs L n, allv L n, sv n (outs L n i).flatten, outs L n i, (n : Int), (i : Int) + 1) = some (outs L n n, 0, 0) := by
            intro h
            unfold rstep at hn'
            rw [if_pos h] at hn'
            exact hn'
          by_cases hd : dgr L (i : Int) = 0
          · rw [bif_T (by omega), cT]
            exact skip (.inl hd)
          rw [bif_F (by omega), gd_t (inb_t ⟨by omega, by rw [sv_len]; omega⟩), sv_get n _ hi]
          by_cases hs : (i : Int) ∈ (outs L n i).flatten
          · rw [decide_eq_true hs, cT]
            exact skip (.inr hs)
          rw [decide_eq_false hs, cF]
          have hdi : dgr L (i : Int) = 2 := (lp.deg i hi).resolve_left hd
          have hD : (0 ≤ (i : Int) ∧ (i : Int) < (n : Int)) ∧ dgr L (i : Int) = 2 := ⟨⟨by omega, by omega⟩, hdi⟩
          have hiall : inb (i : Int) (allv L n).length = true := inb_t ⟨by omega, by rw [allv_len]; omega⟩
          simp only [hiall, gT]
          rw [allv_get L n hi]
          unfold rstep at hn'
          rw [if_neg (fun h => h.elim hd hs)] at hn'
          obtain ⟨fr0, r0, hr0, w0, hi0⟩ := ring_spec G hD
          have hring := hr0
          -- the way round
          refine loop_rel (fun c s v => ∃ (fr : Int) (r : List Int) (a : Int), Wk (fun v => (0 ≤ v ∧ v < (n : Int)) ∧ dgr L v = 2) (nbr L) (i : Int) fr r a ∧ c = n - (fr :: r).length ∧ walk (nbr L) (i : Int) (n + 1 - (fr :: r).length + 1) fr r a = fr0 :: r0 ∧
              s = (dgs L n, allv L n, sv n (outs L n i).flatten, outs L n i, (i : Int), (fr :: r).reverse, fr, a, (n : Int), (i : Int)) ∧ v = some (outs L n n, 0, 0)) ?_ (m + 1000) (n - 1) _ _ ⟨(i : Int), [], mnI (nbr L (i : Int)).1 (nbr L (i : Int)).2, Wk.first hD (mnI_or _ _), by simp, ?_, rfl, rfl⟩ (by omega)
          · rintro c s v ⟨fr, r, a, w, rfl, hw, rfl, rfl⟩ next2 hn2
            have hlen := w.len G
            dsimp only
            by_cases e : a = (i : Int)
            · subst e
              rw [decide_eq_true rfl, Bool.not_true, cF]
              rw [walk, if_pos rfl] at hw
              rw [hw, List.length_reverse]
              have hlen0 := w0.len G
              have hmem : ∀ x ∈ (fr0 :: r0).reverse, 0 ≤ x ∧ x < (n : Int) := fun x hx => (w0.d x (List.mem_reverse.1 hx)).1
              have hl' : (fr0 :: r0).length = ((fr0 :: r0).reverse).length := by rw [List.length_reverse]
              rw [hl']
              rw [hl'] at hlen0
              rw [← hring] at hmem hlen0 ⊢
              have ez : sv n (outs L n i).flatten = sv n ((outs L n i).flatten ++ (ring (nbr L) n (i : Int)).take 0) := by rw [List.take_zero, List.append_nil]
              rw [ez]
              refine loop_list (fun j => (dgs L n, allv L n, sv n ((outs L n i).flatten ++ (ring (nbr L) n (i : Int)).take j), outs L n i, ring (nbr L) n (i : Int), (n : Int), (i : Int), ring (nbr L) n (i : Int), ((ring (nbr L) n (i : Int)).length : Int), (j : Int))) (ring (nbr L) n (i : Int)).length (fun _ => some (outs L n n, 0, 0)) ?_ ?_ (m + 1000) 0 (Nat.zero_le _) (by omega)
              · intro next3
                have := outs_len L n i
                dsimp only
                rw [bif_F (by omega), gd_t (few_t (by omega)), List.take_length]
                have ef : (outs L n i ++ [ring (nbr L) n (i : Int)]).flatten = (outs L n i).flatten ++ ring (nbr L) n (i : Int) := by simp
                rw [← ef, w64_id (x := (i : Int) + 1) (by omega) (by omega)]
                exact hn'
              · intro j hj next3 hn3
                dsimp only at hn3 ⊢
                rw [bif_T (by omega), gd_t (inb_t ⟨by omega, by omega⟩), rd_get _ _ j hj, w64_id (x := (j : Int) + 1) (by omega) (by omega)]
                have hx := hmem _ (List.getElem_mem hj)
                obtain ⟨x, hx'⟩ := Int.eq_ofNat_of_zero_le hx.1
                rw [hx'] at hx ⊢
                rw [gd_t (inb_t ⟨by omega, by rw [sv_len]; omega⟩), sv_snoc n _ (by omega)]
                rw [List.take_succ_eq_append_getElem hj, ← List.append_assoc, hx'] at hn3
                exact hn3
            · rw [decide_eq_false e, Bool.not_false, cT]
              have w' := w.step G e
              have ha := (w'.d a List.mem_cons_self).1
              have hlen' := w'.len G
              obtain ⟨x, rfl⟩ := Int.eq_ofNat_of_zero_le ha.1
              rw [gd_t (few_t (by rw [List.length_reverse]; omega)), gd_t (inb_t ⟨by omega, by rw [allv_len]; omega⟩), allv_get L n (show x < n by omega)]
              simp only [etaP]
              rw [other_f, bnd_s]
              refine hn2 (n - ((x : Int) :: fr :: r).length) _ _ (by simp only [List.length_cons] at hlen' ⊢; omega) ⟨(x : Int), fr :: r, oth (nbr L (x : Int)) fr, w', rfl, ?_, by simp, rfl⟩
              rw [walk, if_neg e] at hw
              rw [show n + 1 - ((x : Int) :: fr :: r).length + 1 = n + 1 - (fr :: r).length from by simp only [List.length_cons] at hlen' ⊢; omega]
              exact hw
          · have : ring (nbr L) n (i : Int) = (walk (nbr L) (i : Int) (n + 1) (i : Int) [] (mnI (nbr L (i : Int)).1 (nbr L (i : Int)).2)).reverse := rfl
            rw [this] at hr0
            have := List.reverse_inj.1 hr0
            rw [show n + 1 - [(i : Int)].length + 1 = n + 1 from by simp]
            exact this
      · intro i hi next hn'
        have hs := ok _ (List.getElem_mem hi)
        dsimp only at hn' ⊢
        rw [bif_T (by omega), gd_t (inb_t ⟨by omega, by omega⟩), rd_get _ L i hi, w64_id (x := (i : Int) + 1) (by omega) (by omega)]
        rw [List.take_succ_eq_append_getElem hi] at hn'
        generalize L[i] = s at hs hn' ⊢
        obtain ⟨⟨⟨a0, a1⟩, ⟨b0, b1⟩⟩, hne⟩ := hs
        obtain ⟨s1, s2⟩ := s
        dsimp only at a0 a1 b0 b1 hne hn' ⊢
        obtain ⟨a, rfl⟩ := Int.eq_ofNat_of_zero_le a0
        obtain ⟨b, rfl⟩ := Int.eq_ofNat_of_zero_le b0
        have hab : a ≠ b := by omega
        rw [gd_t (inb_t ⟨by omega, by rw [allv_len]; omega⟩), allv_get _ n (show a < n by omega)]
        have h2 : ∀ x, inb (b : Int) (stL (allv (L.take i) n) (a : Int) x).length = true := fun x => inb_t ⟨by omega, by unfold stL; rw [List.length_set, allv_len]; omega⟩
        have h3 : ∀ x, rdD (0, 0) (stL (allv (L.take i) n) (a : Int) x) (b : Int) = nbr (L.take i) (b : Int) := fun x => allv_at _ n a b x (by omega) (by omega) hab
        simp only [h2, h3, gT]
        rw [← allv_snoc _ n a b (by omega) (by omega) hab] at hn'
        unfold put at hn'
        by_cases c1 : (nbr (L.take i) (a : Int)).1 < 0
        · rw [bif_T c1]
          rw [if_pos c1] at hn'
          by_cases c2 : (nbr (L.take i) (b : Int)).1 < 0
          · rw [bif_T c2]; rw [if_pos c2] at hn'; exact hn'
          · rw [bif_F c2]; rw [if_neg c2] at hn'; exact hn'
        · rw [bif_F c1]
          rw [if_neg c1] at hn'
          by_cases c2 : (nbr (L.take i) (b : Int)).1 < 0
          · rw [bif_T c2]; rw [if_pos c2] at hn'; exact hn'
          · rw [bif_F c2]; rw [if_neg c2] at hn'; exact hn'
    · intro i hi next hn'
      dsimp only at hn' ⊢
      rw [bif_T (by omega), gd_t (inb_t ⟨by omega, by rw [e0 i (by omega)]; omega⟩), w64_id (x := (i : Int) + 1) (by omega) (by omega)]
      have es : stL (List.replicate i ((-1 : Int), (-1 : Int)) ++ List.replicate (n - i) ((0 : Int), (0 : Int))) (i : Int) ((-1), (-1)) = List.replicate (i + 1) ((-1 : Int), (-1 : Int)) ++ List.replicate (n - (i + 1)) ((0 : Int), (0 : Int)) := by
        unfold stL
        rw [Int.toNat_natCast]
        apply List.ext_getElem
        · simp; omega
        · intro j h1 h2
          rw [List.getElem_set]
          by_cases e : i = j
          · subst e
            rw [if_pos rfl, List.getElem_append_left (by simp)]
            simp
          · rw [if_neg e]
            by_cases h : j < i
            · rw [List.getElem_append_left (by simpa using h), List.getElem_append_left (by simp; omega)]
              simp
            · rw [List.getElem_append_right (by simp; omega), List.getElem_append_right (by simp; omega)]
              simp
      rw [es]
      exact hn'
end Go.Proofs.YtpkkcjmblocjdaaGreat.Pure
end
/- The first flaw. -/
section
set_option linter.unusedVariables false
set_option linter.unusedSimpArgs false
namespace Go.Proofs.YtpkkcjmblocjdaaGreat.Pure
open Go.RowKit Go.Proofs.YtpkkcjmblocjdaaGreat.AM PL

theorem nrm_inv {s t : Pt} (h : nrm s = nrm t) : (s.1 = t.1 ∧ s.2 = t.2) ∨ (s.1 = t.2 ∧ s.2 = t.1) := by
  unfold nrm mnI mxI at h
  have h1 := congrArg Prod.fst h
  have h2 := congrArg Prod.snd h
  dsimp only at h1 h2
  repeat' split at h1
  all_goals repeat' split at h2
  all_goals omega
theorem segs_same {a b : Pt} (hab : a ≠ b) (ha : Fit a) (hb : Fit b) : (segs a b a b).1 = 4 := by
  unfold segs
  rw [if_neg (fun h : Bad a b a b => h.elim hab (fun h => h.elim hab (fun h => h ⟨ha, hb, ha, hb⟩)))]
  show how a b a b = 4
  unfold how
  have h0 : crs a b a = 0 := by unfold crs; simp
  rw [if_neg (fun h : Cro a b a b => by
    have := h.1
    rw [show ori a b a = 0 from by unfold ori; rw [h0]; split <;> rfl, Int.zero_mul] at this
    omega)]
  rw [if_pos]
  left
  unfold ends
  rw [decide_eq_true rfl, decide_eq_true rfl, decide_eq_false hab, decide_eq_false (fun h => hab h.symm)]
  rfl
theorem segs_same' {a b : Pt} (hab : a ≠ b) (ha : Fit a) (hb : Fit b) : (segs a b b a).1 = 4 := by
  rw [segs_last]; exact segs_same hab ha hb
structure Fine (p : Poly) : Prop where
  sm : Sm p
  n1 : s1 p = none
  n2 : s2 p = none
  n3 : s3 p = none
theorem Fine.ok {p : Poly} (h : Fine p) : ∀ s ∈ sgs p, oks p.1.length s ∧ s.1 ≠ s.2 := by
  intro s hs
  refine ⟨h.sm.s s hs, ?_⟩
  obtain ⟨k, hk, rfl⟩ := List.mem_iff_getElem.1 hs
  have := (row_spec (pnt (sgs p)) (n := (sgs p).length) (a := 0) _ 0 rfl (Nat.zero_le _)).1 h.n2 k (Nat.zero_le _) hk
  unfold pnt at this
  rw [pt_nat hk] at this
  exact of_decide_eq_false this
theorem Fine.two {p : Poly} (h : Fine p) : (sgs p).Pairwise fun a b => nrm a ≠ nrm b := by
  rw [List.pairwise_iff_getElem]
  intro i k hi hk hik e
  have hno := (srch_spec (crossing (ens p)) (n := (ens p).length) _ 0 rfl (Nat.zero_le _)).1 h.n3 i k (Nat.zero_le _) hik (by rw [ens_len]; exact hk)
  have hb1 := noBad h.sm h.n1 h.n2 _ (List.getElem_mem hi)
  unfold crossing at hno
  rw [sat_ens p hi, sat_ens p hk, pt_nat hi, pt_nat hk] at hno
  have hne : (en p.1 (sgs p)[i]).1 ≠ (en p.1 (sgs p)[i]).2 := fun e => hb1 (.inr e)
  have hfit : Fit (en p.1 (sgs p)[i]).1 ∧ Fit (en p.1 (sgs p)[i]).2 := Decidable.byContradiction fun e => hb1 (.inl e)
  have hno' := of_decide_eq_false hno
  rcases nrm_inv e with ⟨e1, e2⟩ | ⟨e1, e2⟩
  · rw [show (en p.1 (sgs p)[k]) = en p.1 (sgs p)[i] from by unfold en; rw [e1, e2], segs_same hne hfit.1 hfit.2] at hno'
    exact hno' (by decide)
  · rw [show (en p.1 (sgs p)[k]) = ((en p.1 (sgs p)[i]).2, (en p.1 (sgs p)[i]).1) from by unfold en; rw [e1, e2], segs_same' hne hfit.1 hfit.2] at hno'
    exact hno' (by decide)
theorem Fine.okL {p : Poly} (h : Fine p) : ∀ s ∈ p.2.1, oks p.1.length s ∧ s.1 ≠ s.2 := fun s hs => h.ok s (List.mem_append_left _ hs)
theorem Fine.twoL {p : Poly} (h : Fine p) : p.2.1.Pairwise fun a b => nrm a ≠ nrm b := (List.pairwise_append.1 h.two).1
theorem Fine.okl {p : Poly} (h : Fine p) : okl p.1 1 p.2.1 = true := by
  unfold Pure.okl
  rw [List.all_eq_true]
  intro s hs
  have hb := noBad h.sm h.n1 h.n2 s (List.mem_append_left _ hs)
  have hok := h.okL s hs
  have f1 := h.sm.fit hok.1.1
  have f2 := h.sm.fit hok.1.2
  exact decide_eq_true ⟨hok.1, fun e => hb (.inr e), ⟨f1, f2⟩, by rw [sc_one]; exact f1, by rw [sc_one]; exact f2⟩

def outb (p : Poly) : Nat → Nat → Bool := fun _ k => !decide ((midv p.1 p.2.1 [(pt p.2.2 (k : Int)).1, (pt p.2.2 (k : Int)).2]).1 = 1)
def strb (p : Poly) : Nat → Nat → Bool := fun _ k => decide (dgr (sgs p) (k : Int) = 0) && !decide ((atv p.1 p.2.1 1 (pt p.1 (k : Int))).1 = 1)
def s7 (p : Poly) : Option Nat := row (outb p) p.2.2.length 0 0
def s8 (p : Poly) : Option Nat := row (strb p) p.1.length 0 0
def six (p : Poly) (r : Flw) : Flw := if p.2.1.length = 0 then (6, 0, 0) else r
theorem ring_f (m : Nat) {p : Poly} (h : Fine p) : g_valid_ring (m + 1000) p = some (one 5 (s5 p) (six p fz)) := by
  unfold g_valid_ring b_valid_ring
  rw [Rings_f m p.1.length p.2.1 (by have := h.sm.P; omega) (by have := h.sm.L; omega) h.okL h.twoL, bnd_s]
  unfold ringsv s5
  cases row (odd p.2.1) p.1.length 0 0 with
  | some k => rfl
  | none =>
    show (bif decide ((p.2.1.length : Int) = 0) then some (6, 0, 0) else some (0, 0, 0)) = some (six p fz)
    unfold six
    by_cases e : p.2.1.length = 0
    · rw [bif_T (by omega), if_pos e]
    · rw [bif_F (by omega), if_neg e]; rfl
theorem halfT (m : Nat) (p l : List Pt) (a b : Int) (hl : l.length ≤ 350) : g_within_Halfway (m + 1000) p l a b = some (midv p l [a, b]) := Halfway_f (m + 600) p l a b hl
theorem atT (m : Nat) (p l : List Pt) (q : Pt) (hl : l.length ≤ 350) : g_within_At (m + 1000) p l q = some (atv p l 1 q) := At_f (m + 600) p l q hl
theorem out_f (m : Nat) {p : Poly} (h : Sm p) : g_valid_out (m + 1000) p = some (one 7 (s7 p) fz) := by
  have hL := h.L
  have hI := h.I
  unfold g_valid_out b_valid_out
  refine loop_list (fun i => (p, fz, p.2.2, (p.2.2.length : Int), (i : Int))) p.2.2.length (fun i => some (one 7 (row (outb p) p.2.2.length 0 i) fz)) ?_ ?_ (m + 1000) 0 (Nat.zero_le _) (by omega)
  · intro next
    dsimp only
    rw [bif_F (by omega), row_end]; rfl
  · intro i hi next hn
    dsimp only at hn ⊢
    rw [bif_T (by omega), gd_t (inb_t ⟨by omega, by omega⟩), row_step _ hi, w64_id (by omega) (by omega), halfT m _ _ _ _ (by omega), bnd_s]
    have e : (!(decide ((midv p.1 p.2.1 [(rdD (0, 0) p.2.2 (i : Int)).1, (rdD (0, 0) p.2.2 (i : Int)).2]).1 = 1))) = outb p 0 i := rfl
    rw [e]
    cases outb p 0 i
    · exact hn
    · rfl
theorem stray_f (m : Nat) {p : Poly} (h : Fine p) : g_valid_stray (m + 1000) p = some (one 8 (s8 p) fz) := by
  have hL := h.sm.L
  have hP := h.sm.P
  unfold g_valid_stray b_valid_stray
  rw [show g_valid_all (m + 1000) (p.1, p.2.1, p.2.2) = some (sgs p) from all_f _ h.sm, bnd_s]
  rw [Degrees_f m p.1.length (sgs p) (by omega) (by have := h.sm.len; omega) h.ok, bnd_s]
  refine loop_list (fun i => (p, fz, dgs (sgs p) p.1.length, ((dgs (sgs p) p.1.length).length : Int), (i : Int))) p.1.length (fun i => some (one 8 (row (strb p) p.1.length 0 i) fz)) ?_ ?_ (m + 1000) 0 (Nat.zero_le _) (by omega)
  · intro next
    dsimp only
    rw [bif_F (by rw [dgs_len]; omega), row_end]; rfl
  · intro i hi next hn
    dsimp only at hn ⊢
    rw [bif_T (by rw [dgs_len]; omega), gd_t (inb_t ⟨by omega, by rw [dgs_len]; omega⟩), gd_t (inb_t ⟨by omega, by omega⟩), row_step _ hi, dgs_get _ _ hi]
    rw [atT m _ _ _ (by omega), bnd_s]
    simp only [meet]
    rw [w64_id (x := (i : Int) + 1) (by omega) (by omega)]
    have e : ∀ x : Bool, x = strb p 0 i → (bif x then some ((8 : Int), (i : Int), (0 : Int)) else next (p, fz, dgs (sgs p) p.1.length, ((dgs (sgs p) p.1.length).length : Int), (i : Int) + 1)) = some (one 8 (if strb p 0 i = true then some i else row (strb p) p.1.length 0 (i + 1)) fz) := by
      intro x hx
      rw [hx]
      cases strb p 0 i
      · exact hn
      · rfl
    by_cases hd : dgr (sgs p) (i : Int) = 0
    · rw [bif_T (by omega)]
      refine e _ ?_
      unfold strb
      rw [decide_eq_true hd]; rfl
    · rw [bif_F (by omega)]
      refine e false ?_
      unfold strb
      rw [decide_eq_false hd]; rfl
def rest (p : Poly) : Flw := one 5 (s5 p) (six p (one 7 (s7 p) (one 8 (s8 p) fz)))
def flaw (p : Poly) : Flw := two 1 (s1 p) (one 2 (s2 p) (two 3 (s3 p) (two 4 (s4 p) (rest p))))
theorem First_ok (m : Nat) {p : Poly} (h : Sm p) : g_valid_First (m + 1000) p = some (flaw p, 0) := by
  unfold g_valid_First b_valid_First
  rw [show g_input_Check (m + 1000) (p.1, p.2.1, p.2.2) = some 0 from by rw [show m + 1000 = (m + 400) + 600 from rfl, chk_f (m + 400) p, h.chk]; rfl, bnd_s]
  rw [show (!(decide ((0 : Int) = 0))) = false from rfl, cF]
  simp only [meet]
  have c1 : w64 (0 + 1) = 1 := by decide
  have c2 : w64 (1 + 1) = 2 := by decide
  have c3 : w64 (2 + 1) = 3 := by decide
  have c4 : w64 (3 + 1) = 4 := by decide
  have c5 : w64 (4 + 1) = 5 := by decide
  have c6 : w64 (5 + 1) = 6 := by decide
  have c7 : w64 (6 + 1) = 7 := by decide
  have t7 : ∀ {i : Int}, i < 7 → decide (i < 7) = true := fun h => decide_eq_true h
  unfold flaw
  rw [show m + 1000 = (m + 999) + 1 from rfl, loop_s]
  dsimp only
  rw [bif_T (by omega), bif_T rfl, alike_f m h, bnd_s]
  cases h1 : s1 p with
  | some q => rfl
  | none =>
  dsimp only [two, fz]
  refine Eq.trans (bif_f (by rfl)) ?_
  rw [c1, show m + 999 = (m + 998) + 1 from rfl, loop_s]
  dsimp only
  rw [bif_T (by omega), bif_F (by omega), bif_T rfl, show m + 998 + 1 + 1 = m + 1000 from rfl, point_f m h, bnd_s]
  cases h2 : s2 p with
  | some q => rfl
  | none =>
  dsimp only [one, fz]
  refine Eq.trans (bif_f (by rfl)) ?_
  rw [c2, show m + 998 = (m + 997) + 1 from rfl, loop_s]
  dsimp only
  rw [bif_T (by omega), bif_F (by omega), bif_F (by omega), bif_T rfl, show m + 997 + 1 + 1 + 1 = m + 1000 from rfl, meets_f m h h1 h2, bnd_s]
  cases h3 : s3 p with
  | some q => rfl
  | none =>
  have F : Fine p := ⟨h, h1, h2, h3⟩
  dsimp only [two, fz]
  refine Eq.trans (bif_f (by rfl)) ?_
  rw [c3, show m + 997 = (m + 996) + 1 from rfl, loop_s]
  dsimp only
  rw [bif_T (by omega), bif_F (by omega), bif_F (by omega), bif_F (by omega), bif_T rfl, show m + 996 + 1 + 1 + 1 + 1 = m + 1000 from rfl, inside_f m h, bnd_s]
  cases h4 : s4 p with
  | some q => rfl
  | none =>
  dsimp only [two, fz]
  refine Eq.trans (bif_f (by rfl)) ?_
  rw [c4, show m + 996 = (m + 995) + 1 from rfl, loop_s]
  dsimp only
  rw [bif_T (by omega), bif_F (by omega), bif_F (by omega), bif_F (by omega), bif_F (by omega), bif_T rfl, show m + 995 + 1 + 1 + 1 + 1 + 1 = m + 1000 from rfl, ring_f m F, bnd_s]
  unfold rest
  cases h5 : s5 p with
  | some q => rfl
  | none =>
  dsimp only [one]
  unfold six
  by_cases h6 : p.2.1.length = 0
  · rw [if_pos h6, if_pos h6]; rfl
  rw [if_neg h6, if_neg h6]
  dsimp only [fz]
  refine Eq.trans (bif_f (by rfl)) ?_
  rw [c5, show m + 995 = (m + 994) + 1 from rfl, loop_s]
  dsimp only
  rw [bif_T (by omega), bif_F (by omega), bif_F (by omega), bif_F (by omega), bif_F (by omega), bif_F (by omega), bif_T rfl, show m + 994 + 1 + 1 + 1 + 1 + 1 + 1 = m + 1000 from rfl, out_f m h, bnd_s]
  cases h7 : s7 p with
  | some q => rfl
  | none =>
  dsimp only [one, fz]
  refine Eq.trans (bif_f (by rfl)) ?_
  rw [c6, show m + 994 = (m + 993) + 1 from rfl, loop_s]
  dsimp only
  rw [bif_T (by omega), bif_F (by omega), bif_F (by omega), bif_F (by omega), bif_F (by omega), bif_F (by omega), bif_F (by omega), bif_T rfl, show m + 993 + 1 + 1 + 1 + 1 + 1 + 1 + 1 = m + 1000 from rfl, stray_f m F, bnd_s]
  cases h8 : s8 p with
  | some q => rfl
  | none =>
  dsimp only [one, fz]
  refine Eq.trans (bif_f (by rfl)) ?_
  rw [c7, show m + 993 = (m + 992) + 1 from rfl, loop_s]
  dsimp only
  rw [bif_F (by omega)]
theorem First_bad (m : Nat) {p : Poly} (h : chk p = false) : g_valid_First (m + 1000) p = some (fz, 2) := by
  unfold g_valid_First b_valid_First
  rw [show g_input_Check (m + 1000) (p.1, p.2.1, p.2.2) = some 2 from by rw [show m + 1000 = (m + 400) + 600 from rfl, chk_f (m + 400) p, h]; rfl, bnd_s]
  rfl
end Go.Proofs.YtpkkcjmblocjdaaGreat.Pure
end
/- The first flaw, by the reference. -/
section
set_option linter.unusedVariables false
set_option linter.unusedSimpArgs false
namespace Go.Proofs.YtpkkcjmblocjdaaGreat.Pure
open Go.RowKit Go.Proofs.YtpkkcjmblocjdaaGreat.AM PL

theorem midT (m : Nat) (p l : List Pt) (r : List Int) (h1 : 1 ≤ r.length) (h3 : r.length ≤ 3) (hl : l.length ≤ 350) : g_parquetref09_Middle (m + 1000) p l r = some (midv p l r) := rMiddle_f (m + 600) p l r h1 h3 hl
theorem whereT (m : Nat) (p l : List Pt) (q : Pt) (hl : l.length ≤ 350) (hk : okl p 1 l = true) (hq : Fit q) : g_parquetref09_Where (m + 1000) p l 1 q = some ((atv p l 1 q).1) := by
  rw [show m + 1000 = (m + 600) + 400 from rfl, Where_f (m + 600) p l 1 q (by omega) (by omega) hl hk hq]
  unfold atv
  rw [if_pos ⟨hk, hq⟩]
theorem loops_f (m : Nat) {p : Poly} (h : Fine p) : g_parquetref10_loops (m + 1000) p = some (rest p) := by
  have hP := h.sm.P
  have hL := h.sm.L
  have hI := h.sm.I
  have hlen := h.sm.len
  unfold g_parquetref10_loops b_parquetref10_loops
  refine loop_list (fun i => (p, fz, (i : Int))) p.1.length (fun i => some (one 5 (row (odd p.2.1) p.1.length 0 i) (six p (one 7 (s7 p) (one 8 (s8 p) fz))))) ?_ ?_ (m + 1000) 0 (Nat.zero_le _) (by omega)
  · intro next
    dsimp only
    rw [bif_F (by omega), row_end]
    show _ = some (six p (one 7 (s7 p) (one 8 (s8 p) fz)))
    unfold six
    by_cases h6 : p.2.1.length = 0
    · rw [bif_T (by omega), if_pos h6]
    rw [bif_F (by omega), if_neg h6]
    refine loop_list (fun i => (p, fz, (i : Int))) p.2.2.length (fun i => some (one 7 (row (outb p) p.2.2.length 0 i) (one 8 (s8 p) fz))) ?_ ?_ (m + 1000) 0 (Nat.zero_le _) (by omega)
    · intro next
      dsimp only
      rw [bif_F (by omega), row_end]
      rw [show g_parquetref10_All (m + 1000) (p.1, p.2.1, p.2.2) = some (sgs p) from rAll_f _ h.sm, bnd_s]
      refine loop_list (fun i => (p, fz, sgs p, (i : Int))) p.1.length (fun i => some (one 8 (row (strb p) p.1.length 0 i) fz)) ?_ ?_ (m + 1000) 0 (Nat.zero_le _) (by omega)
      · intro next
        dsimp only
        rw [bif_F (by omega), row_end]; rfl
      · intro i hi next hn
        dsimp only at hn ⊢
        rw [bif_T (by omega), row_step _ hi]
        have e : ∀ x : Bool, x = strb p 0 i → (bif x then some ((8 : Int), (i : Int), (0 : Int)) else next (p, fz, sgs p, (i : Int) + 1)) = some (one 8 (if strb p 0 i = true then some i else row (strb p) p.1.length 0 (i + 1)) fz) := by
          intro x hx
          rw [hx]
          cases strb p 0 i
          · exact hn
          · rfl
        refine loop_list (fun k => (p, fz, sgs p, (i : Int), decide (dgr ((sgs p).take k) (i : Int) ≠ 0), (k : Int))) (sgs p).length (fun _ => some (one 8 (if strb p 0 i = true then some i else row (strb p) p.1.length 0 (i + 1)) fz)) ?_ ?_ (m + 1000) 0 (Nat.zero_le _) (by omega)
        · intro next2
          dsimp only
          simp only [meet]
          rw [bif_F (by omega), List.take_length, w64_id (x := (i : Int) + 1) (by omega) (by omega)]
          by_cases hd : dgr (sgs p) (i : Int) = 0
          · rw [decide_eq_false (by omega), Bool.not_false, cT, gd_t (inb_t ⟨by omega, by omega⟩)]
            have hf : Fit (pt p.1 (i : Int)) := h.sm.fit ⟨by omega, by omega⟩
            rw [whereT m p.1 p.2.1 ((rdD (0, 0) p.1 (i : Int)).1, (rdD (0, 0) p.1 (i : Int)).2) (by omega) h.okl hf, bnd_s]
            refine e _ ?_
            unfold strb
            rw [decide_eq_true hd]; rfl
          · rw [decide_eq_true hd, Bool.not_true, cF]
            refine e false ?_
            unfold strb
            rw [decide_eq_false hd]; rfl
        · intro k hk next2 hn2
          have hok := h.ok _ (List.getElem_mem hk)
          dsimp only at hn2 ⊢
          have hin : inb (k : Int) (sgs p).length = true := inb_t ⟨by omega, by omega⟩
          simp only [hin, gT, meet]
          rw [bif_T (by omega), rd_get _ _ k hk, w64_id (x := (k : Int) + 1) (by omega) (by omega)]
          rw [List.take_succ_eq_append_getElem hk, dgr_snoc] at hn2
          by_cases c0 : dgr ((sgs p).take k) (i : Int) ≠ 0
          · rw [decide_eq_true c0, cT]
            rw [decide_eq_true (by omega)] at hn2
            exact hn2
          · rw [decide_eq_false c0, cF]
            by_cases c1 : (sgs p)[k].1 = (i : Int)
            · rw [bif_T c1]
              rw [if_pos c1, decide_eq_true (by omega)] at hn2
              exact hn2
            · rw [bif_F c1]
              rw [if_neg c1] at hn2
              by_cases c2 : (sgs p)[k].2 = (i : Int)
              · rw [decide_eq_true c2]
                rw [if_pos c2, decide_eq_true (by omega)] at hn2
                exact hn2
              · rw [decide_eq_false c2]
                rw [if_neg c2, decide_eq_false (by omega)] at hn2
                exact hn2
    · intro i hi next hn
      dsimp only at hn ⊢
      have hin : inb (i : Int) p.2.2.length = true := inb_t ⟨by omega, by omega⟩
      simp only [hin, gT]
      rw [bif_T (by omega), row_step _ hi, w64_id (by omega) (by omega), midT m _ _ _ (by simp) (by simp) (by omega), bnd_s]
      have e : (!(decide ((midv p.1 p.2.1 [(rdD (0, 0) p.2.2 (i : Int)).1, (rdD (0, 0) p.2.2 (i : Int)).2]).1 = 1))) = outb p 0 i := rfl
      rw [e]
      cases outb p 0 i
      · exact hn
      · rfl
  · intro i hi next hn
    dsimp only at hn ⊢
    rw [bif_T (by omega), row_step _ hi]
    have e : ∀ x : Bool, x = odd p.2.1 0 i → (bif x then some ((5 : Int), (i : Int), (0 : Int)) else next (p, fz, (i : Int) + 1)) = some (one 5 (if odd p.2.1 0 i = true then some i else row (odd p.2.1) p.1.length 0 (i + 1)) (six p (one 7 (s7 p) (one 8 (s8 p) fz)))) := by
      intro x hx
      rw [hx]
      cases odd p.2.1 0 i
      · exact hn
      · rfl
    refine loop_list (fun k => (p, fz, (i : Int), (dgr (p.2.1.take k) (i : Int) : Int), (k : Int))) p.2.1.length (fun _ => some (one 5 (if odd p.2.1 0 i = true then some i else row (odd p.2.1) p.1.length 0 (i + 1)) (six p (one 7 (s7 p) (one 8 (s8 p) fz))))) ?_ ?_ (m + 1000) 0 (Nat.zero_le _) (by omega)
    · intro next2
      dsimp only
      simp only [meet]
      rw [bif_F (by omega), List.take_length, w64_id (x := (i : Int) + 1) (by omega) (by omega)]
      have eo : odd p.2.1 0 i = (!decide ((dgr p.2.1 (i : Int) : Int) = 0) && !decide ((dgr p.2.1 (i : Int) : Int) = 2)) := by
        unfold odd
        rw [show decide ((dgr p.2.1 (i : Int) : Int) = 0) = decide (dgr p.2.1 (i : Int) = 0) from decide_eq_decide.2 (by omega), show decide ((dgr p.2.1 (i : Int) : Int) = 2) = decide (dgr p.2.1 (i : Int) = 2) from decide_eq_decide.2 (by omega)]
        rw [decide_not, decide_not]
      cases h0 : decide ((dgr p.2.1 (i : Int) : Int) = 0) with
      | true =>
        rw [Bool.not_true, cF]
        exact e false (by rw [eo, h0]; rfl)
      | false =>
        rw [Bool.not_false, cT]
        exact e _ (by rw [eo, h0]; rfl)
    · intro k hk next2 hn2
      have hok := h.okL _ (List.getElem_mem hk)
      have hdl := dgr_le (p.2.1.take k) (i : Int)
      have htl : (p.2.1.take k).length ≤ k := by rw [List.length_take]; omega
      dsimp only at hn2 ⊢
      have hin : inb (k : Int) p.2.1.length = true := inb_t ⟨by omega, by omega⟩
      simp only [hin, gT, meet]
      rw [bif_T (by omega), rd_get _ _ k hk, w64_id (x := (k : Int) + 1) (by omega) (by omega)]
      rw [List.take_succ_eq_append_getElem hk, dgr_snoc] at hn2
      by_cases c1 : p.2.1[k].1 = (i : Int)
      · rw [bif_T c1, cT, w64_id (x := (dgr (p.2.1.take k) (i : Int) : Int) + 1) (by omega) (by omega)]
        rw [if_pos c1, if_neg (fun c2 => hok.2 (c1.trans c2.symm))] at hn2
        exact hn2
      · rw [bif_F c1]
        rw [if_neg c1] at hn2
        by_cases c2 : p.2.1[k].2 = (i : Int)
        · rw [decide_eq_true c2, cT, w64_id (x := (dgr (p.2.1.take k) (i : Int) : Int) + 1) (by omega) (by omega)]
          rw [if_pos c2] at hn2
          exact hn2
        · rw [decide_eq_false c2, cF]
          rw [if_neg c2] at hn2
          exact hn2
theorem rFirst_ok (m : Nat) {p : Poly} (h : Sm p) : g_parquetref10_First (m + 1000) p = some (flaw p, 0) := by
  unfold g_parquetref10_First b_parquetref10_First
  rw [show g_parquetref05_Check (m + 1000) (p.1, p.2.1, p.2.2) = some 0 from by rw [rchk_f m p, h.chk]; rfl, bnd_s]
  rw [show (!(decide ((0 : Int) = 0))) = false from rfl, cF]
  rw [show g_parquetref10_pairs (m + 1000) (p.1, p.2.1, p.2.2) = some (four p) from pairs_f m h, bnd_s]
  simp only [meet]
  unfold flaw four
  cases h1 : s1 p with
  | some q => rfl
  | none =>
  cases h2 : s2 p with
  | some q => rfl
  | none =>
  cases h3 : s3 p with
  | some q => rfl
  | none =>
  cases h4 : s4 p with
  | some q => rfl
  | none =>
  have F : Fine p := ⟨h, h1, h2, h3⟩
  refine (bif_t (by rfl)).trans ?_
  rw [show g_parquetref10_loops (m + 1000) (p.1, p.2.1, p.2.2) = some (rest p) from loops_f m F, bnd_s]
  rfl
theorem rFirst_bad (m : Nat) {p : Poly} (h : chk p = false) : g_parquetref10_First (m + 1000) p = some (fz, 2) := by
  unfold g_parquetref10_First b_parquetref10_First
  rw [show g_parquetref05_Check (m + 1000) (p.1, p.2.1, p.2.2) = some 2 from by rw [rchk_f m p, h]; rfl, bnd_s]
  rfl
end Go.Proofs.YtpkkcjmblocjdaaGreat.Pure
end
/- Loops of a right input, segments that may be laid; the chapter's example. -/
section
set_option linter.unusedVariables false
set_option linter.unusedSimpArgs false
namespace Go.Proofs.YtpkkcjmblocjdaaGreat.Pure
open Go.RowKit Go.Proofs.YtpkkcjmblocjdaaGreat.AM PL

def good0 (p : Poly) : Bool := decide ((flaw p).1 = 0)
structure Right (p : Poly) : Prop where
  fine : Fine p
  n4 : s4 p = none
  n5 : s5 p = none
  n6 : p.2.1.length ≠ 0
  n7 : s7 p = none
  n8 : s8 p = none
theorem good0_right {p : Poly} (h : Sm p) (hg : good0 p = true) : Right p := by
  have hg := of_decide_eq_true hg
  unfold flaw at hg
  cases h1 : s1 p with
  | some q => rw [h1] at hg; exact absurd hg (by show ¬ (1 : Int) = 0; decide)
  | none =>
  cases h2 : s2 p with
  | some q => rw [h1, h2] at hg; exact absurd hg (by show ¬ (2 : Int) = 0; decide)
  | none =>
  cases h3 : s3 p with
  | some q => rw [h1, h2, h3] at hg; exact absurd hg (by show ¬ (3 : Int) = 0; decide)
  | none =>
  cases h4 : s4 p with
  | some q => rw [h1, h2, h3, h4] at hg; exact absurd hg (by show ¬ (4 : Int) = 0; decide)
  | none =>
  rw [h1, h2, h3, h4] at hg
  replace hg : (rest p).1 = 0 := hg
  unfold rest at hg
  cases h5 : s5 p with
  | some q => rw [h5] at hg; exact absurd hg (by show ¬ (5 : Int) = 0; decide)
  | none =>
  rw [h5] at hg
  replace hg : (six p (one 7 (s7 p) (one 8 (s8 p) fz))).1 = 0 := hg
  unfold six at hg
  by_cases h6 : p.2.1.length = 0
  · rw [if_pos h6] at hg; exact absurd hg (by show ¬ (6 : Int) = 0; decide)
  rw [if_neg h6] at hg
  cases h7 : s7 p with
  | some q => rw [h7] at hg; exact absurd hg (by show ¬ (7 : Int) = 0; decide)
  | none =>
  rw [h7] at hg
  replace hg : (one 8 (s8 p) fz).1 = 0 := hg
  cases h8 : s8 p with
  | some q => rw [h8] at hg; exact absurd hg (by show ¬ (8 : Int) = 0; decide)
  | none => exact ⟨⟨h, h1, h2, h3⟩, h4, h5, h6, h7, h8⟩
theorem Right.good {p : Poly} (h : Right p) : flaw p = fz := by
  unfold flaw rest six
  rw [h.fine.n1, h.fine.n2, h.fine.n3, h.n4, h.n5, if_neg h.n6, h.n7, h.n8]; rfl
theorem rRight_f (m : Nat) {p : Poly} (h : Sm p) : g_parquetref10_Right (m + 1000) p = some (good0 p) := by
  unfold g_parquetref10_Right b_parquetref10_Right
  rw [show g_parquetref10_First (m + 1000) (p.1, p.2.1, p.2.2) = some (flaw p, 0) from rFirst_ok m h, bnd_s]
  rfl
theorem rRight_bad (m : Nat) {p : Poly} (h : chk p = false) : g_parquetref10_Right (m + 1000) p = some false := by
  unfold g_parquetref10_Right b_parquetref10_Right
  rw [show g_parquetref10_First (m + 1000) (p.1, p.2.1, p.2.2) = some (fz, 2) from rFirst_bad m h, bnd_s]
  rfl
def may (p : Poly) (a b : Int) : Bool := decide (inr a p.1.length ∧ inr b p.1.length ∧ a ≠ b)
theorem insdT (m : Nat) (a b c : Pt) : g_meet_Inside (m + 1000) a b c = some (decide (Ins a b c)) := Inside_f (m + 994) a b c
theorem segsT (m : Nat) (a b c d : Pt) : g_meet_Segs (m + 1000) a b c d = some (segs a b c d) := Segs_f (m + 994) a b c d
theorem sameP_f (m : Nat) (l : List Pt) (hl : l.length ≤ 600) : g_parquetref05_SamePoints (m + 1000) l l = some true := by
  unfold g_parquetref05_SamePoints
  rw [show (!(decide ((l.length : Int) = (l.length : Int)))) = false from by rw [decide_eq_true rfl]; rfl, cF]
  refine loop_list (fun i => (l, l, (i : Int))) l.length (fun _ => some true) ?_ ?_ (m + 1000) 0 (Nat.zero_le _) (by omega)
  · intro next
    dsimp only
    rw [bif_F (by omega)]
  · intro i hi next hn
    dsimp only at hn ⊢
    rw [bif_T (by omega), gd_t (inb_t ⟨by omega, by omega⟩), gd_t (inb_t ⟨by omega, by omega⟩), eqP, decide_eq_true rfl, Bool.not_true, cF, w64_id (by omega) (by omega)]
    exact hn
theorem sameS_f (m : Nat) (l : List Pt) (hl : l.length ≤ 600) : g_parquetref05_SameSegs (m + 1000) l l = some true := by
  unfold g_parquetref05_SameSegs
  rw [show (!(decide ((l.length : Int) = (l.length : Int)))) = false from by rw [decide_eq_true rfl]; rfl, cF]
  refine loop_list (fun i => (l, l, (i : Int))) l.length (fun _ => some true) ?_ ?_ (m + 1000) 0 (Nat.zero_le _) (by omega)
  · intro next
    dsimp only
    rw [bif_F (by omega)]
  · intro i hi next hn
    dsimp only at hn ⊢
    rw [bif_T (by omega), gd_t (inb_t ⟨by omega, by omega⟩), gd_t (inb_t ⟨by omega, by omega⟩), eqP, decide_eq_true rfl, Bool.not_true, cF, w64_id (by omega) (by omega)]
    exact hn
theorem same_f (m : Nat) {p : Poly} (h : p.1.length ≤ 300 ∧ p.2.1.length ≤ 500 ∧ p.2.2.length ≤ 500) : g_parquetref05_Same (m + 1000) p p = some true := by
  unfold g_parquetref05_Same b_parquetref05_Same
  simp only [meet]
  rw [sameP_f m _ (by omega), bnd_s, cT, sameS_f m _ (by omega), bnd_s, cT, sameS_f m _ (by omega), bnd_s]
end Go.Proofs.YtpkkcjmblocjdaaGreat.Pure
end
