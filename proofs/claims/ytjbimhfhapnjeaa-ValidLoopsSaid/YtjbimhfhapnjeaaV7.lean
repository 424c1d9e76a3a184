/- The first flaw. -/
import Derived.Test.YtjbimhfhapnjeaaV6
set_option linter.unusedVariables false
set_option linter.unusedSimpArgs false
namespace Go.Proofs.Ytjbimhfhapnjeaa.Pure
open Go.RowKit Go.Proofs.Ytjbimhfhapnjeaa.AM PL

theorem nrm_inv {s t : Pt} (h : nrm s = nrm t) : (s.1 = t.1 ∧ s.2 = t.2) ∨ (s.1 = t.2 ∧ s.2 = t.1) := by
  unfold nrm mnI mxI at h
  have h1 := congrArg Prod.fst h
  have h2 := congrArg Prod.snd h
  dsimp only at h1 h2
  repeat' split at h1
  all_goals repeat' split at h2
  all_goals omega
theorem segs_same {a b : Pt} (hab : a ≠ b) (ha : Fit a) (hb : Fit b) : (segs a b a b).1 = 4 := by
  unfold segs
  rw [if_neg (fun h : Bad a b a b => h.elim hab (fun h => h.elim hab (fun h => h ⟨ha, hb, ha, hb⟩)))]
  show how a b a b = 4
  unfold how
  have h0 : crs a b a = 0 := by unfold crs; simp
  rw [if_neg (fun h : Cro a b a b => by
    have := h.1
    rw [show ori a b a = 0 from by unfold ori; rw [h0]; split <;> rfl, Int.zero_mul] at this
    omega)]
  rw [if_pos]
  left
  unfold ends
  rw [decide_eq_true rfl, decide_eq_true rfl, decide_eq_false hab, decide_eq_false (fun h => hab h.symm)]
  rfl
theorem segs_same' {a b : Pt} (hab : a ≠ b) (ha : Fit a) (hb : Fit b) : (segs a b b a).1 = 4 := by
  rw [segs_last]; exact segs_same hab ha hb
/-- No places alike, no segment a place, none that meet as they may not. -/
structure Fine (p : Poly) : Prop where
  sm : Sm p
  n1 : s1 p = none
  n2 : s2 p = none
  n3 : s3 p = none
theorem Fine.ok {p : Poly} (h : Fine p) : ∀ s ∈ sgs p, oks p.1.length s ∧ s.1 ≠ s.2 := by
  intro s hs
  refine ⟨h.sm.s s hs, ?_⟩
  obtain ⟨k, hk, rfl⟩ := List.mem_iff_getElem.1 hs
  have := (row_spec (pnt (sgs p)) (n := (sgs p).length) (a := 0) _ 0 rfl (Nat.zero_le _)).1 h.n2 k (Nat.zero_le _) hk
  unfold pnt at this
  rw [pt_nat hk] at this
  exact of_decide_eq_false this
theorem Fine.two {p : Poly} (h : Fine p) : (sgs p).Pairwise fun a b => nrm a ≠ nrm b := by
  rw [List.pairwise_iff_getElem]
  intro i k hi hk hik e
  have hno := (srch_spec (crossing (ens p)) (n := (ens p).length) _ 0 rfl (Nat.zero_le _)).1 h.n3 i k (Nat.zero_le _) hik (by rw [ens_len]; exact hk)
  have hb1 := noBad h.sm h.n1 h.n2 _ (List.getElem_mem hi)
  unfold crossing at hno
  rw [sat_ens p hi, sat_ens p hk, pt_nat hi, pt_nat hk] at hno
  have hne : (en p.1 (sgs p)[i]).1 ≠ (en p.1 (sgs p)[i]).2 := fun e => hb1 (.inr e)
  have hfit : Fit (en p.1 (sgs p)[i]).1 ∧ Fit (en p.1 (sgs p)[i]).2 := Decidable.byContradiction fun e => hb1 (.inl e)
  have hno' := of_decide_eq_false hno
  rcases nrm_inv e with ⟨e1, e2⟩ | ⟨e1, e2⟩
  · rw [show (en p.1 (sgs p)[k]) = en p.1 (sgs p)[i] from by unfold en; rw [e1, e2], segs_same hne hfit.1 hfit.2] at hno'
    exact hno' (by decide)
  · rw [show (en p.1 (sgs p)[k]) = ((en p.1 (sgs p)[i]).2, (en p.1 (sgs p)[i]).1) from by unfold en; rw [e1, e2], segs_same' hne hfit.1 hfit.2] at hno'
    exact hno' (by decide)
theorem Fine.okL {p : Poly} (h : Fine p) : ∀ s ∈ p.2.1, oks p.1.length s ∧ s.1 ≠ s.2 := fun s hs => h.ok s (List.mem_append_left _ hs)
theorem Fine.twoL {p : Poly} (h : Fine p) : p.2.1.Pairwise fun a b => nrm a ≠ nrm b := (List.pairwise_append.1 h.two).1
theorem Fine.okl {p : Poly} (h : Fine p) : okl p.1 1 p.2.1 = true := by
  unfold Pure.okl
  rw [List.all_eq_true]
  intro s hs
  have hb := noBad h.sm h.n1 h.n2 s (List.mem_append_left _ hs)
  have hok := h.okL s hs
  have f1 := h.sm.fit hok.1.1
  have f2 := h.sm.fit hok.1.2
  exact decide_eq_true ⟨hok.1, fun e => hb (.inr e), ⟨f1, f2⟩, by rw [sc_one]; exact f1, by rw [sc_one]; exact f2⟩

/-! ### the program's other checks -/
def outb (p : Poly) : Nat → Nat → Bool := fun _ k => !decide ((midv p.1 p.2.1 [(pt p.2.2 (k : Int)).1, (pt p.2.2 (k : Int)).2]).1 = 1)
def strb (p : Poly) : Nat → Nat → Bool := fun _ k => decide (dgr (sgs p) (k : Int) = 0) && !decide ((atv p.1 p.2.1 1 (pt p.1 (k : Int))).1 = 1)
def s7 (p : Poly) : Option Nat := row (outb p) p.2.2.length 0 0
def s8 (p : Poly) : Option Nat := row (strb p) p.1.length 0 0
def six (p : Poly) (r : Flw) : Flw := if p.2.1.length = 0 then (6, 0, 0) else r
theorem ring_f (m : Nat) {p : Poly} (h : Fine p) : g_valid_ring (m + 1000) p = some (one 5 (s5 p) (six p fz)) := by
  unfold g_valid_ring b_valid_ring
  rw [Rings_f m p.1.length p.2.1 (by have := h.sm.P; omega) (by have := h.sm.L; omega) h.okL h.twoL, bnd_s]
  unfold ringsv s5
  cases row (odd p.2.1) p.1.length 0 0 with
  | some k => rfl
  | none =>
    show (bif decide ((p.2.1.length : Int) = 0) then some (6, 0, 0) else some (0, 0, 0)) = some (six p fz)
    unfold six
    by_cases e : p.2.1.length = 0
    · rw [bif_T (by omega), if_pos e]
    · rw [bif_F (by omega), if_neg e]; rfl
theorem halfT (m : Nat) (p l : List Pt) (a b : Int) (hl : l.length ≤ 350) : g_within_Halfway (m + 1000) p l a b = some (midv p l [a, b]) := Halfway_f (m + 600) p l a b hl
theorem atT (m : Nat) (p l : List Pt) (q : Pt) (hl : l.length ≤ 350) : g_within_At (m + 1000) p l q = some (atv p l 1 q) := At_f (m + 600) p l q hl
theorem out_f (m : Nat) {p : Poly} (h : Sm p) : g_valid_out (m + 1000) p = some (one 7 (s7 p) fz) := by
  have hL := h.L
  have hI := h.I
  unfold g_valid_out b_valid_out
  refine loop_list (fun i => (p, fz, p.2.2, (p.2.2.length : Int), (i : Int))) p.2.2.length (fun i => some (one 7 (row (outb p) p.2.2.length 0 i) fz)) ?_ ?_ (m + 1000) 0 (Nat.zero_le _) (by omega)
  · intro next
    dsimp only
    rw [bif_F (by omega), row_end]; rfl
  · intro i hi next hn
    dsimp only at hn ⊢
    rw [bif_T (by omega), gd_t (inb_t ⟨by omega, by omega⟩), row_step _ hi, w64_id (by omega) (by omega), halfT m _ _ _ _ (by omega), bnd_s]
    have e : (!(decide ((midv p.1 p.2.1 [(rdD (0, 0) p.2.2 (i : Int)).1, (rdD (0, 0) p.2.2 (i : Int)).2]).1 = 1))) = outb p 0 i := rfl
    rw [e]
    cases outb p 0 i
    · exact hn
    · rfl
theorem stray_f (m : Nat) {p : Poly} (h : Fine p) : g_valid_stray (m + 1000) p = some (one 8 (s8 p) fz) := by
  have hL := h.sm.L
  have hP := h.sm.P
  unfold g_valid_stray b_valid_stray
  rw [show g_valid_all (m + 1000) (p.1, p.2.1, p.2.2) = some (sgs p) from all_f _ h.sm, bnd_s]
  rw [Degrees_f m p.1.length (sgs p) (by omega) (by have := h.sm.len; omega) h.ok, bnd_s]
  refine loop_list (fun i => (p, fz, dgs (sgs p) p.1.length, ((dgs (sgs p) p.1.length).length : Int), (i : Int))) p.1.length (fun i => some (one 8 (row (strb p) p.1.length 0 i) fz)) ?_ ?_ (m + 1000) 0 (Nat.zero_le _) (by omega)
  · intro next
    dsimp only
    rw [bif_F (by rw [dgs_len]; omega), row_end]; rfl
  · intro i hi next hn
    dsimp only at hn ⊢
    rw [bif_T (by rw [dgs_len]; omega), gd_t (inb_t ⟨by omega, by rw [dgs_len]; omega⟩), gd_t (inb_t ⟨by omega, by omega⟩), row_step _ hi, dgs_get _ _ hi]
    rw [atT m _ _ _ (by omega), bnd_s]
    simp only [meet]
    rw [w64_id (x := (i : Int) + 1) (by omega) (by omega)]
    have e : ∀ x : Bool, x = strb p 0 i → (bif x then some ((8 : Int), (i : Int), (0 : Int)) else next (p, fz, dgs (sgs p) p.1.length, ((dgs (sgs p) p.1.length).length : Int), (i : Int) + 1)) = some (one 8 (if strb p 0 i = true then some i else row (strb p) p.1.length 0 (i + 1)) fz) := by
      intro x hx
      rw [hx]
      cases strb p 0 i
      · exact hn
      · rfl
    by_cases hd : dgr (sgs p) (i : Int) = 0
    · rw [bif_T (by omega)]
      refine e _ ?_
      unfold strb
      rw [decide_eq_true hd]; rfl
    · rw [bif_F (by omega)]
      refine e false ?_
      unfold strb
      rw [decide_eq_false hd]; rfl
def rest (p : Poly) : Flw := one 5 (s5 p) (six p (one 7 (s7 p) (one 8 (s8 p) fz)))
def flaw (p : Poly) : Flw := two 1 (s1 p) (one 2 (s2 p) (two 3 (s3 p) (two 4 (s4 p) (rest p))))
theorem First_ok (m : Nat) {p : Poly} (h : Sm p) : g_valid_First (m + 1000) p = some (flaw p, 0) := by
  unfold g_valid_First b_valid_First
  rw [show g_input_Check (m + 1000) (p.1, p.2.1, p.2.2) = some 0 from by rw [show m + 1000 = (m + 400) + 600 from rfl, chk_f (m + 400) p, h.chk]; rfl, bnd_s]
  rw [show (!(decide ((0 : Int) = 0))) = false from rfl, cF]
  simp only [meet]
  have c1 : w64 (0 + 1) = 1 := by decide
  have c2 : w64 (1 + 1) = 2 := by decide
  have c3 : w64 (2 + 1) = 3 := by decide
  have c4 : w64 (3 + 1) = 4 := by decide
  have c5 : w64 (4 + 1) = 5 := by decide
  have c6 : w64 (5 + 1) = 6 := by decide
  have c7 : w64 (6 + 1) = 7 := by decide
  have t7 : ∀ {i : Int}, i < 7 → decide (i < 7) = true := fun h => decide_eq_true h
  unfold flaw
  rw [show m + 1000 = (m + 999) + 1 from rfl, loop_s]
  dsimp only
  rw [bif_T (by omega), bif_T rfl, alike_f m h, bnd_s]
  cases h1 : s1 p with
  | some q => rfl
  | none =>
  dsimp only [two, fz]
  refine Eq.trans (bif_f (by rfl)) ?_
  rw [c1, show m + 999 = (m + 998) + 1 from rfl, loop_s]
  dsimp only
  rw [bif_T (by omega), bif_F (by omega), bif_T rfl, show m + 998 + 1 + 1 = m + 1000 from rfl, point_f m h, bnd_s]
  cases h2 : s2 p with
  | some q => rfl
  | none =>
  dsimp only [one, fz]
  refine Eq.trans (bif_f (by rfl)) ?_
  rw [c2, show m + 998 = (m + 997) + 1 from rfl, loop_s]
  dsimp only
  rw [bif_T (by omega), bif_F (by omega), bif_F (by omega), bif_T rfl, show m + 997 + 1 + 1 + 1 = m + 1000 from rfl, meets_f m h h1 h2, bnd_s]
  cases h3 : s3 p with
  | some q => rfl
  | none =>
  have F : Fine p := ⟨h, h1, h2, h3⟩
  dsimp only [two, fz]
  refine Eq.trans (bif_f (by rfl)) ?_
  rw [c3, show m + 997 = (m + 996) + 1 from rfl, loop_s]
  dsimp only
  rw [bif_T (by omega), bif_F (by omega), bif_F (by omega), bif_F (by omega), bif_T rfl, show m + 996 + 1 + 1 + 1 + 1 = m + 1000 from rfl, inside_f m h, bnd_s]
  cases h4 : s4 p with
  | some q => rfl
  | none =>
  dsimp only [two, fz]
  refine Eq.trans (bif_f (by rfl)) ?_
  rw [c4, show m + 996 = (m + 995) + 1 from rfl, loop_s]
  dsimp only
  rw [bif_T (by omega), bif_F (by omega), bif_F (by omega), bif_F (by omega), bif_F (by omega), bif_T rfl, show m + 995 + 1 + 1 + 1 + 1 + 1 = m + 1000 from rfl, ring_f m F, bnd_s]
  unfold rest
  cases h5 : s5 p with
  | some q => rfl
  | none =>
  dsimp only [one]
  unfold six
  by_cases h6 : p.2.1.length = 0
  · rw [if_pos h6, if_pos h6]; rfl
  rw [if_neg h6, if_neg h6]
  dsimp only [fz]
  refine Eq.trans (bif_f (by rfl)) ?_
  rw [c5, show m + 995 = (m + 994) + 1 from rfl, loop_s]
  dsimp only
  rw [bif_T (by omega), bif_F (by omega), bif_F (by omega), bif_F (by omega), bif_F (by omega), bif_F (by omega), bif_T rfl, show m + 994 + 1 + 1 + 1 + 1 + 1 + 1 = m + 1000 from rfl, out_f m h, bnd_s]
  cases h7 : s7 p with
  | some q => rfl
  | none =>
  dsimp only [one, fz]
  refine Eq.trans (bif_f (by rfl)) ?_
  rw [c6, show m + 994 = (m + 993) + 1 from rfl, loop_s]
  dsimp only
  rw [bif_T (by omega), bif_F (by omega), bif_F (by omega), bif_F (by omega), bif_F (by omega), bif_F (by omega), bif_F (by omega), bif_T rfl, show m + 993 + 1 + 1 + 1 + 1 + 1 + 1 + 1 = m + 1000 from rfl, stray_f m F, bnd_s]
  cases h8 : s8 p with
  | some q => rfl
  | none =>
  dsimp only [one, fz]
  refine Eq.trans (bif_f (by rfl)) ?_
  rw [c7, show m + 993 = (m + 992) + 1 from rfl, loop_s]
  dsimp only
  rw [bif_F (by omega)]
theorem First_bad (m : Nat) {p : Poly} (h : chk p = false) : g_valid_First (m + 1000) p = some (fz, 2) := by
  unfold g_valid_First b_valid_First
  rw [show g_input_Check (m + 1000) (p.1, p.2.1, p.2.2) = some 2 from by rw [show m + 1000 = (m + 400) + 600 from rfl, chk_f (m + 400) p, h]; rfl, bnd_s]
  rfl
end Go.Proofs.Ytjbimhfhapnjeaa.Pure
