/- May a segment be laid: the reference, and from whichever end. -/
import Derived.Test.YtjbimhfhapnjeaaV11
set_option linter.unusedVariables false
set_option linter.unusedSimpArgs false
namespace Go.Proofs.Ytjbimhfhapnjeaa.Pure
open Go.RowKit Go.Proofs.Ytjbimhfhapnjeaa.AM PL

theorem rLoops_f (m : Nat) (hm : 130000 ≤ m) {p : Poly} (h : Sm p) : g_parquetref10_Loops (m + 1000) p = some (loopsv p) := by
  unfold g_parquetref10_Loops b_parquetref10_Loops loopsv
  rw [show g_parquetref10_Right (m + 1000) (p.1, p.2.1, p.2.2) = some (good0 p) from rRight_f m h, bnd_s]
  cases hg : good0 p with
  | false => rfl
  | true =>
    have R := good0_right h hg
    rw [Bool.not_true, cF, rRings_f m p.1.length p.2.1 hm (by have := h.P; omega) (by have := h.L; omega) R.fine.okL R.fine.twoL, bnd_s]
    have e : row (odd p.2.1) p.1.length 0 0 = none := R.n5
    unfold ringsv
    rw [e]; rfl
theorem rLoops_bad (m : Nat) {p : Poly} (h : chk p = false) : g_parquetref10_Loops (m + 1000) p = some ([], 2) := by
  unfold g_parquetref10_Loops b_parquetref10_Loops
  rw [show g_parquetref10_Right (m + 1000) (p.1, p.2.1, p.2.2) = some false from rRight_bad m h, bnd_s]
  rfl
def rsl (p : Poly) (a b : Int) : Bool → Nat → List Pt → Bool
  | own, _, [] => own || mid1 p a b
  | own, i, s :: r => if s = (a, b) ∨ s = (b, a) then rsl p a b (own || decide (i < p.2.1.length)) (i + 1) r else if (segs (pt p.1 a) (pt p.1 b) (pt p.1 s.1) (pt p.1 s.2)).1 > 1 then false else rsl p a b own (i + 1) r
theorem rsl_off (p : Poly) (a b : Int) (own : Bool) : ∀ (r : List Pt) (i : Nat), (∀ s ∈ r, ¬ (s = (a, b) ∨ s = (b, a)) ∧ ¬ (segs (pt p.1 a) (pt p.1 b) (pt p.1 s.1) (pt p.1 s.2)).1 > 1) → rsl p a b own i r = (own || mid1 p a b)
  | [], i, _ => rfl
  | s :: r, i, h => by
    have hs := h s List.mem_cons_self
    rw [rsl, if_neg hs.1, if_neg hs.2]
    exact rsl_off p a b own r (i + 1) fun t ht => h t (List.mem_cons_of_mem _ ht)
theorem rsl_isl {p : Poly} (R : Right p) (a b : Int) : ∀ (d i : Nat), (sgs p).length - i = d → i ≤ (sgs p).length → rsl p a b false i ((sgs p).drop i) = isl p a b i ((sgs p).drop i)
  | 0, i, hd, hi => by
    obtain rfl : i = (sgs p).length := by omega
    rw [List.drop_length]; rfl
  | d + 1, i, hd, hi => by
    have hi' : i < (sgs p).length := by omega
    rw [List.drop_eq_getElem_cons hi', rsl, isl]
    by_cases c : (sgs p)[i] = (a, b) ∨ (sgs p)[i] = (b, a)
    · rw [if_pos c, if_pos c]
      refine rsl_off p a b _ _ _ fun s hs => ?_
      obtain ⟨k, hk, rfl⟩ := List.mem_iff_getElem.1 hs
      rw [List.length_drop] at hk
      rw [List.getElem_drop]
      have hk' : i + 1 + k < (sgs p).length := by omega
      have hn := List.pairwise_iff_getElem.1 R.fine.two i (i + 1 + k) hi' hk' (by omega)
      have hno := (srch_spec (crossing (ens p)) (n := (ens p).length) _ 0 rfl (Nat.zero_le _)).1 R.fine.n3 i (i + 1 + k) (Nat.zero_le _) (by omega) (by rw [ens_len]; exact hk')
      unfold crossing at hno
      rw [sat_ens p hi', sat_ens p hk', pt_nat hi', pt_nat hk'] at hno
      have hno' := of_decide_eq_false hno
      refine ⟨fun e => hn ?_, fun h => hno' ?_⟩
      · refine nrm_eq ?_
        rcases c with c | c <;> rcases e with e | e <;> rw [c, e]
        · exact .inl ⟨rfl, rfl⟩
        · exact .inr ⟨rfl, rfl⟩
        · exact .inr ⟨rfl, rfl⟩
        · exact .inl ⟨rfl, rfl⟩
      · rcases c with c | c
        · rw [c]; exact h
        · rw [c]
          show (segs (pt p.1 b) (pt p.1 a) (pt p.1 _) (pt p.1 _)).1 > 1
          rw [segs_swap]; exact h
    · rw [if_neg c, if_neg c]
      split
      · rfl
      · exact rsl_isl R a b d (i + 1) (by omega) (by omega)
theorem rinsT (m : Nat) (a b c : Pt) : g_parquetref04_Inside (m + 1000) a b c = some (decide (Ins a b c)) := rInside_f (m + 900) a b c
theorem rsegsT (m : Nat) (a b c d : Pt) : g_parquetref04_Segs (m + 1000) a b c d = some (segs a b c d) := by rw [← rsegs_eq]; exact rSegs_f (m + 900) a b c d
theorem rInside_bad (m : Nat) {p : Poly} (h : chk p = false) (a b : Int) : g_parquetref10_Inside (m + 1000) p a b = some false := by
  unfold g_parquetref10_Inside b_parquetref10_Inside
  simp only [meet]
  rw [show g_parquetref10_Right (m + 1000) (p.1, p.2.1, p.2.2) = some false from rRight_bad m h, bnd_s]
  rfl
theorem rInside_v (m : Nat) {p : Poly} (h : Sm p) (a b : Int) : g_parquetref10_Inside (m + 1000) p a b = some (insv p a b) := by
  have hP := h.P
  have hL := h.L
  have hlen := h.len
  unfold g_parquetref10_Inside b_parquetref10_Inside
  simp only [meet]
  rw [show g_parquetref10_Right (m + 1000) (p.1, p.2.1, p.2.2) = some (good0 p) from rRight_f m h, bnd_s]
  unfold insv
  cases hg : good0 p with
  | false => rfl
  | true =>
  have R := good0_right h hg
  rw [Bool.not_true, cF, Bool.true_and]
  have no : ∀ h : ¬ (inr a p.1.length ∧ inr b p.1.length ∧ a ≠ b), may p a b = false := fun h => decide_eq_false h
  by_cases c1 : a < 0
  · rw [bif_T c1, cT, no (fun h => by have := h.1.1; omega)]; rfl
  rw [bif_F c1]
  by_cases c3 : b < 0
  · rw [bif_T c3, cT, no (fun h => by have := h.2.1.1; omega)]; rfl
  rw [bif_F c3]
  by_cases c2 : a ≥ (p.1.length : Int)
  · rw [bif_T c2, cT, no (fun h => by have := h.1.2; omega)]; rfl
  rw [bif_F c2]
  by_cases c4 : b ≥ (p.1.length : Int)
  · rw [bif_T c4, cT, no (fun h => by have := h.2.1.2; omega)]; rfl
  rw [bif_F c4]
  by_cases c5 : a = b
  · rw [bif_T c5, no (fun h => h.2.2 c5)]; rfl
  rw [bif_F c5, show may p a b = true from decide_eq_true ⟨⟨by omega, by omega⟩, ⟨by omega, by omega⟩, c5⟩, Bool.true_and]
  have ia : inb a p.1.length = true := inb_t ⟨by omega, by omega⟩
  have ib : inb b p.1.length = true := inb_t ⟨by omega, by omega⟩
  refine loop_list (fun i => (a, b, p, (i : Int))) p.1.length (fun i => some (((p.1.drop i).all fun q => !decide (Ins (pt p.1 a) (pt p.1 b) q)) && isl p a b 0 (sgs p))) ?_ ?_ (m + 1000) 0 (Nat.zero_le _) (by omega)
  · intro next
    dsimp only
    rw [bif_F (by omega), List.drop_length, List.all_nil, Bool.true_and]
    rw [show g_parquetref10_All (m + 1000) (p.1, p.2.1, p.2.2) = some (sgs p) from rAll_f _ h, bnd_s]
    have hz : isl p a b 0 (sgs p) = rsl p a b false 0 (sgs p) := (rsl_isl R a b _ 0 rfl (Nat.zero_le _)).symm
    rw [hz]
    refine loop_rel (fun c s v => ∃ (i : Nat) (own : Bool), i ≤ (sgs p).length ∧ c = (sgs p).length - i ∧ s = (a, b, p, sgs p, own, (i : Int)) ∧ v = some (rsl p a b own i ((sgs p).drop i))) ?_ (m + 1000) (sgs p).length _ _ ⟨0, false, Nat.zero_le _, rfl, rfl, rfl⟩ (by omega)
    rintro c s v ⟨i, own, hi, rfl, rfl, rfl⟩ next hn
    dsimp only
    by_cases hlt : i < (sgs p).length
    · have hok := h.s _ (List.getElem_mem hlt)
      have hin : inb (i : Int) (sgs p).length = true := inb_t ⟨by omega, by omega⟩
      simp only [hin, gT]
      rw [bif_T (by omega), rd_get _ _ i hlt, w64_id (x := (i : Int) + 1) (by omega) (by omega), List.drop_eq_getElem_cons hlt, rsl]
      have go : ∀ own', next (a, b, p, sgs p, own', (i : Int) + 1) = some (rsl p a b own' (i + 1) ((sgs p).drop (i + 1))) := fun own' => hn ((sgs p).length - (i + 1)) _ _ (by omega) ⟨i + 1, own', by omega, rfl, rfl, rfl⟩
      have e1 : inb (sgs p)[i].1 p.1.length = true := inb_r hok.1
      have e2 : inb (sgs p)[i].2 p.1.length = true := inb_r hok.2
      simp only [ia, ib, e1, e2, gT]
      generalize (sgs p)[i] = s at hok e1 e2 ⊢
      have yes : ∀ own', own' = (own || decide (i < p.2.1.length)) → next (a, b, p, sgs p, own', (i : Int) + 1) = some (rsl p a b (own || decide (i < p.2.1.length)) (i + 1) ((sgs p).drop (i + 1))) := by
        intro own' h; rw [h]; exact go _
      have same : (bif own then next (a, b, p, sgs p, true, (i : Int) + 1) else next (a, b, p, sgs p, decide ((i : Int) < (p.2.1.length : Int)), (i : Int) + 1)) = some (rsl p a b (own || decide (i < p.2.1.length)) (i + 1) ((sgs p).drop (i + 1))) := by
        cases own with
        | true => exact yes true rfl
        | false => exact yes _ (by rw [Bool.false_or, decide_eq_decide]; omega)
      have other : ∀ z, z = next (a, b, p, sgs p, own, (i : Int) + 1) → (bnd (g_parquetref04_Segs (m + 1000) ((rdD (0, 0) p.1 a).1, (rdD (0, 0) p.1 a).2) ((rdD (0, 0) p.1 b).1, (rdD (0, 0) p.1 b).2) ((rdD (0, 0) p.1 s.1).1, (rdD (0, 0) p.1 s.1).2) ((rdD (0, 0) p.1 s.2).1, (rdD (0, 0) p.1 s.2).2)) fun r39 => bif decide (r39.1 > 1) then some false else z) = some (if (segs (pt p.1 a) (pt p.1 b) (pt p.1 s.1) (pt p.1 s.2)).1 > 1 then false else rsl p a b own (i + 1) ((sgs p).drop (i + 1))) := by
        intro z hz
        rw [rsegsT, bnd_s, hz]
        by_cases c8 : (segs (pt p.1 a) (pt p.1 b) (pt p.1 s.1) (pt p.1 s.2)).1 > 1
        · rw [if_pos c8]; exact bif_t (decide_eq_true c8)
        · rw [if_neg c8]; exact (bif_f (decide_eq_false c8)).trans (go own)
      have q1 : s = (a, b) ↔ s.1 = a ∧ s.2 = b := Prod.ext_iff
      have q2 : s = (b, a) ↔ s.1 = b ∧ s.2 = a := Prod.ext_iff
      by_cases c1 : s.1 = a
      · rw [bif_T c1]
        by_cases c2 : s.2 = b
        · rw [bif_T c2, cT, if_pos (.inl (q1.2 ⟨c1, c2⟩))]
          exact same
        · rw [bif_F c2]
          by_cases c3 : s.1 = b
          · rw [bif_T c3]
            exact absurd (c1.symm.trans c3) c5
          · rw [bif_F c3, cF, if_neg (fun h => h.elim (fun h => c2 (q1.1 h).2) (fun h => c3 (q2.1 h).1))]
            exact other _ rfl
      · rw [bif_F c1]
        by_cases c3 : s.1 = b
        · rw [bif_T c3]
          by_cases c4 : s.2 = a
          · rw [decide_eq_true c4, cT, if_pos (.inr (q2.2 ⟨c3, c4⟩))]
            exact same
          · rw [decide_eq_false c4, cF, if_neg (fun h => h.elim (fun h => c1 (q1.1 h).1) (fun h => c4 (q2.1 h).2))]
            exact other _ rfl
        · rw [bif_F c3, cF, if_neg (fun h => h.elim (fun h => c1 (q1.1 h).1) (fun h => c3 (q2.1 h).1))]
          exact other _ rfl
    · obtain rfl : i = (sgs p).length := by omega
      rw [bif_F (by omega), List.drop_length, midT m _ _ _ (by simp) (by simp) (by omega), bnd_s]
      cases own <;> rfl
  · intro i hi next hn
    dsimp only at hn ⊢
    have hin : inb (i : Int) p.1.length = true := inb_t ⟨by omega, by omega⟩
    rw [bif_T (by omega)]
    simp only [ia, ib, hin, gT]
    rw [rinsT, bnd_s, w64_id (x := (i : Int) + 1) (by omega) (by omega), rd_get _ p.1 i hi, List.drop_eq_getElem_cons hi, List.all_cons]
    by_cases c : Ins (pt p.1 a) (pt p.1 b) p.1[i]
    · rw [decide_eq_true c]
      exact bif_t (decide_eq_true c)
    · rw [decide_eq_false c, Bool.not_false, Bool.true_and]
      exact (bif_f (decide_eq_false c)).trans hn

/-! ### from whichever end -/
theorem midv_swap (p l : List Pt) (a b : Int) : midv p l [a, b] = midv p l [b, a] := by
  unfold midv
  have e1 : oki p [a, b] = oki p [b, a] := by
    rw [oki_cons, oki_cons, oki_cons, oki_cons]
    cases decide (OkI p a) <;> cases decide (OkI p b) <;> rfl
  have e2 : sumP p (0, 0) [a, b] = sumP p (0, 0) [b, a] := by
    simp only [sumP]
    refine Prod.ext ?_ ?_ <;> dsimp only <;> omega
  rw [e1, e2]
  rfl
theorem isl_swap (p : Poly) (a b : Int) : ∀ (l : List Pt) (i : Nat), isl p b a i l = isl p a b i l
  | [], i => by
    unfold isl mid1; rw [midv_swap]
  | s :: r, i => by
    have em : mid1 p b a = mid1 p a b := by unfold mid1; rw [midv_swap]
    rw [isl, isl, em, segs_swap, isl_swap p a b r (i + 1)]
    by_cases c : s = (a, b) ∨ s = (b, a)
    · rw [if_pos c, if_pos c.symm]
    · rw [if_neg c, if_neg (fun h => c h.symm)]
theorem insv_swap (p : Poly) (a b : Int) : insv p b a = insv p a b := by
  unfold insv
  have e1 : may p b a = may p a b := by
    unfold may
    rw [decide_eq_decide]
    exact ⟨fun h => ⟨h.2.1, h.1, fun e => h.2.2 e.symm⟩, fun h => ⟨h.2.1, h.1, fun e => h.2.2 e.symm⟩⟩
  have e2 : noIns p b a = noIns p a b := by
    unfold noIns
    congr 1
    funext q
    rw [decide_eq_decide.2 (ins_swap (a := pt p.1 b) (b := pt p.1 a) (p := q))]
  rw [e1, e2, isl_swap]
theorem sameI_f (m : Nat) (a : List Int) (hl : a.length ≤ 350) : g_parquetref00_SameInts (m + 1000) a a = some true := by
  unfold g_parquetref00_SameInts
  rw [show (!(decide ((a.length : Int) = (a.length : Int)))) = false from by rw [decide_eq_true rfl]; rfl, cF]
  refine loop_list (fun i => (a, a, (i : Int))) a.length (fun _ => some true) ?_ ?_ (m + 1000) 0 (Nat.zero_le _) (by omega)
  · intro next
    dsimp only
    rw [bif_F (by omega)]
  · intro i hi next hn
    dsimp only at hn ⊢
    rw [bif_T (by omega), gd_t (inb_t ⟨by omega, by omega⟩), gd_t (inb_t ⟨by omega, by omega⟩), decide_eq_true rfl, Bool.not_true, cF, w64_id (by omega) (by omega)]
    exact hn
theorem outs_mem {n : Nat} {L : List Pt} (lp : Lp n L) : ∀ i, i ≤ n → ∀ r ∈ outs L n i, ∃ v : Int, Dg L n v ∧ r = ring (nbr L) n v
  | 0, _, r, hr => by simp [outs] at hr
  | i + 1, hi, r, hr => by
    rw [outs_succ] at hr
    unfold rstep at hr
    split at hr
    · exact outs_mem lp i (by omega) r hr
    · rename_i c
      rcases List.mem_append.1 hr with hr | hr
      · exact outs_mem lp i (by omega) r hr
      · have hd : dgr L (i : Int) = 2 := (lp.deg i (by omega)).resolve_left (fun h => c (.inl h))
        exact ⟨(i : Int), ⟨⟨by omega, by omega⟩, hd⟩, List.mem_singleton.1 hr⟩
end Go.Proofs.Ytjbimhfhapnjeaa.Pure
