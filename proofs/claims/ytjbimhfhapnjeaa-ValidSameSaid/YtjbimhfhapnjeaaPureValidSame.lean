/- The plain law of ValidSame. -/
import Derived.Test.YtjbimhfhapnjeaaV25
set_option linter.unusedVariables false
set_option linter.unusedSimpArgs false
namespace Go.Proofs.Ytjbimhfhapnjeaa.Pure
open Go.RowKit Go.Proofs.Ytjbimhfhapnjeaa.AM PL
theorem idx_of (a : Int) (n : Nat) (h0 : 0 < n) (h1 : n ≤ 1000) : ∃ j : Nat, j < n ∧ w64 ((IntKind.wrap .u64 a).tmod (IntKind.wrap .u64 (n : Int))) = (j : Int) := by
  rw [u64_id (x := (n : Int)) (by omega) (by omega), u64_mod]
  have e : 0 ≤ a % 18446744073709551616 := Int.emod_nonneg _ (by omega)
  rw [Int.tmod_eq_emod_of_nonneg e]
  have h2 := Int.emod_nonneg (a % 18446744073709551616) (show (n : Int) ≠ 0 by omega)
  have h3 := Int.emod_lt_of_pos (a % 18446744073709551616) (show (0 : Int) < (n : Int) by omega)
  refine ⟨((a % 18446744073709551616) % (n : Int)).toNat, by omega, ?_⟩
  rw [w64_id (by omega) (by omega)]; omega
theorem tmod_once {x : Int} {n : Nat} (h0 : 0 ≤ x) (h1 : x < 2 * (n : Int)) : x.tmod (n : Int) = if x < (n : Int) then x else x - (n : Int) := by
  obtain ⟨a, rfl⟩ := Int.eq_ofNat_of_zero_le h0
  have e : (a : Int).tmod (n : Int) = ((a % n : Nat) : Int) := by rw [Int.tmod_eq_emod_of_nonneg (by omega)]; simp
  rw [e]
  by_cases c : a < n
  · rw [if_pos (by omega), Nat.mod_eq_of_lt c]
  · rw [if_neg (by omega), Nat.mod_eq_sub_mod (by omega), Nat.mod_eq_of_lt (by omega)]
    omega
theorem renamed_f (m : Nat) {p : Poly} (sm : Sm p) {b : Nat} (hb : b < p.1.length) : g_parquetlaw10_renamed (m + 1000) p (b : Int) = some (rn p b) := by
  have hP := sm.P; have hL := sm.L; have hI := sm.I
  have nz : (!(decide ((p.1.length : Int) = 0))) = true := by rw [decide_eq_false (by omega)]; rfl
  have hlen : (p.1.drop b ++ p.1.take b).length = p.1.length := rn_len p b hb
  unfold g_parquetlaw10_renamed
  refine loop_list (fun i => ((b : Int), p, (([], [], []) : Poly), (p.1.length : Int), (((p.1.drop b ++ p.1.take b).take i, [], []) : Poly), (i : Int))) p.1.length (fun _ => some (rn p b)) ?_ ?_ (m + 1000) 0 (Nat.zero_le _) (by omega)
  · intro next
    dsimp only
    rw [bif_F (by omega), List.take_of_length_le (by omega)]
    refine loop_list (fun i => ((b : Int), p, (([], [], []) : Poly), (p.1.length : Int), ((p.1.drop b ++ p.1.take b, (p.2.1.take i).map (fun s => (pn p.1.length b s.2, pn p.1.length b s.1)), []) : Poly), (i : Int))) p.2.1.length (fun _ => some (rn p b)) ?_ ?_ (m + 1000) 0 (Nat.zero_le _) (by omega)
    · intro next
      dsimp only
      rw [bif_F (by omega), List.take_length]
      refine loop_list (fun i => ((b : Int), p, (([], [], []) : Poly), (p.1.length : Int), ((p.1.drop b ++ p.1.take b, p.2.1.map (fun s => (pn p.1.length b s.2, pn p.1.length b s.1)), (p.2.2.reverse.take i).map (fun s => (pn p.1.length b s.1, pn p.1.length b s.2))) : Poly), (i : Int))) p.2.2.length (fun _ => some (rn p b)) ?_ ?_ (m + 1000) 0 (Nat.zero_le _) (by omega)
      · intro next
        dsimp only
        rw [bif_F (by omega), List.take_of_length_le (l := p.2.2.reverse) (by simp)]
        rfl
      · intro i hi next hn
        have hir : i < p.2.2.reverse.length := by rw [List.length_reverse]; exact hi
        dsimp only at hn ⊢
        have ei : w64 ((w64 ((p.2.2.length : Int) - 1)) - (i : Int)) = ((p.2.2.length - 1 - i : Nat) : Int) := by
          rw [w64_id (x := (p.2.2.length : Int) - 1) (by omega) (by omega), w64_id (by omega) (by omega)]; omega
        have hj : p.2.2.length - 1 - i < p.2.2.length := by omega
        have hok := sm.si _ (List.getElem_mem hj)
        have hin : inb ((p.2.2.length - 1 - i : Nat) : Int) p.2.2.length = true := inb_t ⟨by omega, by omega⟩
        have hfew : few (((p.2.2.reverse.take i).map (fun s => (pn p.1.length b s.1, pn p.1.length b s.2))).length + 1) = true := few_t (by simp; omega)
        rw [bif_T (by omega), ei]
        simp only [hin, nz, hfew, gT]
        rw [rd_get _ p.2.2 _ hj, w64_id (x := (i : Int) + 1) (by omega) (by omega)]
        rw [List.take_succ_eq_append_getElem hir, List.map_append, List.getElem_reverse] at hn
        generalize p.2.2[p.2.2.length - 1 - i] = s at hok hn ⊢
        have key : ∀ x, inr x p.1.length → (w64 ((w64 (x + (p.1.length : Int))) - (b : Int))).tmod (p.1.length : Int) = pn p.1.length b x := by
          intro x hx
          have h1 := hx.1; have h2 := hx.2
          rw [w64_id (x := x + (p.1.length : Int)) (by omega) (by omega), w64_id (by omega) (by omega), tmod_once (by omega) (by omega)]
          unfold pn
          (repeat' split) <;> omega
        rw [key _ hok.1, key _ hok.2]
        exact hn
    · intro i hi next hn
      have hok := sm.sl _ (List.getElem_mem hi)
      dsimp only at hn ⊢
      have hin : inb (i : Int) p.2.1.length = true := inb_t ⟨by omega, by omega⟩
      have hfew : few (((p.2.1.take i).map (fun s => (pn p.1.length b s.2, pn p.1.length b s.1))).length + 1) = true := few_t (by simp; omega)
      rw [bif_T (by omega)]
      simp only [hin, nz, hfew, gT]
      rw [rd_get _ p.2.1 _ hi, w64_id (x := (i : Int) + 1) (by omega) (by omega)]
      rw [List.take_succ_eq_append_getElem hi, List.map_append] at hn
      generalize p.2.1[i] = s at hok hn ⊢
      have key : ∀ x, inr x p.1.length → (w64 ((w64 (x + (p.1.length : Int))) - (b : Int))).tmod (p.1.length : Int) = pn p.1.length b x := by
        intro x hx
        have h1 := hx.1; have h2 := hx.2
        rw [w64_id (x := x + (p.1.length : Int)) (by omega) (by omega), w64_id (by omega) (by omega), tmod_once (by omega) (by omega)]
        unfold pn
        (repeat' split) <;> omega
      rw [key _ hok.1, key _ hok.2]
      exact hn
  · intro i hi next hn
    dsimp only at hn ⊢
    have hi' : i < (p.1.drop b ++ p.1.take b).length := by omega
    have et : (w64 ((i : Int) + (b : Int))).tmod (p.1.length : Int) = (((if i + b < p.1.length then i + b else i + b - p.1.length) : Nat) : Int) := by
      rw [w64_id (by omega) (by omega), tmod_once (by omega) (by omega)]
      split <;> split <;> omega
    have hj : (if i + b < p.1.length then i + b else i + b - p.1.length) < p.1.length := by split <;> omega
    have eg : (p.1.drop b ++ p.1.take b)[i] = p.1[if i + b < p.1.length then i + b else i + b - p.1.length] := by
      by_cases c : i + b < p.1.length
      · rw [List.getElem_append_left (by simp; omega), List.getElem_drop]
        congr 1
        rw [if_pos c]; omega
      · rw [List.getElem_append_right (by simp; omega)]
        simp only [List.length_drop, List.getElem_take]
        congr 1
        rw [if_neg c]; omega
    have hin : inb (((if i + b < p.1.length then i + b else i + b - p.1.length) : Nat) : Int) p.1.length = true := inb_t ⟨by omega, by omega⟩
    have hfew : few (((p.1.drop b ++ p.1.take b).take i).length + 1) = true := few_t (by rw [List.length_take]; omega)
    rw [bif_T (by omega), et]
    simp only [hin, nz, hfew, gT]
    rw [rd_get _ p.1 _ hj, w64_id (x := (i : Int) + 1) (by omega) (by omega)]
    rw [List.take_succ_eq_append_getElem hi', eg] at hn
    exact hn
def rtP (a : Pt) : Pt := (-a.2, a.1)
theorem same_law (m : Nat) (p : Poly) (a : Int) : g_parquetlaw10_ValidSame (m + 1000) p a = some true := by
  unfold g_parquetlaw10_ValidSame b_parquetlaw10_ValidSame
  simp only [meet]
  obtain ⟨bb, hb, hmm⟩ := many_f (m + 1000) p
  rw [show g_parquetlaw10_many (m + 1000) (p.1, p.2.1, p.2.2) = some bb from hb, bnd_s, known_f, bnd_s]
  cases bb with
  | true => rfl
  | false =>
  rw [cF]
  by_cases c0 : (p.1.length : Int) = 0
  · rw [bif_T c0]; rfl
  rw [bif_F c0, show g_parquetref05_Check (m + 1000) (p.1, p.2.1, p.2.2) = ans (chk p) from rchk_f m p]
  cases hc : chk p with
  | false => rfl
  | true =>
  have sm : Sm p := (small_of (hmm rfl)).resolve_left (by rw [hc]; simp)
  have hP := sm.P; have hL := sm.L; have hI := sm.I
  rw [show ans true = some 0 from rfl, bnd_s]
  refine (bif_f (by rfl)).trans ?_
  rw [show g_valid_First (m + 1000) (p.1, p.2.1, p.2.2) = some (flaw p, 0) from First_ok m sm, bnd_s]
  refine (bif_f (by rfl)).trans ?_
  obtain ⟨b, hbn, eb⟩ := idx_of a p.1.length (by omega) (by omega)
  rw [eb, gd_t (by rw [u64_id (by omega) (by omega), decide_eq_false (by omega)]; rfl), show g_parquetlaw10_renamed (m + 1000) (p.1, p.2.1, p.2.2) (b : Int) = some (rn p b) from renamed_f m sm hbn, bnd_s]
  have fP : few p.1.length = true := few_t (by omega)
  have fL : few p.2.1.length = true := few_t (by omega)
  have fI : few p.2.2.length = true := few_t (by omega)
  simp only [fP, fL, fI, gT]
  have ez : ∀ T : Pt → Pt, ((p.1, p.2.1, p.2.2) : Poly) = ((p.1.take 0).map T ++ p.1.drop 0, p.2.1, p.2.2) := fun T => by simp
  have e0 : ∀ (f : Poly × Flw × Poly × Poly × Poly × Int → (Poly × Flw × Poly × Poly × Poly × Int → Option Bool) → Option Bool), loopN f (m + 1000) (p, flaw p, rn p b, ((p.1.take 0).map rtP ++ p.1.drop 0, p.2.1, p.2.2), ((p.1.take 0).map mrP ++ p.1.drop 0, p.2.1, p.2.2), 0) = some true → loopN f (m + 1000) ((p.1, p.2.1, p.2.2), ((flaw p).1, (flaw p).2.1, (flaw p).2.2), ((rn p b).1, (rn p b).2.1, (rn p b).2.2), (p.1, p.2.1, p.2.2), (p.1, p.2.1, p.2.2), 0) = some true := by
    intro f hf
    rw [← ez rtP, ← ez mrP] at hf
    exact hf
  refine e0 _ ?_
  refine loop_list (fun i => (p, flaw p, rn p b, ((p.1.take i).map rtP ++ p.1.drop i, p.2.1, p.2.2), ((p.1.take i).map mrP ++ p.1.drop i, p.2.1, p.2.2), (i : Int))) p.1.length (fun _ => some true) ?_ ?_ (m + 1000) 0 (Nat.zero_le _) (by omega)
  · intro next
    dsimp only
    rw [bif_F (by omega), List.take_length, List.drop_length, List.append_nil, List.append_nil]
    have sw := tp_sm sw_iso sm
    have er : (p.1.map rtP, p.2.1, p.2.2) = tp mrP (tp swP p) := by
      unfold tp
      dsimp only
      rw [List.map_map]
      rfl
    have A : g_valid_First (m + 1000) ((rn p b).1, (rn p b).2.1, (rn p b).2.2) = some (flaw (rn p b), 0) := First_ok m (rn_sm sm hbn)
    have B : g_valid_First (m + 1000) (p.1.map rtP, p.2.1, p.2.2) = some (flaw p, 0) := by
      rw [er, First_ok m (tp_sm mr_iso sw), flaw_iso mr_iso sw, flaw_iso sw_iso sm]
    have C : g_valid_First (m + 1000) (p.1.map mrP, p.2.1, p.2.2) = some (flaw p, 0) := by
      rw [show ((p.1.map mrP, p.2.1, p.2.2) : Poly) = tp mrP p from rfl, First_ok m (tp_sm mr_iso sm), flaw_iso mr_iso sm]
    rw [A, bnd_s, B, bnd_s, C, bnd_s]
    have hk := rn_kind sm hbn
    dsimp only
    rw [hk]
    simp only [decide_true]
    rfl
  · intro i hi next hn
    have hq := sm.q _ (List.getElem_mem hi)
    dsimp only at hn ⊢
    have hin : inb (i : Int) p.1.length = true := inb_t ⟨by omega, by omega⟩
    have hin2 : ∀ T : Pt → Pt, inb (i : Int) ((p.1.take i).map T ++ p.1.drop i).length = true := fun T => inb_t ⟨by omega, by simp; omega⟩
    rw [bif_T (by omega)]
    simp only [hin, hin2, gT]
    rw [rd_get _ p.1 i hi, w64_id (x := (i : Int) + 1) (by omega) (by omega)]
    unfold okq at hq
    rw [w64_id (x := 0 - p.1[i].2) (by omega) (by omega), w64_id (x := 0 - p.1[i].1) (by omega) (by omega)]
    have es : ∀ (T : Pt → Pt) (x : Pt), x = T p.1[i] → stL ((p.1.take i).map T ++ p.1.drop i) (i : Int) x = (p.1.take (i + 1)).map T ++ p.1.drop (i + 1) := by
      intro T x hx
      unfold stL
      rw [Int.toNat_natCast, List.take_succ_eq_append_getElem hi, List.map_append, List.drop_eq_getElem_cons hi]
      have hl : ((p.1.take i).map T).length = i := by simp; omega
      rw [List.set_append_right _ _ (by omega), hl, Nat.sub_self, List.set_cons_zero, List.append_assoc, hx]
      rfl
    rw [es rtP _ (by unfold rtP; rw [Int.zero_sub]), es mrP _ (by unfold mrP; rw [Int.zero_sub])]
    exact hn
theorem ValidSame (x0 : ((List (Int × Int)) × ((List (Int × Int)) × (List (Int × Int))))) (x1 : Int) (g0 : Kd.good (.pair (.sl (.pair kI kI)) (.pair (.sl (.pair kI kI)) (.sl (.pair kI kI)))) x0) (g1 : Kd.good kI x1) : ∃ k, g_parquetlaw10_ValidSame k x0 x1 = some true :=
  ⟨0 + 1000, same_law 0 x0 x1⟩
end Go.Proofs.Ytjbimhfhapnjeaa.Pure
