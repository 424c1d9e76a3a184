/- The plain law of FillMakes. -/
import Derived.Test.YtpkkcjmblocjdaaGreatT16
set_option linter.unusedVariables false
set_option linter.unusedSimpArgs false
namespace Go.Proofs.YtpkkcjmblocjdaaGreat.Pure
open Go.RowKit Go.Proofs.YtpkkcjmblocjdaaGreat.AM PL

theorem sameT_g (m : Nat) (l : List Tr) (hl : l.length ≤ m + 900) (hl2 : l.length ≤ 100000) : g_parquetref12_SameTris (m + 1000) l l = some true := by
  unfold g_parquetref12_SameTris
  rw [bif_nT rfl]
  refine loop_from (fun i => (l, l, (i : Int))) l.length rfl (fun next => ?_) (fun i hi next hn => ?_) _ (by omega)
  · dsimp only
    rw [bif_F (by omega)]
  · dsimp only
    have hin : inb (i : Int) l.length = true := inb_t ⟨by omega, by omega⟩
    simp only [hin, gT]
    rw [bif_T (by omega), w64_id (x := (i : Int) + 1) (by omega) (by omega)]
    simp only [decide_true, Bool.and_self, Bool.not_true, cF]
    exact hn
theorem sameS_g (m : Nat) (l : List Pt) (hl : l.length ≤ 900) : g_parquetref05_SameSegs (m + 1000) l l = some true := by
  unfold g_parquetref05_SameSegs
  rw [show (!(decide ((l.length : Int) = (l.length : Int)))) = false from by rw [decide_eq_true rfl]; rfl, cF]
  refine loop_list (fun i => (l, l, (i : Int))) l.length (fun _ => some true) ?_ ?_ (m + 1000) 0 (Nat.zero_le _) (by omega)
  · intro next
    dsimp only
    rw [bif_F (by omega)]
  · intro i hi next hn
    dsimp only at hn ⊢
    rw [bif_T (by omega), gd_t (inb_t ⟨by omega, by omega⟩), gd_t (inb_t ⟨by omega, by omega⟩), eqP, decide_eq_true rfl, Bool.not_true, cF, w64_id (by omega) (by omega)]
    exact hn
theorem sameM_g (m : Nat) (M : Mesh) (hp : M.1.length ≤ 600) (hT : M.2.1.length ≤ m + 900) (hT2 : M.2.1.length ≤ 100000) (hS : M.2.2.length ≤ 900) : g_parquetref12_Same (m + 1000) M M = some true := by
  unfold g_parquetref12_Same b_parquetref12_Same
  simp only [meet]
  rw [sameP_f m _ hp, bnd_s, cT, sameT_g m _ hT hT2, bnd_s, cT, sameS_g m _ hS, bnd_s]
theorem notManyW {p : Poly} (h : ¬ manyw p) : p.1.length ≤ 300 ∧ p.2.1.length ≤ 500 ∧ p.2.2.length ≤ 500 := by unfold manyw at h; omega
theorem makes_law (m : Nat) (hm : 25000 ≤ m) (p : Poly) : g_parquetlaw12_FillMakes (m + 1000) p = some true := by
  unfold g_parquetlaw12_FillMakes b_parquetlaw12_FillMakes
  have kn : (bnd (g_parquetlaw12_known (m + 1000)) fun r5 => some r5) = some true := by rw [known_f, bnd_s]
  obtain ⟨bm, hm1, hm2⟩ := manyW_f (m + 1000) p
  rw [show g_parquetlaw12_many (m + 1000) (p.1, p.2.1, p.2.2) = _ from hm1, bnd_s]
  cases bm with
  | true => exact kn
  | false =>
    have hnm := notManyW (hm2 rfl)
    rw [cF, gd_t (few_t (by omega)), gd_t (few_t (by omega)), gd_t (few_t (by omega))]
    obtain ⟨E, T, S, P, e, h1, h2, h3, h4, hE, hT, hS, hP⟩ : ∃ (E : List Pt) (T : List Tr) (S P : List Pt) (e : Int), g_fill_Edges (m + 1000) p = some (E, e) ∧ g_parquetref12_Edges (m + 1000) p = some (E, e) ∧ g_mix_fill_Make (m + 1000) p = some (P, ([], T, S), e) ∧ g_parquetref12_Make (m + 1000) p = some ((P, T, S), e) ∧ E.length ≤ 900 ∧ T.length ≤ 20000 ∧ S.length ≤ 900 ∧ P.length ≤ 600 := by
      have none : g_fill_Edges (m + 1000) p = some ([], 2) → g_parquetref12_Edges (m + 1000) p = some ([], 2) → g_mix_fill_Make (m + 1000) p = some ([], ([], [], []), 2) → g_parquetref12_Make (m + 1000) p = some (([], [], []), 2) → ∃ (E : List Pt) (T : List Tr) (S P : List Pt) (e : Int), g_fill_Edges (m + 1000) p = some (E, e) ∧ g_parquetref12_Edges (m + 1000) p = some (E, e) ∧ g_mix_fill_Make (m + 1000) p = some (P, ([], T, S), e) ∧ g_parquetref12_Make (m + 1000) p = some ((P, T, S), e) ∧ E.length ≤ 900 ∧ T.length ≤ 20000 ∧ S.length ≤ 900 ∧ P.length ≤ 600 := fun a b c d => ⟨[], [], [], [], 2, a, b, c, d, by simp, by simp, by simp, by simp⟩
      rcases few_of (hm2 rfl) with hb | h
      · refine none (Edges_bad m hb) (rEdges_bad m hb) ?_ (rMake_bad m hb)
        unfold g_mix_fill_Make b_mix_fill_Make
        rw [show g_fill_Edges (m + 1000) (p.1, p.2.1, p.2.2) = _ from Edges_bad m hb, bnd_s]
        rfl
      · have a1 := Edges_f m h
        have a2 := rEdges_f m h
        have a3 := MakeM_f m h (good_fine h.sm)
        have a4 := rMake_f m hm h
        cases hg : good0 p with
        | false =>
          rw [hg, if_neg (by decide)] at a1 a2 a3 a4
          exact none a1 a2 a3 a4
        | true =>
          rw [hg, if_pos rfl] at a1 a2 a3 a4
          have hn := h.n; have hL := h.l; have hI := h.i
          refine ⟨_, _, _, _, _, a1, a2, a3, a4, Nat.le_trans (edgesv_len h) (by omega), ?_, ?_, by omega⟩
          · have h1 := flat_len (rowF p (edgesv p)) 24 (edgesv p) (fun s _ => Nat.le_trans (rowE_len p (edgesv p) s (cnt p s)) (by unfold cnt; omega))
            have h2 := edgesv_len h
            unfold trisv
            rw [(srtL_prm _ _).length_eq]
            unfold triL
            omega
          · rw [segsv_len]
            show (p.2.1 ++ p.2.2).length ≤ _
            rw [List.length_append]; omega
    rw [show g_fill_Edges (m + 1000) (p.1, p.2.1, p.2.2) = _ from h1, bnd_s, show g_parquetref12_Edges (m + 1000) (p.1, p.2.1, p.2.2) = _ from h2, bnd_s, show g_mix_fill_Make (m + 1000) (p.1, p.2.1, p.2.2) = _ from h3, bnd_s, show g_parquetref12_Make (m + 1000) (p.1, p.2.1, p.2.2) = _ from h4, bnd_s]
    simp only [meet]
    rw [sameS_g m E hE, bnd_s, Bool.not_true, cF, bif_nT trivial, show g_parquetref12_Same (m + 1000) (P, T, S) (P, T, S) = _ from sameM_g m (P, T, S) hP (by show T.length ≤ _; omega) (by show T.length ≤ _; omega) hS, bnd_s, Bool.not_true, cF]
    simp only [decide_true, Bool.not_true, cF]
    refine loop_rel (fun r s v => ∃ (i : Nat) (Q : List Pt), i ≤ Q.length ∧ Q.length ≤ 600 ∧ r = Q.length - i ∧ s = (p, p, (Q, T, S), (i : Int)) ∧ v = some true) ?_ (m + 1000) P.length _ _ ⟨0, P, by omega, hP, by omega, rfl, rfl⟩ (by omega)
    rintro r s v ⟨i, Q, hi, hQ, rfl, rfl, rfl⟩ next hn
    dsimp only
    by_cases e : i = Q.length
    · rw [bif_F (by omega), show g_parquetref05_Same (m + 1000) (p.1, p.2.1, p.2.2) (p.1, p.2.1, p.2.2) = _ from same_f m hnm, bnd_s, cT, kn]
    · rw [bif_T (by omega), gd_t (inb_t ⟨by omega, by omega⟩), w64_id (x := (i : Int) + 1) (by omega) (by omega)]
      have hl : (stL Q (i : Int) (7777777, (rdD (0, 0) Q (i : Int)).2)).length = Q.length := by unfold stL; exact List.length_set
      exact hn (Q.length - (i + 1)) _ _ (by omega) ⟨i + 1, _, by rw [hl]; omega, by rw [hl]; exact hQ, by rw [hl], rfl, rfl⟩
theorem FillMakes (x0 : ((List (Int × Int)) × ((List (Int × Int)) × (List (Int × Int))))) (g0 : Kd.good (.pair (.sl (.pair kI kI)) (.pair (.sl (.pair kI kI)) (.sl (.pair kI kI)))) x0) : ∃ k, g_parquetlaw12_FillMakes k x0 = some true :=
  ⟨25000 + 1000, makes_law 25000 (Nat.le_refl _) x0⟩
end Go.Proofs.YtpkkcjmblocjdaaGreat.Pure
