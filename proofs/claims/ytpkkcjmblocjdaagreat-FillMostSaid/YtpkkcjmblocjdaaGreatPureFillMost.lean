/- The plain law of FillMost. -/
import Derived.Test.YtpkkcjmblocjdaaGreatT12
set_option linter.unusedVariables false
set_option linter.unusedSimpArgs false
namespace Go.Proofs.YtpkkcjmblocjdaaGreat.Pure
open Go.RowKit Go.Proofs.YtpkkcjmblocjdaaGreat.AM PL

theorem insdR (m : Nat) (a b c : Pt) : g_parquetref04_Inside (m + 1000) a b c = some (decide (Ins a b c)) := rInside_f (m + 900) a b c
theorem segsR (m : Nat) (a b c d : Pt) : g_parquetref04_Segs (m + 1000) a b c d = some (segs a b c d) := by rw [← rsegs_eq]; exact rSegs_f (m + 900) a b c d
abbrev StM : Type := Poly × List Pt × Int × Int × Bool × Int
/-- Among all edges one is crossed. -/
theorem most2 (m : Nat) {p : Poly} {E : List Pt} (hE : E.length ≤ 900) {a b : Int} (ha : inr a p.1.length) (hb : inr b p.1.length) (ok : ∀ s ∈ E, oks p.1.length s ∧ s.1 < s.2) {J : Poly → List Pt → Int → Int → Option Bool} {v : Option Bool} (hJ : J p E a b = v) (f : Bool) (hf : f = true → crsB p.1 E a b = true) {F : StM → (StM → Option Bool) → Option Bool}
    (hF : ∀ (x36 : Poly) x37 x38 x39 x40 x41 next35, F (x36, x37, x38, x39, x40, x41) next35 =
             meet (α := (((List (Int × Int)) × ((List (Int × Int)) × (List (Int × Int)))) × ((List (Int × Int)) × (Int × (Int × (Bool × (Int × Bool))))))) (fun (y42, y43, y44, y45, y46, y47, y48) =>
              bif y48 then
               meet (α := (((List (Int × Int)) × ((List (Int × Int)) × (List (Int × Int)))) × ((List (Int × Int)) × (Int × (Int × (Int × Bool)))))) (fun (y49, y50, y51, y52, y53, y54) =>
                bif y54 then
                 some false
                else
                 gd (inb y51 y49.1.length) <|
                 gd (inb y52 y49.1.length) <|
                 gd (inb y53 y50.length) <|
                 gd (inb (rdD (0, 0) y50 y53).1 y49.1.length) <|
                 gd (inb y53 y50.length) <|
                 gd (inb (rdD (0, 0) y50 y53).2 y49.1.length) <|
                 bnd (g_parquetref04_Segs (m + 1000) ((rdD (0, 0) y49.1 y51).1, (rdD (0, 0) y49.1 y51).2) ((rdD (0, 0) y49.1 y52).1, (rdD (0, 0) y49.1 y52).2) ((rdD (0, 0) y49.1 (rdD (0, 0) y50 y53).1).1, (rdD (0, 0) y49.1 (rdD (0, 0) y50 y53).1).2) ((rdD (0, 0) y49.1 (rdD (0, 0) y50 y53).2).1, (rdD (0, 0) y49.1 (rdD (0, 0) y50 y53).2).2)) fun r55 =>
                 next35 ((y49.1, y49.2.1, y49.2.2), y50, y51, y52, decide (r55.1 ≤ 1), w64 (y53 + 1))) fun j56 =>
               gd (inb y47 y43.length) <|
               bif decide ((rdD (0, 0) y43 y47).1 < 0) then
                j56 ((y42.1, y42.2.1, y42.2.2), y43, y44, y45, y47, true)
               else
                gd (inb y47 y43.length) <|
                bif decide ((rdD (0, 0) y43 y47).2 ≥ (y42.1.length : Int)) then
                 j56 ((y42.1, y42.2.1, y42.2.2), y43, y44, y45, y47, true)
                else
                 gd (inb y47 y43.length) <|
                 gd (inb y47 y43.length) <|
                 j56 ((y42.1, y42.2.1, y42.2.2), y43, y44, y45, y47, decide ((rdD (0, 0) y43 y47).1 ≥ (rdD (0, 0) y43 y47).2))
              else
               bif y46 then
                some false
               else
                J y42 y43 y44 y45) fun j57 =>
             bif decide (x41 < (x37.length : Int)) then
              j57 ((x36.1, x36.2.1, x36.2.2), x37, x38, x39, x40, x41, x40)
             else
              j57 ((x36.1, x36.2.1, x36.2.2), x37, x38, x39, x40, x41, false)) :
    loopN F (m + 1000) (p, E, a, b, f, 0) = v := by
  have out : ∀ (i : Int) next, F (p, E, a, b, false, i) next = v := by
    intro i next
    rw [hF]
    simp only [meet]
    by_cases h : i < (E.length : Int)
    · rw [bif_T h]; exact hJ
    · rw [bif_F h]; exact hJ
  cases f with
  | false => rw [show m + 1000 = (m + 999) + 1 from rfl, loop_s, out]
  | true =>
    have hc := hf rfl
    unfold crsB at hc
    obtain ⟨s, hs, hc⟩ := List.any_eq_true.1 hc
    obtain ⟨j, hj, rfl⟩ := List.getElem_of_mem hs
    have hc := of_decide_eq_true hc
    refine loop_rel (fun r s w => ∃ (i : Nat) (f : Bool), r = E.length - i ∧ i ≤ E.length ∧ s = (p, E, a, b, f, (i : Int)) ∧ w = v ∧ (f = true → i ≤ j)) ?_ (m + 1000) E.length _ _ ⟨0, true, by omega, by omega, rfl, rfl, fun _ => by omega⟩ (by omega)
    rintro r s w ⟨i, f, rfl, hi, rfl, rfl, hij⟩ next hn
    cases f with
    | false => exact out _ _
    | true =>
      have hij := hij rfl
      have hi' : i < E.length := by omega
      have h0 := ok _ (List.getElem_mem hi')
      obtain ⟨⟨⟨q1, q2⟩, ⟨q3, q4⟩⟩, q5⟩ := h0
      have hin : inb (i : Int) E.length = true := inb_t ⟨by omega, by omega⟩
      have ep : ∀ i : Int, ((rdD (0, 0) p.1 i).1, (rdD (0, 0) p.1 i).2) = pt p.1 i := fun _ => rfl
      rw [hF]
      simp only [meet, hin, gT, rd_get _ E i hi', inb_r ha, inb_r hb, inb_t ⟨q1, q2⟩, inb_t ⟨q3, q4⟩, ep, segsR, bnd_s]
      rw [bif_T (by omega), cT, bif_F (by omega), bif_F (by omega), decide_eq_false (show ¬ E[i].1 ≥ E[i].2 by omega), cF, w64_id (x := (i : Int) + 1) (by omega) (by omega)]
      refine hn (E.length - (i + 1)) _ _ (by omega) ⟨i + 1, _, rfl, by omega, rfl, rfl, fun hd => ?_⟩
      have hd := of_decide_eq_true hd
      by_cases e : i = j
      · subst e; omega
      · omega
theorem most1 (m : Nat) {p : Poly} {E : List Pt} (hp : p.1.length ≤ 900) {a b : Int} (ha : inr a p.1.length) (hb : inr b p.1.length) {K : Poly → List Pt → Int → Int → Bool → Option Bool} {v : Option Bool} (f0 : Bool) (hK : ∀ f, (f = true → f0 = true ∧ insB p.1 a b = false) → K p E a b f = v) {F : StM → (StM → Option Bool) → Option Bool}
    (hF : ∀ (x21 : Poly) x22 x23 x24 x25 x26 next20, F (x21, x22, x23, x24, x25, x26) next20 =
           bif decide (x26 < (x21.1.length : Int)) then
            meet (α := (((List (Int × Int)) × ((List (Int × Int)) × (List (Int × Int)))) × ((List (Int × Int)) × (Int × (Int × (Bool × Int)))))) (fun (y27, y28, y29, y30, y31, y32) =>
             next20 ((y27.1, y27.2.1, y27.2.2), y28, y29, y30, y31, w64 (y32 + 1))) fun j33 =>
            bif x25 then
             gd (inb x23 x21.1.length) <|
             gd (inb x24 x21.1.length) <|
             gd (inb x26 x21.1.length) <|
             bnd (g_parquetref04_Inside (m + 1000) ((rdD (0, 0) x21.1 x23).1, (rdD (0, 0) x21.1 x23).2) ((rdD (0, 0) x21.1 x24).1, (rdD (0, 0) x21.1 x24).2) ((rdD (0, 0) x21.1 x26).1, (rdD (0, 0) x21.1 x26).2)) fun r34 =>
             j33 ((x21.1, x21.2.1, x21.2.2), x22, x23, x24, !r34, x26)
            else
             j33 ((x21.1, x21.2.1, x21.2.2), x22, x23, x24, false, x26)
           else K x21 x22 x23 x24 x25) :
    loopN F (m + 1000) (p, E, a, b, f0, 0) = v := by
  refine loop_from (fun i => (p, E, a, b, f0 && !((p.1.take i).any fun q => decide (Ins (pt p.1 a) (pt p.1 b) q)), (i : Int))) p.1.length ?_ (fun next => ?_) (fun i hi next hn => ?_) (m + 1000) (by omega)
  · simp
  · rw [hF, bif_F (by omega), List.take_length]
    refine hK _ fun h => ?_
    rw [Bool.and_eq_true, Bool.not_eq_true'] at h
    exact h
  · have hin : inb (i : Int) p.1.length = true := inb_t ⟨by omega, by omega⟩
    have ep : ∀ i : Int, ((rdD (0, 0) p.1 i).1, (rdD (0, 0) p.1 i).2) = pt p.1 i := fun _ => rfl
    rw [hF]
    simp only [meet, hin, gT, inb_r ha, inb_r hb, ep, insdR, bnd_s]
    rw [bif_T (by omega), w64_id (x := (i : Int) + 1) (by omega) (by omega), ← hn, take_snoc _ _ hi, List.any_append, pt_nat hi]
    cases f0 with
    | false => rfl
    | true =>
      cases (p.1.take i).any fun q => decide (Ins (pt p.1 a) (pt p.1 b) q) with
      | true => rfl
      | false =>
        simp only [Bool.not_false, Bool.and_self, cT, List.any_cons, List.any_nil, Bool.or_false, Bool.false_or, Bool.true_and]
        rfl
theorem most_main (m : Nat) {p : Poly} (h : Few p) (hg : good0 p = true) {F : (Poly × List Pt × Int) → ((Poly × List Pt × Int) → Option Bool) → Option Bool} {G : ((Poly × List Pt × Int) → Option Bool) → (Poly × List Pt × Int × Int) → ((Poly × List Pt × Int × Int) → Option Bool) → Option Bool}
    (hG : ∀ next (a b : Int) nx, inr a p.1.length → inr b p.1.length → a < b → nx (p, edgesv p, a, b + 1) = some true → G next (p, edgesv p, a, b) nx = some true)
    (hG0 : ∀ next (a : Int) nx, 0 ≤ a → a < p.1.length → G next (p, edgesv p, a, (p.1.length : Int)) nx = next (p, edgesv p, a + 1))
    (hF : ∀ (x5 : Poly) x6 x7 next4, F (x5, x6, x7) next4 = bif decide (x7 < (x5.1.length : Int)) then loopN (G next4) (m + 1000) ((x5.1, x5.2.1, x5.2.2), x6, x7, w64 (x7 + 1)) else bnd (g_parquetlaw12_known (m + 1000)) fun r58 => some r58) :
    loopN F (m + 1000) (p, edgesv p, 0) = some true := by
  have hn := h.n
  refine loop_from (fun i => (p, edgesv p, (i : Int))) p.1.length rfl (fun next => ?_) (fun i hi next hnx => ?_) _ (by omega)
  · rw [hF, bif_F (by omega), known_f, bnd_s]
  · rw [hF, bif_T (by omega), w64_id (x := (i : Int) + 1) (by omega) (by omega)]
    refine loop_from (fun j => (p, edgesv p, (i : Int), ((i + 1 + j : Nat) : Int))) (p.1.length - (i + 1)) rfl (fun nx => ?_) (fun j hj nx hn' => ?_) _ (by omega)
    · rw [show i + 1 + (p.1.length - (i + 1)) = p.1.length by omega, hG0 _ _ _ (by omega) (by omega), ← hnx]
      rfl
    · exact hG _ _ _ _ ⟨by omega, by omega⟩ ⟨by omega, by omega⟩ (by omega) hn'
theorem most_law (m : Nat) (p : Poly) : g_parquetlaw12_FillMost (m + 1000) p = some true := by
  unfold g_parquetlaw12_FillMost b_parquetlaw12_FillMost
  have kn : (bnd (g_parquetlaw12_known (m + 1000)) fun r5 => some r5) = some true := by rw [known_f, bnd_s]
  obtain ⟨bm, hm1, hm2⟩ := manyW_f (m + 1000) p
  rw [show g_parquetlaw12_many (m + 1000) (p.1, p.2.1, p.2.2) = _ from hm1]
  rw [show ∀ (A B : _), meet A B = B A from fun _ _ => rfl, bnd_s]
  cases bm with
  | true => exact kn
  | false =>
    rw [cF]
    by_cases hn : (p.1.length : Int) > 14
    · rw [bif_T hn]; exact kn
    rw [bif_F hn]
    rcases few_of (hm2 rfl) with hb | h
    · rw [show g_parquetref10_Right (m + 1000) (p.1, p.2.1, p.2.2) = _ from rRight_bad m hb, bnd_s]
      exact kn
    · rw [show g_parquetref10_Right (m + 1000) (p.1, p.2.1, p.2.2) = _ from rRight_f m h.sm, bnd_s]
      cases hg : good0 p with
      | false => exact kn
      | true =>
        rw [Bool.not_true]
        dsimp only
        have he := Edges_f m h
        rw [if_pos hg] at he
        rw [cF, show g_fill_Edges (m + 1000) (p.1, p.2.1, p.2.2) = _ from he, bnd_s, bif_nT rfl]
        have hf := (good_fine h.sm hg).1
        have J := edg_J hf
        have hlen := edgesv_len h
        have ok : ∀ s ∈ edgesv p, oks p.1.length s ∧ s.1 < s.2 := fun s hs => J.ok s ((edgesv_mem p s).1 hs)
        have hn := h.n; have hL := h.l
        refine most_main m h hg (G := fun next4 =>
          (fun (x9, x10, x11, x12) next8 =>
                  bif decide (x12 < (x9.1.length : Int)) then
                   meet (α := (((List (Int × Int)) × ((List (Int × Int)) × (List (Int × Int)))) × ((List (Int × Int)) × (Int × Int)))) (fun (y13, y14, y15, y16) =>
                    next8 ((y13.1, y13.2.1, y13.2.2), y14, y15, w64 (y16 + 1))) fun j17 =>
                   bnd (g_parquetref12_Has (m + 1000) x10 x11 x12) fun r18 =>
                   bif r18 then
                    j17 ((x9.1, x9.2.1, x9.2.2), x10, x11, x12)
                   else
                    bnd (g_parquetref09_Middle (m + 1000) x9.1 x9.2.1 [x11, x12]) fun r19 =>
                    loopN (α := (((List (Int × Int)) × ((List (Int × Int)) × (List (Int × Int)))) × ((List (Int × Int)) × (Int × (Int × (Bool × Int)))))) (fun (x21, x22, x23, x24, x25, x26) next20 =>
                     bif decide (x26 < (x21.1.length : Int)) then
                      meet (α := (((List (Int × Int)) × ((List (Int × Int)) × (List (Int × Int)))) × ((List (Int × Int)) × (Int × (Int × (Bool × Int)))))) (fun (y27, y28, y29, y30, y31, y32) =>
                       next20 ((y27.1, y27.2.1, y27.2.2), y28, y29, y30, y31, w64 (y32 + 1))) fun j33 =>
                      bif x25 then
                       gd (inb x23 x21.1.length) <|
                       gd (inb x24 x21.1.length) <|
                       gd (inb x26 x21.1.length) <|
                       bnd (g_parquetref04_Inside (m + 1000) ((rdD (0, 0) x21.1 x23).1, (rdD (0, 0) x21.1 x23).2) ((rdD (0, 0) x21.1 x24).1, (rdD (0, 0) x21.1 x24).2) ((rdD (0, 0) x21.1 x26).1, (rdD (0, 0) x21.1 x26).2)) fun r34 =>
                       j33 ((x21.1, x21.2.1, x21.2.2), x22, x23, x24, !r34, x26)
                      else
                       j33 ((x21.1, x21.2.1, x21.2.2), x22, x23, x24, false, x26)
                     else
                      loopN (α := (((List (Int × Int)) × ((List (Int × Int)) × (List (Int × Int)))) × ((List (Int × Int)) × (Int × (Int × (Bool × Int)))))) (fun (x36, x37, x38, x39, x40, x41) next35 =>
                       meet (α := (((List (Int × Int)) × ((List (Int × Int)) × (List (Int × Int)))) × ((List (Int × Int)) × (Int × (Int × (Bool × (Int × Bool))))))) (fun (y42, y43, y44, y45, y46, y47, y48) =>
                        bif y48 then
                         meet (α := (((List (Int × Int)) × ((List (Int × Int)) × (List (Int × Int)))) × ((List (Int × Int)) × (Int × (Int × (Int × Bool)))))) (fun (y49, y50, y51, y52, y53, y54) =>
                          bif y54 then
                           some false
                          else
                           gd (inb y51 y49.1.length) <|
                           gd (inb y52 y49.1.length) <|
                           gd (inb y53 y50.length) <|
                           gd (inb (rdD (0, 0) y50 y53).1 y49.1.length) <|
                           gd (inb y53 y50.length) <|
                           gd (inb (rdD (0, 0) y50 y53).2 y49.1.length) <|
                           bnd (g_parquetref04_Segs (m + 1000) ((rdD (0, 0) y49.1 y51).1, (rdD (0, 0) y49.1 y51).2) ((rdD (0, 0) y49.1 y52).1, (rdD (0, 0) y49.1 y52).2) ((rdD (0, 0) y49.1 (rdD (0, 0) y50 y53).1).1, (rdD (0, 0) y49.1 (rdD (0, 0) y50 y53).1).2) ((rdD (0, 0) y49.1 (rdD (0, 0) y50 y53).2).1, (rdD (0, 0) y49.1 (rdD (0, 0) y50 y53).2).2)) fun r55 =>
                           next35 ((y49.1, y49.2.1, y49.2.2), y50, y51, y52, decide (r55.1 ≤ 1), w64 (y53 + 1))) fun j56 =>
                         gd (inb y47 y43.length) <|
                         bif decide ((rdD (0, 0) y43 y47).1 < 0) then
                          j56 ((y42.1, y42.2.1, y42.2.2), y43, y44, y45, y47, true)
                         else
                          gd (inb y47 y43.length) <|
                          bif decide ((rdD (0, 0) y43 y47).2 ≥ (y42.1.length : Int)) then
                           j56 ((y42.1, y42.2.1, y42.2.2), y43, y44, y45, y47, true)
                          else
                           gd (inb y47 y43.length) <|
                           gd (inb y47 y43.length) <|
                           j56 ((y42.1, y42.2.1, y42.2.2), y43, y44, y45, y47, decide ((rdD (0, 0) y43 y47).1 ≥ (rdD (0, 0) y43 y47).2))
                        else
                         bif y46 then
                          some false
                         else
                          j17 ((y42.1, y42.2.1, y42.2.2), y43, y44, y45)) fun j57 =>
                       bif decide (x41 < (x37.length : Int)) then
                        j57 ((x36.1, x36.2.1, x36.2.2), x37, x38, x39, x40, x41, x40)
                       else
                        j57 ((x36.1, x36.2.1, x36.2.2), x37, x38, x39, x40, x41, false)) (m + 1000) ((x21.1, x21.2.1, x21.2.2), x22, x23, x24, x25, 0)) (m + 1000) ((x9.1, x9.2.1, x9.2.2), x10, x11, x12, decide (r19.1 = 1), 0)
                  else
                   next4 ((x9.1, x9.2.1, x9.2.2), x10, w64 (x11 + 1)))) ?hG ?hG0 (fun _ _ _ _ => rfl)
        case hG0 =>
          intro next a nx h0 h1
          dsimp only
          rw [bif_F (by omega), w64_id (x := a + 1) (by omega) (by omega)]
        case hG =>
          intro next a b nx ha hb hab hnx
          obtain ⟨a1, a2⟩ := ha
          obtain ⟨b1, b2⟩ := hb
          dsimp only
          rw [bif_T (by omega), show ∀ (A B : _), meet A B = B A from fun _ _ => rfl, Has_f m _ _ _ (by omega), bnd_s]
          have hJ : nx (p, edgesv p, a, w64 (b + 1)) = some true := by rw [w64_id (x := b + 1) (by omega) (by omega)]; exact hnx
          cases hh : hasv (edgesv p) a b with
          | true => exact hJ
          | false =>
            rw [cF, midT m _ _ _ (by simp) (by simp) (by omega), bnd_s]
            refine most1 m (by omega) ⟨a1, a2⟩ ⟨b1, b2⟩ (K := fun x21 x22 x23 x24 x25 =>
                          loopN (α := (((List (Int × Int)) × ((List (Int × Int)) × (List (Int × Int)))) × ((List (Int × Int)) × (Int × (Int × (Bool × Int)))))) (fun (x36, x37, x38, x39, x40, x41) next35 =>
                           meet (α := (((List (Int × Int)) × ((List (Int × Int)) × (List (Int × Int)))) × ((List (Int × Int)) × (Int × (Int × (Bool × (Int × Bool))))))) (fun (y42, y43, y44, y45, y46, y47, y48) =>
                            bif y48 then
                             meet (α := (((List (Int × Int)) × ((List (Int × Int)) × (List (Int × Int)))) × ((List (Int × Int)) × (Int × (Int × (Int × Bool)))))) (fun (y49, y50, y51, y52, y53, y54) =>
                              bif y54 then
                               some false
                              else
                               gd (inb y51 y49.1.length) <|
                               gd (inb y52 y49.1.length) <|
                               gd (inb y53 y50.length) <|
                               gd (inb (rdD (0, 0) y50 y53).1 y49.1.length) <|
                               gd (inb y53 y50.length) <|
                               gd (inb (rdD (0, 0) y50 y53).2 y49.1.length) <|
                               bnd (g_parquetref04_Segs (m + 1000) ((rdD (0, 0) y49.1 y51).1, (rdD (0, 0) y49.1 y51).2) ((rdD (0, 0) y49.1 y52).1, (rdD (0, 0) y49.1 y52).2) ((rdD (0, 0) y49.1 (rdD (0, 0) y50 y53).1).1, (rdD (0, 0) y49.1 (rdD (0, 0) y50 y53).1).2) ((rdD (0, 0) y49.1 (rdD (0, 0) y50 y53).2).1, (rdD (0, 0) y49.1 (rdD (0, 0) y50 y53).2).2)) fun r55 =>
                               next35 ((y49.1, y49.2.1, y49.2.2), y50, y51, y52, decide (r55.1 ≤ 1), w64 (y53 + 1))) fun j56 =>
                             gd (inb y47 y43.length) <|
                             bif decide ((rdD (0, 0) y43 y47).1 < 0) then
                              j56 ((y42.1, y42.2.1, y42.2.2), y43, y44, y45, y47, true)
                             else
                              gd (inb y47 y43.length) <|
                              bif decide ((rdD (0, 0) y43 y47).2 ≥ (y42.1.length : Int)) then
                               j56 ((y42.1, y42.2.1, y42.2.2), y43, y44, y45, y47, true)
                              else
                               gd (inb y47 y43.length) <|
                               gd (inb y47 y43.length) <|
                               j56 ((y42.1, y42.2.1, y42.2.2), y43, y44, y45, y47, decide ((rdD (0, 0) y43 y47).1 ≥ (rdD (0, 0) y43 y47).2))
                            else
                             bif y46 then
                              some false
                             else
                              nx ((y42.1, y42.2.1, y42.2.2), y43, y44, w64 (y45 + 1))) fun j57 =>
                           bif decide (x41 < (x37.length : Int)) then
                            j57 ((x36.1, x36.2.1, x36.2.2), x37, x38, x39, x40, x41, x40)
                           else
                            j57 ((x36.1, x36.2.1, x36.2.2), x37, x38, x39, x40, x41, false)) (m + 1000) ((x21.1, x21.2.1, x21.2.2), x22, x23, x24, x25, 0)) _ (fun f hf' => ?_) (fun _ _ _ _ _ _ _ => rfl)
            refine most2 m (by omega) ⟨a1, a2⟩ ⟨b1, b2⟩ ok (J := fun y42 y43 y44 y45 => nx ((y42.1, y42.2.1, y42.2.2), y43, y44, w64 (y45 + 1))) hJ f (fun ht => ?_) (fun _ _ _ _ _ _ _ => rfl)
            obtain ⟨q1, q2⟩ := hf' ht
            have hno : (a, b) ∉ edgesv p := by
              intro hm
              have : hasv (edgesv p) a b = true := List.any_eq_true.2 ⟨(a, b), hm, decide_eq_true (.inl ⟨rfl, rfl⟩)⟩
              rw [this] at hh
              cases hh
            have hmax := edg_max (p := p) (a := a.toNat) (b := b.toNat) (by omega) (by omega)
            rw [Int.toNat_of_nonneg a1, Int.toNat_of_nonneg b1] at hmax
            rcases hmax with hmax | hmax
            · exact absurd ((edgesv_mem p _).2 hmax) hno
            · have hcr : crsB p.1 (edg p) a b = true := by
                unfold goesv at hmax
                rw [q2, of_decide_eq_true q1] at hmax
                simpa using hmax
              unfold crsB at hcr ⊢
              rw [List.any_eq_true] at hcr ⊢
              obtain ⟨s, hs, hx⟩ := hcr
              exact ⟨s, (edgesv_mem p s).2 hs, hx⟩
theorem FillMost (x0 : ((List (Int × Int)) × ((List (Int × Int)) × (List (Int × Int))))) (g0 : Kd.good (.pair (.sl (.pair kI kI)) (.pair (.sl (.pair kI kI)) (.sl (.pair kI kI)))) x0) : ∃ k, g_parquetlaw12_FillMost k x0 = some true :=
  ⟨1000, (by simpa using most_law 0 x0)⟩
end Go.Proofs.YtpkkcjmblocjdaaGreat.Pure
