/- All faces, halved: the document's answer. -/
import Derived.Test.YtiejhpighhjgiaaB6
set_option linter.unusedVariables false
set_option linter.unusedSimpArgs false
namespace Go.Proofs.Ytiejhpighhjgiaa.Pure
open Go.RowKit Go.Proofs.Ytiejhpighhjgiaa.AM

theorem up_le (s : Pt) : (up s).1 ≤ (up s).2 := by unfold up mnI mxI; dsimp only; (repeat' split) <;> omega
theorem up_iff {s : Pt} (h : s.1 ≤ s.2) (a b : Int) : ((s.1 = a ∧ s.2 = b) ∨ (s.1 = b ∧ s.2 = a)) ↔ s = up (a, b) := by
  constructor
  · rintro (⟨rfl, rfl⟩ | ⟨rfl, rfl⟩)
    · unfold up mnI mxI; dsimp only; refine Prod.ext ?_ ?_ <;> dsimp only <;> split <;> omega
    · unfold up mnI mxI; dsimp only; refine Prod.ext ?_ ?_ <;> dsimp only <;> split <;> omega
  · rintro rfl
    unfold up mnI mxI
    dsimp only
    by_cases h1 : b < a
    · rw [if_pos h1, if_neg (by omega)]; exact .inr ⟨rfl, rfl⟩
    · rw [if_neg h1]
      by_cases h2 : b > a
      · rw [if_pos h2]; exact .inl ⟨rfl, rfl⟩
      · rw [if_neg h2]; exact .inl ⟨rfl, by omega⟩
theorem edg_le {f : List (List Int)} {s : Pt} (h : s ∈ edgs f) : s.1 ≤ s.2 := by
  by_cases hc : chk 1048576 f = 0
  · obtain ⟨e, _, rfl⟩ := (mem_edgs hc s).1 h
    exact up_le e
  · rw [edgs, if_neg hc] at h
    cases h
theorem redge_f (m : Nat) (L : List Pt) (a b : Int) (hl : L.length ≤ 900) (hn : L.Nodup) (hle : ∀ s ∈ L, s.1 ≤ s.2) (hin : up (a, b) ∈ L) : g_parquetref20_edge (m + 1000) L a b = some ((ix L (up (a, b)) : Nat) : Int) := by
  have hi : ix L (up (a, b)) < L.length := List.idxOf_lt_length_of_mem hin
  have hg : L[ix L (up (a, b))] = up (a, b) := List.getElem_idxOf hi
  have key : ∀ {i : Nat} (h : i < L.length) {X Y : Option Int}, (bif decide ((L[i]).1 = a) then (bif decide ((L[i]).2 = b) then (bif true then X else Y) else (bif decide ((L[i]).1 = b) then (bif decide ((L[i]).2 = a) then X else Y) else (bif false then X else Y))) else (bif decide ((L[i]).1 = b) then (bif decide ((L[i]).2 = a) then X else Y) else (bif false then X else Y))) = bif decide (L[i] = up (a, b)) then X else Y := by
    intro i h X Y
    have := up_iff (hle _ (List.getElem_mem h)) a b
    generalize L[i] = s at *
    by_cases c : s = up (a, b)
    · rw [bif_T c]
      have h2 := this.2 c
      by_cases c1 : s.1 = a
      · rw [bif_T c1]
        by_cases c2 : s.2 = b
        · rw [bif_T c2]; rfl
        · rw [bif_F c2]
          rcases h2 with h2 | h2
          · exact absurd h2.2 c2
          · rw [bif_T h2.1, bif_T h2.2]
      · rw [bif_F c1]
        rcases h2 with h2 | h2
        · exact absurd h2.1 c1
        · rw [bif_T h2.1, bif_T h2.2]
    · rw [bif_F c]
      have h2 : ¬((s.1 = a ∧ s.2 = b) ∨ (s.1 = b ∧ s.2 = a)) := fun h => c (this.1 h)
      have e2 : (bif decide (s.1 = b) then (bif decide (s.2 = a) then X else Y) else (bif false then X else Y)) = Y := by
        by_cases c3 : s.1 = b
        · rw [bif_T c3, bif_F (fun c4 => h2 (.inr ⟨c3, c4⟩))]
        · rw [bif_F c3]; rfl
      rw [e2]
      by_cases c1 : s.1 = a
      · rw [bif_T c1, bif_F (fun c2 => h2 (.inl ⟨c1, c2⟩))]
      · rw [bif_F c1]
  unfold g_parquetref20_edge
  simp only [meet]
  refine loop_from (fun i => (L, a, b, (i : Int))) (ix L (up (a, b))) rfl ?_ ?_ (m + 1000) (by omega)
  · intro next
    dsimp only
    rw [bif_T (by omega), gd_t (inb_t ⟨by omega, by omega⟩), rd_get _ _ _ hi, gd_t (inb_t ⟨by omega, by omega⟩), gd_t (inb_t ⟨by omega, by omega⟩), gd_t (inb_t ⟨by omega, by omega⟩)]
    rw [key hi, bif_T hg]
  · intro i hlt next hnx
    have hil : i < L.length := by omega
    dsimp only
    rw [bif_T (by omega), gd_t (inb_t ⟨by omega, by omega⟩), rd_get _ _ _ hil, gd_t (inb_t ⟨by omega, by omega⟩), gd_t (inb_t ⟨by omega, by omega⟩), gd_t (inb_t ⟨by omega, by omega⟩)]
    rw [key hil, bif_F (fun e => List.pairwise_iff_getElem.1 hn i _ hil hi hlt (e.trans hg.symm)), w64_id (by omega) (by omega)]
    exact hnx
theorem rRun_f (m : Nat) (p : List Pt) (f : List (List Int)) (hf : Few p f) : g_parquetref20_Run (m + 1000) p f = some (runv p f) := by
  unfold g_parquetref20_Run b_parquetref20_Run
  rw [rCheck_f m _ f hf.hf hf.hc hf.ht, bnd_s]
  have hfc : ∀ i, i < f.length → (fc f i).length ≤ 900 := fun i hi => by rw [fc_get hi]; exact hf.hc _ (List.getElem_mem _)
  have hp := hf.hp
  have hfl := hf.hf
  have ht := hf.ht
  by_cases hch : chk p.length f = 0
  case neg =>
    rw [bif_nF hch, runv, if_neg (fun h => hch h.1)]
  rw [bif_nT hch]
  refine loop_rel (fun r s v => ∃ i, i ≤ p.length ∧ (∀ q ∈ p.take i, FitT q) ∧ r = p.length - i ∧ s = (p, f, (p.take i).map (sc 12), (i : Int)) ∧ v = some (runv p f)) ?_ (m + 1000) p.length _ _ ⟨0, Nat.zero_le _, by simp, rfl, rfl, rfl⟩ (by omega)
  rintro r s v ⟨i, hi, hok, rfl, rfl, rfl⟩ next hn
  dsimp only
  by_cases e : i < p.length
  · have hbad : ¬FitT p[i] → some ([], [], 2) = some (runv p f) := fun h => by
      rw [runv, if_neg (fun h2 => h (h2.2.1 _ (List.getElem_mem e)))]
    rw [bif_T (by omega), gd_t (inb_t ⟨by omega, by omega⟩), rd_get _ _ _ e, etaP, rfits_f, bnd_s]
    by_cases h3 : FitT p[i]
    case neg =>
      rw [decide_eq_false h3]
      exact hbad h3
    have hb := h3.b
    rw [decide_eq_true h3, Bool.not_true, cF, gd_t (inb_t ⟨by omega, by omega⟩), gd_t (inb_t ⟨by omega, by omega⟩), gd_t (few_t (by rw [List.length_map, List.length_take]; omega)), w64_id (by omega) (by omega), w64_id (by omega) (by omega), w64_id (by omega) (by omega)]
    refine hn (p.length - (i + 1)) _ _ (by omega) ⟨i + 1, by omega, fun q hq => ?_, rfl, ?_, rfl⟩
    · rw [take_snoc _ _ e, List.mem_append, List.mem_singleton] at hq
      rcases hq with hq | rfl
      · exact hok q hq
      · exact h3
    · rw [map_snoc _ _ _ e]
      rfl
  obtain rfl : i = p.length := by omega
  rw [List.take_length] at hok ⊢
  rw [bif_F (by omega)]
  clear hn next
  rw [rEdges_f m f hf.hf hf.hc hf.ht, bnd_s]
  have hLn := srt_nodup (edgs_srt f)
  have hLr : ∀ s ∈ edgs f, (0 ≤ s.1 ∧ s.1 < (p.length : Int)) ∧ 0 ≤ s.2 ∧ s.2 < (p.length : Int) := fun s hs => edg_rng hch hs
  have hLi : ∀ i k, i < f.length → k < (fc f i).length → up (rdD 0 (fc f i) (k : Int), nx (fc f i) k) ∈ edgs f ∧ up (rdD 0 (fc f i) (k : Int), pv (fc f i) k) ∈ edgs f := fun i k hi hk => row_in hch hi hk
  have hLl := edgs_len hch hf
  have hLe : ∀ s ∈ edgs f, s.1 ≤ s.2 := fun s hs => edg_le hs
  have hrun : runv p f = if ∀ c ∈ f, midOk p c then (p.map (sc 12) ++ (edgs f).map (hv p) ++ f.map (midv p), outs p.length (edgs f) f f.length, 0) else ([], [], 2) := by
    unfold runv plc
    by_cases h : ∀ c ∈ f, midOk p c
    · rw [if_pos h, if_pos ⟨hch, hok, h⟩]
    · rw [if_neg h, if_neg (fun h2 => h h2.2.2)]
  generalize runv p f = V at *
  generalize edgs f = L at *
  refine loop_from (fun i => (p, f, p.map (sc 12) ++ (L.take i).map (hv p), L, (i : Int))) L.length (by simp) ?_ ?_ (m + 1000) (by omega)
  · intro next
    dsimp only
    rw [bif_F (by omega), List.take_length]
    clear next
    refine loop_rel (fun r s v => ∃ i, i ≤ f.length ∧ (∀ c ∈ f.take i, midOk p c) ∧ r = f.length - i ∧ s = (p, f, p.map (sc 12) ++ L.map (hv p) ++ (f.take i).map (midv p), L, outs p.length L f i, (i : Int)) ∧ v = some V) ?_ (m + 1000) f.length _ _ ⟨0, Nat.zero_le _, by simp, rfl, by simp [outs], rfl⟩ (by omega)
    rintro r s v ⟨i, hi, hmid, rfl, rfl, rfl⟩ next hn
    dsimp only
    by_cases e : i < f.length
    case neg =>
      obtain rfl : i = f.length := by omega
      rw [List.take_length] at hmid ⊢
      rw [bif_F (by omega), hrun, if_pos hmid]
    rw [bif_T (by omega), gd_t (inb_t ⟨by omega, by omega⟩), rd_get _ _ _ e, rMiddle_f, bnd_s]
    unfold midr
    by_cases h3 : midOk p f[i]
    case neg =>
      rw [if_neg h3, bif_nF (by decide), hrun, if_neg (fun h2 => h3 (h2 _ (List.getElem_mem e)))]
    rw [if_pos h3]
    dsimp only
    have hcl := hfc i e
    have hpre := pre_len f (i + 1)
    rw [flat_snoc eds f i e, List.length_append, eds_len, ← fc_get e, ← outs_len p.length L i (by omega)] at hpre
    rw [bif_nT rfl, gd_t (few_t (by simp; omega)), gd_t (inb_t ⟨by omega, by omega⟩), ← fc_get e]
    refine (loop_from (fun k => (p, f, p.map (sc 12) ++ L.map (hv p) ++ (f.take i).map (midv p) ++ [midv p (fc f i)], L, outs p.length L f i ++ ((List.range k).map (rowv p.length L (fc f i) i)), (i : Int), ((fc f i).length : Int), (k : Int))) (fc f i).length (by simp) ?_ ?_ (m + 1000) (by omega))
    · intro next'
      dsimp only
      rw [bif_F (by omega), w64_id (by omega) (by omega)]
      refine hn (f.length - (i + 1)) _ _ (by omega) ⟨i + 1, by omega, fun q hq => ?_, rfl, ?_, rfl⟩
      · rw [take_snoc _ _ e, List.mem_append, List.mem_singleton] at hq
        rcases hq with hq | rfl
        · exact hmid q hq
        · exact h3
      · rw [map_snoc _ _ _ e, outs_snoc, ← fc_get e, List.append_assoc _ _ [midv p (fc f i)]]
        rfl
    · intro k hk next' hn'
      dsimp only
      have hlk := hLi i k e hk
      have hcp : 0 < (fc f i).length := by omega
      have t1 : (w64 ((k : Int) + 1)).tmod ((fc f i).length : Int) = (((k + 1) % (fc f i).length : Nat) : Int) := by
        rw [w64_id (by omega) (by omega), Int.tmod_eq_emod_of_nonneg (by omega), Int.natCast_emod]
        rfl
      have t2 : (w64 ((w64 ((k : Int) + ((fc f i).length : Int))) - 1)).tmod ((fc f i).length : Int) = (((k + (fc f i).length - 1) % (fc f i).length : Nat) : Int) := by
        rw [w64_id (x := (k : Int) + _) (by omega) (by omega), w64_id (by omega) (by omega), Int.tmod_eq_emod_of_nonneg (by omega), Int.natCast_emod]
        congr 1
        omega
      have m1 : (k + 1) % (fc f i).length < (fc f i).length := Nat.mod_lt _ hcp
      have m2 : (k + (fc f i).length - 1) % (fc f i).length < (fc f i).length := Nat.mod_lt _ hcp
      rw [bif_T (by omega), gd_t (inb_t ⟨by omega, by omega⟩), show rdD [] f (i : Int) = fc f i from rfl, gd_t (inb_t ⟨by omega, by omega⟩), gd_t (inb_t ⟨by omega, by omega⟩), gd_nF (by omega), t1, gd_t (inb_t ⟨by omega, by omega⟩), t2]
      rw [show rdD 0 (fc f i) (((k + 1) % (fc f i).length : Nat) : Int) = nx (fc f i) k from rfl, show rdD 0 (fc f i) (((k + (fc f i).length - 1) % (fc f i).length : Nat) : Int) = pv (fc f i) k from rfl]
      rw [redge_f m L _ _ hLl hLn hLe hlk.1, bnd_s, gd_t (inb_t ⟨by omega, by omega⟩), gd_nF (by omega), gd_t (inb_t ⟨by omega, by omega⟩), redge_f m L _ _ hLl hLn hLe hlk.2, bnd_s, gd_t (few_t (by rw [List.length_append, List.length_map, List.length_range]; omega))]
      have i1 : ix L (up (rdD 0 (fc f i) (k : Int), nx (fc f i) k)) < L.length := List.idxOf_lt_length_of_mem hlk.1
      have i2 : ix L (up (rdD 0 (fc f i) (k : Int), pv (fc f i) k)) < L.length := List.idxOf_lt_length_of_mem hlk.2
      rw [w64_id (x := (k : Int) + 1) (by omega) (by omega), w64_id (x := (p.length : Int) + ((ix L _ : Nat) : Int)) (by omega) (by omega), w64_id (x := (p.length : Int) + (L.length : Int)) (by omega) (by omega), w64_id (by omega) (by omega), w64_id (by omega) (by omega)]
      rw [← hn', List.range_succ, List.map_append, ← List.append_assoc]
      rfl
  · intro i hi next hn
    dsimp only
    have hin := hLr _ (List.getElem_mem hi)
    have q1 := okPt hok hin.1.1 hin.1.2
    have q2 := okPt hok hin.2.1 hin.2.2
    have b1 := q1.b
    have b2 := q2.b
    have hg : ∀ x : Int, 0 ≤ x → x < (p.length : Int) → rdD (0, 0) (p.map (sc 12) ++ (L.take i).map (hv p)) x = sc 12 (pt p x) := by
      intro x h0 h1
      obtain ⟨n, rfl⟩ := Int.eq_ofNat_of_zero_le h0
      have hn : n < p.length := by omega
      unfold pt
      rw [rd_get _ _ _ (by simp; omega), rd_get _ _ _ hn, List.getElem_append_left (by simpa using hn), List.getElem_map]
    rw [bif_T (by omega), gd_t (inb_t ⟨by omega, by omega⟩), rd_get _ _ _ hi]
    have hl2 : (p.map (sc 12) ++ (L.take i).map (hv p)).length = p.length + i := by simp; omega
    rw [gd_t (inb_t ⟨by omega, by omega⟩), gd_t (inb_t ⟨by omega, by omega⟩), gd_t (inb_t ⟨by omega, by omega⟩), gd_t (few_t (by omega)), hg _ hin.1.1 hin.1.2, hg _ hin.2.1 hin.2.2]
    have e6 : ∀ x y : Int, -357913941 ≤ x → x ≤ 357913941 → -357913941 ≤ y → y ≤ 357913941 → w64 ((w64 (12 * x + 12 * y)).tdiv 2) = 6 * (x + y) := fun x y h1 h2 h3 h4 => by
      rw [w64_id (x := 12 * x + 12 * y) (by omega) (by omega), show 12 * x + 12 * y = (6 * (x + y)) * 2 by omega, Int.mul_tdiv_cancel _ (by decide), w64_id (by omega) (by omega)]
    have e1 := e6 (pt p (L[i]).1).1 (pt p (L[i]).2).1 b1.1 b1.2.1 b2.1 b2.2.1
    have e2 := e6 (pt p (L[i]).1).2 (pt p (L[i]).2).2 b1.2.2.1 b1.2.2.2 b2.2.2.1 b2.2.2.2
    show next (p, f, _ ++ [(w64 ((w64 (12 * (pt p (L[i]).1).1 + 12 * (pt p (L[i]).2).1)).tdiv 2), w64 ((w64 (12 * (pt p (L[i]).1).2 + 12 * (pt p (L[i]).2).2)).tdiv 2))], L, w64 ((i : Int) + 1)) = _
    rw [e1, e2, w64_id (by omega) (by omega), ← hn, map_snoc _ _ _ hi, ← List.append_assoc]
    rfl
end Go.Proofs.Ytiejhpighhjgiaa.Pure
