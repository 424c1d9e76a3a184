/- What is where, in what faces come to. -/
import Derived.Test.YtiejhpighhjgiaaB8
set_option linter.unusedVariables false
set_option linter.unusedSimpArgs false
namespace Go.Proofs.Ytiejhpighhjgiaa.Pure
open Go.RowKit Go.Proofs.Ytiejhpighhjgiaa.AM

theorem hv_up (p : List Pt) (a b : Int) : hv p (up (a, b)) = (6 * ((pt p a).1 + (pt p b).1), 6 * ((pt p a).2 + (pt p b).2)) := by
  unfold hv up mnI mxI
  dsimp only
  by_cases h1 : b < a
  · rw [if_pos h1, if_neg (by omega)]; refine Prod.ext ?_ ?_ <;> dsimp only <;> omega
  · rw [if_neg h1]
    by_cases h2 : b > a
    · rw [if_pos h2]
    · rw [if_neg h2, show b = a by omega]
def off (f : List (List Int)) (i : Nat) : Nat := ((f.take i).flatMap eds).length
theorem off_succ (f : List (List Int)) (i : Nat) (h : i < f.length) : off f (i + 1) = off f i + (fc f i).length := by
  unfold off; rw [flat_snoc eds f i h, List.length_append, eds_len, fc_get h]
theorem off_zero (f : List (List Int)) : off f 0 = 0 := by simp [off]
theorem off_all (f : List (List Int)) : off f f.length = (alls f).length := by unfold off; rw [List.take_length]; rfl
theorem off_le (f : List (List Int)) (i : Nat) : off f i ≤ (alls f).length := pre_len f i
theorem outs_at {f : List (List Int)} (np : Nat) (L : List Pt) {i k : Nat} (hi : i < f.length) (hk : k < (fc f i).length) : ∀ n, i < n → n ≤ f.length → ∃ h : off f i + k < (outs np L f n).length, (outs np L f n)[off f i + k] = rowv np L (fc f i) i k
  | 0, h, _ => by omega
  | n + 1, h, hn => by
    by_cases e : i = n
    · subst e
      have hl : (outs np L f i).length = off f i := outs_len np L i (by omega)
      have hk' : k < (rows np L f i).length := by simpa [rows] using hk
      have hlt : off f i + k < (outs np L f (i + 1)).length := by rw [outs_snoc, List.length_append, hl]; omega
      refine ⟨hlt, ?_⟩
      have e2 : (outs np L f (i + 1))[off f i + k]? = some (rowv np L (fc f i) i k) := by
        rw [outs_snoc, List.getElem?_append_right (by omega), hl, show off f i + k - off f i = k by omega]
        unfold rows
        rw [List.getElem?_map, List.getElem?_range hk]
        rfl
      rw [List.getElem?_eq_getElem hlt] at e2
      exact Option.some.inj e2
    · obtain ⟨h1, h2⟩ := outs_at np L hi hk n (by omega) (by omega)
      refine ⟨by rw [outs_snoc, List.length_append]; omega, ?_⟩
      rw [← h2]
      have : (outs np L f (n + 1))[off f i + k]? = (outs np L f n)[off f i + k]? := by rw [outs_snoc, List.getElem?_append_left h1]
      rw [List.getElem?_eq_getElem h1, List.getElem?_eq_getElem (by rw [outs_snoc, List.length_append]; omega)] at this
      exact Option.some.inj this
theorem outs_rd {f : List (List Int)} (np : Nat) (L : List Pt) {i k : Nat} (hi : i < f.length) (hk : k < (fc f i).length) : off f i + k < (outs np L f f.length).length ∧ rdD [] (outs np L f f.length) ((off f i + k : Nat) : Int) = rowv np L (fc f i) i k := by
  obtain ⟨h1, h2⟩ := outs_at np L hi hk f.length hi (Nat.le_refl _)
  exact ⟨h1, by rw [rd_get _ _ _ h1, h2]⟩
theorem outs_total (f : List (List Int)) (np : Nat) (L : List Pt) : (outs np L f f.length).length = (alls f).length := by
  rw [outs_len np L _ (Nat.le_refl _), List.take_length]; rfl
theorem plc_len (p : List Pt) (f : List (List Int)) : (plc p f).length = p.length + (edgs f).length + f.length := by simp [plc]; omega
theorem plc_p (p : List Pt) (f : List (List Int)) {x : Int} (h0 : 0 ≤ x) (h1 : x < (p.length : Int)) : rdD (0, 0) (plc p f) x = sc 12 (pt p x) := by
  obtain ⟨n, rfl⟩ := Int.eq_ofNat_of_zero_le h0
  have hn : n < p.length := by omega
  unfold pt plc
  rw [rd_get _ _ _ (by simp; omega), rd_get _ _ _ hn, List.getElem_append_left (by simp; omega), List.getElem_append_left (by simpa using hn), List.getElem_map]
theorem plc_e (p : List Pt) (f : List (List Int)) {s : Pt} (h : s ∈ edgs f) : rdD (0, 0) (plc p f) ((p.length + ix (edgs f) s : Nat) : Int) = hv p s := by
  have hi : ix (edgs f) s < (edgs f).length := List.idxOf_lt_length_of_mem h
  have hg : (edgs f)[ix (edgs f) s] = s := List.getElem_idxOf hi
  unfold plc
  rw [rd_get _ _ _ (by simp; omega), List.getElem_append_left (by simp; omega), List.getElem_append_right (by simp), List.getElem_map]
  congr 1
  simpa using hg
theorem plc_m (p : List Pt) (f : List (List Int)) {i : Nat} (h : i < f.length) : rdD (0, 0) (plc p f) ((p.length + (edgs f).length + i : Nat) : Int) = midv p (fc f i) := by
  unfold plc
  rw [rd_get _ _ _ (by simp; omega), List.getElem_append_right (by simp), List.getElem_map, fc_get h]
  congr 2
  simp
theorem ix_lt {L : List Pt} {s : Pt} (h : s ∈ L) : ix L s < L.length := List.idxOf_lt_length_of_mem h
theorem runv_ok {p : List Pt} {f : List (List Int)} (h : runOk p f) : runv p f = (plc p f, outs p.length (edgs f) f f.length, 0) := by rw [runv, if_pos h]
theorem runv_no {p : List Pt} {f : List (List Int)} (h : ¬runOk p f) : runv p f = ([], [], 2) := by rw [runv, if_neg h]
theorem runv_lens (p : List Pt) (f : List (List Int)) (h : NotMany p f) : (runv p f).1.length ≤ 500 ∧ (runv p f).2.1.length ≤ 200 ∧ ∀ c ∈ (runv p f).2.1, c.length = 4 := by
  unfold runv
  split
  · rename_i hr
    have h1 := h.hp
    have h2 := h.hf
    have h3 := h.ht
    have hl : (edgs f).length ≤ (alls f).length := by
      have : (edgs f).length = (ups f).length := by rw [edgs, if_pos (chk_mono hr.1)]; exact (srtL_perm _).length_eq
      rw [this, ← tab_len]
      exact List.length_filterMap_le _ _
    refine ⟨?_, ?_, ?_⟩
    · unfold plc
      simp only [List.length_append, List.length_map]
      omega
    · show (outs _ _ f f.length).length ≤ 200
      rw [outs_len _ _ _ (Nat.le_refl _), List.take_length]
      unfold alls at h3
      omega
    · intro c hc
      obtain ⟨i, _, hc⟩ := List.mem_flatMap.1 hc
      obtain ⟨k, _, rfl⟩ := List.mem_map.1 hc
      rfl
  · exact ⟨by simp, by simp, by simp⟩
end Go.Proofs.Ytiejhpighhjgiaa.Pure
