/- Faces that may be: the document's answer. -/
import Derived.Test.YtiejhpighhjgiaaB1
set_option linter.unusedVariables false
set_option linter.unusedSimpArgs false
namespace Go.Proofs.Ytiejhpighhjgiaa.Pure
open Go.RowKit Go.Proofs.Ytiejhpighhjgiaa.AM

theorem nx_eq {c : List Int} {i : Nat} (h : i < c.length) : nx c i = if i + 1 < c.length then rdD 0 c ((i + 1 : Nat) : Int) else rdD 0 c 0 := by
  unfold nx
  by_cases e : i + 1 < c.length
  · rw [if_pos e, Nat.mod_eq_of_lt e]
  · rw [if_neg e, show i + 1 = c.length by omega, Nat.mod_self]
    rfl
theorem rAll_f (m : Nat) (f : List (List Int)) (hl : f.length ≤ 900) (hc : ∀ c ∈ f, c.length ≤ 900) (ht : (alls f).length ≤ 900) : g_parquetref11_all (m + 1000) f = some (alls f) := by
  unfold g_parquetref11_all
  have hfc : ∀ i, i < f.length → (fc f i).length ≤ 900 := fun i hi => by rw [fc_get hi]; exact hc _ (List.getElem_mem _)
  have hpre : ∀ i, ((f.take i).flatMap eds).length ≤ (alls f).length := fun i => by
    have : alls f = (f.take i).flatMap eds ++ (f.drop i).flatMap eds := by rw [← List.flatMap_append, List.take_append_drop]; rfl
    rw [this, List.length_append]
    omega
  refine (loop_list (fun i => (f, (f.take i).flatMap eds, (i : Int))) f.length (fun _ => some (alls f)) ?_ ?_ (m + 1000) 0 (Nat.zero_le _) (by omega))
  · intro next
    dsimp only
    rw [bif_F (by omega), List.take_length]
    rfl
  · intro i hi next hn
    dsimp only
    have hcl := hfc i hi
    rw [bif_T (by omega)]
    refine (loop_list (fun j => (f, (f.take i).flatMap eds ++ (eds (fc f i)).take j, (i : Int), (j : Int))) (fc f i).length (fun _ => some (alls f)) ?_ ?_ (m + 1000) 0 (Nat.zero_le _) (by omega)) |> fun h => (by simpa using h)
    · intro next'
      dsimp only
      rw [gd_t (inb_t ⟨by omega, by omega⟩), show rdD [] f (i : Int) = fc f i from rfl, bif_F (by omega), w64_id (by omega) (by omega), List.take_of_length_le (l := eds (fc f i)) (by rw [eds_len]; exact Nat.le_refl _)]
      rw [← hn, flat_snoc eds f i hi, ← fc_get hi]
      rfl
    · intro j hj next' hn'
      dsimp only
      rw [gd_t (inb_t ⟨by omega, by omega⟩), show rdD [] f (i : Int) = fc f i from rfl, bif_T (by omega), gd_t (inb_t ⟨by omega, by omega⟩), gd_t (inb_t ⟨by omega, by omega⟩), gd_t (inb_t ⟨by omega, by omega⟩)]
      simp only [meet, show rdD [] f (i : Int) = fc f i from rfl]
      have hje : j < (eds (fc f i)).length := by rw [eds_len]; exact hj
      have hlen : ((f.take i).flatMap eds ++ (eds (fc f i)).take j).length + 1 < 4294967296 := by
        have := hpre (i + 1)
        rw [flat_snoc eds f i hi, ← fc_get hi, List.length_append, eds_len] at this
        rw [List.length_append, List.length_take]
        omega
      rw [w64_id (by omega) (by omega)]
      rw [take_snoc _ j hje, eds_get _ _ hj, ← List.append_assoc] at hn'
      have e2 : ed (fc f i) j = (rdD 0 (fc f i) (j : Int), nx (fc f i) j) := rfl
      rw [e2, nx_eq hj] at hn'
      by_cases h1 : j + 1 < (fc f i).length
      · rw [if_pos h1] at hn'
        rw [bif_T (by omega), gd_t (inb_t ⟨by omega, by omega⟩), gd_t (inb_t ⟨by omega, by omega⟩), gd_t (inb_t ⟨by omega, by omega⟩), gd_t (inb_t ⟨by omega, by omega⟩), gd_t (few_t hlen)]
        exact hn'
      · rw [if_neg h1] at hn'
        rw [bif_F (by omega), gd_t (inb_t ⟨by omega, by omega⟩), gd_t (inb_t ⟨by omega, by omega⟩), gd_t (few_t hlen)]
        exact hn'
theorem mem_take {c : List Int} {k : Nat} (hk : k ≤ c.length) (x : Int) : (List.range k).any (fun j => decide (rdD 0 c (j : Int) = x)) = decide (x ∈ c.take k) := by
  rw [Bool.eq_iff_iff, List.any_eq_true, decide_eq_true_eq]
  constructor
  · rintro ⟨j, hj, h⟩
    rw [List.mem_range] at hj
    rw [decide_eq_true_eq, rd_get _ _ _ (by omega)] at h
    rw [← h]
    exact List.mem_take_iff_getElem.2 ⟨j, by omega, rfl⟩
  · intro h
    obtain ⟨j, hj, h⟩ := List.mem_take_iff_getElem.1 h
    refine ⟨j, List.mem_range.2 (by omega), ?_⟩
    rw [decide_eq_true_eq, rd_get _ _ _ (by omega)]
    exact h
theorem nodup_any (l : List Pt) : (List.range l.length).any (fun i => (List.range i).any fun k => decide (rdD (0, 0) l (i : Int) = rdD (0, 0) l (k : Int))) = !(decide l.Nodup) := by
  rw [Bool.eq_iff_iff, List.any_eq_true, Bool.not_eq_true', decide_eq_false_iff_not]
  constructor
  · rintro ⟨i, hi, h⟩ hn
    rw [List.mem_range] at hi
    rw [List.any_eq_true] at h
    obtain ⟨k, hk, h⟩ := h
    rw [List.mem_range] at hk
    rw [decide_eq_true_eq, rd_get _ _ _ (by omega), rd_get _ _ _ (by omega)] at h
    exact List.pairwise_iff_getElem.1 hn k i (by omega) (by omega) hk h.symm
  · intro hn
    apply Decidable.byContradiction
    intro hno
    apply hn
    refine List.pairwise_iff_getElem.2 fun k i hk hi hlt h => hno ⟨i, List.mem_range.2 hi, ?_⟩
    rw [List.any_eq_true]
    exact ⟨k, List.mem_range.2 hlt, by rw [decide_eq_true_eq, rd_get _ _ _ (by omega), rd_get _ _ _ (by omega)]; exact h.symm⟩
theorem rCheck_f (m : Nat) (n : Int) (f : List (List Int)) (hl : f.length ≤ 900) (hc : ∀ c ∈ f, c.length ≤ 900) (ht : (alls f).length ≤ 900) : g_parquetref11_Check (m + 1000) n f = some (chk n f) := by
  unfold g_parquetref11_Check b_parquetref11_Check
  simp only [meet]
  have hfc : ∀ i, i < f.length → (fc f i).length ≤ 900 := fun i hi => by rw [fc_get hi]; exact hc _ (List.getElem_mem _)
  by_cases c0 : n < 0 ∨ 1048576 < n
  · have e : chk n f = 2 := by rw [chk, if_pos c0]
    rw [e]
    rcases c0 with h | h
    · rw [bif_T h]; rfl
    · rw [bif_F (by omega), decide_eq_true (by omega)]; rfl
  have e0 : chk n f = if (List.range f.length).any (fun i => badF n (fc f i)) = true then 2 else if (alls f).Nodup then 0 else 80 := by rw [chk, if_neg c0]
  rw [bif_F (by omega), decide_eq_false (by omega), cF]
  refine (loop_any (fun i => (n, f, (i : Int))) f.length (fun i => badF n (fc f i)) (some 2) (some (if (alls f).Nodup then 0 else 80)) ?_ ?_ (m + 1000) (by omega)).trans ?_
  · intro next
    dsimp only
    rw [bif_F (by omega), rAll_f m f hl hc ht, bnd_s]
    refine (loop_any (fun i => (alls f, (i : Int))) (alls f).length (fun i => (List.range i).any fun k => decide (rdD (0, 0) (alls f) (i : Int) = rdD (0, 0) (alls f) (k : Int))) (some 80) (some 0) ?_ ?_ (m + 1000) (by omega)).trans ?_
    · intro next
      dsimp only
      rw [bif_F (by omega)]
    · intro i hi next
      dsimp only
      rw [bif_T (by omega)]
      refine (loop_any (fun k => (alls f, (i : Int), (k : Int))) i (fun k => decide (rdD (0, 0) (alls f) (i : Int) = rdD (0, 0) (alls f) (k : Int))) (some 80) (next (alls f, ((i + 1 : Nat) : Int))) ?_ ?_ (m + 1000) (by omega)).trans ?_
      · intro next'
        dsimp only
        rw [bif_F (by omega), w64_id (by omega) (by omega)]
        rfl
      · intro k hk next'
        dsimp only
        rw [bif_T (by omega), gd_t (inb_t ⟨by omega, by omega⟩), gd_t (inb_t ⟨by omega, by omega⟩), eqP, w64_id (by omega) (by omega)]
        rfl
      · rfl
    · rw [nodup_any]
      by_cases h : (alls f).Nodup
      · rw [decide_eq_true h, if_pos h]; rfl
      · rw [decide_eq_false h, if_neg h]; rfl
  · intro i hi next
    dsimp only
    rw [bif_T (by omega), gd_t (inb_t ⟨by omega, by omega⟩), show rdD [] f (i : Int) = fc f i from rfl]
    have hcl := hfc i hi
    by_cases h3 : (fc f i).length < 3
    · rw [bif_T (by omega)]
      unfold badF
      rw [decide_eq_true h3, Bool.or_true, cT]
    rw [bif_F (by omega)]
    unfold badF
    rw [decide_eq_false h3, Bool.or_false]
    refine (loop_any (fun j => (n, f, (i : Int), (j : Int))) (fc f i).length (bad1 n (fc f i)) (some 2) (next (n, f, ((i + 1 : Nat) : Int))) ?_ ?_ (m + 1000) (by omega)).trans rfl
    · intro next
      dsimp only
      rw [gd_t (inb_t ⟨by omega, by omega⟩), show rdD [] f (i : Int) = fc f i from rfl, bif_F (by omega), w64_id (by omega) (by omega)]
      rfl
    · intro j hj next
      dsimp only
      rw [gd_t (inb_t ⟨by omega, by omega⟩), show rdD [] f (i : Int) = fc f i from rfl, bif_T (by omega), gd_t (inb_t ⟨by omega, by omega⟩), gd_t (inb_t ⟨by omega, by omega⟩)]
      unfold bad1
      by_cases h1 : rdD 0 (fc f i) (j : Int) < 0
      · rw [bif_T h1, cT, bif_T (.inl h1)]
      · rw [bif_F h1, gd_t (inb_t ⟨by omega, by omega⟩), gd_t (inb_t ⟨by omega, by omega⟩)]
        by_cases h2 : rdD 0 (fc f i) (j : Int) ≥ n
        · rw [decide_eq_true h2, cT, bif_T (.inr (.inl h2))]
        · rw [decide_eq_false h2, cF]
          refine (loop_any (fun k => (n, f, (i : Int), (j : Int), (k : Int))) j (fun k => decide (rdD 0 (fc f i) (k : Int) = rdD 0 (fc f i) (j : Int))) (some 2) (next (n, f, (i : Int), ((j + 1 : Nat) : Int))) ?_ ?_ (m + 1000) (by omega)).trans ?_
          · intro next'
            dsimp only
            rw [bif_F (by omega), w64_id (by omega) (by omega)]
            rfl
          · intro k hk next'
            dsimp only
            rw [bif_T (by omega), gd_t (inb_t ⟨by omega, by omega⟩), show rdD [] f (i : Int) = fc f i from rfl, gd_t (inb_t ⟨by omega, by omega⟩), gd_t (inb_t ⟨by omega, by omega⟩), gd_t (inb_t ⟨by omega, by omega⟩), w64_id (by omega) (by omega)]
            rfl
          · rw [mem_take (by omega)]
            by_cases h4 : rdD 0 (fc f i) (j : Int) ∈ (fc f i).take j
            · rw [bif_T h4, bif_T (.inr (.inr h4))]
            · rw [bif_F h4, bif_F (by rintro (h | h | h) <;> contradiction)]
  · rw [e0]
    cases hb : (List.range f.length).any (fun i => badF n (fc f i)) with
    | true => rfl
    | false =>
      simp only [Bool.false_eq_true, if_false, cF]
end Go.Proofs.Ytiejhpighhjgiaa.Pure
