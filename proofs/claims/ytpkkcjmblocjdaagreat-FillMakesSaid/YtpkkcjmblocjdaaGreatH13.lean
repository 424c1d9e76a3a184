/- The reference's numbers: sums. -/
import Derived.Test.YtpkkcjmblocjdaaGreatH12
set_option linter.unusedSimpArgs false
set_option linter.unusedVariables false
namespace Go.Proofs.YtpkkcjmblocjdaaGreat.Pure
open Go.RowKit Go.Proofs.YtpkkcjmblocjdaaGreat.AM

theorem len_le {a b : Nm} (ha : Ok a) (hb : Ok b) (h : nat b.2 ≤ nat a.2) : b.2.length ≤ a.2.length := by
  apply Decidable.byContradiction
  intro hn
  obtain ⟨n, hn'⟩ : ∃ n, b.2.length = n + 1 := ⟨b.2.length - 1, by omega⟩
  have h1 := nat_lt ha.dig
  have h2 := nat_ge hb hn'
  have h3 := pow_le (show a.2.length ≤ n by omega)
  omega
theorem minus_end (m : Nat) (a b : Nm) (ha : Ok a) (hb : Ok b) (hlt : nat b.2 ≤ nat a.2) (la : a.2.length ≤ 40) (f : MSt → (MSt → Option Nm) → Option Nm)
    (hend : ∀ z acc c next, f (z, acc, c, a, b, (a.2.length : Int)) next = bnd (g_parquetref01_trim (m + 100) a.1 acc) fun r => some (r.1, r.2))
    (hstep : ∀ z acc c (i : Nat) next, i < a.2.length → acc.length = i → 0 ≤ c → c ≤ 1 → f (z, acc, c, a, b, (i : Int)) next = next (z, acc ++ [(dg a.2 i - dg b.2 i - c) % 65536], (if dg a.2 i - dg b.2 i - c < 0 then 1 else 0), a, b, ((i + 1 : Nat) : Int))) :
    ∃ y, loopN f (m + 100) ((false, []), [], 0, a, b, 0) = some y ∧ Ok y ∧ val y = (if a.1 = true then -(nat a.2 - nat b.2) else nat a.2 - nat b.2) ∧ y.2.length ≤ a.2.length := by
  obtain ⟨es, h1, h2, h3, h4⟩ := minus_fin (m + 100) a b ha hb hlt (len_le ha hb hlt) f hend hstep (m + 99 - a.2.length) a.2.length 0 (false, []) [] 0 (by omega) rfl (fun d h => by cases h) (by omega) (by omega) (by simp [nat])
  rw [show m + 99 - a.2.length + a.2.length + 1 = m + 100 by omega, show ((0 : Nat) : Int) = 0 from rfl] at h1
  rw [h1, trim_f (m + 100) _ es (by omega) (by omega), bnd_s]
  refine ⟨_, rfl, tr_ok h2 _ (Nat.le_refl _), ?_, Nat.le_trans (tr_len _ _ _) (by omega)⟩
  show val (tr a.1 es es.length) = _
  rw [tr_val h2 _ (Nat.le_refl _), List.take_length, h3]
theorem sum_sign (p q : Bool) (x y : Int) (h : ¬ p = q) : (if p = true then -x else x) + (if q = true then -y else y) = if p = true then -(x - y) else x - y := by
  cases p <;> cases q <;> simp at h ⊢ <;> omega
theorem plus_f (m : Nat) (a b : Nm) (ha : Ok a) (hb : Ok b) (la : a.2.length ≤ 40) (lb : b.2.length ≤ 40) : ∃ y, g_parquetref01_Num_Plus (m + 100) a b = some y ∧ Ok y ∧ val y = val a + val b ∧ y.2.length ≤ 41 := by
  by_cases hs : a.1 = b.1
  · exact plus_same m a b ha hb hs la lb
  obtain ⟨r, hr, hlt⟩ := size_cmp m a b ha hb (by omega) (by omega)
  have step : ∀ (x y : Nm), Ok x → Ok y → x.2.length ≤ 40 → ∀ (acc : List Int) (c : Int) (i : Nat), acc.length = i → i < x.2.length → 0 ≤ c → c ≤ 1 →
      (dg x.2 i - dg y.2 i - c < 0 → (dg x.2 i - dg y.2 i - c) % 65536 = dg x.2 i - dg y.2 i - c + 65536) ∧ (¬ dg x.2 i - dg y.2 i - c < 0 → (dg x.2 i - dg y.2 i - c) % 65536 = dg x.2 i - dg y.2 i - c) := by
    intro x y hx hy hl acc c i _ _ _ _
    have rx := dg_range hx.dig i
    have ry := dg_range hy.dig i
    constructor <;> intro _ <;> omega
  unfold g_parquetref01_Num_Plus b_parquetref01_Num_Plus
  rw [bif_f (by simpa using hs), hr, bnd_s]
  simp only [meet]
  have body : ∀ (x y : Nm), Ok x → Ok y → nat y.2 ≤ nat x.2 → x.2.length ≤ 40 → ∀ f : MSt → (MSt → Option Nm) → Option Nm,
      (∀ z acc c (i : Int) next, f (z, acc, c, x, y, i) next = (bif decide (i < (x.2.length : Int)) then gd (inb i x.2.length) (bnd (g_parquetref01_digit (m + 100) y.2 i) fun r32 => bif decide ((w64 ((w64 ((rdD 0 x.2 i) - r32)) - c)) < 0) then gd (few (acc.length + 1)) (next (z, acc ++ [w64 ((w64 ((w64 ((rdD 0 x.2 i) - r32)) - c)) + 65536)], 1, x, y, w64 (i + 1))) else gd (few (acc.length + 1)) (next (z, acc ++ [w64 ((w64 ((rdD 0 x.2 i) - r32)) - c)], 0, x, y, w64 (i + 1)))) else bnd (g_parquetref01_trim (m + 100) x.1 acc) fun r41 => some (r41.1, r41.2))) →
      ∀ v : Int, v = (if x.1 = true then -(nat x.2 - nat y.2) else nat x.2 - nat y.2) → ∃ w, loopN f (m + 100) ((false, []), [], 0, x, y, 0) = some w ∧ Ok w ∧ val w = v ∧ w.2.length ≤ 41 := by
    intro x y hx hy hle hl f hf v hv
    suffices H : ∃ w, loopN f (m + 100) ((false, []), [], 0, x, y, 0) = some w ∧ Ok w ∧ val w = (if x.1 = true then -(nat x.2 - nat y.2) else nat x.2 - nat y.2) ∧ w.2.length ≤ x.2.length by
      obtain ⟨w, h1, h2, h3, h4⟩ := H
      exact ⟨w, h1, h2, h3.trans hv.symm, by omega⟩
    refine minus_end m x y hx hy hle hl f (fun z acc c next => ?_) (fun z acc c i next hi hla hc0 hc1 => ?_)
    · rw [hf, bif_F (by omega)]
    · have rx := dg_range hx.dig i
      have ry := dg_range hy.dig i
      have ex : rdD 0 x.2 (i : Int) = dg x.2 i := by rw [rd_get _ _ i hi]; unfold dg; simp [List.getD_eq_getElem?_getD, hi]
      obtain ⟨s1, s2⟩ := step x y hx hy hl acc c i hla hi hc0 hc1
      have hfw : few (acc.length + 1) = true := by unfold few; exact decide_eq_true (by omega)
      rw [hf, bif_T (by omega), gd_t (inb_t ⟨by omega, by omega⟩), digit_f, bnd_s, ex, hfw, w64_id (x := dg x.2 i - dg y.2 i) (by omega) (by omega), w64_id (x := dg x.2 i - dg y.2 i - c) (by omega) (by omega), w64_id (x := dg x.2 i - dg y.2 i - c + 65536) (by omega) (by omega), w64_id (x := (i : Int) + 1) (by omega) (by omega)]
      by_cases h : dg x.2 i - dg y.2 i - c < 0
      · rw [bif_T h, if_pos h, s1 h]; rfl
      · rw [bif_F h, if_neg h, s2 h]; rfl
  by_cases h : r < 0
  · rw [bif_T h]
    refine body b a hb ha (by have := hlt.1 h; omega) lb _ (fun z acc c i next => rfl) (val a + val b) ?_
    rw [Int.add_comm]
    exact sum_sign b.1 a.1 _ _ (fun e => hs e.symm)
  · rw [bif_F h]
    refine body a b ha hb (by
      have : ¬ nat a.2 < nat b.2 := fun e => h (hlt.2 e)
      omega) la _ (fun z acc c i next => rfl) (val a + val b) ?_
    exact sum_sign a.1 b.1 _ _ hs
end Go.Proofs.YtpkkcjmblocjdaaGreat.Pure
