/- The same places, the same faces; more than is looked at; what the example fixes. -/
import Derived.Test.YtiejhpighhjgiaaB7
set_option linter.unusedVariables false
set_option linter.unusedSimpArgs false
namespace Go.Proofs.Ytiejhpighhjgiaa.Pure
open Go.RowKit Go.Proofs.Ytiejhpighhjgiaa.AM

theorem drop_eq {α : Type} {a b : List α} {i : Nat} (ha : i < a.length) (hb : i < b.length) : a.drop i = b.drop i ↔ a[i] = b[i] ∧ a.drop (i + 1) = b.drop (i + 1) := by
  rw [List.drop_eq_getElem_cons ha, List.drop_eq_getElem_cons hb, List.cons.injEq]
theorem samePoints_f (m : Nat) (a b : List Pt) (hl : a.length ≤ 990) : g_parquetref05_SamePoints (m + 1000) a b = some (decide (a = b)) := by
  unfold g_parquetref05_SamePoints
  by_cases h : a.length = b.length
  case neg =>
    rw [bif_nF (by omega), decide_eq_false (fun e => h (by rw [e]))]
  rw [bif_nT (by omega)]
  refine (loop_list (fun i => (a, b, (i : Int))) a.length (fun i => some (decide (a.drop i = b.drop i))) ?_ ?_ (m + 1000) 0 (Nat.zero_le _) (by omega)).trans (by simp)
  · intro next
    dsimp only
    rw [bif_F (by omega), List.drop_length, h, List.drop_length, decide_eq_true rfl]
  · intro i hi next hn
    dsimp only at hn ⊢
    rw [bif_T (by omega), gd_t (inb_t ⟨by omega, by omega⟩), gd_t (inb_t ⟨by omega, by omega⟩), eqP, rd_get _ _ _ hi, rd_get _ _ _ (by omega : i < b.length), w64_id (by omega) (by omega)]
    have hd := drop_eq hi (by omega : i < b.length)
    by_cases e : a[i] = b[i]
    · rw [bif_nT e]
      refine hn.trans ?_
      congr 1
      rw [decide_eq_decide, hd]
      exact ⟨fun h => ⟨e, h⟩, fun h => h.2⟩
    · rw [bif_nF e, decide_eq_false (fun h => e (hd.1 h).1)]
theorem sameInts_f (m : Nat) (a b : List Int) (hl : a.length ≤ 990) : g_parquetref00_SameInts (m + 1000) a b = some (decide (a = b)) := by
  unfold g_parquetref00_SameInts
  by_cases h : a.length = b.length
  case neg =>
    rw [bif_nF (by omega), decide_eq_false (fun e => h (by rw [e]))]
  rw [bif_nT (by omega)]
  refine (loop_list (fun i => (a, b, (i : Int))) a.length (fun i => some (decide (a.drop i = b.drop i))) ?_ ?_ (m + 1000) 0 (Nat.zero_le _) (by omega)).trans (by simp)
  · intro next
    dsimp only
    rw [bif_F (by omega), List.drop_length, h, List.drop_length, decide_eq_true rfl]
  · intro i hi next hn
    dsimp only at hn ⊢
    rw [bif_T (by omega), gd_t (inb_t ⟨by omega, by omega⟩), gd_t (inb_t ⟨by omega, by omega⟩), rd_get _ _ _ hi, rd_get _ _ _ (by omega : i < b.length), w64_id (by omega) (by omega)]
    have hd := drop_eq hi (by omega : i < b.length)
    by_cases e : a[i] = b[i]
    · rw [bif_nT e]
      refine hn.trans ?_
      congr 1
      rw [decide_eq_decide, hd]
      exact ⟨fun h => ⟨e, h⟩, fun h => h.2⟩
    · rw [bif_nF e, decide_eq_false (fun h => e (hd.1 h).1)]
theorem same_f (m : Nat) (a b : List (List Int)) (hl : a.length ≤ 990) (hr : ∀ c ∈ a, c.length ≤ 990) : g_parquetlaw20_same (m + 1000) a b = some (decide (a = b)) := by
  unfold g_parquetlaw20_same b_parquetlaw20_same
  by_cases h : a.length = b.length
  case neg =>
    rw [bif_nF (by omega), decide_eq_false (fun e => h (by rw [e]))]
  rw [bif_nT (by omega)]
  refine (loop_list (fun i => (a, b, (i : Int))) a.length (fun i => some (decide (a.drop i = b.drop i))) ?_ ?_ (m + 1000) 0 (Nat.zero_le _) (by omega)).trans (by simp)
  · intro next
    dsimp only
    rw [bif_F (by omega), List.drop_length, h, List.drop_length, decide_eq_true rfl]
  · intro i hi next hn
    dsimp only at hn ⊢
    rw [bif_T (by omega), gd_t (inb_t ⟨by omega, by omega⟩), gd_t (inb_t ⟨by omega, by omega⟩), rd_get _ _ _ hi, rd_get _ _ _ (by omega : i < b.length), sameInts_f m _ _ (hr _ (List.getElem_mem hi)), bnd_s, w64_id (by omega) (by omega)]
    have hd := drop_eq hi (by omega : i < b.length)
    by_cases e : a[i] = b[i]
    · rw [bif_nT e]
      refine hn.trans ?_
      congr 1
      rw [decide_eq_decide, hd]
      exact ⟨fun h => ⟨e, h⟩, fun h => h.2⟩
    · rw [bif_nF e, decide_eq_false (fun h => e (hd.1 h).1)]
/-- Not more than is looked at. -/
structure NotMany (p : List Pt) (f : List (List Int)) : Prop where
  hp : p.length ≤ 100
  hf : f.length ≤ 200
  ht : f.length + (alls f).length ≤ 200
theorem alls_len : ∀ f : List (List Int), (alls f).length = (f.map List.length).sum
  | [] => rfl
  | c :: f => by
    have ih := alls_len f
    unfold alls at ih ⊢
    rw [List.flatMap_cons, List.length_append, eds_len, ih]
    rfl
theorem mem_len {f : List (List Int)} {c : List Int} (h : c ∈ f) : c.length ≤ (alls f).length := by
  obtain ⟨i, hi, rfl⟩ := List.getElem_of_mem h
  have h1 := pre_len f (i + 1)
  rw [flat_snoc eds f i hi, List.length_append, eds_len] at h1
  omega
theorem NotMany.few {p : List Pt} {f : List (List Int)} (h : NotMany p f) : Few p f :=
  ⟨by have := h.hp; omega, by have := h.hf; omega, fun c hc => by have := mem_len hc; have := h.ht; omega, by have := h.ht; omega⟩
theorem loop_ex {α ρ : Type} {f : α → (α → Option ρ) → Option ρ} (R : Nat → α → Prop) (Q : ρ → Prop) (h : ∀ n s, R n s → ∀ next, (∀ n' s', n' < n → R n' s' → ∃ b, next s' = some b ∧ Q b) → ∃ b, f s next = some b ∧ Q b) :
    ∀ (q n : Nat) (s : α), R n s → n < q → ∃ b, loopN f q s = some b ∧ Q b
  | 0, n, s, _, hq => by omega
  | q + 1, n, s, hr, hq => by
    rw [loop_s]
    exact h n s hr _ fun n' s' hn hr' => loop_ex R Q h q n' s' hr' (by omega)
theorem many_f (m : Nat) (p : List Pt) (f : List (List Int)) : ∃ b, g_parquetlaw20_many (m + 1000) p f = some b ∧ (b = false → NotMany p f) := by
  unfold g_parquetlaw20_many
  simp only [meet]
  by_cases hl : f.length ≤ 200
  case neg =>
    rw [show m + 1000 = (m + 999) + 1 from rfl, loop_s]
    dsimp only
    rw [bif_T (by omega), decide_eq_false (by omega), cF, bif_T (by omega)]
    exact ⟨true, rfl, fun h => by cases h⟩
  refine loop_ex (fun n s => ∃ (i : Nat) (c : Int), i ≤ f.length ∧ n = f.length - i ∧ s = (p, f, c, (i : Int)) ∧ (f.length : Int) ≤ c ∧ c ≤ 400 ∧ (c ≤ 200 → c = f.length + (((f.take i).flatMap eds).length : Int))) _ ?_ (m + 1000) f.length _ ⟨0, (f.length : Int), Nat.zero_le _, rfl, rfl, by omega, by omega, fun _ => by simp⟩ (by omega)
  rintro n s ⟨i, c, hi, rfl, rfl, hc, hc4, hcc⟩ next hn
  dsimp only
  by_cases e : i < f.length
  · rw [bif_T (by omega)]
    by_cases h2 : c ≤ 200
    · rw [bif_T h2, gd_t (inb_t ⟨by omega, by omega⟩), rd_get _ _ _ e]
      have hm : mnI (f[i].length : Int) 200 ≤ 200 ∧ 0 ≤ mnI (f[i].length : Int) 200 ∧ (mnI (f[i].length : Int) 200 < 200 → mnI (f[i].length : Int) 200 = f[i].length) := by
        unfold mnI; split <;> omega
      rw [w64_id (by omega) (by omega), w64_id (by omega) (by omega)]
      refine hn (f.length - (i + 1)) _ (by omega) ⟨i + 1, _, by omega, rfl, rfl, by omega, by omega, fun h => ?_⟩
      rw [flat_snoc eds f i e, List.length_append, eds_len, hm.2.2 (by omega), hcc h2]
      omega
    · rw [bif_F h2, bif_T (by omega)]
      exact ⟨true, rfl, fun h => by cases h⟩
  · obtain rfl : i = f.length := by omega
    rw [bif_F (by omega), cF]
    by_cases h2 : c > 200
    · rw [bif_T h2]
      exact ⟨true, rfl, fun h => by cases h⟩
    · rw [bif_F h2]
      refine ⟨_, rfl, fun h => ?_⟩
      rw [decide_eq_false_iff_not] at h
      have := hcc (by omega)
      rw [List.take_length] at this
      exact ⟨by omega, hl, by unfold alls; omega⟩
/-- What the chapter's example fixes. -/
theorem chk_ex : chk 3 [[0, 1, 2]] = 0 := by decide +kernel
theorem ups_ex : ups [[0, 1, 2]] = [(0, 1), (1, 2), (0, 2)] := by decide +kernel
theorem edgs_ex : edgs [[0, 1, 2]] = [(0, 1), (0, 2), (1, 2)] := by
  rw [edgs, if_pos (chk_mono chk_ex), ups_ex]
  refine srt_ext (srtL_srt (by decide)) (by unfold Srt; decide) fun s => ?_
  rw [(srtL_perm _).mem_iff]
  simp only [List.mem_cons, List.not_mem_nil, or_false]
  constructor <;> (rintro (h | h | h) <;> simp [h])
theorem known_ok (m : Nat) : g_parquetlaw20_known (m + 1000) = some true := by
  unfold g_parquetlaw20_known b_parquetlaw20_known
  simp only [meet]
  have f1 : Few [(0, 0), (1, 0), (0, 1)] [[0, 1, 2]] := ⟨by decide, by decide, by decide, by decide +kernel⟩
  have f2 : Few [(0, 0), (1, 0), (0, 1)] [[0, 1, 3]] := ⟨by decide, by decide, by decide, by decide +kernel⟩
  have r1 : runOk [(0, 0), (1, 0), (0, 1)] [[0, 1, 2]] := by decide +kernel
  have r2 : ¬runOk [(0, 0), (1, 0), (0, 1)] [[0, 1, 3]] := by decide +kernel
  have e1 : runv [(0, 0), (1, 0), (0, 1)] [[0, 1, 2]] = ([(0, 0), (12, 0), (0, 12), (6, 0), (0, 6), (6, 6), (4, 4)], [[0, 3, 6, 4], [1, 5, 6, 3], [2, 4, 6, 5]], 0) := by
    rw [runv, if_pos r1, plc, edgs_ex]
    decide +kernel
  rw [run_f m _ _ f1, bnd_s, middle_f, bnd_s, run_f m _ _ f2, bnd_s, e1, runv, if_neg r2]
  dsimp only
  rw [samePoints_f m _ _ (by decide), bnd_s, bif_T rfl, same_f m _ _ (by decide) (by decide), bnd_s, bif_T rfl, bif_T rfl]
  rw [show midr [(0, 0), (1, 0), (0, 1)] [0, 1, 2] = ((4, 4), 0) from by decide +kernel]
  rfl
end Go.Proofs.Ytiejhpighhjgiaa.Pure
