/- Edges: the document's answer. -/
import Derived.Test.YtiejhpighhjgiaaB3
set_option linter.unusedVariables false
set_option linter.unusedSimpArgs false
namespace Go.Proofs.Ytiejhpighhjgiaa.Pure
open Go.RowKit Go.Proofs.Ytiejhpighhjgiaa.AM

/-- One edge more, where it belongs. -/
def insP (s : Pt) : List Pt → List Pt
  | [] => [s]
  | x :: r => if ltS x s then x :: insP s r else if x = s then x :: r else s :: x :: r
theorem insP_len (s : Pt) : ∀ l, (insP s l).length ≤ l.length + 1
  | [] => by simp [insP]
  | x :: r => by
    have := insP_len s r
    unfold insP
    (repeat' split) <;> simp only [List.length_cons] <;> omega
theorem mem_insP (s y : Pt) : ∀ l, y ∈ insP s l ↔ y = s ∨ y ∈ l
  | [] => by simp [insP]
  | x :: r => by
    have ih := mem_insP s y r
    unfold insP
    split
    · simp only [List.mem_cons, ih]
      constructor
      · rintro (h | h | h)
        · exact .inr (.inl h)
        · exact .inl h
        · exact .inr (.inr h)
      · rintro (h | h | h)
        · exact .inr (.inl h)
        · exact .inl h
        · exact .inr (.inr h)
    · split
      · rename_i h2
        subst h2
        simp
      · simp
theorem insP_srt (s : Pt) : ∀ {l}, Srt l → Srt (insP s l)
  | [], _ => by simp [insP, Srt]
  | x :: r, h => by
    have h' := List.pairwise_cons.1 h
    unfold insP
    split
    · rename_i h1
      refine List.pairwise_cons.2 ⟨fun y hy => ?_, insP_srt s h'.2⟩
      rcases (mem_insP s y r).1 hy with rfl | hy
      · exact h1
      · exact h'.1 y hy
    · rename_i h1
      split
      · exact h
      · rename_i h2
        have h3 : ltS s x := by
          apply Decidable.byContradiction
          intro h3
          exact h2 (ltS_tri h1 h3)
        refine List.pairwise_cons.2 ⟨fun y hy => ?_, h⟩
        rcases List.mem_cons.1 hy with rfl | hy
        · exact h3
        · exact ltS_trans h3 (h'.1 y hy)
def insA (l : List Pt) : List Pt := l.foldl (fun out e => insP (up e) out) []
theorem insA_snoc (l : List Pt) (e : Pt) : insA (l ++ [e]) = insP (up e) (insA l) := by simp [insA, List.foldl_append]
theorem insA_take (l : List Pt) (i : Nat) (h : i < l.length) : insA (l.take (i + 1)) = insP (up l[i]) (insA (l.take i)) := by rw [take_snoc l i h, insA_snoc]
theorem insA_props (l : List Pt) : ∀ i, i ≤ l.length → Srt (insA (l.take i)) ∧ (insA (l.take i)).length ≤ i ∧ ∀ s, s ∈ insA (l.take i) ↔ ∃ e ∈ l.take i, up e = s
  | 0, _ => by simp [insA, Srt]
  | i + 1, h => by
    obtain ⟨h1, h2, h3⟩ := insA_props l i (by omega)
    have hi : i < l.length := by omega
    rw [insA_take l i hi]
    refine ⟨insP_srt _ h1, by have := insP_len (up l[i]) (insA (l.take i)); omega, fun s => ?_⟩
    rw [mem_insP, h3, take_snoc l i hi]
    simp only [List.mem_append, List.mem_singleton]
    constructor
    · rintro (rfl | ⟨e, he, rfl⟩)
      · exact ⟨_, .inr rfl, rfl⟩
      · exact ⟨e, .inl he, rfl⟩
    · rintro ⟨e, he | rfl, rfl⟩
      · exact .inr ⟨e, he, rfl⟩
      · exact .inl rfl
theorem insA_alls {f : List (List Int)} (h : chk 1048576 f = 0) : insA (alls f) = edgs f := by
  have := insA_props (alls f) _ (Nat.le_refl _)
  rw [List.take_length] at this
  exact srt_ext this.1 (edgs_srt f) fun s => by rw [this.2.2, mem_edgs h]
theorem rless_f (k : Nat) (a b : Pt) : g_parquetref11_less k a b = some (decide (ltS a b)) := by
  unfold g_parquetref11_less ltS
  simp only [meet]
  by_cases h1 : a.1 < b.1
  · rw [bif_T h1]; simp [h1]
  · rw [bif_F h1]
    by_cases h2 : a.1 = b.1
    · rw [bif_T h2]; simp [h2]
    · rw [bif_F h2]; simp [h1, h2]
theorem bif_loop {α ρ : Type} {F : α → (α → Option ρ) → Option ρ} {k : Nat} {p : Prop} [Decidable p] {A B C : α} (hA : p → A = C) (hB : ¬p → B = C) : (bif decide p then loopN F k A else loopN F k B) = loopN F k C := by
  by_cases h : p
  · rw [bif_T h, hA h]
  · rw [bif_F h, hB h]
theorem rEdges_f (m : Nat) (f : List (List Int)) (hl : f.length ≤ 900) (hc : ∀ c ∈ f, c.length ≤ 900) (ht : (alls f).length ≤ 900) : g_parquetref11_Edges (m + 1000) f = some (edgs f) := by
  unfold g_parquetref11_Edges b_parquetref11_Edges
  simp only [meet]
  rw [rCheck_f m _ f hl hc ht, bnd_s, rAll_f m f hl hc ht, bnd_s]
  by_cases hch : chk 1048576 f = 0
  case neg =>
    have e : edgs f = [] := by rw [edgs, if_neg hch]
    rw [e, show m + 1000 = (m + 999) + 1 from rfl, loop_s]
    dsimp only
    by_cases h : (0 : Int) < ((alls f).length : Int)
    · rw [bif_T h, decide_eq_false hch, cF]
    · rw [bif_F h, cF]
  rw [hch]
  refine loop_list (fun i => (insA ((alls f).take i), 0, alls f, (i : Int))) (alls f).length (fun _ => some (edgs f)) ?_ ?_ (m + 1000) 0 (Nat.zero_le _) (by omega)
  · intro next
    dsimp only
    rw [bif_F (by omega), cF, List.take_length, insA_alls hch]
  · intro i hi next hn
    dsimp only
    rw [bif_T (by omega), decide_eq_true rfl, cT, gd_t (inb_t ⟨by omega, by omega⟩), rd_get _ _ _ hi]
    rw [insA_take _ _ hi] at hn
    have hlen := (insA_props (alls f) i (by omega)).2.1
    have hlen2 := insP_len (up (alls f)[i]) (insA ((alls f).take i))
    generalize insA ((alls f).take i) = out at hn hlen hlen2 ⊢
    generalize alls f = l at *
    refine (bif_loop (C := (out, 0, l, (i : Int), up l[i], [], 0)) (fun h => by rw [up_gt h]; rfl) (fun h => by
      by_cases h' : l[i].1 < l[i].2
      · rw [up_lt h']
      · have : l[i].1 = l[i].2 := by omega
        rw [show up l[i] = (l[i].1, l[i].2) from by unfold up mnI mxI; rw [if_neg (by omega), if_neg (by omega), this]])).trans ?_
    generalize hs : up l[i] = s at hn hlen2 ⊢
    refine loop_rel (fun r st v => ∃ k, k ≤ out.length ∧ r = out.length - k ∧ st = (out, 0, l, (i : Int), s, out.take k, (k : Int)) ∧ insP s out = out.take k ++ insP s (out.drop k) ∧ v = some (edgs f)) ?_ (m + 1000) out.length _ _ ⟨0, Nat.zero_le _, rfl, rfl, rfl, rfl⟩ (by omega)
    rintro r st v ⟨k, hk, rfl, rfl, hins, rfl⟩ next' hn'
    dsimp only
    simp only [etaP]
    have hw : w64 ((i : Int) + 1) = ((i + 1 : Nat) : Int) := w64_id (by omega) (by omega)
    by_cases e : k = out.length
    · subst e
      rw [bif_F (by omega), cF, bif_F (by omega), cF, gd_t (few_t (by rw [List.length_take]; omega)), gd_T (by omega), gd_T (by omega), gd_t (few_t (by unfold dpL; simp; omega))]
      rw [hw, ← hn, hins]
      congr 2
      simp [dpL, insP]
    · have hk' : k < out.length := by omega
      have hd : out.drop k = out[k] :: out.drop (k + 1) := List.drop_eq_getElem_cons hk'
      rw [hd, insP] at hins
      rw [bif_T (by omega), gd_t (inb_t ⟨by omega, by omega⟩), rless_f, bnd_s, rd_get _ _ _ hk']
      by_cases h1 : ltS out[k] s
      · rw [if_pos h1] at hins
        rw [bif_T h1, gd_t (inb_t ⟨by omega, by omega⟩), gd_t (few_t (by rw [List.length_take]; omega)), w64_id (by omega) (by omega)]
        refine hn' (out.length - (k + 1)) _ _ (by omega) ⟨k + 1, by omega, rfl, ?_, ?_, rfl⟩
        · rw [take_snoc _ _ hk']
          rfl
        · rw [hins, take_snoc _ _ hk', List.append_assoc]
          rfl
      · rw [if_neg h1] at hins
        rw [bif_F h1, bif_T (by omega), gd_t (inb_t ⟨by omega, by omega⟩), eqP]
        by_cases h2 : out[k] = s
        · rw [if_pos h2, ← hd, List.take_append_drop] at hins
          rw [bif_T h2, hw, ← hn, hins]
        · rw [if_neg h2] at hins
          rw [bif_F h2, gd_t (few_t (by rw [List.length_take]; omega)), gd_T (by omega), gd_T (by omega), gd_t (few_t (by unfold dpL; simp; omega))]
          rw [hw, ← hn, hins, ← hd]
          congr 2
          simp [dpL]
end Go.Proofs.Ytiejhpighhjgiaa.Pure
