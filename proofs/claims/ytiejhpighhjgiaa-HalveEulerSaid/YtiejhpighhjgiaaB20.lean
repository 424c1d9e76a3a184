/- Parts of what faces come to. -/
import Derived.Test.YtiejhpighhjgiaaB19
set_option linter.unusedVariables false
set_option linter.unusedSimpArgs false
set_option linter.unusedSectionVars false
namespace Go.Proofs.Ytiejhpighhjgiaa.Pure
open Go.RowKit Go.Proofs.Ytiejhpighhjgiaa.AM

theorem off_dec (f : List (List Int)) {t : Nat} : ∀ n, n ≤ f.length → t < off f n → ∃ i k, i < n ∧ k < (fc f i).length ∧ t = off f i + k
  | 0, _, h => by rw [off_zero] at h; omega
  | n + 1, hn, h => by
    by_cases c : t < off f n
    · obtain ⟨i, k, h1, h2, h3⟩ := off_dec f n (by omega) c
      exact ⟨i, k, by omega, h2, h3⟩
    · rw [off_succ f n (by omega)] at h
      exact ⟨n, t - off f n, by omega, by omega, by omega⟩
theorem off_uniq {f : List (List Int)} {i k j l : Nat} (hi : i < f.length) (hk : k < (fc f i).length) (hj : j < f.length) (hl : l < (fc f j).length) (h : off f i + k = off f j + l) : i = j ∧ k = l := by
  rcases Nat.lt_trichotomy i j with hlt | rfl | hgt
  · have := off_mono (f := f) (i := i + 1) (j := j) hlt (by omega)
    rw [off_succ f i hi] at this
    omega
  · exact ⟨rfl, by omega⟩
  · have := off_mono (f := f) (i := j + 1) (j := i) hgt (by omega)
    rw [off_succ f j hj] at this
    omega
open Classical in
/-- The face that one comes of. -/
noncomputable def org (f : List (List Int)) (t : Nat) : Nat := if h : ∃ i k, i < f.length ∧ k < (fc f i).length ∧ t = off f i + k then h.choose else 0
theorem org_at {f : List (List Int)} {i k : Nat} (hi : i < f.length) (hk : k < (fc f i).length) : org f (off f i + k) = i := by
  have h : ∃ i' k', i' < f.length ∧ k' < (fc f i').length ∧ off f i + k = off f i' + k' := ⟨i, k, hi, hk, rfl⟩
  unfold org
  rw [dif_pos h]
  obtain ⟨k', h1, h2, h3⟩ := h.choose_spec
  exact (off_uniq hi hk h1 h2 h3).1.symm
section
variable {p : List Pt} {f : List (List Int)} (h : chk p.length f = 0)
include h
theorem fc_outs {i k : Nat} (hi : i < f.length) (hk : k < (fc f i).length) : fc (outs p.length (edgs f) f f.length) (off f i + k) = rowv p.length (edgs f) (fc f i) i k := (outs_rd _ _ hi hk).2
theorem mem_row {i k : Nat} (hi : i < f.length) (hk : k < (fc f i).length) (x : Pt) : x ∈ eds (rowv p.length (edgs f) (fc f i) i k) ↔
    (x = ha p.length (edgs f) (ed (fc f i) k) ∨ x = (eN p.length (edgs f) (ed (fc f i) k), ((p.length + (edgs f).length + i : Nat) : Int)) ∨ x = (((p.length + (edgs f).length + i : Nat) : Int), eN p.length (edgs f) (ed (fc f i) ((k + (fc f i).length - 1) % (fc f i).length))) ∨ x = hb p.length (edgs f) (ed (fc f i) ((k + (fc f i).length - 1) % (fc f i).length))) := by
  rw [eds_row h _ _ _ rfl]
  have e1 : ((p.length + ix (edgs f) (up (rdD 0 (fc f i) (k : Int), pv (fc f i) k)) : Nat) : Int) = eN p.length (edgs f) (ed (fc f i) ((k + (fc f i).length - 1) % (fc f i).length)) := by
    rw [pv_ed hk]; unfold eN; rw [up_swap]
  have e2 : rdD 0 (fc f i) (k : Int) = (ed (fc f i) ((k + (fc f i).length - 1) % (fc f i).length)).2 := by rw [pv_ed hk]
  have e3 : (((p.length + ix (edgs f) (up (rdD 0 (fc f i) (k : Int), pv (fc f i) k)) : Nat) : Int), rdD 0 (fc f i) (k : Int)) = hb p.length (edgs f) (ed (fc f i) ((k + (fc f i).length - 1) % (fc f i).length)) := by
    rw [e1]; unfold hb; rw [← e2]
  rw [e3, e1]
  simp only [List.mem_cons, List.not_mem_nil, or_false]
  rfl
theorem adj_down {i k j l : Nat} (hi : i < f.length) (hk : k < (fc f i).length) (hj : j < f.length) (hl : l < (fc f j).length) (ha' : Adj (outs p.length (edgs f) f f.length) (off f i + k) (off f j + l)) : i = j ∨ Adj f i j := by
  have F := fine_of h
  obtain ⟨_, _, x, hx, hy⟩ := ha'
  rw [fc_outs h hi hk] at hx
  rw [fc_outs h hj hl] at hy
  have hk' : (k + (fc f i).length - 1) % (fc f i).length < (fc f i).length := Nat.mod_lt _ (by omega)
  have hl' : (l + (fc f j).length - 1) % (fc f j).length < (fc f j).length := Nat.mod_lt _ (by omega)
  have m1 := ed_mem h hi hk
  have m2 := ed_mem h hi hk'
  have m3 := ed_mem h hj hl
  have m4 := ed_mem h hj hl'
  have i1 : ed (fc f i) k ∈ eds (fc f i) := mem_eds.2 ⟨_, hk, rfl⟩
  have i2 : ed (fc f i) ((k + (fc f i).length - 1) % (fc f i).length) ∈ eds (fc f i) := mem_eds.2 ⟨_, hk', rfl⟩
  have i3 : ed (fc f j) l ∈ eds (fc f j) := mem_eds.2 ⟨_, hl, rfl⟩
  have i4 : ed (fc f j) ((l + (fc f j).length - 1) % (fc f j).length) ∈ eds (fc f j) := mem_eds.2 ⟨_, hl', rfl⟩
  rw [mem_row h hi hk] at hx
  rw [mem_row h hj hl] at hy
  generalize ed (fc f i) k = a at *
  generalize ed (fc f i) ((k + (fc f i).length - 1) % (fc f i).length) = a' at *
  generalize ed (fc f j) l = b at *
  generalize ed (fc f j) ((l + (fc f j).length - 1) % (fc f j).length) = b' at *
  have r1 := alls_rng h m1
  have r2 := alls_rng h m2
  have r3 := alls_rng h m3
  have r4 := alls_rng h m4
  have n1 := eN_rng h m1
  have n2 := eN_rng h m2
  have n3 := eN_rng h m3
  have n4 := eN_rng h m4
  unfold rv ha hb at hy
  unfold ha hb at hx
  rcases hx with rfl | rfl | rfl | rfl <;> simp only [Prod.mk.injEq] at hy <;> rcases hy with ⟨g1, g2⟩ | ⟨g1, g2⟩ | ⟨g1, g2⟩ | ⟨g1, g2⟩
  · omega
  · omega
  · omega
  · right
    rcases up_two (eN_inj h m1 m4 g1) with e1 | e1
    · rw [← e1] at g2
      exact absurd g2 (F.ne m1)
    · exact ⟨hi, hj, a, i1, by rw [e1]; exact i4⟩
  · omega
  · omega
  · left; omega
  · omega
  · omega
  · left; omega
  · omega
  · omega
  · right
    rcases up_two (eN_inj h m2 m3 g2) with e1 | e1
    · rw [← e1] at g1
      exact absurd g1.symm (F.ne m2)
    · exact ⟨hi, hj, a', i2, by rw [e1]; exact i3⟩
  · omega
  · omega
  · omega
theorem off_lt {i k : Nat} (hi : i < f.length) (hk : k < (fc f i).length) : off f i + k < (outs p.length (edgs f) f f.length).length := (outs_rd _ _ hi hk).1
theorem adj_round {i k : Nat} (hi : i < f.length) (hk : k < (fc f i).length) : Adj (outs p.length (edgs f) f f.length) (off f i + k) (off f i + (k + 1) % (fc f i).length) := by
  have hk' : (k + 1) % (fc f i).length < (fc f i).length := Nat.mod_lt _ (by omega)
  refine ⟨off_lt h hi hk, off_lt h hi hk', (eN p.length (edgs f) (ed (fc f i) k), ((p.length + (edgs f).length + i : Nat) : Int)), ?_, ?_⟩
  · rw [fc_outs h hi hk, mem_row h hi hk]
    exact .inr (.inl rfl)
  · rw [fc_outs h hi hk', mem_row h hi hk', prv_nxt hk]
    exact .inr (.inr (.inl rfl))
theorem con_round {i : Nat} (hi : i < f.length) : ∀ k, k < (fc f i).length → Con (Adj (outs p.length (edgs f) f f.length)) (off f i + 0) (off f i + k)
  | 0, _ => .refl _
  | k + 1, hk => by
    have := adj_round h hi (by omega : k < (fc f i).length)
    rw [Nat.mod_eq_of_lt hk] at this
    exact (con_round hi k (by omega)).step this
theorem con_face {i k l : Nat} (hi : i < f.length) (hk : k < (fc f i).length) (hl : l < (fc f i).length) : Con (Adj (outs p.length (edgs f) f f.length)) (off f i + k) (off f i + l) :=
  ((con_round h hi k hk).symm Adj.symm).trans (con_round h hi l hl)
theorem con_up {i j : Nat} (hc : Con (Adj f) i j) (hi : i < f.length) : Con (Adj (outs p.length (edgs f) f f.length)) (off f i + 0) (off f j + 0) := by
  have F := fine_of h
  have pos : ∀ i, i < f.length → 0 < (fc f i).length := fun i hi => by have := F.big (fc f i) (by rw [fc_get hi]; exact List.getElem_mem hi); omega
  induction hc with
  | refl => exact .refl _
  | @step j k hc ha' ih =>
    obtain ⟨hj, hk, e, he, hr⟩ := ha'
    obtain ⟨x, hx, rfl⟩ := mem_eds.1 he
    obtain ⟨y, hy, hye⟩ := mem_eds.1 hr
    have hy' : (y + 1) % (fc f k).length < (fc f k).length := Nat.mod_lt _ (by omega)
    have hadj : Adj (outs p.length (edgs f) f f.length) (off f j + x) (off f k + (y + 1) % (fc f k).length) := by
      refine ⟨off_lt h hj hx, off_lt h hk hy', ha p.length (edgs f) (ed (fc f j) x), ?_, ?_⟩
      · rw [fc_outs h hj hx, mem_row h hj hx]
        exact .inl rfl
      · rw [fc_outs h hk hy', mem_row h hk hy', prv_nxt hy, hye]
        refine .inr (.inr (.inr ?_))
        unfold hb
        rw [eN_rv]
        rfl
    exact ((ih.trans (con_face h hj (pos j hj) hx)).step hadj).trans (con_face h hk hy' (pos k hk))
theorem con_down {t t' : Nat} (hc : Con (Adj (outs p.length (edgs f) f f.length)) t t') : Con (Adj f) (org f t) (org f t') := by
  refine Con.map (org f) ?_ hc
  intro a b hab
  have hta : a < off f f.length := by rw [off_all, ← outs_total f p.length (edgs f)]; exact hab.1
  have htb : b < off f f.length := by rw [off_all, ← outs_total f p.length (edgs f)]; exact hab.2.1
  obtain ⟨i, k, hi, hk, rfl⟩ := off_dec f _ (Nat.le_refl _) hta
  obtain ⟨j, l, hj, hl, rfl⟩ := off_dec f _ (Nat.le_refl _) htb
  rw [org_at hi hk, org_at hj hl]
  rcases adj_down h hi hk hj hl hab with rfl | ha'
  · exact .refl _
  · exact (Con.refl _).step ha'
theorem part_at {o w : Nat → Nat} (ho : PartOf f o) (hw : PartOf (outs p.length (edgs f) f f.length) w) {i k : Nat} (hi : i < f.length) (hk : k < (fc f i).length) : w (off f i + k) = off f (o i) := by
  have F := fine_of h
  have pos : ∀ i, i < f.length → 0 < (fc f i).length := fun i hi => by have := F.big (fc f i) (by rw [fc_get hi]; exact List.getElem_mem hi); omega
  have hlt := off_lt h hi hk
  have hoi := ho.le i hi
  have hoi' : o i < f.length := by omega
  have h1 : w (off f i + k) ≤ off f (o i) := by
    have := hw.min _ hlt (off f (o i) + 0) ((con_up h (ho.con i hi) hoi').trans (con_face h hi (pos i hi) hk))
    simpa using this
  have hcon := hw.con _ hlt
  have hwl := hw.le _ hlt
  have htl : w (off f i + k) < off f f.length := by rw [off_all, ← outs_total f p.length (edgs f)]; omega
  obtain ⟨j, l, hj, hl, he⟩ := off_dec f _ (Nat.le_refl _) htl
  have hd := con_down h hcon
  rw [he, org_at hj hl, org_at hi hk] at hd
  have h2 := ho.min i hi j hd
  have h3 := off_mono (f := f) h2 (by omega)
  omega
theorem off_strict {i j : Nat} (hij : i < j) (hj : j < f.length) : off f i < off f j := by
  have F := fine_of h
  have h1 := off_mono (f := f) (i := i + 1) (j := j) hij (by omega)
  rw [off_succ f i (by omega)] at h1
  have := F.big (fc f i) (by rw [fc_get (by omega)]; exact List.getElem_mem (by omega))
  omega
theorem rk_off {o w : Nat → Nat} (ho : PartOf f o) (hw : PartOf (outs p.length (edgs f) f f.length) w) : ∀ v, v ≤ f.length → rk w (off f v) = rk o v
  | 0, _ => by rw [off_zero]; rfl
  | v + 1, hv => by
    have ih := rk_off ho hw v (by omega)
    have F := fine_of h
    have hpos := F.big (fc f v) (by rw [fc_get (by omega)]; exact List.getElem_mem (by omega))
    have hov := ho.le v (by omega)
    have key : ∀ l, l ≤ (fc f v).length → rk w (off f v + l) = rk w (off f v) + (if o v = v ∧ 0 < l then 1 else 0) := by
      intro l
      induction l with
      | zero => intro _; simp
      | succ l ihl =>
        intro hl
        have hp := part_at h ho hw (i := v) (k := l) (by omega) (by omega)
        rw [show off f v + (l + 1) = (off f v + l) + 1 from rfl, rk_succ, ihl (by omega), hp]
        by_cases c : o v = v
        · rw [c]
          by_cases c0 : l = 0
          · subst c0; simp
          · rw [if_neg (by omega), if_pos ⟨rfl, by omega⟩, if_pos ⟨rfl, by omega⟩]
        · have : off f (o v) < off f v := off_strict h (by omega) (by omega)
          rw [if_neg (by omega), if_neg (fun h => c h.1), if_neg (fun h => c h.1)]
    rw [off_succ f v (by omega), key _ (Nat.le_refl _), ih, rk_succ]
    by_cases c : o v = v
    · rw [if_pos ⟨c, by omega⟩, if_pos c]
    · rw [if_neg (fun h => c h.1), if_neg c]
      rfl
end
end Go.Proofs.Ytiejhpighhjgiaa.Pure
