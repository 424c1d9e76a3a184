/- What faces come to may hang together so. -/
import Derived.Test.YtiejhpighhjgiaaH16
set_option linter.unusedVariables false
set_option linter.unusedSimpArgs false
set_option linter.unusedSectionVars false
namespace Go.Proofs.Ytiejhpighhjgiaa.Pure
open Go.RowKit Go.Proofs.Ytiejhpighhjgiaa.AM

theorem chk_of {n : Int} {f : List (List Int)} (h0 : 0 ≤ n ∧ n ≤ 1048576) (F : Fine n f) : chk n f = 0 := by
  have hno : ¬(List.range f.length).any (fun i => badF n (fc f i)) = true := by
    intro hany
    obtain ⟨i, hi, hb⟩ := List.any_eq_true.1 hany
    rw [List.mem_range] at hi
    have hm : fc f i ∈ f := by rw [fc_get hi]; exact List.getElem_mem hi
    unfold badF at hb
    rcases (Bool.or_eq_true _ _).mp hb with hb | hb
    · obtain ⟨j, hj, hb⟩ := List.any_eq_true.1 hb
      rw [List.mem_range] at hj
      unfold bad1 at hb
      rw [decide_eq_true_eq, rd_get _ _ _ hj] at hb
      have h1 := F.rng _ hm _ (List.getElem_mem hj)
      rcases hb with hb | hb | hb
      · omega
      · omega
      · obtain ⟨j', hj', e⟩ := List.mem_take_iff_getElem.1 hb
        exact List.pairwise_iff_getElem.1 (F.nd _ hm) j' j (by omega) hj (by omega) e
    · have := F.big _ hm
      rw [decide_eq_true_eq] at hb
      omega
  rw [chk, if_neg (by omega), if_neg hno, if_pos F.once]
theorem up_inj {a x y : Int} (h : up (a, x) = up (a, y)) : x = y := by
  unfold up mnI mxI at h
  dsimp only at h
  rw [Prod.mk.injEq] at h
  obtain ⟨h1, h2⟩ := h
  (repeat' split at h1) <;> (repeat' split at h2) <;> omega
theorem up_two {s t : Pt} (h : up s = up t) : s = t ∨ s = rv t := by
  unfold up mnI mxI at h
  rw [Prod.mk.injEq] at h
  obtain ⟨h1, h2⟩ := h
  have : (s.1 = t.1 ∧ s.2 = t.2) ∨ (s.1 = t.2 ∧ s.2 = t.1) := by
    (repeat' split at h1) <;> (repeat' split at h2) <;> omega
  rcases this with h | h
  · exact .inl (Prod.ext h.1 h.2)
  · exact .inr (Prod.ext h.1 h.2)
theorem ix_inj {L : List Pt} {s t : Pt} (hs : s ∈ L) (ht : t ∈ L) (h : ix L s = ix L t) : s = t := by
  have h1 : L[ix L s]'(ix_lt hs) = s := List.getElem_idxOf (ix_lt hs)
  have h2 : L[ix L t]'(ix_lt ht) = t := List.getElem_idxOf (ix_lt ht)
  have h3 : L[ix L s]? = L[ix L t]? := by rw [h]
  rw [List.getElem?_eq_getElem (ix_lt hs), List.getElem?_eq_getElem (ix_lt ht), h1, h2] at h3
  exact Option.some.inj h3
theorem alls_at {f : List (List Int)} {i k : Nat} (hi : i < f.length) (hk : k < (fc f i).length) : (alls f)[off f i + k]? = some (ed (fc f i) k) := by
  have e : alls f = (f.take i).flatMap eds ++ (eds (fc f i) ++ (f.drop (i + 1)).flatMap eds) := by
    have e4 : f = f.take i ++ fc f i :: f.drop (i + 1) := by rw [fc_get hi]; simp
    conv => lhs; rw [e4]
    unfold alls
    rw [List.flatMap_append, List.flatMap_cons]
  rw [e, List.getElem?_append_right (by unfold off; omega), show off f i + k - ((f.take i).flatMap eds).length = k by unfold off; omega, List.getElem?_append_left (by rw [eds_len]; exact hk), List.getElem?_eq_getElem (by rw [eds_len]; exact hk), eds_get _ _ hk]
theorem off_mono {f : List (List Int)} {i j : Nat} (h : i ≤ j) (hj : j ≤ f.length) : off f i ≤ off f j := by
  induction j with
  | zero =>
    obtain rfl : i = 0 := by omega
    exact Nat.le_refl _
  | succ j ih =>
    by_cases e : i = j + 1
    · rw [e]; exact Nat.le_refl _
    · have := ih (by omega) (by omega)
      rw [off_succ f j (by omega)]
      omega
theorem ed_inj {n : Int} {f : List (List Int)} (F : Fine n f) {i k j l : Nat} (hi : i < f.length) (hk : k < (fc f i).length) (hj : j < f.length) (hl : l < (fc f j).length) (h : ed (fc f i) k = ed (fc f j) l) : i = j ∧ k = l := by
  have h1 := alls_at hi hk
  have h2 := alls_at hj hl
  have b1 : off f i + k < (alls f).length := (List.getElem?_eq_some_iff.1 h1).1
  have b2 : off f j + l < (alls f).length := (List.getElem?_eq_some_iff.1 h2).1
  have e1 := (List.getElem?_eq_some_iff.1 h1).2
  have e2 := (List.getElem?_eq_some_iff.1 h2).2
  have he : off f i + k = off f j + l := by
    rcases Nat.lt_trichotomy (off f i + k) (off f j + l) with hlt | he | hgt
    · exact absurd (by rw [e1, e2, h]) (List.pairwise_iff_getElem.1 F.once _ _ b1 b2 hlt)
    · exact he
    · exact absurd (by rw [e1, e2, h]) (List.pairwise_iff_getElem.1 F.once _ _ b2 b1 hgt)
  rcases Nat.lt_trichotomy i j with hlt | rfl | hgt
  · have := off_mono (f := f) (i := i + 1) (j := j) hlt (by omega)
    rw [off_succ f i hi] at this
    omega
  · exact ⟨rfl, by omega⟩
  · have := off_mono (f := f) (i := j + 1) (j := i) hgt (by omega)
    rw [off_succ f j hj] at this
    omega
/-- Two ways through one face's edge. -/
theorem ed_up {c : List Int} (h3 : 3 ≤ c.length) (hn : c.Nodup) {k l : Nat} (hk : k < c.length) (hl : l < c.length) (h : up (ed c k) = up (ed c l)) : k = l := by
  have inj : ∀ {x y : Nat}, x < c.length → y < c.length → rdD 0 c (x : Int) = rdD 0 c (y : Int) → x = y := by
    intro x y hx hy e
    rw [rd_get _ _ _ hx, rd_get _ _ _ hy] at e
    rcases Nat.lt_trichotomy x y with hlt | he | hgt
    · exact absurd e (List.pairwise_iff_getElem.1 hn x y hx hy hlt)
    · exact he
    · exact absurd e.symm (List.pairwise_iff_getElem.1 hn y x hy hx hgt)
  rcases up_two h with e | e
  · exact inj hk hl (congrArg (·.1) e)
  · have e1 : rdD 0 c (k : Int) = nx c l := congrArg (·.1) e
    have e2 : nx c k = rdD 0 c (l : Int) := congrArg (·.2) e
    have hm : ∀ x : Nat, (x + 1) % c.length < c.length := fun x => Nat.mod_lt _ (by omega)
    have f1 := inj hk (hm l) e1
    have f2 := inj (hm k) hl e2
    by_cases c1 : l + 1 = c.length
    · rw [c1, Nat.mod_self] at f1
      subst f1
      rw [Nat.mod_eq_of_lt (by omega)] at f2
      omega
    · rw [Nat.mod_eq_of_lt (by omega)] at f1
      subst f1
      by_cases c2 : l + 1 + 1 = c.length
      · rw [c2, Nat.mod_self] at f2
        omega
      · rw [Nat.mod_eq_of_lt (by omega)] at f2
        omega
theorem eds4 (a b c d : Int) : eds [a, b, c, d] = [(a, b), (b, c), (c, d), (d, a)] := by
  simp [eds, ed, nx, rdD, List.range_succ]
section
variable {p : List Pt} {f : List (List Int)} (h : chk p.length f = 0)
include h
theorem row_nd {i k : Nat} (hi : i < f.length) (hk : k < (fc f i).length) : nx (fc f i) k ≠ pv (fc f i) k := by
  have F := fine_of h
  have hm : fc f i ∈ f := by rw [fc_get hi]; exact List.getElem_mem hi
  have h3 := F.big _ hm
  have hn := F.nd _ hm
  intro e
  have e2 : up (ed (fc f i) k) = up (ed (fc f i) ((k + (fc f i).length - 1) % (fc f i).length)) := by
    rw [pv_ed hk, up_swap, ← e]
    rfl
  have := ed_up h3 hn hk (Nat.mod_lt _ (by omega)) e2
  by_cases c : k = 0
  · subst c
    rw [Nat.mod_eq_of_lt (by omega)] at this
    omega
  · rw [show k + (fc f i).length - 1 = (k - 1) + (fc f i).length by omega, Nat.add_mod_right, Nat.mod_eq_of_lt (by omega)] at this
    omega
theorem eds_row {i k : Nat} (np nl : Nat) (L : List Pt) (hnl : nl = L.length) : eds (rowv np L (fc f i) i k) = [(rdD 0 (fc f i) (k : Int), ((np + ix L (up (rdD 0 (fc f i) (k : Int), nx (fc f i) k)) : Nat) : Int)),
    (((np + ix L (up (rdD 0 (fc f i) (k : Int), nx (fc f i) k)) : Nat) : Int), ((np + nl + i : Nat) : Int)),
    (((np + nl + i : Nat) : Int), ((np + ix L (up (rdD 0 (fc f i) (k : Int), pv (fc f i) k)) : Nat) : Int)),
    (((np + ix L (up (rdD 0 (fc f i) (k : Int), pv (fc f i) k)) : Nat) : Int), rdD 0 (fc f i) (k : Int))] := by
  subst hnl
  exact eds4 _ _ _ _
theorem rows_apart {i k j l : Nat} (hi : i < f.length) (hk : k < (fc f i).length) (hj : j < f.length) (hl : l < (fc f j).length) (hne : ¬(i = j ∧ k = l)) :
    ∀ x ∈ eds (rowv p.length (edgs f) (fc f i) i k), ∀ y ∈ eds (rowv p.length (edgs f) (fc f j) j l), x ≠ y := by
  have F := fine_of h
  have hmi : fc f i ∈ f := by rw [fc_get hi]; exact List.getElem_mem hi
  have hmj : fc f j ∈ f := by rw [fc_get hj]; exact List.getElem_mem hj
  have a1 := F.rng _ hmi _ (rd_in hk)
  have a2 := F.rng _ hmj _ (rd_in hl)
  have r1 := row_in h hi hk
  have r2 := row_in h hj hl
  have l1 := ix_lt r1.1
  have l2 := ix_lt r1.2
  have l3 := ix_lt r2.1
  have l4 := ix_lt r2.2
  have kmod : (k + (fc f i).length - 1) % (fc f i).length < (fc f i).length := Nat.mod_lt _ (by omega)
  have lmod : (l + (fc f j).length - 1) % (fc f j).length < (fc f j).length := Nat.mod_lt _ (by omega)
  have back : ∀ {c : List Int} {a b : Nat}, a < c.length → b < c.length → (a + c.length - 1) % c.length = (b + c.length - 1) % c.length → a = b := by
    intro c a b ha hb e
    have key : ∀ x, x < c.length → (x + c.length - 1) % c.length = if x = 0 then c.length - 1 else x - 1 := by
      intro x hx
      by_cases c0 : x = 0
      · rw [if_pos c0, c0, Nat.mod_eq_of_lt (by omega)]; omega
      · rw [if_neg c0, show x + c.length - 1 = (x - 1) + c.length by omega, Nat.add_mod_right, Nat.mod_eq_of_lt (by omega)]
    rw [key a ha, key b hb] at e
    split at e <;> split at e <;> omega
  -- what would follow from one another
  have s1 : rdD 0 (fc f i) (k : Int) = rdD 0 (fc f j) (l : Int) → up (rdD 0 (fc f i) (k : Int), nx (fc f i) k) = up (rdD 0 (fc f j) (l : Int), nx (fc f j) l) → False := by
    intro e1 e2
    rw [e1] at e2
    have e3 := up_inj e2
    exact hne (ed_inj F hi hk hj hl (Prod.ext e1 e3))
  have s4 : rdD 0 (fc f i) (k : Int) = rdD 0 (fc f j) (l : Int) → up (rdD 0 (fc f i) (k : Int), pv (fc f i) k) = up (rdD 0 (fc f j) (l : Int), pv (fc f j) l) → False := by
    intro e1 e2
    have e0 := e1
    rw [e1] at e2
    have e3 := up_inj e2
    have h1 := pv_ed hk
    have h2 := pv_ed hl
    have := ed_inj F hi kmod hj lmod (by rw [h1, h2, e0, e3])
    obtain ⟨rfl, e5⟩ := this
    exact hne ⟨rfl, back hk hl e5⟩
  have s2 : i = j → up (rdD 0 (fc f i) (k : Int), nx (fc f i) k) = up (rdD 0 (fc f j) (l : Int), nx (fc f j) l) → False := by
    rintro rfl e2
    exact hne ⟨rfl, ed_up (F.big _ hmi) (F.nd _ hmi) hk hl e2⟩
  have s3 : i = j → up (rdD 0 (fc f i) (k : Int), pv (fc f i) k) = up (rdD 0 (fc f j) (l : Int), pv (fc f j) l) → False := by
    rintro rfl e2
    have h1 := pv_ed hk
    have h2 := pv_ed hl
    rw [up_swap, ← h1, up_swap (rdD 0 (fc f i) (l : Int)), ← h2] at e2
    exact hne ⟨rfl, back hk hl (ed_up (F.big _ hmi) (F.nd _ hmi) kmod lmod e2)⟩
  have i1 := fun e => s1 e |> fun g => fun e' => g (ix_inj r1.1 r2.1 e')
  have i4 := fun e => s4 e |> fun g => fun e' => g (ix_inj r1.2 r2.2 e')
  have i2 := fun e => s2 e |> fun g => fun e' => g (ix_inj r1.1 r2.1 e')
  have i3 := fun e => s3 e |> fun g => fun e' => g (ix_inj r1.2 r2.2 e')
  rw [eds_row h _ _ _ rfl, eds_row h _ _ _ rfl]
  generalize ix (edgs f) (up (rdD 0 (fc f i) (k : Int), nx (fc f i) k)) = x1 at *
  generalize ix (edgs f) (up (rdD 0 (fc f i) (k : Int), pv (fc f i) k)) = x2 at *
  generalize ix (edgs f) (up (rdD 0 (fc f j) (l : Int), nx (fc f j) l)) = y1 at *
  generalize ix (edgs f) (up (rdD 0 (fc f j) (l : Int), pv (fc f j) l)) = y2 at *
  generalize rdD 0 (fc f i) (k : Int) = a at *
  generalize rdD 0 (fc f j) (l : Int) = b at *
  generalize (edgs f).length = nl at *
  intro x hx y hy e
  simp only [List.mem_cons, List.not_mem_nil, or_false] at hx hy
  rcases hx with rfl | rfl | rfl | rfl <;> rcases hy with rfl | rfl | rfl | rfl <;> rw [Prod.mk.injEq] at e <;> obtain ⟨e1, e2⟩ := e
  · exact i1 e1 (by omega)
  · omega
  · omega
  · omega
  · omega
  · exact i2 (by omega) (by omega)
  · omega
  · omega
  · omega
  · omega
  · exact i3 (by omega) (by omega)
  · omega
  · omega
  · omega
  · omega
  · exact i4 e2 (by omega)
theorem alls_outs : alls (outs p.length (edgs f) f f.length) = (List.range f.length).flatMap fun i => (List.range (fc f i).length).flatMap fun k => eds (rowv p.length (edgs f) (fc f i) i k) := by
  unfold alls outs rows
  rw [List.flatMap_assoc]
  congr 1
  funext i
  rw [List.flatMap_map]
theorem fine_outs : Fine (plc p f).length (outs p.length (edgs f) f f.length) := by
  have F := fine_of h
  have hrow : ∀ c ∈ outs p.length (edgs f) f f.length, ∃ i k, i < f.length ∧ k < (fc f i).length ∧ c = rowv p.length (edgs f) (fc f i) i k := by
    intro c hc
    obtain ⟨i, hi, hc⟩ := List.mem_flatMap.1 hc
    obtain ⟨k, hk, rfl⟩ := List.mem_map.1 hc
    exact ⟨i, k, List.mem_range.1 hi, List.mem_range.1 hk, rfl⟩
  have hval : ∀ i k, i < f.length → k < (fc f i).length → ∃ a e1 e2 : Nat, a < p.length ∧ e1 < (edgs f).length ∧ e2 < (edgs f).length ∧ e1 ≠ e2 ∧ rowv p.length (edgs f) (fc f i) i k = [(a : Int), ((p.length + e1 : Nat) : Int), ((p.length + (edgs f).length + i : Nat) : Int), ((p.length + e2 : Nat) : Int)] := by
    intro i k hi hk
    have hmi : fc f i ∈ f := by rw [fc_get hi]; exact List.getElem_mem hi
    have a1 := F.rng _ hmi _ (rd_in hk)
    have r1 := row_in h hi hk
    obtain ⟨a, ha⟩ := Int.eq_ofNat_of_zero_le a1.1
    refine ⟨a, _, _, by omega, ix_lt r1.1, ix_lt r1.2, fun e => row_nd h hi hk (up_inj (ix_inj r1.1 r1.2 e)), ?_⟩
    unfold rowv
    rw [ha]
  refine ⟨fun c hc => ?_, fun c hc => ?_, fun c hc x hx => ?_, ?_⟩
  · obtain ⟨i, k, _, _, rfl⟩ := hrow c hc
    show 3 ≤ 4
    omega
  · obtain ⟨i, k, hi, hk, rfl⟩ := hrow c hc
    obtain ⟨a, e1, e2, h1, h2, h3, h4, e⟩ := hval i k hi hk
    rw [e]
    simp only [List.nodup_cons, List.mem_cons, List.not_mem_nil, or_false, not_or, List.nodup_nil, and_true, not_false_iff]
    omega
  · obtain ⟨i, k, hi, hk, rfl⟩ := hrow c hc
    obtain ⟨a, e1, e2, h1, h2, h3, h4, e⟩ := hval i k hi hk
    rw [e] at hx
    rw [plc_len]
    simp only [List.mem_cons, List.not_mem_nil, or_false] at hx
    rcases hx with rfl | rfl | rfl | rfl <;> omega
  · rw [alls_outs h]
    refine List.pairwise_flatMap.2 ⟨fun i hi => List.pairwise_flatMap.2 ⟨fun k hk => ?_, ?_⟩, ?_⟩
    · rw [List.mem_range] at hi hk
      obtain ⟨a, e1, e2, h1, h2, h3, h4, e⟩ := hval i k hi hk
      rw [e]
      rw [eds4]
      show List.Pairwise (· ≠ ·) [((a : Int), ((p.length + e1 : Nat) : Int)), (((p.length + e1 : Nat) : Int), ((p.length + (edgs f).length + i : Nat) : Int)), (((p.length + (edgs f).length + i : Nat) : Int), ((p.length + e2 : Nat) : Int)), (((p.length + e2 : Nat) : Int), (a : Int))]
      simp only [List.pairwise_cons, List.mem_cons, List.not_mem_nil, or_false, List.Pairwise.nil, and_true, forall_eq_or_imp, forall_eq, ne_eq, Prod.mk.injEq]
      simp
      omega
    · rw [List.mem_range] at hi
      refine List.Pairwise.imp_of_mem ?_ (List.nodup_range (n := (fc f i).length))
      intro k l hk hl hkl x hx y hy
      exact rows_apart h hi (List.mem_range.1 hk) hi (List.mem_range.1 hl) (fun e => hkl e.2) x hx y hy
    · refine List.Pairwise.imp_of_mem ?_ (List.nodup_range (n := f.length))
      intro i j hi hj hij x hx y hy
      obtain ⟨k, hk, hx⟩ := List.mem_flatMap.1 hx
      obtain ⟨l, hl, hy⟩ := List.mem_flatMap.1 hy
      exact rows_apart h (List.mem_range.1 hi) (List.mem_range.1 hk) (List.mem_range.1 hj) (List.mem_range.1 hl) (fun e => hij e.1) x hx y hy
end
end Go.Proofs.Ytiejhpighhjgiaa.Pure
