/- Of a right input: each of its segments may be laid; its loops have at least three places. -/
import Derived.Test.YtjbimhfhapnjeaaV15
section
set_option linter.unusedVariables false
set_option linter.unusedSimpArgs false
namespace Go.Proofs.Ytjbimhfhapnjeaa.Pure
open Go.RowKit Go.Proofs.Ytjbimhfhapnjeaa.AM PL

theorem isl_own {p : Poly} (R : Right p) {i : Nat} (hi : i < (sgs p).length) : ∀ (d j : Nat), i - j = d → j ≤ i → isl p (sgs p)[i].1 (sgs p)[i].2 j ((sgs p).drop j) = true
  | 0, j, hd, hj => by
    obtain rfl : j = i := by omega
    rw [List.drop_eq_getElem_cons hi, isl, if_pos (.inl rfl)]
    by_cases c : j < p.2.1.length
    · rw [decide_eq_true c]; rfl
    · rw [decide_eq_false c, Bool.false_or]
      have hl : (sgs p).length = p.2.1.length + p.2.2.length := by unfold sgs; rw [List.length_append]
      have hk : j - p.2.1.length < p.2.2.length := by omega
      have e : (sgs p)[j] = p.2.2[j - p.2.1.length] := by
        exact List.getElem_append_right (by omega)
      have h7 := (row_spec (outb p) (n := p.2.2.length) (a := 0) _ 0 rfl (Nat.zero_le _)).1 R.n7 (j - p.2.1.length) (Nat.zero_le _) hk
      unfold outb at h7
      rw [pt_nat hk] at h7
      rw [e]
      unfold mid1
      cases hb : decide ((midv p.1 p.2.1 [(p.2.2[j - p.2.1.length]).1, (p.2.2[j - p.2.1.length]).2]).1 = 1) with
      | true => rfl
      | false => rw [hb] at h7; cases h7
  | d + 1, j, hd, hj => by
    have hj' : j < (sgs p).length := by omega
    have hji : j < i := by omega
    rw [List.drop_eq_getElem_cons hj', isl]
    have hn := List.pairwise_iff_getElem.1 R.fine.two j i hj' hi hji
    have hno := (srch_spec (crossing (ens p)) (n := (ens p).length) _ 0 rfl (Nat.zero_le _)).1 R.fine.n3 j i (Nat.zero_le _) hji (by rw [ens_len]; exact hi)
    unfold crossing at hno
    rw [sat_ens p hj', sat_ens p hi, pt_nat hj', pt_nat hi] at hno
    have hno' := of_decide_eq_false hno
    rw [if_neg, if_neg]
    · exact isl_own R hi d (j + 1) (by omega) (by omega)
    · intro h
      refine hno' ?_
      show (segs (pt p.1 (sgs p)[j].1) (pt p.1 (sgs p)[j].2) (pt p.1 (sgs p)[i].1) (pt p.1 (sgs p)[i].2)).1 > 1
      rw [segs_turn]
      exact h
    · intro h
      refine hn (nrm_eq ?_)
      rcases h with h | h <;> rw [h]
      · exact .inl ⟨rfl, rfl⟩
      · exact .inr ⟨rfl, rfl⟩
theorem noIns_own {p : Poly} (R : Right p) {i : Nat} (hi : i < (sgs p).length) : noIns p (sgs p)[i].1 (sgs p)[i].2 = true := by
  unfold noIns
  rw [List.all_eq_true]
  intro q hq
  obtain ⟨k, hk, rfl⟩ := List.mem_iff_getElem.1 hq
  have h4 := (rct_spec (insd p) (n := p.1.length) (m := (sgs p).length) _ 0 rfl (Nat.zero_le _)).1 R.n4 k i (Nat.zero_le _) hk hi
  unfold insd en at h4
  dsimp only at h4
  rw [pt_nat hi, pt_nat hk] at h4
  rw [h4]; rfl
theorem insv_own {p : Poly} (R : Right p) {i : Nat} (hi : i < (sgs p).length) : insv p (sgs p)[i].1 (sgs p)[i].2 = true := by
  have hok := R.fine.ok _ (List.getElem_mem hi)
  unfold insv
  rw [show good0 p = true from decide_eq_true (by rw [R.good]; rfl), Bool.true_and]
  rw [show may p (sgs p)[i].1 (sgs p)[i].2 = true from decide_eq_true ⟨hok.1.1, hok.1.2, hok.2⟩, noIns_own R hi]
  have := isl_own R hi i 0 (by omega) (Nat.zero_le _)
  rw [List.drop_zero] at this
  rw [this]; rfl
/-- A loop has at least three places. -/
theorem wk_three {n : Nat} {D : Int → Prop} {nb : Int → Pt} (G : Rg n D nb) {i fr : Int} {r : List Int} (w : Wk D nb i fr r i) : 3 ≤ (fr :: r).length := by
  match r, w with
  | [], w =>
    have hl := w.last
    have hfi : fr = i := by simpa using hl
    have hnv := G.nv fr (w.d fr List.mem_cons_self)
    rcases w.to with h | h
    · exact absurd (h.symm.trans hfi.symm) hnv.1
    · exact absurd (h.symm.trans hfi.symm) hnv.2
  | [p], w =>
    have hl := w.last
    have hpi : p = i := by simpa using hl
    exact absurd hpi.symm (w.pr p rfl).2
  | p :: q :: r, w => simp
theorem ring_three {n : Nat} {L : List Pt} (lp : Lp n L) {v : Int} (h : Dg L n v) : 3 ≤ (ring (nbr L) n v).length := by
  obtain ⟨fr, r, e, w, _⟩ := ring_spec lp.rg h
  rw [e, List.length_reverse]
  exact wk_three lp.rg w
end Go.Proofs.Ytjbimhfhapnjeaa.Pure
end
/- Of a right input: its loops are closed, apart from one another, and hold each place of L once. -/
section
set_option linter.unusedVariables false
set_option linter.unusedSimpArgs false
set_option linter.unusedSectionVars false
namespace Go.Proofs.Ytjbimhfhapnjeaa.Pure
open Go.RowKit Go.Proofs.Ytjbimhfhapnjeaa.AM PL

/-- From a place of O on, all the way is in O. -/
theorem ch_on {nb : Int → Pt} {O : Int → Prop} (cl : ∀ x, O x → O (nb x).1 ∧ O (nb x).2) : ∀ (l : List Int) (a : Int), Ch nb (a :: l) → ∀ x ∈ l, O x → ∀ z, (a :: l).getLast? = some z → O z
  | [], a, _, x, hx, _, z, _ => by cases hx
  | [b], a, _, x, hx, ho, z, hz => by
    obtain rfl : x = b := by simpa using hx
    have : x = z := by simpa using hz
    rw [← this]; exact ho
  | b :: c :: l, a, h, x, hx, ho, z, hz => by
    have ht : Ch nb (b :: c :: l) := h.2
    have hz' : (b :: c :: l).getLast? = some z := by rw [List.getLast?_cons_cons] at hz; exact hz
    rcases List.mem_cons.1 hx with rfl | hx
    · have hc : O c := by
        rcases h.1 with ⟨_, e⟩ | ⟨e, _⟩ <;> rw [← e]
        · exact (cl _ ho).2
        · exact (cl _ ho).1
      exact ch_on cl (c :: l) x ht c List.mem_cons_self hc z hz'
    · exact ch_on cl (c :: l) b ht x hx ho z hz'
/-- The last but one. -/
theorem ch_last {nb : Int → Pt} : ∀ (l : List Int) (a b c : Int), Ch nb (a :: b :: c :: l) → ∀ z, (a :: b :: c :: l).getLast? = some z → ∃ y ∈ b :: c :: l, (z = (nb y).1 ∨ z = (nb y).2)
  | [], a, b, c, h, z, hz => by
    have : c = z := by simpa using hz
    subst this
    refine ⟨b, by simp, ?_⟩
    rcases h.1 with ⟨_, e⟩ | ⟨e, _⟩
    · exact .inr e.symm
    · exact .inl e.symm
  | d :: l, a, b, c, h, z, hz => by
    have hz' : (b :: c :: d :: l).getLast? = some z := by rw [List.getLast?_cons_cons] at hz; exact hz
    obtain ⟨y, hy, e⟩ := ch_last l b c d h.2 z hz'
    exact ⟨y, List.mem_cons_of_mem _ hy, e⟩
section
variable {n : Nat} {D : Int → Prop} {nb : Int → Pt} (G : Rg n D nb) {i fr : Int} {r : List Int}
include G
/-- A loop's places have their neighbours in it. -/
theorem wk_closed (w : Wk D nb i fr r i) : ∀ x ∈ fr :: r, (nb x).1 ∈ fr :: r ∧ (nb x).2 ∈ fr :: r := by
  have h3 := wk_three G w
  intro x hx
  match r, w, h3, hx with
  | p :: q :: r, w, h3, hx =>
  have him : i ∈ fr :: p :: q :: r := List.mem_of_getLast? w.last
  have two : ∀ (x a b : Int), (a = (nb x).1 ∨ a = (nb x).2) → (b = (nb x).1 ∨ b = (nb x).2) → a ≠ b → a ∈ fr :: p :: q :: r → b ∈ fr :: p :: q :: r → (nb x).1 ∈ fr :: p :: q :: r ∧ (nb x).2 ∈ fr :: p :: q :: r := by
    intro x a b ha hb hne h1 h2
    rcases ha with ha | ha <;> rcases hb with hb | hb
    · exact absurd (ha.trans hb.symm) hne
    · rw [← ha, ← hb]; exact ⟨h1, h2⟩
    · rw [← ha, ← hb]; exact ⟨h2, h1⟩
    · exact absurd (ha.trans hb.symm) hne
  rcases List.mem_cons.1 hx with rfl | hx'
  · exact two x i p w.to (w.pr p rfl).1 (w.pr p rfl).2 him (by simp)
  · by_cases e : x = i
    · subst e
      obtain ⟨y, hy, hyx⟩ := ch_last r fr p q w.ch x w.last
      have hfr := w.d fr List.mem_cons_self
      have hyD := w.d y (List.mem_cons_of_mem _ hy)
      refine two x fr y (G.sym fr hfr x w.to) (G.sym y hyD x hyx) (fun e => ?_) List.mem_cons_self (List.mem_cons_of_mem _ hy)
      exact (List.nodup_cons.1 w.nd).1 (e ▸ hy)
    · have hin := ch_in (p :: q :: r) fr w.ch x hx' (by rw [w.last]; intro h; injection h with h; exact e h.symm)
      exact hin
/-- A loop that shares a place with a closed row has its first place in it. -/
theorem wk_apart {O : Int → Prop} (cl : ∀ x, O x → O (nb x).1 ∧ O (nb x).2) (w : Wk D nb i fr r i) {x : Int} (hx : x ∈ fr :: r) (ho : O x) : O i := by
  have h3 := wk_three G w
  match r, w, h3, hx with
  | p :: q :: r, w, h3, hx =>
  rcases List.mem_cons.1 hx with rfl | hx
  · have : O p := by
      rcases (w.pr p rfl).1 with e | e <;> rw [e]
      · exact (cl _ ho).1
      · exact (cl _ ho).2
    exact ch_on cl (p :: q :: r) x w.ch p (by simp) this i w.last
  · exact ch_on cl (p :: q :: r) fr w.ch x hx ho i w.last
end
/-- What the loops so far hold. -/
structure Oi (L : List Pt) (n i : Nat) : Prop where
  nd : (outs L n i).flatten.Nodup
  d : ∀ x ∈ (outs L n i).flatten, Dg L n x
  cl : ∀ x ∈ (outs L n i).flatten, (nbr L x).1 ∈ (outs L n i).flatten ∧ (nbr L x).2 ∈ (outs L n i).flatten
  al : ∀ v : Nat, v < i → Dg L n (v : Int) → (v : Int) ∈ (outs L n i).flatten
theorem oi {n : Nat} {L : List Pt} (lp : Lp n L) : ∀ i, i ≤ n → Oi L n i
  | 0, _ => ⟨by simp [outs], fun x hx => by simp [outs] at hx, fun x hx => by simp [outs] at hx, fun v hv => by omega⟩
  | i + 1, hi => by
    have I := oi lp i (by omega)
    have G := lp.rg
    by_cases c : dgr L (i : Int) = 0 ∨ (i : Int) ∈ (outs L n i).flatten
    · have e : outs L n (i + 1) = outs L n i := by rw [outs_succ]; unfold rstep; rw [if_pos c]
      refine ⟨by rw [e]; exact I.nd, by rw [e]; exact I.d, by rw [e]; exact I.cl, fun v hv hd => ?_⟩
      rw [e]
      by_cases hvi : v = i
      · subst hvi
        rcases c with c | c
        · have := hd.2; omega
        · exact c
      · exact I.al v (by omega) hd
    · have hd : dgr L (i : Int) = 2 := (lp.deg i (by omega)).resolve_left (fun h => c (.inl h))
      have hD : Dg L n (i : Int) := ⟨⟨by omega, by omega⟩, hd⟩
      obtain ⟨fr, r, hr, w, him⟩ := ring_spec G hD
      have e : (outs L n (i + 1)).flatten = (outs L n i).flatten ++ (fr :: r).reverse := by
        rw [outs_succ]; unfold rstep; rw [if_neg c, hr]; simp
      have mem : ∀ x, x ∈ (outs L n (i + 1)).flatten ↔ (x ∈ (outs L n i).flatten ∨ x ∈ fr :: r) := by
        intro x; rw [e, List.mem_append, List.mem_reverse]
      refine ⟨?_, fun x hx => ?_, fun x hx => ?_, fun v hv hd => ?_⟩
      · rw [e, List.nodup_append]
        refine ⟨I.nd, (by unfold List.Nodup; rw [List.pairwise_reverse]; exact w.nd.imp (fun h => h.symm)), fun a ha b hb hab => ?_⟩
        subst hab
        exact c (.inr (wk_apart G (O := fun x => x ∈ (outs L n i).flatten) (fun x hx => I.cl x hx) w (List.mem_reverse.1 hb) ha))
      · exact ((mem x).1 hx).elim (I.d x) (w.d x)
      · rcases (mem x).1 hx with hx | hx
        · exact ⟨(mem _).2 (.inl (I.cl x hx).1), (mem _).2 (.inl (I.cl x hx).2)⟩
        · have := wk_closed G w x hx
          exact ⟨(mem _).2 (.inr this.1), (mem _).2 (.inr this.2)⟩
      · by_cases hvi : v = i
        · subst hvi; exact (mem _).2 (.inr him)
        · exact (mem _).2 (.inl (I.al v (by omega) hd))

/-! ### counting -/
def smN (f : Nat → Nat) : Nat → Nat
  | 0 => 0
  | n + 1 => smN f n + f n
theorem smN_add (f g : Nat → Nat) : ∀ n, smN (fun v => f v + g v) n = smN f n + smN g n
  | 0 => rfl
  | n + 1 => by rw [smN, smN, smN, smN_add f g n]; omega
theorem smN_congr {f g : Nat → Nat} : ∀ n, (∀ v, v < n → f v = g v) → smN f n = smN g n
  | 0, _ => rfl
  | n + 1, h => by rw [smN, smN, smN_congr n (fun v hv => h v (by omega)), h n (by omega)]
theorem smN_zero : ∀ n, smN (fun _ => 0) n = 0
  | 0 => rfl
  | n + 1 => by rw [smN, smN_zero n]
theorem smN_one (a : Int) : ∀ n, smN (fun (v : Nat) => if a = (v : Int) then 1 else 0) n = if 0 ≤ a ∧ a < (n : Int) then 1 else 0
  | 0 => by rw [smN, if_neg (by omega)]
  | n + 1 => by
    rw [smN, smN_one a n]
    by_cases h1 : a = (n : Int)
    · rw [if_pos h1, if_neg (by omega), if_pos (by omega)]
    · rw [if_neg h1]
      by_cases h2 : 0 ≤ a ∧ a < (n : Int)
      · rw [if_pos h2, if_pos (by omega)]
      · rw [if_neg h2, if_neg (by omega)]
theorem dgr_cons (L : List Pt) (s : Pt) (i : Int) : dgr (s :: L) i = dgr L i + ((if s.1 = i then 1 else 0) + (if s.2 = i then 1 else 0)) := by
  unfold dgr
  rw [List.countP_cons, List.countP_cons]
  by_cases h1 : s.1 = i <;> by_cases h2 : s.2 = i <;> simp [h1, h2] <;> omega
theorem dgr_sum {n : Nat} : ∀ {L : List Pt}, (∀ s ∈ L, oks n s) → smN (fun v => dgr L (v : Int)) n = 2 * L.length
  | [], _ => by
    show smN (fun v => 0) n = 0
    exact smN_zero n
  | s :: L, h => by
    have ih := dgr_sum (n := n) (L := L) (fun t ht => h t (List.mem_cons_of_mem _ ht))
    have hs := h s List.mem_cons_self
    rw [smN_congr (g := fun (v : Nat) => dgr L (v : Int) + ((if s.1 = (v : Int) then 1 else 0) + (if s.2 = (v : Int) then 1 else 0))) n (fun v _ => dgr_cons L s v), smN_add, smN_add, ih, smN_one, smN_one, if_pos (show 0 ≤ s.1 ∧ s.1 < (n : Int) from hs.1), if_pos (show 0 ≤ s.2 ∧ s.2 < (n : Int) from hs.2), List.length_cons]
    omega
theorem smN_two (L : List Pt) : ∀ n, (∀ v : Nat, v < n → dgr L (v : Int) = 0 ∨ dgr L (v : Int) = 2) → smN (fun v => dgr L (v : Int)) n = 2 * ((List.range n).filter fun v => decide (dgr L ((v : Nat) : Int) = 2)).length
  | 0, _ => rfl
  | n + 1, h => by
    rw [smN, smN_two L n (fun v hv => h v (by omega)), List.range_succ, List.filter_append, List.length_append]
    rcases h n (by omega) with e | e
    · rw [e, List.filter_cons_of_neg (by rw [e]; decide)]; simp
    · rw [e, List.filter_cons_of_pos (by rw [e]; decide)]; simp; omega
theorem flat_count {n : Nat} {L : List Pt} (lp : Lp n L) : (outs L n n).flatten.length = L.length := by
  have I := oi lp n (Nat.le_refl _)
  have hs := dgr_sum (fun s hs => (lp.ok s hs).1)
  rw [smN_two L n lp.deg] at hs
  generalize hF : (List.range n).filter (fun v => decide (dgr L ((v : Nat) : Int) = 2)) = F at hs
  have memF : ∀ v : Nat, v ∈ F ↔ Dg L n (v : Int) := by
    intro v
    rw [← hF, List.mem_filter, List.mem_range, decide_eq_true_eq]
    exact ⟨fun h => ⟨⟨by omega, by omega⟩, h.2⟩, fun h => ⟨by have := h.1; omega, h.2⟩⟩
  have ndF : F.Nodup := by rw [← hF]; exact List.Nodup.sublist List.filter_sublist List.nodup_range
  have h1 : ((outs L n n).flatten.map Int.toNat).Nodup := by
    unfold List.Nodup
    rw [List.pairwise_map]
    refine List.Pairwise.imp_of_mem (fun {a b} ha hb h => ?_) I.nd
    have := (I.d a ha).1; have := (I.d b hb).1
    omega
  have l1 : (outs L n n).flatten.length ≤ F.length := by
    have := h1.length_le_of_subset (l₂ := F) (fun x hx => by
      obtain ⟨y, hy, rfl⟩ := List.mem_map.1 hx
      have hd := I.d y hy
      rw [memF, show ((y.toNat : Nat) : Int) = y from by have := hd.1; omega]
      exact hd)
    rw [List.length_map] at this; exact this
  have l2 : F.length ≤ (outs L n n).flatten.length := by
    have := ndF.length_le_of_subset (l₂ := (outs L n n).flatten.map Int.toNat) (fun v hv => by
      have hd := (memF v).1 hv
      exact List.mem_map.2 ⟨(v : Int), I.al v (by have := hd.1; omega) hd, by simp⟩)
    rw [List.length_map] at this; exact this
  omega
/-- A right input's loops. -/
theorem Right.lp {p : Poly} (R : Right p) : Lp p.1.length p.2.1 := lp_of R.fine.okL R.fine.twoL R.n5
theorem Right.outs_ne {p : Poly} (R : Right p) : (outs p.2.1 p.1.length p.1.length).length ≠ 0 ∧ 3 ≤ p.1.length := by
  have lp := R.lp
  have hf := flat_count lp
  have hne : (outs p.2.1 p.1.length p.1.length) ≠ [] := by
    intro e
    rw [e] at hf
    exact R.n6 hf.symm
  refine ⟨fun h => hne (List.eq_nil_of_length_eq_zero h), ?_⟩
  obtain ⟨r, l, e⟩ := List.exists_cons_of_ne_nil hne
  obtain ⟨v, hv, hr⟩ := outs_mem lp _ (Nat.le_refl _) r (by rw [e]; simp)
  have h3 := ring_three lp hv
  have := ring_len lp hv
  omega
theorem Right.three {p : Poly} (R : Right p) : ∀ r ∈ outs p.2.1 p.1.length p.1.length, 3 ≤ r.length := by
  intro r hr
  obtain ⟨v, hv, rfl⟩ := outs_mem R.lp _ (Nat.le_refl _) r hr
  exact ring_three R.lp hv
end Go.Proofs.Ytjbimhfhapnjeaa.Pure
end
