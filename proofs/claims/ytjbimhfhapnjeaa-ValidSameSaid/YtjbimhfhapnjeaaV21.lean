/- When an input has no flaw of a kind; inputs that are hurt. -/
import Derived.Test.YtjbimhfhapnjeaaV17
section
set_option linter.unusedVariables false
set_option linter.unusedSimpArgs false
set_option linter.unusedSectionVars false
namespace Go.Proofs.Ytjbimhfhapnjeaa.Pure
open Go.RowKit Go.Proofs.Ytjbimhfhapnjeaa.AM PL

theorem row_none {f : Nat → Nat → Bool} {n a : Nat} : row f n a 0 = none ↔ ∀ k, k < n → f a k = false := by
  obtain ⟨h1, h2⟩ := row_spec f (n := n) (a := a) _ 0 rfl (Nat.zero_le _)
  refine ⟨fun h k hk => h1 h k (Nat.zero_le _) hk, fun h => ?_⟩
  cases hr : row f n a 0 with
  | none => rfl
  | some k => obtain ⟨_, g2, g3, _⟩ := h2 k hr; rw [h k g2] at g3; cases g3
theorem srch_none {f : Nat → Nat → Bool} {n : Nat} : srch f n 0 = none ↔ ∀ i k, i < k → k < n → f i k = false := by
  obtain ⟨h1, h2⟩ := srch_spec f (n := n) _ 0 rfl (Nat.zero_le _)
  refine ⟨fun h i k hi hk => h1 h i k (Nat.zero_le _) hi hk, fun h => ?_⟩
  cases hr : srch f n 0 with
  | none => rfl
  | some q => obtain ⟨_, g1, g2, g3, _⟩ := h2 q.1 q.2 hr; rw [h _ _ g1 g2] at g3; cases g3
theorem rct_none {f : Nat → Nat → Bool} {n m : Nat} : rct f n m 0 = none ↔ ∀ i k, i < n → k < m → f i k = false := by
  obtain ⟨h1, h2⟩ := rct_spec f (n := n) (m := m) _ 0 rfl (Nat.zero_le _)
  refine ⟨fun h i k hi hk => h1 h i k (Nat.zero_le _) hi hk, fun h => ?_⟩
  cases hr : rct f n m 0 with
  | none => rfl
  | some q => obtain ⟨_, g1, g2, g3⟩ := h2 q.1 q.2 hr; rw [h _ _ g1 g2] at g3; cases g3
theorem s1n {p : Poly} : s1 p = none ↔ p.1.Pairwise (· ≠ ·) := by
  unfold s1
  rw [srch_none, List.pairwise_iff_getElem]
  constructor
  · intro h i k hi hk hik
    have := of_decide_eq_false (h i k hik hk)
    rwa [pt_nat hi, pt_nat hk] at this
  · intro h i k hik hk
    refine decide_eq_false ?_
    rw [pt_nat (by omega), pt_nat hk]
    exact h i k (by omega) hk hik
theorem s2n {p : Poly} : s2 p = none ↔ ∀ s ∈ sgs p, s.1 ≠ s.2 := by
  unfold s2
  rw [row_none]
  constructor
  · intro h s hs
    obtain ⟨k, hk, rfl⟩ := List.mem_iff_getElem.1 hs
    have := h k hk
    unfold pnt at this
    rw [pt_nat hk] at this
    exact of_decide_eq_false this
  · intro h k hk
    unfold pnt
    rw [pt_nat hk]
    exact decide_eq_false (h _ (List.getElem_mem _))
/-- Two that meet as they may. -/
def Mt (P : List Pt) (s t : Pt) : Prop := ¬ (segs (en P s).1 (en P s).2 (en P t).1 (en P t).2).1 > 1
theorem s3n {p : Poly} : s3 p = none ↔ (sgs p).Pairwise (Mt p.1) := by
  unfold s3
  rw [srch_none, List.pairwise_iff_getElem, ens_len]
  constructor
  · intro h i k hi hk hik
    have := h i k hik hk
    unfold crossing at this
    rw [sat_ens p hi, sat_ens p hk, pt_nat hi, pt_nat hk] at this
    exact of_decide_eq_false this
  · intro h i k hik hk
    unfold crossing
    have hi : i < (sgs p).length := by omega
    rw [sat_ens p hi, sat_ens p hk, pt_nat hi, pt_nat hk]
    exact decide_eq_false (h i k hi hk hik)
theorem s4n {p : Poly} : s4 p = none ↔ ∀ q ∈ p.1, ∀ s ∈ sgs p, ¬ Ins (en p.1 s).1 (en p.1 s).2 q := by
  unfold s4
  rw [rct_none]
  constructor
  · intro h q hq s hs
    obtain ⟨i, hi, rfl⟩ := List.mem_iff_getElem.1 hq
    obtain ⟨k, hk, rfl⟩ := List.mem_iff_getElem.1 hs
    have := h i k hi hk
    unfold insd at this
    rw [pt_nat hi, pt_nat hk] at this
    exact of_decide_eq_false this
  · intro h i k hi hk
    unfold insd
    rw [pt_nat hi, pt_nat hk]
    exact decide_eq_false (h _ (List.getElem_mem _) _ (List.getElem_mem _))
theorem s5n {p : Poly} : s5 p = none ↔ ∀ v : Nat, v < p.1.length → dgr p.2.1 (v : Int) = 0 ∨ dgr p.2.1 (v : Int) = 2 := by
  unfold s5
  rw [row_none]
  refine forall_congr' fun v => forall_congr' fun hv => ?_
  unfold odd
  by_cases h0 : dgr p.2.1 (v : Int) = 0 <;> by_cases h2 : dgr p.2.1 (v : Int) = 2 <;> simp [h0, h2]
theorem s7n {p : Poly} : s7 p = none ↔ ∀ s ∈ p.2.2, (midv p.1 p.2.1 [s.1, s.2]).1 = 1 := by
  unfold s7
  rw [row_none]
  constructor
  · intro h s hs
    obtain ⟨k, hk, rfl⟩ := List.mem_iff_getElem.1 hs
    have := h k hk
    unfold outb at this
    rw [pt_nat hk] at this
    simpa using this
  · intro h k hk
    unfold outb
    rw [pt_nat hk]
    simpa using h _ (List.getElem_mem hk)
theorem s8n {p : Poly} : s8 p = none ↔ ∀ v : Nat, v < p.1.length → dgr (sgs p) (v : Int) = 0 → (atv p.1 p.2.1 1 (pt p.1 (v : Int))).1 = 1 := by
  unfold s8
  rw [row_none]
  refine forall_congr' fun v => forall_congr' fun hv => ?_
  unfold strb
  by_cases h0 : dgr (sgs p) (v : Int) = 0 <;> by_cases h2 : (atv p.1 p.2.1 1 (pt p.1 (v : Int))).1 = 1 <;> simp [h0, h2]
theorem flaw1 {p : Poly} (h : s1 p ≠ none) : (flaw p).1 = 1 := by
  unfold flaw
  cases h1 : s1 p with
  | none => exact absurd h1 h
  | some q => rfl
theorem flaw3 {p : Poly} (h1 : s1 p = none) (h2 : s2 p = none) (h : s3 p ≠ none) : (flaw p).1 = 3 := by
  unfold flaw
  rw [h1, h2]
  cases h3 : s3 p with
  | none => exact absurd h3 h
  | some q => rfl
theorem flaw5 {p : Poly} (h1 : s1 p = none) (h2 : s2 p = none) (h3 : s3 p = none) (h4 : s4 p = none) (h : s5 p ≠ none) : (flaw p).1 = 5 := by
  unfold flaw rest
  rw [h1, h2, h3, h4]
  cases h5 : s5 p with
  | none => exact absurd h5 h
  | some q => rfl
theorem flaw8 {p : Poly} (F : Fine p) (h4 : s4 p = none) (h5 : s5 p = none) (h6 : p.2.1.length ≠ 0) (h7 : s7 p = none) (h : s8 p ≠ none) : (flaw p).1 = 8 := by
  unfold flaw rest six
  rw [F.n1, F.n2, F.n3, h4, h5, h7, if_neg h6]
  cases h8 : s8 p with
  | none => exact absurd h8 h
  | some q => rfl
theorem chk_iff {p : Poly} : chk p = true ↔ few3 p ∧ (∀ q ∈ p.1, okq q) ∧ (∀ s ∈ p.2.1, oks p.1.length s) ∧ ∀ s ∈ p.2.2, oks p.1.length s := by
  unfold chk okql oksl
  simp only [Bool.and_eq_true, decide_eq_true_eq, List.all_eq_true]
/-- An input that is little enough to be hurt. -/
structure Lt (p : Poly) : Prop where
  sm : Sm p
  P : p.1.length ≤ 100
  L : p.2.1.length ≤ 100
  I : p.2.2.length ≤ 100
theorem Lt.mk' {p : Poly} (c : ∀ q ∈ p.1, okq q) (l : ∀ s ∈ p.2.1, oks p.1.length s) (i : ∀ s ∈ p.2.2, oks p.1.length s) (hP : p.1.length ≤ 120) (hL : p.2.1.length ≤ 120) (hI : p.2.2.length ≤ 120) : Sm p :=
  ⟨chk_iff.2 ⟨by unfold few3; omega, c, l, i⟩, by omega, by omega, by omega⟩
theorem oks_mono {n m : Nat} (h : n ≤ m) {s : Pt} (hs : oks n s) : oks m s := ⟨⟨hs.1.1, by have := hs.1.2; omega⟩, ⟨hs.2.1, by have := hs.2.2; omega⟩⟩
theorem pt_app {P E : List Pt} {i : Int} (h : inr i P.length) : pt (P ++ E) i = pt P i := by
  obtain ⟨j, rfl⟩ := Int.eq_ofNat_of_zero_le h.1
  have h2 := h.2
  rw [pt_nat (by rw [List.length_append]; omega), pt_nat (by omega), List.getElem_append_left]
theorem inr_app {P E : List Pt} {i : Int} (h : inr i P.length) : inr i (P ++ E).length := ⟨h.1, by have := h.2; rw [List.length_append]; omega⟩
theorem en_app {P E : List Pt} {s : Pt} (h : oks P.length s) : en (P ++ E) s = en P s := by unfold en; rw [pt_app h.1, pt_app h.2]
section
variable {p : Poly} (h : Lt p) (R : Right p)
include h
theorem hurtA_sm (j : Nat) (hj : j < p.1.length) : Sm (p.1 ++ [p.1[j]], p.2.1, p.2.2) := by
  have hP := h.P; have hL := h.L; have hI := h.I
  have hle : p.1.length ≤ (p.1 ++ [p.1[j]]).length := by simp
  refine Lt.mk' (fun q hq => ?_) (fun s hs => oks_mono hle (h.sm.sl s hs)) (fun s hs => oks_mono hle (h.sm.si s hs)) (by simp; omega) (by simp; omega) (by simp; omega)
  rcases List.mem_append.1 hq with hq | hq
  · exact h.sm.q q hq
  · rw [List.mem_singleton.1 hq]; exact h.sm.q _ (List.getElem_mem _)
theorem hurtA (j : Nat) (hj : j < p.1.length) : (flaw (p.1 ++ [p.1[j]], p.2.1, p.2.2)).1 = 1 := by
  refine flaw1 fun e => ?_
  have := s1n.1 e
  exact (List.pairwise_append.1 this).2.2 p.1[j] (List.getElem_mem _) p.1[j] (by simp) rfl
theorem hurtB_sm (j : Nat) (hj : j < p.2.1.length) : Sm (p.1, p.2.1 ++ [p.2.1[j]], p.2.2) := by
  have hP := h.P; have hL := h.L; have hI := h.I
  refine Lt.mk' h.sm.q (fun s hs => ?_) h.sm.si (by simp; omega) (by simp; omega) (by simp; omega)
  rcases List.mem_append.1 hs with hs | hs
  · exact h.sm.sl s hs
  · rw [List.mem_singleton.1 hs]; exact h.sm.sl _ (List.getElem_mem _)
include R
theorem hurtB (j : Nat) (hj : j < p.2.1.length) : (flaw (p.1, p.2.1 ++ [p.2.1[j]], p.2.2)).1 = 3 := by
  have h2 := s2n.1 R.fine.n2
  refine flaw3 (s1n.2 (s1n.1 R.fine.n1)) (s2n.2 fun s hs => ?_) fun e => ?_
  · unfold sgs at hs
    simp only [List.mem_append, List.mem_singleton] at hs
    rcases hs with (hs | hs) | hs
    · exact h2 s (List.mem_append_left _ hs)
    · rw [hs]; exact h2 _ (List.mem_append_left _ (List.getElem_mem _))
    · exact h2 s (List.mem_append_right _ hs)
  · have := s3n.1 e
    unfold sgs at this
    have h3 := (List.pairwise_append.1 (List.pairwise_append.1 this).1).2.2 p.2.1[j] (List.getElem_mem _) p.2.1[j] (by simp)
    have hm : p.2.1[j] ∈ sgs p := List.mem_append_left _ (List.getElem_mem _)
    have hb := noBad R.fine.sm R.fine.n1 R.fine.n2 _ hm
    have hne : (en p.1 p.2.1[j]).1 ≠ (en p.1 p.2.1[j]).2 := fun e => hb (.inr e)
    have hfit : Fit (en p.1 p.2.1[j]).1 ∧ Fit (en p.1 p.2.1[j]).2 := Decidable.byContradiction fun e => hb (.inl e)
    unfold Mt at h3
    rw [segs_same hne hfit.1 hfit.2] at h3
    exact h3 (by decide)
omit R
/-- With fewer segments: what is left of L and I. -/
theorem fewer_sm {L I : List Pt} (hL : L.Sublist p.2.1) (hI : I.Sublist p.2.2) : Sm (p.1, L, I) := by
  have h1 := h.P; have h2 := h.L; have h3 := h.I
  have := hL.length_le; have := hI.length_le
  exact Lt.mk' h.sm.q (fun s hs => h.sm.sl s (hL.subset hs)) (fun s hs => h.sm.si s (hI.subset hs)) (by simp; omega) (by simp; omega) (by simp; omega)
include R
theorem fewer {L I : List Pt} (hL : L.Sublist p.2.1) (hI : I.Sublist p.2.2) : Fine (p.1, L, I) ∧ s4 (p.1, L, I) = none := by
  have hsub : (sgs (p.1, L, I)).Sublist (sgs p) := List.Sublist.append hL hI
  refine ⟨⟨fewer_sm h hL hI, s1n.2 (s1n.1 R.fine.n1), s2n.2 fun s hs => s2n.1 R.fine.n2 s (hsub.subset hs), s3n.2 ((s3n.1 R.fine.n3).sublist hsub)⟩, s4n.2 fun q hq s hs => s4n.1 R.n4 q hq s (hsub.subset hs)⟩
omit h R
theorem dgr_app (A B : List Pt) (v : Int) : dgr (A ++ B) v = dgr A v + dgr B v := by
  unfold dgr; rw [List.countP_append, List.countP_append]; omega
theorem dgr_without (L : List Pt) (j : Nat) (hj : j < L.length) (v : Int) : dgr L v = dgr (L.take j ++ L.drop (j + 1)) v + ((if L[j].1 = v then 1 else 0) + (if L[j].2 = v then 1 else 0)) := by
  conv => lhs; rw [← List.take_append_drop j L, List.drop_eq_getElem_cons hj]
  rw [dgr_app, dgr_app, dgr_cons]; omega
theorem without_sub (L : List Pt) (j : Nat) : (L.take j ++ L.drop (j + 1)).Sublist L := by
  conv => rhs; rw [← List.take_append_drop j L]
  exact List.Sublist.append (List.Sublist.refl _) (by
    rw [← List.drop_drop]; exact List.drop_sublist _ _)
include h R
theorem hurtC_sm (j : Nat) : Sm (p.1, p.2.1.take j ++ p.2.1.drop (j + 1), p.2.2) := fewer_sm h (without_sub _ _) (List.Sublist.refl _)
theorem hurtC (j : Nat) (hj : j < p.2.1.length) : (flaw (p.1, p.2.1.take j ++ p.2.1.drop (j + 1), p.2.2)).1 = 5 := by
  obtain ⟨F, h4⟩ := fewer h R (without_sub p.2.1 j) (List.Sublist.refl p.2.2)
  refine flaw5 F.n1 F.n2 F.n3 h4 fun e => ?_
  have e1 := s5n.1 e
  have hs := R.fine.okL _ (List.getElem_mem hj)
  obtain ⟨v, hv⟩ := Int.eq_ofNat_of_zero_le hs.1.1.1
  have hvl := hs.1.1.2
  have e2 := e1 v (by dsimp only; omega)
  have e3 := s5n.1 R.n5 v (by omega)
  rw [dgr_without p.2.1 j hj (v : Int), if_pos hv, if_neg (fun e => hs.2 (by omega))] at e3
  dsimp only at e2
  omega
omit R
def far : Pt := (1048576, 1048576)
theorem hurtD_sm : Sm (p.1 ++ [far], p.2.1, p.2.2) := by
  have hP := h.P; have hL := h.L; have hI := h.I
  have hle : p.1.length ≤ (p.1 ++ [far]).length := by simp
  refine Lt.mk' (fun q hq => ?_) (fun s hs => oks_mono hle (h.sm.sl s hs)) (fun s hs => oks_mono hle (h.sm.si s hs)) (by simp; omega) (by simp; omega) (by simp; omega)
  rcases List.mem_append.1 hq with hq | hq
  · exact h.sm.q q hq
  · rw [List.mem_singleton.1 hq]; exact (by decide : okq far)
omit h
theorem okl_app {P E : List Pt} {g : Int} {L : List Pt} (hL : ∀ s ∈ L, oks P.length s) : okl (P ++ E) g L = okl P g L := by
  unfold okl
  rw [Bool.eq_iff_iff, List.all_eq_true, List.all_eq_true]
  refine forall₂_congr fun s hs => ?_
  rw [decide_eq_true_eq, decide_eq_true_eq]
  have hok := hL s hs
  unfold OkS
  rw [pt_app hok.1, pt_app hok.2]
  exact and_congr_left fun _ => ⟨fun _ => hok, fun _ => ⟨inr_app hok.1, inr_app hok.2⟩⟩
theorem atv_app {P E : List Pt} {g : Int} {L : List Pt} (hL : ∀ s ∈ L, oks P.length s) (q : Pt) : atv (P ++ E) L g q = atv P L g q := by
  unfold atv
  rw [okl_app hL]
  have : L.map (sgm (P ++ E) g) = L.map (sgm P g) := List.map_congr_left fun s hs => by
    unfold sgm; rw [pt_app (hL s hs).1, pt_app (hL s hs).2]
  rw [this]
theorem midv_app {P E : List Pt} {L : List Pt} (hL : ∀ s ∈ L, oks P.length s) {s : Pt} (hs : oks P.length s) : midv (P ++ E) L [s.1, s.2] = midv P L [s.1, s.2] := by
  unfold midv
  rw [atv_app hL]
  have e1 : oki (P ++ E) [s.1, s.2] = oki P [s.1, s.2] := by
    unfold oki
    rw [List.all_cons, List.all_cons, List.all_cons, List.all_cons]
    have key : ∀ i, inr i P.length → decide (OkI (P ++ E) i) = decide (OkI P i) := by
      intro i hi
      rw [decide_eq_decide]
      unfold OkI
      rw [pt_app hi]
      exact and_congr_left fun _ => ⟨fun _ => hi, fun _ => inr_app hi⟩
    rw [key _ hs.1, key _ hs.2]; rfl
  have e2 : sumP (P ++ E) (0, 0) [s.1, s.2] = sumP P (0, 0) [s.1, s.2] := by
    unfold sumP sumP sumP
    rw [pt_app hs.1, pt_app hs.2]
  rw [e1, e2]
theorem dgr_far {n : Nat} {L : List Pt} (hL : ∀ s ∈ L, oks n s) : dgr L (n : Int) = 0 := by
  unfold dgr
  rw [List.countP_eq_zero.2, List.countP_eq_zero.2]
  · intro s hs
    have := (hL s hs).2.2
    rw [decide_eq_true_eq]; omega
  · intro s hs
    have := (hL s hs).1.2
    rw [decide_eq_true_eq]; omega
include h R
theorem hurtD (hf : ∀ q ∈ p.1, q.1 ≠ 1048576 ∧ q.2 ≠ 1048576) : (flaw (p.1 ++ [far], p.2.1, p.2.2)).1 = 8 := by
  have hlt : ∀ q ∈ p.1, q.1 < 1048576 ∧ q.2 < 1048576 := fun q hq => by
    have h1 := hf q hq
    have h2 := h.sm.q q hq
    unfold okq at h2
    omega
  have hs := h.sm.s
  have F : Fine (p.1 ++ [far], p.2.1, p.2.2) := by
    refine ⟨hurtD_sm h, s1n.2 ?_, s2n.2 (s2n.1 R.fine.n2), s3n.2 ?_⟩
    · rw [List.pairwise_append]
      refine ⟨s1n.1 R.fine.n1, by simp, fun a ha b hb e => ?_⟩
      have := hlt a ha
      rw [e, List.mem_singleton.1 hb] at this
      exact absurd this (by decide)
    · refine (s3n.1 R.fine.n3).imp_of_mem (fun {a b} ha hb hab => ?_)
      unfold Mt
      rw [en_app (hs a ha), en_app (hs b hb)]
      exact hab
  refine flaw8 F (s4n.2 fun q hq s hs' => ?_) (s5n.2 fun v hv => ?_) R.n6 (s7n.2 fun s hs' => ?_) fun e => ?_
  · have hso := hs s hs'
    show ¬ Ins (en (p.1 ++ [far]) s).1 (en (p.1 ++ [far]) s).2 q
    rw [en_app hso]
    rcases List.mem_append.1 hq with hq | hq
    · exact s4n.1 R.n4 q hq s hs'
    · intro hi
      have hb := hi.1.2.2.2.1
      have h1 := hlt _ (pt_mem hso.1)
      have h2 := hlt _ (pt_mem hso.2)
      rw [List.mem_singleton.1 hq] at hb
      unfold Btw en far at hb
      dsimp only at hb
      omega
  · dsimp only at hv ⊢
    rw [List.length_append, List.length_singleton] at hv
    by_cases hv' : v < p.1.length
    · exact s5n.1 R.n5 v hv'
    · obtain rfl : v = p.1.length := by omega
      exact .inl (dgr_far h.sm.sl)
  · dsimp only at hs' ⊢
    rw [midv_app h.sm.sl (h.sm.si s hs')]
    exact s7n.1 R.n7 s hs'
  · have h8 := s8n.1 e p.1.length (by simp) (dgr_far hs)
    dsimp only at h8
    rw [pt_nat (by simp), List.getElem_append_right (Nat.le_refl _)] at h8
    simp only [Nat.sub_self, List.getElem_cons_zero] at h8
    rw [atv_app h.sm.sl] at h8
    unfold atv at h8
    split at h8
    · dsimp only at h8
      have hmem : ∀ s ∈ p.2.1.map (sgm p.1 1), (s.1.1 < 1048576 ∧ s.1.2 < 1048576) ∧ (s.2.1 < 1048576 ∧ s.2.2 < 1048576) := by
        intro s hs'
        obtain ⟨t, ht, rfl⟩ := List.mem_map.1 hs'
        unfold sgm
        rw [sc_one, sc_one]
        exact ⟨hlt _ (pt_mem (h.sm.sl t ht).1), hlt _ (pt_mem (h.sm.sl t ht).2)⟩
      have hp : par (p.2.1.map (sgm p.1 1)) far = false := by
        clear h8 e F
        generalize p.2.1.map (sgm p.1 1) = L at hmem
        induction L with
        | nil => rfl
        | cons s L ih =>
          rw [par_cons, ih (fun t ht => hmem t (List.mem_cons_of_mem _ ht)), decide_eq_false]
          · rfl
          · have := hmem s List.mem_cons_self
            unfold Rgt far
            dsimp only
            omega
      unfold whr at h8
      rw [hp] at h8
      split at h8
      · exact absurd h8 (by decide)
      · exact absurd h8 (by decide)
    · exact absurd h8 (by decide)
end
end Go.Proofs.Ytjbimhfhapnjeaa.Pure
end
/- Two points that see one another past a segment: it lies to the right of both, or of none, but for its ends between them. -/
section
set_option linter.unusedVariables false
set_option linter.unusedSimpArgs false
set_option linter.unusedSectionVars false
namespace Go.Proofs.Ytjbimhfhapnjeaa.Pure
open Go.RowKit Go.Proofs.Ytjbimhfhapnjeaa.AM PL

/-- Of two, one on each side, or on neither. -/
def Opp (x y : Int) : Prop := (x ≤ 0 ∧ 0 ≤ y) ∨ (0 ≤ x ∧ y ≤ 0)
/-- The segments a b, q q' have nothing in common, or lie on one line. -/
def Free (q q' a b : Pt) : Prop := (crs a b q = 0 ∧ crs a b q' = 0 ∧ crs q q' a = 0 ∧ crs q q' b = 0) ∨ ¬ (Opp (crs a b q) (crs a b q') ∧ Opp (crs q q' a) (crs q q' b))
theorem opp_swap {x y : Int} : Opp y x ↔ Opp x y := by unfold Opp; omega
theorem opp_neg {x y : Int} : Opp (-x) (-y) ↔ Opp x y := by unfold Opp; omega
theorem free_swap {q q' a b : Pt} (h : Free q q' a b) : Free q q' b a := by
  unfold Free at *
  rcases h with ⟨h1, h2, h3, h4⟩ | h
  · exact .inl ⟨by rw [crs_swap', h1]; rfl, by rw [crs_swap', h2]; rfl, h4, h3⟩
  · refine .inr fun ⟨h1, h2⟩ => h ⟨?_, opp_swap.1 h2⟩
    have e1 := crs_swap' a b q
    have e2 := crs_swap' a b q'
    unfold Opp at *
    omega
theorem free_turn {q q' a b : Pt} (h : Free q q' a b) : Free q' q a b := by
  unfold Free at *
  have e1 := crs_swap' q q' a
  have e2 := crs_swap' q q' b
  rcases h with ⟨h1, h2, h3, h4⟩ | h
  · exact .inl ⟨h2, h1, by omega, by omega⟩
  · refine .inr fun ⟨h1, h2⟩ => h ⟨opp_swap.1 h1, ?_⟩
    unfold Opp at *
    omega
/-- Between two heights, to the right of the way up. -/
def Fst (q q' w : Pt) : Prop := q.2 < w.2 ∧ w.2 ≤ q'.2 ∧ crs q q' w < 0
instance (q q' w : Pt) : Decidable (Fst q q' w) := inferInstanceAs (Decidable (_ ∧ _))
theorem rgt_swap {a b q : Pt} : Rgt b a q ↔ Rgt a b q := by
  unfold Rgt; rw [crs_swap' a b q]; omega
theorem mulpp {x y : Int} (h1 : 0 < x) (h2 : 0 < y) : 0 < x * y := Int.mul_pos h1 h2
theorem mulnn {x y : Int} (h1 : x < 0) (h2 : y < 0) : 0 < x * y := Int.mul_pos_of_neg_of_neg h1 h2
theorem mulpn {x y : Int} (h1 : 0 < x) (h2 : y < 0) : x * y < 0 := Int.mul_neg_of_pos_of_neg h1 h2
theorem mulnp {x y : Int} (h1 : x < 0) (h2 : 0 < y) : x * y < 0 := Int.mul_neg_of_neg_of_pos h1 h2
theorem sign3 (x : Int) : x < 0 ∨ x = 0 ∨ 0 < x := by omega
/-- The heights of the four, and on what side they lie of the others. -/
theorem crs_h (q q' a b : Pt) : crs a b q * (q'.2 - q.2) = crs q q' b * (a.2 - q.2) - crs q q' a * (b.2 - q.2) ∧ crs a b q' * (q'.2 - q.2) = crs q q' b * (a.2 - q'.2) - crs q q' a * (b.2 - q'.2) := by
  unfold crs
  constructor <;> grind
/-- A low one and one between. -/
theorem side_lm {Q Q' A B h α β : Int} (e1 : Q * h = B * α - A * β) (e2 : Q' * h = B * (α - h) - A * (β - h)) (hh : 0 < h) (ha : α ≤ 0) (hb : 0 < β) (hb' : β ≤ h) (nt : ¬ (Opp Q Q' ∧ Opp A B)) (hz : ¬ (Q = 0 ∧ Q' = 0 ∧ A = 0 ∧ B = 0)) : 0 < Q ↔ B < 0 := by
  have sQ : ∀ x : Int, (0 < x * h ↔ 0 < x) ∧ (x * h < 0 ↔ x < 0) ∧ (x * h = 0 ↔ x = 0) := fun x => by
    rcases sign3 x with c | c | c
    · have := mulnp c hh; omega
    · subst c; simp
    · have := mulpp c hh; omega
  have q1 := sQ Q; have q2 := sQ Q'
  have sA : ∀ x : Int, (0 < x * β ↔ 0 < x) ∧ (x * β < 0 ↔ x < 0) ∧ (x * β = 0 ↔ x = 0) := fun x => by
    rcases sign3 x with c | c | c
    · have := mulnp c hb; omega
    · subst c; simp
    · have := mulpp c hb; omega
  have a1 := sA A
  have a2 : (0 ≤ A → A * (β - h) ≤ 0) ∧ (A ≤ 0 → 0 ≤ A * (β - h)) := ⟨fun c => Int.mul_nonpos_of_nonneg_of_nonpos c (by omega), fun c => Int.mul_nonneg_of_nonpos_of_nonpos c (by omega)⟩
  have b1 : (0 ≤ B → B * α ≤ 0) ∧ (B ≤ 0 → 0 ≤ B * α) := ⟨fun c => Int.mul_nonpos_of_nonneg_of_nonpos c (by omega), fun c => Int.mul_nonneg_of_nonpos_of_nonpos c (by omega)⟩
  have b2 : (0 < B → B * (α - h) < 0) ∧ (B < 0 → 0 < B * (α - h)) ∧ (B = 0 → B * (α - h) = 0) := ⟨fun c => mulpn c (by omega), fun c => mulnn c (by omega), fun c => by rw [c, Int.zero_mul]⟩
  unfold Opp at nt
  generalize Q * h = Qh at *
  generalize Q' * h = Qh' at *
  generalize A * β = Ab at *
  generalize A * (β - h) = Ah at *
  generalize B * α = Ba at *
  generalize B * (α - h) = Bh at *
  omega
/-- A low one and a high one. -/
theorem side_lh {Q Q' A B h α β : Int} (e1 : Q * h = B * α - A * β) (e2 : Q' * h = B * (α - h) - A * (β - h)) (hh : 0 < h) (ha : α ≤ 0) (hb : h < β) (nt : ¬ (Opp Q Q' ∧ Opp A B)) (hz : ¬ (Q = 0 ∧ Q' = 0 ∧ A = 0 ∧ B = 0)) : 0 < Q ↔ 0 < Q' := by
  have sQ : ∀ x : Int, (0 < x * h ↔ 0 < x) ∧ (x * h < 0 ↔ x < 0) ∧ (x * h = 0 ↔ x = 0) := fun x => by
    rcases sign3 x with c | c | c
    · have := mulnp c hh; omega
    · subst c; simp
    · have := mulpp c hh; omega
  have q1 := sQ Q; have q2 := sQ Q'
  have a1 : (0 < A → 0 < A * β) ∧ (A < 0 → A * β < 0) ∧ (A = 0 → A * β = 0) := ⟨fun c => mulpp c (by omega), fun c => mulnp c (by omega), fun c => by rw [c, Int.zero_mul]⟩
  have a2 : (0 < A → 0 < A * (β - h)) ∧ (A < 0 → A * (β - h) < 0) ∧ (A = 0 → A * (β - h) = 0) := ⟨fun c => mulpp c (by omega), fun c => mulnp c (by omega), fun c => by rw [c, Int.zero_mul]⟩
  have b1 : (0 ≤ B → B * α ≤ 0) ∧ (B ≤ 0 → 0 ≤ B * α) := ⟨fun c => Int.mul_nonpos_of_nonneg_of_nonpos c (by omega), fun c => Int.mul_nonneg_of_nonpos_of_nonpos c (by omega)⟩
  have b2 : (0 < B → B * (α - h) < 0) ∧ (B < 0 → 0 < B * (α - h)) ∧ (B = 0 → B * (α - h) = 0) := ⟨fun c => mulpn c (by omega), fun c => mulnn c (by omega), fun c => by rw [c, Int.zero_mul]⟩
  unfold Opp at nt
  generalize Q * h = Qh at *
  generalize Q' * h = Qh' at *
  generalize A * β = Ab at *
  generalize A * (β - h) = Ah at *
  generalize B * α = Ba at *
  generalize B * (α - h) = Bh at *
  omega
/-- One between and a high one. -/
theorem side_mh {Q Q' A B h α β : Int} (e1 : Q * h = B * α - A * β) (e2 : Q' * h = B * (α - h) - A * (β - h)) (hh : 0 < h) (ha : 0 < α) (ha' : α ≤ h) (hb : h < β) (nt : ¬ (Opp Q Q' ∧ Opp A B)) (hz : ¬ (Q = 0 ∧ Q' = 0 ∧ A = 0 ∧ B = 0)) : 0 < Q' ↔ A < 0 := by
  have sQ : ∀ x : Int, (0 < x * h ↔ 0 < x) ∧ (x * h < 0 ↔ x < 0) ∧ (x * h = 0 ↔ x = 0) := fun x => by
    rcases sign3 x with c | c | c
    · have := mulnp c hh; omega
    · subst c; simp
    · have := mulpp c hh; omega
  have q1 := sQ Q; have q2 := sQ Q'
  have a1 : (0 < A → 0 < A * β) ∧ (A < 0 → A * β < 0) ∧ (A = 0 → A * β = 0) := ⟨fun c => mulpp c (by omega), fun c => mulnp c (by omega), fun c => by rw [c, Int.zero_mul]⟩
  have a2 : (0 < A → 0 < A * (β - h)) ∧ (A < 0 → A * (β - h) < 0) ∧ (A = 0 → A * (β - h) = 0) := ⟨fun c => mulpp c (by omega), fun c => mulnp c (by omega), fun c => by rw [c, Int.zero_mul]⟩
  have b1 : (0 < B → 0 < B * α) ∧ (B < 0 → B * α < 0) ∧ (B = 0 → B * α = 0) := ⟨fun c => mulpp c (by omega), fun c => mulnp c (by omega), fun c => by rw [c, Int.zero_mul]⟩
  have b2 : (0 ≤ B → B * (α - h) ≤ 0) ∧ (B ≤ 0 → 0 ≤ B * (α - h)) := ⟨fun c => Int.mul_nonpos_of_nonneg_of_nonpos c (by omega), fun c => Int.mul_nonneg_of_nonpos_of_nonpos c (by omega)⟩
  unfold Opp at nt
  generalize Q * h = Qh at *
  generalize Q' * h = Qh' at *
  generalize A * β = Ab at *
  generalize A * (β - h) = Ah at *
  generalize B * α = Ba at *
  generalize B * (α - h) = Bh at *
  omega
/-- Both between. -/
theorem side_mm {Q Q' A B h α β : Int} (e1 : Q * h = B * α - A * β) (e2 : Q' * h = B * (α - h) - A * (β - h)) (hh : 0 < h) (ha : 0 < α) (ha' : α ≤ h) (hb : 0 < β) (hb' : β ≤ h) (nt : ¬ (Opp Q Q' ∧ Opp A B)) (hz : ¬ (Q = 0 ∧ Q' = 0 ∧ A = 0 ∧ B = 0)) : A < 0 ↔ B < 0 := by
  have sQ : ∀ x : Int, (0 < x * h ↔ 0 < x) ∧ (x * h < 0 ↔ x < 0) ∧ (x * h = 0 ↔ x = 0) := fun x => by
    rcases sign3 x with c | c | c
    · have := mulnp c hh; omega
    · subst c; simp
    · have := mulpp c hh; omega
  have q1 := sQ Q; have q2 := sQ Q'
  have a1 : (0 < A → 0 < A * β) ∧ (A < 0 → A * β < 0) ∧ (A = 0 → A * β = 0) := ⟨fun c => mulpp c (by omega), fun c => mulnp c (by omega), fun c => by rw [c, Int.zero_mul]⟩
  have a2 : (0 ≤ A → A * (β - h) ≤ 0) ∧ (A ≤ 0 → 0 ≤ A * (β - h)) := ⟨fun c => Int.mul_nonpos_of_nonneg_of_nonpos c (by omega), fun c => Int.mul_nonneg_of_nonpos_of_nonpos c (by omega)⟩
  have b1 : (0 < B → 0 < B * α) ∧ (B < 0 → B * α < 0) ∧ (B = 0 → B * α = 0) := ⟨fun c => mulpp c (by omega), fun c => mulnp c (by omega), fun c => by rw [c, Int.zero_mul]⟩
  have b2 : (0 ≤ B → B * (α - h) ≤ 0) ∧ (B ≤ 0 → 0 ≤ B * (α - h)) := ⟨fun c => Int.mul_nonpos_of_nonneg_of_nonpos c (by omega), fun c => Int.mul_nonneg_of_nonpos_of_nonpos c (by omega)⟩
  unfold Opp at nt
  generalize Q * h = Qh at *
  generalize Q' * h = Qh' at *
  generalize A * β = Ab at *
  generalize A * (β - h) = Ah at *
  generalize B * α = Ba at *
  generalize B * (α - h) = Bh at *
  omega
/-- The lower one of a and b first. -/
theorem up_low {q q' a b : Pt} (hh : q.2 < q'.2) (hab : a.2 ≤ b.2) (fr : Free q q' a b) :
    xor (decide (Rgt a b q)) (decide (Rgt a b q')) = xor (decide (Fst q q' a)) (decide (Fst q q' b)) := by
  obtain ⟨e1, e2⟩ := crs_h q q' a b
  rw [show a.2 - q'.2 = (a.2 - q.2) - (q'.2 - q.2) by omega, show b.2 - q'.2 = (b.2 - q.2) - (q'.2 - q.2) by omega] at e2
  have dd : ∀ (x y z w : Prop) [Decidable x] [Decidable y] [Decidable z] [Decidable w], ((x ↔ y) ↔ (z ↔ w)) → xor (decide x) (decide y) = xor (decide z) (decide w) := by
    intro x y z w _ _ _ _ h
    by_cases x <;> by_cases y <;> by_cases z <;> by_cases w <;> simp_all
  apply dd
  by_cases hz : crs a b q = 0 ∧ crs a b q' = 0 ∧ crs q q' a = 0 ∧ crs q q' b = 0
  · obtain ⟨z1, z2, z3, z4⟩ := hz
    unfold Rgt Fst
    rw [z1, z2, z3, z4]
    omega
  · have nt := fr.resolve_left hz
    unfold Rgt Fst
    generalize crs a b q = Q at *
    generalize crs a b q' = Q' at *
    generalize crs q q' a = A at *
    generalize crs q q' b = B at *
    by_cases c1 : a.2 ≤ q.2
    · by_cases c2 : b.2 ≤ q.2
      · omega
      · by_cases c3 : b.2 ≤ q'.2
        · have := side_lm e1 e2 (by omega) (by omega) (by omega) (by omega) nt hz
          omega
        · have := side_lh e1 e2 (by omega) (by omega) (by omega) nt hz
          omega
    · by_cases c2 : a.2 ≤ q'.2
      · by_cases c3 : b.2 ≤ q'.2
        · have := side_mm e1 e2 (by omega) (by omega) (by omega) (by omega) (by omega) nt hz
          omega
        · have := side_mh e1 e2 (by omega) (by omega) (by omega) (by omega) nt hz
          omega
      · omega
theorem up_way {q q' a b : Pt} (hh : q.2 < q'.2) (fr : Free q q' a b) :
    xor (decide (Rgt a b q)) (decide (Rgt a b q')) = xor (decide (Fst q q' a)) (decide (Fst q q' b)) := by
  by_cases c : a.2 ≤ b.2
  · exact up_low hh c fr
  · have := up_low hh (a := b) (b := a) (by omega) (free_swap fr)
    rw [decide_eq_decide.2 (rgt_swap (a := a) (b := b) (q := q)), decide_eq_decide.2 (rgt_swap (a := a) (b := b) (q := q'))] at this
    rw [this, Bool.xor_comm]
theorem level {q q' a b : Pt} (hh : q.2 = q'.2) (fr : Free q q' a b) : decide (Rgt a b q) = decide (Rgt a b q') := by
  rw [decide_eq_decide]
  have e3 : crs q q' a = (q'.1 - q.1) * (a.2 - q.2) := by unfold crs; rw [← hh]; simp
  have e4 : crs q q' b = (q'.1 - q.1) * (b.2 - q.2) := by unfold crs; rw [← hh]; simp
  by_cases hz : crs a b q = 0 ∧ crs a b q' = 0 ∧ crs q q' a = 0 ∧ crs q q' b = 0
  · obtain ⟨z1, z2, z3, z4⟩ := hz
    unfold Rgt
    rw [z1, z2]
    omega
  · have nt := fr.resolve_left hz
    rw [e3, e4] at nt
    have o : ∀ {d α β : Int}, (α ≤ 0 ∧ 0 ≤ β) → Opp (d * α) (d * β) := by
      intro d α β ⟨h1, h2⟩
      unfold Opp
      by_cases c : 0 ≤ d
      · exact .inl ⟨Int.mul_nonpos_of_nonneg_of_nonpos c h1, Int.mul_nonneg c h2⟩
      · exact .inr ⟨Int.mul_nonneg_of_nonpos_of_nonpos (by omega) h1, Int.mul_nonpos_of_nonpos_of_nonneg (by omega) h2⟩
    unfold Rgt
    rw [← hh]
    by_cases c1 : a.2 ≤ q.2 ∧ q.2 < b.2
    · have : ¬ Opp (crs a b q) (crs a b q') := fun h => nt ⟨h, o (d := q'.1 - q.1) (α := a.2 - q.2) (β := b.2 - q.2) ⟨by omega, by omega⟩⟩
      unfold Opp at this
      omega
    · by_cases c2 : b.2 ≤ q.2 ∧ q.2 < a.2
      · have : ¬ Opp (crs a b q) (crs a b q') := fun h => nt ⟨h, opp_swap.1 (o (d := q'.1 - q.1) (α := b.2 - q.2) (β := a.2 - q.2) ⟨by omega, by omega⟩)⟩
        unfold Opp at this
        omega
      · omega
/-- A mark of places, so that a segment that two points see past tells them apart just if its ends are marked otherwise. -/
theorem seen (q q' : Pt) : ∃ F : Pt → Bool, ∀ a b, Free q q' a b → xor (decide (Rgt a b q)) (decide (Rgt a b q')) = xor (F a) (F b) := by
  rcases Int.lt_trichotomy q.2 q'.2 with h | h | h
  · exact ⟨fun w => decide (Fst q q' w), fun a b fr => up_way h fr⟩
  · exact ⟨fun _ => false, fun a b fr => by rw [level h fr]; simp⟩
  · refine ⟨fun w => decide (Fst q' q w), fun a b fr => ?_⟩
    rw [Bool.xor_comm]
    exact up_way h (free_turn fr)
end Go.Proofs.Ytjbimhfhapnjeaa.Pure
end
/- From a place of I to the middle of its segment no loop is crossed: with a segment of I fewer an input is right. -/
section
set_option linter.unusedVariables false
set_option linter.unusedSimpArgs false
set_option linter.unusedSectionVars false
namespace Go.Proofs.Ytjbimhfhapnjeaa.Pure
open Go.RowKit Go.Proofs.Ytjbimhfhapnjeaa.AM PL

def xs {α : Type} (L : List α) (h : α → Bool) : Bool := L.foldr (fun s b => xor (h s) b) false
theorem xs_cons {α : Type} (s : α) (L : List α) (h : α → Bool) : xs (s :: L) h = xor (h s) (xs L h) := rfl
theorem xs_congr {α : Type} {h h' : α → Bool} : ∀ L : List α, (∀ s ∈ L, h s = h' s) → xs L h = xs L h'
  | [], _ => rfl
  | s :: L, hl => by rw [xs_cons, xs_cons, hl s (by simp), xs_congr L fun t ht => hl t (by simp [ht])]
theorem xs_xor {α : Type} (h h' : α → Bool) : ∀ L : List α, xs L (fun s => xor (h s) (h' s)) = xor (xs L h) (xs L h')
  | [] => rfl
  | s :: L => by
    rw [xs_cons, xs_cons, xs_cons, xs_xor h h' L]
    cases h s <;> cases h' s <;> cases xs L h <;> cases xs L h' <;> rfl
theorem par_sgm (P : List Pt) (g : Int) (q : Pt) : ∀ L : List Pt, par (L.map (sgm P g)) q = xs L fun s => decide (Rgt (sc g (pt P s.1)) (sc g (pt P s.2)) q)
  | [] => rfl
  | s :: L => by rw [List.map_cons, par_cons, xs_cons, par_sgm P g q L]; rfl

/-! ### of loops each place has two ends -/
def cntF (F : Int → Bool) : List Pt → Nat
  | [] => 0
  | s :: L => cntF F L + ((if F s.1 = true then 1 else 0) + (if F s.2 = true then 1 else 0))
theorem xs_cntF (F : Int → Bool) : ∀ L : List Pt, xs L (fun s => xor (F s.1) (F s.2)) = decide (cntF F L % 2 = 1)
  | [] => rfl
  | s :: L => by
    rw [xs_cons, xs_cntF F L, cntF]
    rcases Nat.mod_two_eq_zero_or_one (cntF F L) with e | e <;> cases h1 : F s.1 <;> cases h2 : F s.2 <;> simp [e] <;> omega
theorem smN_pick (F : Int → Bool) (a : Int) : ∀ n, smN (fun (v : Nat) => if F (v : Int) = true then (if a = (v : Int) then 1 else 0) else 0) n = if (0 ≤ a ∧ a < (n : Int)) ∧ F a = true then 1 else 0
  | 0 => by rw [smN, if_neg (by omega)]
  | n + 1 => by
    rw [smN, smN_pick F a n]
    by_cases h1 : a = (n : Int)
    · subst h1
      rw [if_neg (fun h => by have := h.1.2; omega), if_pos rfl]
      by_cases hF : F (n : Int) = true
      · rw [if_pos hF, if_pos ⟨by omega, hF⟩]
      · rw [if_neg hF, if_neg (fun h => hF h.2)]
    · rw [if_neg h1, ite_self]
      by_cases h2 : (0 ≤ a ∧ a < (n : Int)) ∧ F a = true
      · rw [if_pos h2, if_pos ⟨by have := h2.1; omega, h2.2⟩]
      · rw [if_neg h2, if_neg (fun h => h2 ⟨by have := h.1; omega, h.2⟩)]
theorem cntF_sum (F : Int → Bool) {n : Nat} : ∀ {L : List Pt}, (∀ s ∈ L, oks n s) → smN (fun (v : Nat) => if F (v : Int) = true then dgr L (v : Int) else 0) n = cntF F L
  | [], _ => by
    rw [smN_congr (g := fun _ => 0) n (fun v _ => by split <;> rfl), smN_zero]; rfl
  | s :: L, h => by
    have ih := cntF_sum F (n := n) (L := L) (fun t ht => h t (List.mem_cons_of_mem _ ht))
    have hs := h s List.mem_cons_self
    rw [smN_congr (g := fun (v : Nat) => (if F (v : Int) = true then dgr L (v : Int) else 0) + ((if F (v : Int) = true then (if s.1 = (v : Int) then 1 else 0) else 0) + (if F (v : Int) = true then (if s.2 = (v : Int) then 1 else 0) else 0))) n (fun v _ => by
      rw [dgr_cons]; by_cases hF : F (v : Int) = true <;> simp [hF]), smN_add, smN_add, ih, smN_pick, smN_pick, cntF]
    have h1 : (if (0 ≤ s.1 ∧ s.1 < (n : Int)) ∧ F s.1 = true then 1 else 0) = if F s.1 = true then 1 else 0 := by
      by_cases hF : F s.1 = true
      · rw [if_pos hF, if_pos ⟨hs.1, hF⟩]
      · rw [if_neg hF, if_neg (fun h => hF h.2)]
    have h2 : (if (0 ≤ s.2 ∧ s.2 < (n : Int)) ∧ F s.2 = true then 1 else 0) = if F s.2 = true then 1 else 0 := by
      by_cases hF : F s.2 = true
      · rw [if_pos hF, if_pos ⟨hs.2, hF⟩]
      · rw [if_neg hF, if_neg (fun h => hF h.2)]
    rw [h1, h2]
theorem smN_even {f : Nat → Nat} : ∀ n, (∀ v, v < n → f v % 2 = 0) → smN f n % 2 = 0
  | 0, _ => rfl
  | n + 1, h => by
    have := smN_even n (fun v hv => h v (by omega))
    have := h n (by omega)
    rw [smN]; omega
theorem lp_even {n : Nat} {L : List Pt} (lp : Lp n L) (F : Int → Bool) : xs L (fun s => xor (F s.1) (F s.2)) = false := by
  rw [xs_cntF, ← cntF_sum F (fun s hs => (lp.ok s hs).1)]
  refine decide_eq_false ?_
  rw [smN_even]
  · decide
  · intro v hv
    rcases lp.deg v hv with e | e <;> rw [e] <;> split <;> rfl
/-- Two points that see one another past all loops lie alike. -/
theorem sight {P L : List Pt} (lp : Lp P.length L) {g : Int} {q q' : Pt} (fr : ∀ s ∈ L, Free q q' (sc g (pt P s.1)) (sc g (pt P s.2))) : par (L.map (sgm P g)) q = par (L.map (sgm P g)) q' := by
  rw [par_sgm, par_sgm]
  obtain ⟨F, hF⟩ := seen q q'
  have h0 := xs_congr (h := fun s : Pt => xor (decide (Rgt (sc g (pt P s.1)) (sc g (pt P s.2)) q)) (decide (Rgt (sc g (pt P s.1)) (sc g (pt P s.2)) q'))) (h' := fun s : Pt => xor ((fun i => F (sc g (pt P i))) s.1) ((fun i => F (sc g (pt P i))) s.2)) L (fun s hs => hF _ _ (fr s hs))
  have h1 := h0.trans (lp_even lp fun i => F (sc g (pt P i)))
  rw [xs_xor] at h1
  revert h1
  generalize xs L _ = x
  generalize xs L _ = y
  cases x <;> cases y <;> decide
theorem rgt_sc2 {a b q : Pt} : Rgt (sc 2 a) (sc 2 b) (sc 2 q) ↔ Rgt a b q := by
  have e : crs (sc 2 a) (sc 2 b) (sc 2 q) = 4 * crs a b q := by unfold crs sc; dsimp only; grind
  unfold Rgt
  rw [e]
  unfold sc
  dsimp only
  omega
theorem par_sc2 (P L : List Pt) (q : Pt) : par (L.map (sgm P 2)) (sc 2 q) = par (L.map (sgm P 1)) q := by
  rw [par_sgm, par_sgm]
  refine xs_congr L fun s hs => ?_
  rw [sc_one, sc_one, decide_eq_decide]
  exact rgt_sc2
def add (a b : Pt) : Pt := (a.1 + b.1, a.2 + b.2)
theorem on_ins {a b p : Pt} (h : On a b p) (h1 : p ≠ a) (h2 : p ≠ b) : Ins a b p := ⟨h, h1, h2⟩
/-- A segment that has no more in common with v u than the end u: from v to the middle the way is free. -/
theorem free_half {a b v u : Pt} (hab : a ≠ b) (hvu : v ≠ u) (fa : Fit a) (fb : Fit b) (fv : Fit v) (fu : Fit u) (nc : ¬ Cro a b v u) (i1 : ¬ Ins a b v) (i3 : ¬ Ins v u a) (i4 : ¬ Ins v u b) (na : v ≠ a) (nb' : v ≠ b) : Free (sc 2 v) (add v u) (sc 2 a) (sc 2 b) := by
  have e1 : crs (sc 2 a) (sc 2 b) (sc 2 v) = 4 * crs a b v := by unfold crs sc; dsimp only; grind
  have e2 : crs (sc 2 a) (sc 2 b) (add v u) = 2 * (crs a b v + crs a b u) := by unfold crs sc add; dsimp only; grind
  have e3 : crs (sc 2 v) (add v u) (sc 2 a) = 2 * crs v u a := by unfold crs sc add; dsimp only; grind
  have e4 : crs (sc 2 v) (add v u) (sc 2 b) = 2 * crs v u b := by unfold crs sc add; dsimp only; grind
  unfold Free
  rw [e1, e2, e3, e4]
  by_cases hz : crs a b v = 0 ∧ crs a b u = 0
  · -- all on one line
    have l1 := line_of hab hz.1 hz.2
    exact .inl ⟨by omega, by omega, by rw [l1.2.1]; rfl, by rw [l1.2.2.1]; rfl⟩
  · refine .inr fun ⟨h1, h2⟩ => ?_
    have nz : ¬ (crs v u a = 0 ∧ crs v u b = 0) := by
      intro h
      have l2 := line_of hvu h.1 h.2
      exact hz ⟨l2.2.1, l2.2.2.1⟩
    have ss : ∀ {x y : Int}, sg x = sg y → (0 < x ↔ 0 < y) ∧ (x < 0 ↔ y < 0) := by
      intro x y h; unfold sg at h; (repeat' split at h) <;> omega
    have c0 : crs a b v ≠ 0 := by
      intro h0
      by_cases hB : Btw a.1 b.1 v.1 ∧ Btw a.2 b.2 v.2
      · exact i1 ⟨⟨hab, ⟨fa, fb, fv⟩, h0, hB⟩, na, nb'⟩
      · have := ss (off_side (d := u) hab h0 hB)
        unfold Opp at h2
        omega
    have d0 : (0 < crs a b v ∧ crs a b u < 0) ∨ (crs a b v < 0 ∧ 0 < crs a b u) := by
      unfold Opp at h1
      omega
    have key : ∀ w, (w = a ∨ w = b) → crs v u w ≠ 0 := by
      intro w hw h0
      have fw : Fit w := by rcases hw with rfl | rfl <;> assumption
      have nw : ¬ Ins v u w := by rcases hw with rfl | rfl <;> assumption
      have vw : w ≠ v := by rcases hw with rfl | rfl; exact fun e => na e.symm; exact fun e => nb' e.symm
      by_cases hB : Btw v.1 u.1 w.1 ∧ Btw v.2 u.2 w.2
      · by_cases hwu : w = u
        · have : crs a b u = 0 := by
            rw [← hwu]
            rcases hw with rfl | rfl
            · unfold crs; simp
            · unfold crs; grind
          omega
        · exact nw ⟨⟨hvu, ⟨fv, fu, fw⟩, h0, hB⟩, vw, hwu⟩
      · rcases hw with rfl | rfl
        · have := ss (off_side (d := b) hvu h0 hB)
          omega
        · have := ss (off_side (d := a) hvu h0 hB)
          have r1 : crs w a v = - crs a w v := crs_swap' a w v
          have r2 : crs w a u = - crs a w u := crs_swap' a w u
          omega
    have ka := key a (.inl rfl)
    have kb := key b (.inr rfl)
    refine nc ?_
    unfold Cro ori
    rw [if_pos ⟨fa, fb, fv⟩, if_pos ⟨fa, fb, fu⟩, if_pos ⟨fv, fu, fa⟩, if_pos ⟨fv, fu, fb⟩, against, against]
    refine ⟨d0, ?_⟩
    unfold Opp at h2
    omega
end Go.Proofs.Ytjbimhfhapnjeaa.Pure
end
/- One with a segment of I fewer is right. -/
section
set_option linter.unusedVariables false
set_option linter.unusedSimpArgs false
set_option linter.unusedSectionVars false
namespace Go.Proofs.Ytjbimhfhapnjeaa.Pure
open Go.RowKit Go.Proofs.Ytjbimhfhapnjeaa.AM PL

theorem pt_inj {P : List Pt} (h : P.Pairwise (· ≠ ·)) {i j : Int} (hi : inr i P.length) (hj : inr j P.length) (e : pt P i = pt P j) : i = j := by
  obtain ⟨a, rfl⟩ := Int.eq_ofNat_of_zero_le hi.1
  obtain ⟨b, rfl⟩ := Int.eq_ofNat_of_zero_le hj.1
  have ha := hi.2
  have hb := hj.2
  rw [pt_nat (by omega), pt_nat (by omega)] at e
  rcases Nat.lt_trichotomy a b with c | c | c
  · exact absurd e (List.pairwise_iff_getElem.1 h a b (by omega) (by omega) c)
  · rw [c]
  · exact absurd e.symm (List.pairwise_iff_getElem.1 h b a (by omega) (by omega) c)
section
variable {p : Poly} (R : Right p)
include R
theorem Right.fitP {i : Int} (hi : inr i p.1.length) : Fit (pt p.1 i) := R.fine.sm.fit hi
/-- A place of no loop lies on none. -/
theorem off_rim {v : Int} (hv : inr v p.1.length) (hd : dgr p.2.1 v = 0) : rim (p.2.1.map (sgm p.1 1)) (pt p.1 v) = false := by
  unfold rim
  rw [List.any_eq_false]
  intro s hs
  obtain ⟨t, ht, rfl⟩ := List.mem_map.1 hs
  rw [decide_eq_true_eq]
  intro ho
  unfold sgm at ho
  rw [sc_one, sc_one] at ho
  have hok := R.fine.sm.sl t ht
  refine s4n.1 R.n4 _ (pt_mem hv) t (List.mem_append_left _ ht) ⟨ho, fun e => ?_, fun e => ?_⟩
  · exact dgr_pos ht (.inl (pt_inj (s1n.1 R.fine.n1) hok.1 hv e.symm)) hd
  · exact dgr_pos ht (.inr (pt_inj (s1n.1 R.fine.n1) hok.2 hv e.symm)) hd
/-- An end of a segment of I that is no end of L lies within. -/
theorem end_in {s : Pt} (hs : s ∈ p.2.2) {v u : Int} (hvu : (v = s.1 ∧ u = s.2) ∨ (v = s.2 ∧ u = s.1)) (hd : dgr p.2.1 v = 0) : (atv p.1 p.2.1 1 (pt p.1 v)).1 = 1 := by
  have hso := R.fine.sm.si s hs
  have hv : inr v p.1.length := by rcases hvu with ⟨e, _⟩ | ⟨e, _⟩ <;> rw [e]; exact hso.1; exact hso.2
  have hu : inr u p.1.length := by rcases hvu with ⟨_, e⟩ | ⟨_, e⟩ <;> rw [e]; exact hso.2; exact hso.1
  have hne := (R.fine.ok s (List.mem_append_right _ hs)).2
  have hne' : v ≠ u := by rcases hvu with ⟨e1, e2⟩ | ⟨e1, e2⟩ <;> rw [e1, e2]; exact hne; exact fun e => hne e.symm
  have hpne : pt p.1 v ≠ pt p.1 u := fun e => hne' (pt_inj (s1n.1 R.fine.n1) hv hu e)
  have hm := s7n.1 R.n7 s hs
  have e1 : sumP p.1 (0, 0) [s.1, s.2] = add (pt p.1 v) (pt p.1 u) := by
    unfold sumP sumP sumP add
    rcases hvu with ⟨e1, e2⟩ | ⟨e1, e2⟩ <;> rw [e1, e2] <;> refine Prod.ext ?_ ?_ <;> dsimp only <;> omega
  have hpar : par (p.2.1.map (sgm p.1 2)) (add (pt p.1 v) (pt p.1 u)) = true := by
    unfold midv at hm
    split at hm
    · rw [e1] at hm
      unfold atv at hm
      split at hm
      · dsimp only at hm
        unfold whr at hm
        split at hm
        · exact absurd hm (by decide)
        · split at hm
          · assumption
          · exact absurd hm (by decide)
      · exact absurd hm (by decide)
    · exact absurd hm (by decide)
  have hsee : par (p.2.1.map (sgm p.1 2)) (sc 2 (pt p.1 v)) = par (p.2.1.map (sgm p.1 2)) (add (pt p.1 v) (pt p.1 u)) := by
    refine sight R.lp fun t ht => ?_
    have hto := R.fine.sm.sl t ht
    have htm : t ∈ sgs p := List.mem_append_left _ ht
    have hsm : s ∈ sgs p := List.mem_append_right _ hs
    have hmt : Mt p.1 t s := by
      have := s3n.1 R.fine.n3
      unfold sgs at this
      exact (List.pairwise_append.1 this).2.2 t ht s hs
    have hbt := noBad R.fine.sm R.fine.n1 R.fine.n2 t htm
    have hbs := noBad R.fine.sm R.fine.n1 R.fine.n2 s hsm
    have hab : pt p.1 t.1 ≠ pt p.1 t.2 := fun e => hbt (.inr e)
    have hcd : pt p.1 s.1 ≠ pt p.1 s.2 := fun e => hbs (.inr e)
    have f1 := R.fitP hto.1
    have f2 := R.fitP hto.2
    have f3 := R.fitP hso.1
    have f4 := R.fitP hso.2
    have nc : ¬ Cro (pt p.1 t.1) (pt p.1 t.2) (pt p.1 s.1) (pt p.1 s.2) := by
      intro hc
      unfold Mt segs en at hmt
      dsimp only at hmt
      rw [if_neg (fun h : Bad _ _ _ _ => h.elim hab (fun h => h.elim hcd (fun h => h ⟨f1, f2, f3, f4⟩)))] at hmt
      dsimp only at hmt
      rw [how_three.2 hc] at hmt
      exact hmt (by decide)
    have nc' : ¬ Cro (pt p.1 t.1) (pt p.1 t.2) (pt p.1 v) (pt p.1 u) := by
      rcases hvu with ⟨e1, e2⟩ | ⟨e1, e2⟩ <;> rw [e1, e2]
      · exact nc
      · intro hc
        unfold Cro ori at hc nc
        rw [if_pos ⟨f1, f2, f3⟩, if_pos ⟨f1, f2, f4⟩, if_pos ⟨f3, f4, f1⟩, if_pos ⟨f3, f4, f2⟩, against, against] at nc
        rw [if_pos ⟨f1, f2, f4⟩, if_pos ⟨f1, f2, f3⟩, if_pos ⟨f4, f3, f1⟩, if_pos ⟨f4, f3, f2⟩, against, against] at hc
        have r1 := crs_swap' (pt p.1 s.1) (pt p.1 s.2) (pt p.1 t.1)
        have r2 := crs_swap' (pt p.1 s.1) (pt p.1 s.2) (pt p.1 t.2)
        omega
    have ni : ∀ w, inr w p.1.length → ¬ Ins (pt p.1 v) (pt p.1 u) (pt p.1 w) := by
      intro w hw hi
      have := s4n.1 R.n4 _ (pt_mem hw) s hsm
      unfold en at this
      rcases hvu with ⟨e1, e2⟩ | ⟨e1, e2⟩ <;> rw [e1, e2] at hi
      · exact this hi
      · exact this (ins_swap.1 hi)
    exact free_half hab hpne f1 f2 (R.fitP hv) (R.fitP hu) nc' (s4n.1 R.n4 _ (pt_mem hv) t htm) (ni _ hto.1) (ni _ hto.2)
      (fun e => dgr_pos ht (.inl (pt_inj (s1n.1 R.fine.n1) hto.1 hv e.symm)) hd) (fun e => dgr_pos ht (.inr (pt_inj (s1n.1 R.fine.n1) hto.2 hv e.symm)) hd)
  rw [hpar, par_sc2] at hsee
  unfold atv
  rw [if_pos ⟨R.fine.okl, R.fitP hv⟩]
  dsimp only
  unfold whr
  rw [off_rim R hv hd, hsee]
  rfl
theorem hurtI (h : Lt p) : flaw (p.1, p.2.1, p.2.2.drop 1) = fz := by
  obtain ⟨F, h4⟩ := fewer h R (List.Sublist.refl p.2.1) (List.drop_sublist 1 p.2.2)
  refine Right.good (p := (p.1, p.2.1, p.2.2.drop 1)) ⟨F, h4, s5n.2 (s5n.1 R.n5), R.n6, s7n.2 fun s hs => s7n.1 R.n7 s (List.mem_of_mem_drop hs), s8n.2 fun v hv hd => ?_⟩
  dsimp only at hv ⊢
  have hv' : inr (v : Int) p.1.length := ⟨by omega, by omega⟩
  by_cases hd' : dgr (sgs p) (v : Int) = 0
  · exact s8n.1 R.n8 v hv hd'
  · unfold sgs at hd hd'
    dsimp only at hd
    rw [dgr_app] at hd hd'
    cases hI : p.2.2 with
    | nil => rw [hI] at hd hd'; simp only [List.drop_nil] at hd; omega
    | cons s I =>
      rw [hI, dgr_cons] at hd'
      rw [hI, List.drop_succ_cons, List.drop_zero] at hd
      have hL : dgr p.2.1 (v : Int) = 0 := by omega
      have hs : s ∈ p.2.2 := by rw [hI]; simp
      by_cases e1 : s.1 = (v : Int)
      · exact end_in R hs (.inl ⟨e1.symm, rfl⟩) hL
      · by_cases e2 : s.2 = (v : Int)
        · exact end_in R hs (.inr ⟨e2.symm, rfl⟩) hL
        · rw [if_neg e1, if_neg e2] at hd'; omega
end
end Go.Proofs.Ytjbimhfhapnjeaa.Pure
end
