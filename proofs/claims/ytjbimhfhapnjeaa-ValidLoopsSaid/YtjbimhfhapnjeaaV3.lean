/- The first flaw of places and segments. -/
import Derived.Test.YtjbimhfhapnjeaaV2
set_option linter.unusedVariables false
set_option linter.unusedSimpArgs false
namespace Go.Proofs.Ytjbimhfhapnjeaa.Pure
open Go.RowKit Go.Proofs.Ytjbimhfhapnjeaa.AM PL

abbrev Flw : Type := Int × Int × Int
def sgs (p : Poly) : List Pt := p.2.1 ++ p.2.2
def en (P : List Pt) (s : Pt) : Sg := (pt P s.1, pt P s.2)
def ens (p : Poly) : List Sg := (sgs p).map (en p.1)
/-- First of all numbers of one row, and all of another one. -/
def rct (f : Nat → Nat → Bool) (n m a : Nat) : Option (Nat × Nat) := (List.range' a (n - a)).findSome? fun a => (row f m a 0).map fun b => (a, b)
theorem rct_end (f : Nat → Nat → Bool) (n m : Nat) : rct f n m n = none := by unfold rct; rw [Nat.sub_self]; rfl
theorem rct_step (f : Nat → Nat → Bool) {n m a : Nat} (h : a < n) : rct f n m a = match row f m a 0 with | some b => some (a, b) | none => rct f n m (a + 1) := by
  conv => lhs; unfold rct
  rw [show n - a = (n - (a + 1)) + 1 by omega, List.range'_succ, List.findSome?_cons]
  cases row f m a 0 <;> rfl
theorem rct_spec (f : Nat → Nat → Bool) {n m : Nat} : ∀ (d a : Nat), n - a = d → a ≤ n → (rct f n m a = none → ∀ i k, a ≤ i → i < n → k < m → f i k = false) ∧
    (∀ i k, rct f n m a = some (i, k) → a ≤ i ∧ i < n ∧ k < m ∧ f i k = true)
  | 0, a, hd, ha => by
    obtain rfl : a = n := by omega
    rw [rct_end]
    exact ⟨fun _ i k h1 h2 h3 => (by omega), fun i k h => (by cases h)⟩
  | d + 1, a, hd, ha => by
    obtain ⟨h1, h2⟩ := rct_spec f (n := n) (m := m) d (a + 1) (by omega) (by omega)
    obtain ⟨r1, r2⟩ := row_spec f (n := m) (a := a) _ 0 rfl (Nat.zero_le _)
    rw [rct_step f (show a < n by omega)]
    cases hr : row f m a 0 with
    | some b =>
      obtain ⟨_, g2, g3, _⟩ := r2 b hr
      refine ⟨fun h => (by cases h), fun i k h => ?_⟩
      simp only [Option.some.injEq, Prod.mk.injEq] at h
      obtain ⟨rfl, rfl⟩ := h
      exact ⟨Nat.le_refl _, by omega, g2, g3⟩
    | none =>
      refine ⟨fun h i k hi hn hk => ?_, fun i k h => ?_⟩
      · by_cases e : i = a
        · rw [e]; exact r1 hr k (Nat.zero_le _) hk
        · exact h1 h i k (by omega) hn hk
      · obtain ⟨g1, g2, g3, g4⟩ := h2 i k h
        exact ⟨by omega, g2, g3, g4⟩

/-- An input that is looked at, of few places. -/
structure Sm (p : Poly) : Prop where
  chk : chk p = true
  P : p.1.length ≤ 150
  L : p.2.1.length ≤ 150
  I : p.2.2.length ≤ 150
theorem okql_mem {l : List Pt} (h : okql l = true) : ∀ q ∈ l, okq q := fun q hq => of_decide_eq_true (List.all_eq_true.1 h q hq)
theorem oksl_mem {n : Nat} {l : List Pt} (h : oksl n l = true) : ∀ s ∈ l, oks n s := fun s hs => of_decide_eq_true (List.all_eq_true.1 h s hs)
theorem Sm.q {p : Poly} (h : Sm p) : ∀ q ∈ p.1, okq q := by
  have := h.chk
  unfold Pure.chk at this
  simp only [Bool.and_eq_true] at this
  exact okql_mem this.2.1
theorem Sm.sl {p : Poly} (h : Sm p) : ∀ s ∈ p.2.1, oks p.1.length s := by
  have := h.chk
  unfold Pure.chk at this
  simp only [Bool.and_eq_true] at this
  exact oksl_mem this.2.2.1
theorem Sm.si {p : Poly} (h : Sm p) : ∀ s ∈ p.2.2, oks p.1.length s := by
  have := h.chk
  unfold Pure.chk at this
  simp only [Bool.and_eq_true] at this
  exact oksl_mem this.2.2.2
theorem Sm.s {p : Poly} (h : Sm p) : ∀ s ∈ sgs p, oks p.1.length s := fun s hs => (List.mem_append.1 hs).elim (h.sl s) (h.si s)
theorem Sm.len {p : Poly} (h : Sm p) : (sgs p).length ≤ 300 := by
  unfold sgs; rw [List.length_append]; have := h.L; have := h.I; omega
theorem okq_fit {q : Pt} (h : okq q) : Fit q := by unfold okq at h; unfold Fit; omega
theorem pt_mem {P : List Pt} {i : Int} (h : inr i P.length) : pt P i ∈ P := by
  obtain ⟨j, rfl⟩ := Int.eq_ofNat_of_zero_le h.1
  have h2 := h.2
  unfold pt; rw [rd_get _ P j (by omega)]; exact List.getElem_mem _
theorem Sm.fit {p : Poly} (h : Sm p) {i : Int} (hi : inr i p.1.length) : Fit (pt p.1 i) := okq_fit (h.q _ (pt_mem hi))
theorem pt_nat {P : List Pt} {i : Nat} (h : i < P.length) : pt P (i : Int) = P[i] := by unfold pt; exact rd_get _ P i h
theorem Sm.at {p : Poly} (h : Sm p) {i : Nat} (hi : i < (sgs p).length) : oks p.1.length (pt (sgs p) (i : Int)) := by
  rw [pt_nat hi]; exact h.s _ (List.getElem_mem _)
theorem sat_ens (p : Poly) {i : Nat} (hi : i < (sgs p).length) : sat (ens p) (i : Int) = en p.1 (pt (sgs p) (i : Int)) := by
  unfold sat ens
  rw [rd_get _ _ i (by rw [List.length_map]; exact hi), List.getElem_map, pt_nat hi]
theorem ens_len (p : Poly) : (ens p).length = (sgs p).length := by unfold ens; rw [List.length_map]

def pnt (S : List Pt) : Nat → Nat → Bool := fun _ k => decide ((pt S (k : Int)).1 = (pt S (k : Int)).2)
def insd (p : Poly) : Nat → Nat → Bool := fun i k => decide (Ins (en p.1 (pt (sgs p) (k : Int))).1 (en p.1 (pt (sgs p) (k : Int))).2 (pt p.1 (i : Int)))
def two (c : Int) (x : Option (Nat × Nat)) (r : Flw) : Flw := match x with | some (i, k) => (c, (i : Int), (k : Int)) | none => r
def one (c : Int) (x : Option Nat) (r : Flw) : Flw := match x with | some k => (c, (k : Int), 0) | none => r
def s1 (p : Poly) : Option (Nat × Nat) := srch (alk p.1) p.1.length 0
def s2 (p : Poly) : Option Nat := row (pnt (sgs p)) (sgs p).length 0 0
def s3 (p : Poly) : Option (Nat × Nat) := srch (crossing (ens p)) (ens p).length 0
def s4 (p : Poly) : Option (Nat × Nat) := rct (insd p) p.1.length (sgs p).length 0
def fz : Flw := (0, 0, 0)

theorem all_f (k : Nat) {p : Poly} (h : Sm p) : g_valid_all k p = some (sgs p) := by
  have := h.L; have := h.I
  unfold g_valid_all
  rw [gd_t (few_t (by omega)), gd_t (few_t (by simp; omega))]
  rfl
theorem rAll_f (k : Nat) {p : Poly} (h : Sm p) : g_parquetref10_All k p = some (sgs p) := by
  have := h.L; have := h.I
  unfold g_parquetref10_All
  rw [gd_t (few_t (by omega)), gd_t (few_t (by omega))]
  rfl
theorem ends_f (k : Nat) (p : Poly) {s : Pt} (h : oks p.1.length s) : g_valid_ends k p s = some (en p.1 s) := by
  unfold g_valid_ends
  rw [inb_r h.1, gT, inb_r h.2, gT]
  rfl
theorem alike_f (m : Nat) {p : Poly} (h : Sm p) : g_valid_alike (m + 1000) p = some (two 1 (s1 p) fz) := by
  unfold g_valid_alike b_valid_alike
  rw [show g_sorts_Twice (m + 1000) p.1 = some (resv (s1 p)) from twice_f (m + 600) p.1 (by have := h.P; omega), bnd_s]
  cases s1 p with
  | none => rfl
  | some q => rfl
theorem point_f (m : Nat) {p : Poly} (h : Sm p) : g_valid_point (m + 1000) p = some (one 2 (s2 p) fz) := by
  unfold g_valid_point b_valid_point
  rw [show g_valid_all (m + 1000) (p.1, p.2.1, p.2.2) = some (sgs p) from all_f _ h, bnd_s]
  have hl := h.len
  refine loop_list (fun i => (fz, sgs p, ((sgs p).length : Int), (i : Int))) (sgs p).length (fun i => some (one 2 (row (pnt (sgs p)) (sgs p).length 0 i) fz)) ?_ ?_ (m + 1000) 0 (Nat.zero_le _) (by omega)
  · intro next
    dsimp only
    rw [bif_F (by omega), row_end]; rfl
  · intro i hi next hn
    dsimp only at hn ⊢
    rw [bif_T (by omega), gd_t (inb_t ⟨by omega, by omega⟩), row_step _ hi, w64_id (by omega) (by omega)]
    have e : decide ((rdD (0, 0) (sgs p) (i : Int)).1 = (rdD (0, 0) (sgs p) (i : Int)).2) = pnt (sgs p) 0 i := rfl
    rw [e]
    cases pnt (sgs p) 0 i
    · exact hn
    · rfl
theorem inside_f (m : Nat) {p : Poly} (h : Sm p) : g_valid_inside (m + 1000) p = some (two 4 (s4 p) fz) := by
  have hP := h.P
  have hl := h.len
  unfold g_valid_inside b_valid_inside
  refine loop_list (fun i => (p, fz, p.1, (p.1.length : Int), (i : Int))) p.1.length (fun i => some (two 4 (rct (insd p) p.1.length (sgs p).length i) fz)) ?_ ?_ (m + 1000) 0 (Nat.zero_le _) (by omega)
  · intro next
    dsimp only
    rw [bif_F (by omega), rct_end]; rfl
  · intro i hi next hn
    dsimp only at hn ⊢
    rw [bif_T (by omega), gd_t (inb_t ⟨by omega, by omega⟩), rct_step _ hi]
    rw [show g_valid_all (m + 1000) (p.1, p.2.1, p.2.2) = some (sgs p) from all_f _ h, bnd_s]
    have hn' : next (p, fz, p.1, (p.1.length : Int), (i : Int) + 1) = some (two 4 (rct (insd p) p.1.length (sgs p).length (i + 1)) fz) := hn
    refine loop_list (fun b => (p, fz, (i : Int), pt p.1 (i : Int), p.1, (p.1.length : Int), (i : Int), sgs p, ((sgs p).length : Int), (b : Int))) (sgs p).length (fun b => some (two 4 (match row (insd p) (sgs p).length i b with | some b => some (i, b) | none => rct (insd p) p.1.length (sgs p).length (i + 1)) fz)) ?_ ?_ (m + 1000) 0 (Nat.zero_le _) (by omega)
    · intro next2
      dsimp only
      rw [bif_F (by omega), row_end, w64_id (x := (i : Int) + 1) (by omega) (by omega)]
      exact hn'
    · intro b hb next2 hn2
      dsimp only at hn2 ⊢
      rw [bif_T (by omega), gd_t (inb_t ⟨by omega, by omega⟩), w64_id (x := (b : Int) + 1) (by omega) (by omega), row_step _ hb]
      rw [show g_valid_ends (m + 1000) (p.1, p.2.1, p.2.2) ((rdD (0, 0) (sgs p) (b : Int)).1, (rdD (0, 0) (sgs p) (b : Int)).2) = some (en p.1 (pt (sgs p) (b : Int))) from ends_f _ p (h.at hb), bnd_s]
      rw [show ∀ a b c, g_meet_Inside (m + 1000) a b c = some (decide (Ins a b c)) from fun a b c => Inside_f (m + 994) a b c, bnd_s]
      have e : decide (Ins ((en p.1 (pt (sgs p) (b : Int))).1.1, (en p.1 (pt (sgs p) (b : Int))).1.2) ((en p.1 (pt (sgs p) (b : Int))).2.1, (en p.1 (pt (sgs p) (b : Int))).2.2) ((pt p.1 (i : Int)).1, (pt p.1 (i : Int)).2)) = insd p i b := rfl
      rw [e]
      cases insd p i b
      · exact hn2
      · rfl

/-- Where no two places are alike, and no segment has one end. -/
theorem noBad {p : Poly} (h : Sm p) (h1 : s1 p = none) (h2 : s2 p = none) : ∀ s ∈ sgs p, ¬ badS (en p.1 s) := by
  intro s hs hb
  have hok := h.s s hs
  rcases hb with hb | hb
  · exact hb ⟨h.fit hok.1, h.fit hok.2⟩
  · obtain ⟨k, hk, rfl⟩ := List.mem_iff_getElem.1 hs
    have hne := (row_spec (pnt (sgs p)) (n := (sgs p).length) (a := 0) _ 0 rfl (Nat.zero_le _)).1 h2 k (Nat.zero_le _) hk
    unfold pnt at hne
    rw [pt_nat hk] at hne
    have hne' := of_decide_eq_false hne
    obtain ⟨⟨a0, a1⟩, ⟨b0, b1⟩⟩ := hok
    obtain ⟨a, ha⟩ := Int.eq_ofNat_of_zero_le a0
    obtain ⟨b, hb'⟩ := Int.eq_ofNat_of_zero_le b0
    have hall := (srch_spec (alk p.1) (n := p.1.length) _ 0 rfl (Nat.zero_le _)).1 h1
    unfold en at hb
    dsimp only at hb
    rw [ha, hb'] at hb hne'
    rw [ha] at a1
    rw [hb'] at b1
    rcases Nat.lt_trichotomy a b with hab | hab | hab
    · have := of_decide_eq_false (hall a b (Nat.zero_le _) hab (by omega))
      exact this hb
    · exact hne' (by rw [hab])
    · have := of_decide_eq_false (hall b a (Nat.zero_le _) hab (by omega))
      exact this hb.symm
theorem meets_f (m : Nat) {p : Poly} (h : Sm p) (h1 : s1 p = none) (h2 : s2 p = none) : g_valid_meets (m + 1000) p = some (two 3 (s3 p) fz) := by
  have hl := h.len
  unfold g_valid_meets b_valid_meets
  rw [show g_valid_all (m + 1000) (p.1, p.2.1, p.2.2) = some (sgs p) from all_f _ h, bnd_s]
  refine loop_list (fun i => (p, fz, ((sgs p).take i).map (en p.1), sgs p, ((sgs p).length : Int), (i : Int))) (sgs p).length (fun _ => some (two 3 (s3 p) fz)) ?_ ?_ (m + 1000) 0 (Nat.zero_le _) (by omega)
  · intro next
    dsimp only
    rw [bif_F (by omega), List.take_length]
    have hf : g_meet_First (m + 1000) ((sgs p).map (en p.1)) = some (firstv (ens p)) := First_f (m + 600) (ens p) (by rw [ens_len]; omega)
    rw [hf, bnd_s]
    have hno : ((ens p).any fun s => decide (badS s)) = false := by
      rw [List.any_eq_false]
      intro s hs
      unfold ens at hs
      obtain ⟨t, ht, rfl⟩ := List.mem_map.1 hs
      simpa using noBad h h1 h2 t ht
    unfold firstv
    rw [hno, if_neg (by simp)]
    show (bif (resv (s3 p)).2.2 then some ((3 : Int), (resv (s3 p)).1, (resv (s3 p)).2.1) else some (0, 0, 0)) = _
    cases s3 p with
    | none => rfl
    | some q => rfl
  · intro i hi next hn
    dsimp only at hn ⊢
    rw [bif_T (by omega), gd_t (inb_t ⟨by omega, by omega⟩), w64_id (by omega) (by omega)]
    rw [show g_valid_ends (m + 1000) (p.1, p.2.1, p.2.2) ((rdD (0, 0) (sgs p) (i : Int)).1, (rdD (0, 0) (sgs p) (i : Int)).2) = some (en p.1 (pt (sgs p) (i : Int))) from ends_f _ p (h.at hi), bnd_s]
    rw [gd_t (few_t (by simp; omega))]
    have e : ((sgs p).take (i + 1)).map (en p.1) = ((sgs p).take i).map (en p.1) ++ [en p.1 (pt (sgs p) (i : Int))] := by
      rw [List.take_succ_eq_append_getElem hi, List.map_append, pt_nat hi]; rfl
    rw [e] at hn
    exact hn

/-! ### the reference -/
def four (p : Poly) : Flw := two 1 (s1 p) (one 2 (s2 p) (two 3 (s3 p) (two 4 (s4 p) fz)))
theorem pairs_f (m : Nat) {p : Poly} (h : Sm p) : g_parquetref10_pairs (m + 1000) p = some (four p) := by
  have hP := h.P
  have hl := h.len
  unfold g_parquetref10_pairs b_parquetref10_pairs
  refine loop_list (fun i => (p, fz, (i : Int))) p.1.length (fun i => some (two 1 (srch (alk p.1) p.1.length i) (one 2 (s2 p) (two 3 (s3 p) (two 4 (s4 p) fz))))) ?_ ?_ (m + 1000) 0 (Nat.zero_le _) (by omega)
  · intro next
    dsimp only
    rw [bif_F (by omega), srch_end]
    rw [show g_parquetref10_All (m + 1000) (p.1, p.2.1, p.2.2) = some (sgs p) from rAll_f _ h, bnd_s]
    refine loop_list (fun i => (p, fz, sgs p, (i : Int))) (sgs p).length (fun i => some (one 2 (row (pnt (sgs p)) (sgs p).length 0 i) (two 3 (s3 p) (two 4 (s4 p) fz)))) ?_ ?_ (m + 1000) 0 (Nat.zero_le _) (by omega)
    · intro next
      dsimp only
      rw [bif_F (by omega), row_end]
      refine loop_list (fun i => (p, fz, sgs p, (i : Int))) (sgs p).length (fun i => some (two 3 (srch (crossing (ens p)) (ens p).length i) (two 4 (s4 p) fz))) ?_ ?_ (m + 1000) 0 (Nat.zero_le _) (by omega)
      · intro next
        dsimp only
        rw [bif_F (by omega), ens_len, srch_end]
        refine loop_list (fun i => (p, fz, sgs p, (i : Int))) p.1.length (fun i => some (two 4 (rct (insd p) p.1.length (sgs p).length i) fz)) ?_ ?_ (m + 1000) 0 (Nat.zero_le _) (by omega)
        · intro next
          dsimp only
          rw [bif_F (by omega), rct_end]; rfl
        · intro i hi next hn
          dsimp only at hn ⊢
          rw [bif_T (by omega), rct_step _ hi]
          have hn' : next (p, fz, sgs p, (i : Int) + 1) = some (two 4 (rct (insd p) p.1.length (sgs p).length (i + 1)) fz) := hn
          refine loop_list (fun b => (p, fz, sgs p, (i : Int), (b : Int))) (sgs p).length (fun b => some (two 4 (match row (insd p) (sgs p).length i b with | some b => some (i, b) | none => rct (insd p) p.1.length (sgs p).length (i + 1)) fz)) ?_ ?_ (m + 1000) 0 (Nat.zero_le _) (by omega)
          · intro next2
            dsimp only
            rw [bif_F (by omega), row_end, w64_id (x := (i : Int) + 1) (by omega) (by omega)]
            exact hn'
          · intro b hb next2 hn2
            have hok := h.at hb
            dsimp only at hn2 ⊢
            have hin : inb (b : Int) (sgs p).length = true := inb_t ⟨by omega, by omega⟩
            have hin2 : inb (i : Int) p.1.length = true := inb_t ⟨by omega, by omega⟩
            have e1 : inb (rdD (0, 0) (sgs p) (b : Int)).1 p.1.length = true := inb_r hok.1
            have e2 : inb (rdD (0, 0) (sgs p) (b : Int)).2 p.1.length = true := inb_r hok.2
            rw [bif_T (by omega), w64_id (x := (b : Int) + 1) (by omega) (by omega), row_step _ hb]
            simp only [hin, hin2, e1, e2, gT]
            rw [show ∀ a b c, g_parquetref04_Inside (m + 1000) a b c = some (decide (Ins a b c)) from fun a b c => rInside_f (m + 900) a b c, bnd_s]
            have e : ∀ x : Bool, x = insd p i b → (bif x then some ((4 : Int), (i : Int), (b : Int)) else next2 (p, fz, sgs p, (i : Int), (b : Int) + 1)) = some (two 4 (match (if insd p i b = true then some b else row (insd p) (sgs p).length i (b + 1)) with | some b => some (i, b) | none => rct (insd p) p.1.length (sgs p).length (i + 1)) fz) := by
              intro x hx
              rw [hx]
              cases insd p i b
              · exact hn2
              · rfl
            exact e _ rfl
      · intro i hi next hn
        dsimp only at hn ⊢
        rw [bif_T (by omega), ens_len, srch_step _ hi]
        rw [ens_len] at hn
        have hn' : next (p, fz, sgs p, (i : Int) + 1) = some (two 3 (srch (crossing (ens p)) (sgs p).length (i + 1)) (two 4 (s4 p) fz)) := hn
        rw [w64_id (x := (i : Int) + 1) (by omega) (by omega)]
        refine loop_list (fun b => (p, fz, sgs p, (i : Int), (b : Int))) (sgs p).length (fun b => some (two 3 (match row (crossing (ens p)) (sgs p).length i b with | some b => some (i, b) | none => srch (crossing (ens p)) (sgs p).length (i + 1)) (two 4 (s4 p) fz))) ?_ ?_ (m + 1000) (i + 1) (by omega) (by omega)
        · intro next2
          dsimp only
          rw [bif_F (by omega), row_end, w64_id (x := (i : Int) + 1) (by omega) (by omega)]
          exact hn'
        · intro b hb next2 hn2
          have hok := h.at hb
          have hok' := h.at hi
          dsimp only at hn2 ⊢
          have hin : inb (b : Int) (sgs p).length = true := inb_t ⟨by omega, by omega⟩
          have hin2 : inb (i : Int) (sgs p).length = true := inb_t ⟨by omega, by omega⟩
          have e1 : inb (rdD (0, 0) (sgs p) (b : Int)).1 p.1.length = true := inb_r hok.1
          have e2 : inb (rdD (0, 0) (sgs p) (b : Int)).2 p.1.length = true := inb_r hok.2
          have e3 : inb (rdD (0, 0) (sgs p) (i : Int)).1 p.1.length = true := inb_r hok'.1
          have e4 : inb (rdD (0, 0) (sgs p) (i : Int)).2 p.1.length = true := inb_r hok'.2
          rw [bif_T (by omega), w64_id (x := (b : Int) + 1) (by omega) (by omega), row_step _ hb]
          simp only [hin, hin2, e1, e2, e3, e4, gT]
          rw [show ∀ a b c d, g_parquetref04_Segs (m + 1000) a b c d = some (segs a b c d) from fun a b c d => by rw [← rsegs_eq]; exact rSegs_f (m + 900) a b c d, bnd_s]
          have e : ∀ x : Bool, x = crossing (ens p) i b → (bif x then some ((3 : Int), (i : Int), (b : Int)) else next2 (p, fz, sgs p, (i : Int), (b : Int) + 1)) = some (two 3 (match (if crossing (ens p) i b = true then some b else row (crossing (ens p)) (sgs p).length i (b + 1)) with | some b => some (i, b) | none => srch (crossing (ens p)) (sgs p).length (i + 1)) (two 4 (s4 p) fz)) := by
            intro x hx
            rw [hx]
            cases crossing (ens p) i b
            · exact hn2
            · rfl
          refine e _ ?_
          unfold crossing
          rw [sat_ens p hi, sat_ens p hb]
          rfl
    · intro i hi next hn
      dsimp only at hn ⊢
      have hin : inb (i : Int) (sgs p).length = true := inb_t ⟨by omega, by omega⟩
      simp only [hin, gT]
      rw [bif_T (by omega), row_step _ hi, w64_id (by omega) (by omega)]
      have e : decide ((rdD (0, 0) (sgs p) (i : Int)).1 = (rdD (0, 0) (sgs p) (i : Int)).2) = pnt (sgs p) 0 i := rfl
      rw [e]
      cases pnt (sgs p) 0 i
      · exact hn
      · rfl
  · intro i hi next hn
    dsimp only at hn ⊢
    rw [bif_T (by omega), srch_step _ hi, w64_id (x := (i : Int) + 1) (by omega) (by omega)]
    have hn' : next (p, fz, (i : Int) + 1) = some (two 1 (srch (alk p.1) p.1.length (i + 1)) (one 2 (s2 p) (two 3 (s3 p) (two 4 (s4 p) fz)))) := hn
    refine loop_list (fun b => (p, fz, (i : Int), (b : Int))) p.1.length (fun b => some (two 1 (match row (alk p.1) p.1.length i b with | some b => some (i, b) | none => srch (alk p.1) p.1.length (i + 1)) (one 2 (s2 p) (two 3 (s3 p) (two 4 (s4 p) fz))))) ?_ ?_ (m + 1000) (i + 1) (by omega) (by omega)
    · intro next2
      dsimp only
      rw [bif_F (by omega), row_end, w64_id (x := (i : Int) + 1) (by omega) (by omega)]
      exact hn'
    · intro b hb next2 hn2
      dsimp only at hn2 ⊢
      rw [bif_T (by omega), gd_t (inb_t ⟨by omega, by omega⟩), gd_t (inb_t ⟨by omega, by omega⟩), w64_id (x := (b : Int) + 1) (by omega) (by omega), row_step _ hb, eqP]
      have e : decide (rdD (0, 0) p.1 (i : Int) = rdD (0, 0) p.1 (b : Int)) = alk p.1 i b := rfl
      rw [e]
      cases alk p.1 i b
      · exact hn2
      · rfl
end Go.Proofs.Ytjbimhfhapnjeaa.Pure
