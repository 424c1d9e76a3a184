/- The plain law of WithinWays. -/
import Derived.Test.YtgbgihofehmjpaaW5
set_option linter.unusedVariables false
set_option linter.unusedSimpArgs false
namespace Go.Proofs.Ytgbgihofehmjpaa.Pure
open Go.RowKit Go.Proofs.Ytgbgihofehmjpaa.AM
theorem mulsign (x y : Int) : (x = 0 ∧ x * y = 0) ∨ (y = 0 ∧ x * y = 0) ∨ (0 < x ∧ 0 < y ∧ 0 < x * y) ∨ (0 < x ∧ y < 0 ∧ x * y < 0) ∨ (x < 0 ∧ 0 < y ∧ x * y < 0) ∨ (x < 0 ∧ y < 0 ∧ 0 < x * y) := by
  rcases Int.lt_trichotomy x 0 with hx | hx | hx
  · rcases Int.lt_trichotomy y 0 with hy | hy | hy
    · have := Int.mul_pos_of_neg_of_neg hx hy; omega
    · subst hy; simp
    · have := Int.mul_neg_of_neg_of_pos hx hy; omega
  · subst hx; simp
  · rcases Int.lt_trichotomy y 0 with hy | hy | hy
    · have := Int.mul_neg_of_pos_of_neg hx hy; omega
    · subst hy; simp
    · have := Int.mul_pos hx hy; omega
theorem crs_rel (a b q : Pt) : crs a b q = (a.1 - q.1) * (b.2 - q.2) - (a.2 - q.2) * (b.1 - q.1) := by unfold crs; grind
def ngP (a : Pt) : Pt := (w64 (0 - a.1), w64 (0 - a.2))
def swP (a : Pt) : Pt := (a.2, a.1)
def Wd (a : Pt) : Prop := (-9223372036854775808 ≤ a.1 ∧ a.1 ≤ 9223372036854775807) ∧ (-9223372036854775808 ≤ a.2 ∧ a.2 ≤ 9223372036854775807)
theorem neg_w {x : Int} (h : -9223372036854775808 ≤ x ∧ x ≤ 9223372036854775807) : w64 (0 - x) = if x = -9223372036854775808 then -9223372036854775808 else -x := by
  split
  · subst_vars; decide
  · rw [w64_id (by omega) (by omega)]; omega
theorem ng_fit {a : Pt} (h : Fit a) : ngP a = (-a.1, -a.2) := by
  unfold Fit at h
  unfold ngP
  rw [w64_id (by omega) (by omega), w64_id (by omega) (by omega)]
  exact Prod.ext (by dsimp only; omega) (by dsimp only; omega)
theorem ng_law (p : List Pt) (q : Pt) (hp : ∀ x ∈ p, Wd x) (hq : Wd q) : atg 1 (cyc (p.map ngP)) (ngP q) = atg 1 (cyc p) q := by
  apply at_put ngP (fun v => decide (v.2 > q.2 ∨ (v.2 = q.2 ∧ v.1 < q.1)))
  · intro x hx
    have hw : Wd x := hx.elim (fun e => e ▸ hq) (hp x)
    unfold Fit ngP
    dsimp only
    rw [neg_w hw.1, neg_w hw.2]
    split <;> split <;> omega
  · intro x y hx hy
    have h1 := hp x hx
    have h2 := hp y hy
    unfold ngP
    rw [neg_w h1.1, neg_w h1.2, neg_w h2.1, neg_w h2.2]
    constructor
    · intro e
      simp only [Prod.mk.injEq] at e
      obtain ⟨e1, e2⟩ := e
      unfold Wd at h1 h2
      refine Prod.ext ?_ ?_
      · split at e1 <;> split at e1 <;> omega
      · split at e2 <;> split at e2 <;> omega
    · rintro rfl; rfl
  · intro a b ha hb hq'
    rw [ng_fit ha, ng_fit hb, ng_fit hq']
    unfold On Fit at *
    have e : crs (-a.1, -a.2) (-b.1, -b.2) (-q.1, -q.2) = crs a b q := by unfold crs; grind
    rw [e]
    unfold Btw
    dsimp only
    have e2 : ((-a.1, -a.2) : Pt) ≠ (-b.1, -b.2) ↔ a ≠ b := by
      rw [ne_eq, ne_eq, Prod.mk.injEq]
      exact not_congr ⟨fun x => Prod.ext (by omega) (by omega), by rintro rfl; exact ⟨rfl, rfl⟩⟩
    rw [e2]
    have z : ∀ P P' Q Q' R : Prop, (P ↔ P') → (Q ↔ Q') → ((a ≠ b ∧ P ∧ R ∧ Q) ↔ (a ≠ b ∧ P' ∧ R ∧ Q')) := by
      intro P P' Q Q' R h1 h2; rw [h1, h2]
    exact z _ _ _ _ _ (by omega) (by omega)
  · intro a b ha hb hq' hab hon
    rw [ng_fit ha, ng_fit hb, ng_fit hq']
    have hno : ¬ (crs a b q = 0 ∧ Btw a.1 b.1 q.1 ∧ Btw a.2 b.2 q.2) := fun x => hon ⟨hab, ⟨ha, hb, hq'⟩, x⟩
    have e : crs (-a.1, -a.2) (-b.1, -b.2) (-q.1, -q.2) = crs a b q := by unfold crs; grind
    unfold Rgt
    rw [e]
    rw [crs_rel] at hno ⊢
    have s1 := mulsign (a.1 - q.1) (b.2 - q.2)
    have s2 := mulsign (a.2 - q.2) (b.1 - q.1)
    unfold Btw at hno
    simp only [decide_eq_true_eq]
    generalize (a.1 - q.1) * (b.2 - q.2) = P at *
    generalize (a.2 - q.2) * (b.1 - q.1) = Q at *
    rcases s1 with s1 | s1 | s1 | s1 | s1 | s1 <;> rcases s2 with s2 | s2 | s2 | s2 | s2 | s2 <;> omega
theorem sw_law (p : List Pt) (q : Pt) : atg 1 (cyc (p.map swP)) (swP q) = atg 1 (cyc p) q := by
  apply at_put swP (fun v => decide (v.1 > q.1 ∧ v.2 > q.2))
  · intro x hx
    unfold Fit swP
    dsimp only
    omega
  · intro x y hx hy
    unfold swP
    rw [Prod.mk.injEq]
    exact ⟨fun e => Prod.ext e.2 e.1, by rintro rfl; exact ⟨rfl, rfl⟩⟩
  · intro a b ha hb hq'
    unfold On Fit at *
    have e : crs (swP a) (swP b) (swP q) = -crs a b q := by unfold crs swP; grind
    rw [e]
    unfold Btw swP
    dsimp only
    have e2 : ((a.2, a.1) : Pt) ≠ (b.2, b.1) ↔ a ≠ b := by
      rw [ne_eq, ne_eq, Prod.mk.injEq]
      exact not_congr ⟨fun x => Prod.ext x.2 x.1, by rintro rfl; exact ⟨rfl, rfl⟩⟩
    rw [e2]
    have z : ∀ P P' Q Q' R R' : Prop, (P ↔ P') → (R ↔ R') → (Q ↔ Q') → ((a ≠ b ∧ P ∧ R ∧ Q) ↔ (a ≠ b ∧ P' ∧ R' ∧ Q')) := by
      intro P P' Q Q' R R' h1 h2 h3; rw [h1, h2, h3]
    exact z _ _ _ _ _ _ (by omega) (by omega) (by omega)
  · intro a b ha hb hq' hab hon
    have hno : ¬ (crs a b q = 0 ∧ Btw a.1 b.1 q.1 ∧ Btw a.2 b.2 q.2) := fun x => hon ⟨hab, ⟨ha, hb, hq'⟩, x⟩
    have e : crs (swP a) (swP b) (swP q) = -crs a b q := by unfold crs swP; grind
    unfold Rgt
    rw [e]
    rw [crs_rel] at hno ⊢
    have s1 := mulsign (a.1 - q.1) (b.2 - q.2)
    have s2 := mulsign (a.2 - q.2) (b.1 - q.1)
    unfold Btw at hno
    unfold swP
    simp only [decide_eq_true_eq]
    generalize (a.1 - q.1) * (b.2 - q.2) = P at *
    generalize (a.2 - q.2) * (b.1 - q.1) = Q at *
    rcases s1 with s1 | s1 | s1 | s1 | s1 | s1 <;> rcases s2 with s2 | s2 | s2 | s2 | s2 | s2 <;> omega
theorem changed_f (m : Nat) (p : List Pt) (w : Bool) (hl : p.length ≤ 350) : g_parquetlaw09_changed (m + 400) p w = some (p.map (if w = true then swP else ngP)) := by
  unfold g_parquetlaw09_changed
  refine loop_list (fun i => (p, w, (p.take i).map (if w = true then swP else ngP), (i : Int))) p.length (fun _ => some (p.map (if w = true then swP else ngP))) ?_ ?_ (m + 400) 0 (Nat.zero_le _) (by omega)
  · intro next
    dsimp only
    rw [bif_F (by omega), List.take_length]
  · intro i hi next hn
    dsimp only at hn ⊢
    simp only [meet]
    have hin : inb (i : Int) p.length = true := inb_t ⟨by omega, by omega⟩
    have hfew : few (((p.take i).map (if w = true then swP else ngP)).length + 1) = true := by unfold few; simp; omega
    rw [bif_T (by omega), w64_id (x := (i : Int) + 1) (by omega) (by omega)]
    simp only [hin, hfew, gT, rd_get _ p i hi]
    rw [List.take_succ_eq_append_getElem hi, List.map_append] at hn
    cases w
    · exact hn
    · exact hn
theorem rngI {x : Int} (h : Kd.good kI x) : -9223372036854775808 ≤ x ∧ x ≤ 9223372036854775807 := by
  have h' : (Lit.int .i64 x).wf = true := h
  simp only [Lit.wf, decide_eq_true_eq, Bool.and_eq_true] at h'
  simpa [IntKind.min, IntKind.max, IntKind.signed, IntKind.bits] using h'
theorem ways_law (m : Nat) (p : List Pt) (q : Pt) (hp : ∀ x ∈ p, Wd x) (hq : Wd q) : g_parquetlaw09_WithinWays (m + 400) p q = some true := by
  unfold g_parquetlaw09_WithinWays b_parquetlaw09_WithinWays
  rw [known_f]
  simp only [meet, bnd_s, etaP]
  by_cases h1 : (p.length : Int) > 60
  · rw [bif_T h1]; rfl
  rw [bif_F h1]
  by_cases h2 : (p.length : Int) = 0
  · rw [decide_eq_true h2]; rfl
  have c1 : g_parquetlaw09_changed (m + 400) (p ++ [q]) false = some ((p ++ [q]).map ngP) := changed_f m _ false (by simp; omega)
  have c2 : g_parquetlaw09_changed (m + 400) (p ++ [q]) true = some ((p ++ [q]).map swP) := changed_f m _ true (by simp; omega)
  rw [decide_eq_false h2, cF, ring_f m p (by omega), c1, c2]
  simp only [bnd_s]
  have k1 : few p.length = true := by unfold few; simp; omega
  have k2 : few (p.length + 1) = true := by unfold few; simp; omega
  have lm : ∀ T : Pt → Pt, ((p ++ [q]).map T).length = p.length + 1 := by intro T; simp
  have tk : ∀ T : Pt → Pt, tkL ((p ++ [q]).map T) (p.length : Int) = p.map T := by
    intro T
    unfold tkL
    rw [Int.toNat_natCast, List.map_append]
    have : (p.map T).length = p.length := by simp
    rw [List.take_append_of_le_length (by omega), ← this, List.take_length]
  have rd : ∀ T : Pt → Pt, rdD (0, 0) ((p ++ [q]).map T) (p.length : Int) = T q := by
    intro T
    rw [rd_get _ _ p.length (by simp)]
    simp
  have k3 : inb (p.length : Int) (p.length + 1) = true := inb_t ⟨by omega, by omega⟩
  have k4 : decide ((p.length : Int) ≤ ((p.length + 1 : Nat) : Int)) = true := decide_eq_true (by omega)
  have k5 : decide (0 ≤ (p.length : Int)) = true := decide_eq_true (by omega)
  rw [At_f m p _ q (by rw [ringv_len]; omega)]
  simp only [bnd_s, k1, k2, k3, k4, k5, gT, lm, tk, rd]
  have at1 : ∀ T : Pt → Pt, ∀ x, g_within_At (m + 400) (p.map T) (ringv p.length) x = some (atg 1 (cyc (p.map T)) x) := by
    intro T x
    rw [At_f m _ _ _ (by rw [ringv_len]; omega)]
    have e := atv_ring' (p.map T) 1 x
    rw [List.length_map] at e
    rw [e]
  rw [at1, at1]
  simp only [bnd_s]
  rw [ng_law p q hp hq, sw_law p q, atv_ring' p 1 q]
  simp only [decide_true, cT]
theorem WithinWays (x0 : (List (Int × Int))) (x1 : (Int × Int)) (g0 : Kd.good (.sl (.pair kI kI)) x0) (g1 : Kd.good (.pair kI kI) x1) : ∃ k, g_parquetlaw09_WithinWays k x0 x1 = some true :=
  ⟨400, by
    have wd : ∀ x : Pt, Kd.good (.pair kI kI) x → Wd x := by
      intro x h
      exact ⟨rngI h.1, rngI h.2⟩
    have := ways_law 0 x0 x1 (fun x hx => wd x (g0.2 x hx)) (wd x1 g1)
    rwa [Nat.zero_add] at this⟩
end Go.Proofs.Ytgbgihofehmjpaa.Pure
