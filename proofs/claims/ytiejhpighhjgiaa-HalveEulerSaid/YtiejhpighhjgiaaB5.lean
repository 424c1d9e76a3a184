/- A face's middle. -/
import Derived.Test.YtiejhpighhjgiaaB4
set_option linter.unusedVariables false
set_option linter.unusedSimpArgs false
namespace Go.Proofs.Ytiejhpighhjgiaa.Pure
open Go.RowKit Go.Proofs.Ytiejhpighhjgiaa.AM

def pt (p : List Pt) (i : Int) : Pt := rdD (0, 0) p i
def sc (n : Int) (a : Pt) : Pt := (n * a.1, n * a.2)
def FitT (a : Pt) : Prop := Fit a ∧ Fit (sc 12 a)
instance (a : Pt) : Decidable (FitT a) := inferInstanceAs (Decidable (_ ∧ _))
theorem FitT.b {a : Pt} (h : FitT a) : -357913941 ≤ a.1 ∧ a.1 ≤ 357913941 ∧ -357913941 ≤ a.2 ∧ a.2 ≤ 357913941 := by
  obtain ⟨_, h⟩ := h
  unfold Fit sc at h
  dsimp only at h
  omega
theorem fitT_of {a : Pt} (h : -357913941 ≤ a.1 ∧ a.1 ≤ 357913941 ∧ -357913941 ≤ a.2 ∧ a.2 ≤ 357913941) : FitT a := by
  unfold FitT Fit sc
  dsimp only
  omega
theorem fits_f (m : Nat) (a : Pt) : g_pred_Fits (m + 1000) [a] = some (decide (Fit a)) := by
  unfold g_pred_Fits
  simp only [meet]
  rw [show m + 1000 = (m + 998) + 1 + 1 from rfl, loop_s]
  dsimp only
  rw [bif_T (by simp), gd_t (inb_t (by simp))]
  have : rdD (0, 0) [a] (0 : Int) = a := rfl
  rw [this, show w64 (0 + 1) = 1 from rfl, loop_s]
  dsimp only
  rw [bif_F (x := gd (inb 1 [a].length) _) (by simp)]
  by_cases h1 : a.1 < -4294967296
  · rw [bif_T h1, cT, decide_eq_false (by unfold Fit; omega)]
  · rw [bif_F h1]
    by_cases h2 : a.1 > 4294967296
    · rw [bif_T h2, cT, decide_eq_false (by unfold Fit; omega)]
    · rw [bif_F h2]
      by_cases h3 : a.2 < -4294967296
      · rw [bif_T h3, cT, decide_eq_false (by unfold Fit; omega)]
      · rw [bif_F h3]
        by_cases h4 : a.2 > 4294967296
        · rw [bif_T h4, decide_eq_false (by unfold Fit; omega)]
        · rw [bif_F h4, decide_eq_true (by unfold Fit; omega)]
theorem times_f (k : Nat) (a : Pt) (n : Int) (h0 : 0 ≤ n) (h1 : n ≤ 12) (ha : Fit a) : g_halve_times k a n = some (sc n a) := by
  unfold g_halve_times sc
  unfold Fit at ha
  have hb : ∀ x : Int, -4294967296 ≤ x → x ≤ 4294967296 → -51539607552 ≤ n * x ∧ n * x ≤ 51539607552 := fun x h2 h3 => by
    constructor
    · have : n * x ≥ n * -4294967296 := Int.mul_le_mul_of_nonneg_left h2 h0
      omega
    · have : n * x ≤ n * 4294967296 := Int.mul_le_mul_of_nonneg_left h3 h0
      omega
  have b1 := hb a.1 (by omega) (by omega)
  have b2 := hb a.2 (by omega) (by omega)
  rw [w64_id (by omega) (by omega), w64_id (by omega) (by omega)]
theorem rFits_f (k : Nat) (a : Pt) : g_parquetref03_Fits k a = some (decide (Fit a)) := by
  unfold g_parquetref03_Fits
  simp only [meet]
  by_cases h1 : a.1 ≥ -4294967296
  · rw [bif_T h1]
    by_cases h2 : a.1 ≤ 4294967296
    · rw [bif_T h2]
      by_cases h3 : a.2 ≥ -4294967296
      · rw [bif_T h3]
        congr 1
        rw [decide_eq_decide]
        unfold Fit
        omega
      · rw [bif_F h3, decide_eq_false (by unfold Fit; omega)]
    · rw [bif_F h2, decide_eq_false (by unfold Fit; omega)]
  · rw [bif_F h1, decide_eq_false (by unfold Fit; omega)]
theorem rfits_f (k : Nat) (a : Pt) : g_parquetref20_fits k a = some (decide (FitT a)) := by
  unfold g_parquetref20_fits b_parquetref20_fits
  simp only [meet, rFits_f, bnd_s, etaP]
  by_cases h : Fit a
  · have h' := h
    unfold Fit at h'
    rw [bif_T h, w64_id (by omega) (by omega), w64_id (by omega) (by omega)]
    congr 1
    rw [decide_eq_decide]
    exact ⟨fun h2 => ⟨h, h2⟩, fun h2 => h2.2⟩
  · rw [bif_F h, decide_eq_false (fun h2 => h h2.1)]

def okP (p : List Pt) (i : Int) : Prop := 0 ≤ i ∧ i < (p.length : Int) ∧ FitT (pt p i)
instance (p : List Pt) (i : Int) : Decidable (okP p i) := inferInstanceAs (Decidable (_ ∧ _ ∧ _))
def midOk (p : List Pt) (c : List Int) : Prop := (c.length = 3 ∨ c.length = 4) ∧ ∀ i ∈ c, okP p i
instance (p : List Pt) (c : List Int) : Decidable (midOk p c) := inferInstanceAs (Decidable (_ ∧ _))
def sX (p : List Pt) (l : List Int) : Int := (l.map fun i => (pt p i).1).sum
def sY (p : List Pt) (l : List Int) : Int := (l.map fun i => (pt p i).2).sum
def wgt (c : List Int) : Int := if c.length = 3 then 4 else 3
def midv (p : List Pt) (c : List Int) : Pt := (wgt c * sX p c, wgt c * sY p c)
def midr (p : List Pt) (c : List Int) : Pt × Int := if midOk p c then (midv p c, 0) else ((0, 0), 2)
theorem sX_snoc (p : List Pt) (c : List Int) (i : Nat) (h : i < c.length) : sX p (c.take (i + 1)) = sX p (c.take i) + (pt p c[i]).1 := by
  unfold sX; rw [map_snoc _ _ _ h, List.sum_append]; simp
theorem sY_snoc (p : List Pt) (c : List Int) (i : Nat) (h : i < c.length) : sY p (c.take (i + 1)) = sY p (c.take i) + (pt p c[i]).2 := by
  unfold sY; rw [map_snoc _ _ _ h, List.sum_append]; simp
theorem sum_b (g : Int → Int) : ∀ (l : List Int), (∀ i ∈ l, -357913941 ≤ g i ∧ g i ≤ 357913941) → -357913941 * (l.length : Int) ≤ (l.map g).sum ∧ (l.map g).sum ≤ 357913941 * (l.length : Int)
  | [], _ => by simp
  | i :: l, h => by
    have ih := sum_b g l (fun j hj => h j (List.mem_cons_of_mem _ hj))
    have := h i List.mem_cons_self
    simp only [List.map_cons, List.sum_cons, List.length_cons]
    omega
theorem sX_b {p : List Pt} {l : List Int} (h : ∀ i ∈ l, okP p i) (hl : l.length ≤ 4) : -1431655764 ≤ sX p l ∧ sX p l ≤ 1431655764 := by
  have := sum_b (fun i => (pt p i).1) l (fun i hi => by have := (h i hi).2.2.b; omega)
  unfold sX
  omega
theorem sY_b {p : List Pt} {l : List Int} (h : ∀ i ∈ l, okP p i) (hl : l.length ≤ 4) : -1431655764 ≤ sY p l ∧ sY p l ≤ 1431655764 := by
  have := sum_b (fun i => (pt p i).2) l (fun i hi => by have := (h i hi).2.2.b; omega)
  unfold sY
  omega
theorem mem_take_of {c : List Int} {i : Nat} (h : i < c.length) (Q : Int → Prop) (hq : ∀ x ∈ c.take i, Q x) (hi : Q c[i]) : ∀ x ∈ c.take (i + 1), Q x := by
  intro x hx
  rw [take_snoc _ _ h, List.mem_append, List.mem_singleton] at hx
  rcases hx with hx | rfl
  · exact hq x hx
  · exact hi
theorem middle_f (m : Nat) (p : List Pt) (c : List Int) : g_halve_Middle (m + 1000) p c = some (midr p c) := by
  unfold g_halve_Middle b_halve_Middle midr
  simp only [meet]
  by_cases h34 : c.length = 3 ∨ c.length = 4
  case neg =>
    rw [if_neg (fun h => h34 h.1)]
    by_cases h3 : (c.length : Int) < 3
    · rw [bif_T h3, cT]
    · rw [bif_F h3, decide_eq_true (by omega), cT]
  rw [bif_F (by omega), decide_eq_false (by omega), cF]
  have hw : w64 ((12 : Int).tdiv (c.length : Int)) = wgt c := by
    unfold wgt
    rcases h34 with h | h
    · rw [h, if_pos rfl]; rfl
    · rw [h, if_neg (by omega)]; rfl
  have hwb : wgt c = 3 ∨ wgt c = 4 := by unfold wgt; split <;> simp
  refine loop_rel (fun r s v => ∃ i, i ≤ c.length ∧ (∀ x ∈ c.take i, okP p x) ∧ r = c.length - i ∧ s = (p, c, (0, 0), (wgt c * sX p (c.take i), wgt c * sY p (c.take i)), c, (c.length : Int), (i : Int)) ∧ v = some (if midOk p c then (midv p c, 0) else ((0, 0), 2))) ?_ (m + 1000) c.length _ _ ⟨0, Nat.zero_le _, by simp, rfl, by simp [sX, sY], rfl⟩ (by omega)
  rintro r s v ⟨i, hi, hok, rfl, rfl, rfl⟩ next hn
  dsimp only
  by_cases e : i = c.length
  · subst e
    rw [List.take_length] at hok
    rw [bif_F (by omega), if_pos ⟨h34, hok⟩, List.take_length]
    rfl
  · have hi' : i < c.length := by omega
    have hbad : ¬okP p c[i] → (some ((0, 0), 2) : Option (Pt × Int)) = some (if midOk p c then (midv p c, 0) else ((0, 0), 2)) := fun h => by
      rw [if_neg (fun h2 => h (h2.2 _ (List.getElem_mem hi')))]
    rw [bif_T (by omega), gd_t (inb_t ⟨by omega, by omega⟩), rd_get _ _ _ hi']
    by_cases h1 : c[i] < 0
    · rw [bif_T h1, cT]
      exact hbad (by unfold okP; omega)
    rw [bif_F h1]
    by_cases h2 : c[i] ≥ (p.length : Int)
    · rw [bif_T h2, cT]
      exact hbad (by unfold okP; omega)
    rw [bif_F h2]
    have hin : inb c[i] p.length = true := inb_t ⟨by omega, by omega⟩
    rw [gd_t hin, etaP, fits_f, bnd_s]
    by_cases h3 : Fit (rdD (0, 0) p c[i])
    case neg =>
      rw [decide_eq_false h3]
      exact hbad (fun h => h3 h.2.2.1)
    rw [decide_eq_true h3, Bool.not_true, cF, gd_t hin, times_f _ _ _ (by omega) (by omega) h3, bnd_s, etaP, fits_f, bnd_s]
    by_cases h4 : Fit (sc 12 (rdD (0, 0) p c[i]))
    case neg =>
      rw [decide_eq_false h4]
      exact hbad (fun h => h4 h.2.2.2)
    have hokP : okP p c[i] := ⟨by omega, by omega, h3, h4⟩
    rw [decide_eq_true h4, Bool.not_true, cF, gd_t hin, gd_nF (by omega), hw, times_f _ _ _ (by omega) (by omega) h3, bnd_s]
    have hok2 := mem_take_of hi' _ hok hokP
    have b1 := sX_b hok (by rw [List.length_take]; omega)
    have b2 := sY_b hok (by rw [List.length_take]; omega)
    have b3 := sX_b hok2 (by rw [List.length_take]; omega)
    have b4 := sY_b hok2 (by rw [List.length_take]; omega)
    have e1 : wgt c * sX p (c.take i) + (sc (wgt c) (rdD (0, 0) p c[i])).1 = wgt c * sX p (c.take (i + 1)) := by
      rw [sX_snoc _ _ _ hi', Int.mul_add]; rfl
    have e2 : wgt c * sY p (c.take i) + (sc (wgt c) (rdD (0, 0) p c[i])).2 = wgt c * sY p (c.take (i + 1)) := by
      rw [sY_snoc _ _ _ hi', Int.mul_add]; rfl
    rw [e1, e2]
    have bb : ∀ x : Int, -1431655764 ≤ x → x ≤ 1431655764 → -9223372036854775808 ≤ wgt c * x ∧ wgt c * x ≤ 9223372036854775807 := fun x h h' => by
      rcases hwb with e | e <;> rw [e] <;> omega
    have c3 := bb _ b3.1 b3.2
    have c4 := bb _ b4.1 b4.2
    rw [w64_id c3.1 c3.2, w64_id c4.1 c4.2, w64_id (by omega) (by omega)]
    exact hn (c.length - (i + 1)) _ _ (by omega) ⟨i + 1, by omega, hok2, rfl, rfl, rfl⟩
theorem rMiddle_f (m : Nat) (p : List Pt) (c : List Int) : g_parquetref20_Middle (m + 1000) p c = some (midr p c) := by
  unfold g_parquetref20_Middle b_parquetref20_Middle midr
  simp only [meet]
  by_cases h34 : c.length = 3 ∨ c.length = 4
  case neg =>
    rw [if_neg (fun h => h34 h.1), bif_nF (by omega), decide_eq_false (by omega)]
    rfl
  have hcomb : ∀ {X Y : Option (Pt × Int)}, (bif !(decide ((c.length : Int) = 3)) then (bif !(decide ((c.length : Int) = 4)) then Y else X) else (bif false then Y else X)) = X := by
    intro X Y
    by_cases h3 : c.length = 3
    · rw [bif_nT (by omega), cF]
    · rw [bif_nF (by omega), bif_nT (by omega)]
  refine hcomb.trans ?_
  refine loop_rel (fun r s v => ∃ i, i ≤ c.length ∧ (∀ x ∈ c.take i, okP p x) ∧ r = c.length - i ∧ s = (p, c, (0, 0), (c.length : Int), 12 * sX p (c.take i), 12 * sY p (c.take i), (i : Int)) ∧ v = some (if midOk p c then (midv p c, 0) else ((0, 0), 2))) ?_ (m + 1000) c.length _ _ ⟨0, Nat.zero_le _, by simp, rfl, by simp [sX, sY], rfl⟩ (by omega)
  rintro r s v ⟨i, hi, hok, rfl, rfl, rfl⟩ next hn
  dsimp only
  by_cases e : i = c.length
  · subst e
    rw [List.take_length] at hok
    have b1 := sX_b hok (by omega)
    have b2 := sY_b hok (by omega)
    have ex : ∀ x : Int, (12 * x).tdiv (c.length : Int) = wgt c * x := fun x => by
      unfold wgt
      rcases h34 with h | h
      · rw [h, if_pos rfl]
        rw [show 12 * x = (4 * x) * ((3 : Nat) : Int) by omega, Int.mul_tdiv_cancel _ (by decide)]
      · rw [h, if_neg (by omega)]
        rw [show 12 * x = (3 * x) * ((4 : Nat) : Int) by omega, Int.mul_tdiv_cancel _ (by decide)]
    rw [bif_F (by omega), gd_nF (by omega), gd_nF (by omega), if_pos ⟨h34, hok⟩, List.take_length, ex, ex]
    have hwb : wgt c = 3 ∨ wgt c = 4 := by unfold wgt; split <;> simp
    have bb : ∀ x : Int, -1431655764 ≤ x → x ≤ 1431655764 → -9223372036854775808 ≤ wgt c * x ∧ wgt c * x ≤ 9223372036854775807 := fun x h h' => by
      rcases hwb with e | e <;> rw [e] <;> omega
    have c3 := bb _ b1.1 b1.2
    have c4 := bb _ b2.1 b2.2
    rw [w64_id c3.1 c3.2, w64_id c4.1 c4.2]
    rfl
  · have hi' : i < c.length := by omega
    have hbad : ¬okP p c[i] → (some ((0, 0), 2) : Option (Pt × Int)) = some (if midOk p c then (midv p c, 0) else ((0, 0), 2)) := fun h => by
      rw [if_neg (fun h2 => h (h2.2 _ (List.getElem_mem hi')))]
    rw [bif_T (by omega), gd_t (inb_t ⟨by omega, by omega⟩), rd_get _ _ _ hi']
    by_cases h1 : c[i] < 0
    · rw [bif_T h1, cT]
      exact hbad (by unfold okP; omega)
    rw [bif_F h1, gd_t (inb_t ⟨by omega, by omega⟩)]
    by_cases h2 : c[i] ≥ (p.length : Int)
    · rw [bif_T h2, cT]
      exact hbad (by unfold okP; omega)
    rw [bif_F h2, gd_t (inb_t ⟨by omega, by omega⟩)]
    have hin : inb c[i] p.length = true := inb_t ⟨by omega, by omega⟩
    rw [gd_t hin, etaP, rfits_f, bnd_s]
    by_cases h3 : FitT (rdD (0, 0) p c[i])
    case neg =>
      rw [decide_eq_false h3]
      exact hbad (fun h => h3 h.2.2)
    have hokP : okP p c[i] := ⟨by omega, by omega, h3⟩
    rw [decide_eq_true h3, Bool.not_true, cF, gd_t (inb_t ⟨by omega, by omega⟩), gd_t hin, gd_t (inb_t ⟨by omega, by omega⟩), gd_t hin]
    have hok2 := mem_take_of hi' _ hok hokP
    have b3 := sX_b hok2 (by rw [List.length_take]; omega)
    have b4 := sY_b hok2 (by rw [List.length_take]; omega)
    have e1 : 12 * sX p (c.take i) + 12 * (rdD (0, 0) p c[i]).1 = 12 * sX p (c.take (i + 1)) := by
      rw [sX_snoc _ _ _ hi', Int.mul_add]; rfl
    have e2 : 12 * sY p (c.take i) + 12 * (rdD (0, 0) p c[i]).2 = 12 * sY p (c.take (i + 1)) := by
      rw [sY_snoc _ _ _ hi', Int.mul_add]; rfl
    have hb := h3.b
    rw [w64_id (x := 12 * (rdD (0, 0) p c[i]).1) (by omega) (by omega), w64_id (x := 12 * (rdD (0, 0) p c[i]).2) (by omega) (by omega), e1, e2, w64_id (by omega) (by omega), w64_id (by omega) (by omega), w64_id (by omega) (by omega)]
    exact hn (c.length - (i + 1)) _ _ (by omega) ⟨i + 1, by omega, hok2, rfl, rfl, rfl⟩
end Go.Proofs.Ytiejhpighhjgiaa.Pure
