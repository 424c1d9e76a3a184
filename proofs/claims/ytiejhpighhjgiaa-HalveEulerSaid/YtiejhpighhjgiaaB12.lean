/- Areas. -/
import Derived.Test.YtiejhpighhjgiaaB11
set_option linter.unusedVariables false
set_option linter.unusedSimpArgs false
namespace Go.Proofs.Ytiejhpighhjgiaa.Pure
open Go.RowKit Go.Proofs.Ytiejhpighhjgiaa.AM

theorem mul_b {x y : Int} (hx : -8589934592 ≤ x ∧ x ≤ 8589934592) (hy : -8589934592 ≤ y ∧ y ≤ 8589934592) : -73786976294838206464 ≤ x * y ∧ x * y ≤ 73786976294838206464 := by
  have h : ((x * y).natAbs : Int) ≤ 8589934592 * 8589934592 := by
    rw [Int.natAbs_mul, Int.natCast_mul]
    exact Int.mul_le_mul (by omega) (by omega) (by omega) (by omega)
  omega
theorem crs_b {a b c : Pt} (ha : Fit a) (hb : Fit b) (hc : Fit c) : -147573952589676412928 ≤ crs a b c ∧ crs a b c ≤ 147573952589676412928 := by
  unfold Fit at ha hb hc
  have h1 := mul_b (x := b.1 - a.1) (y := c.2 - a.2) (by omega) (by omega)
  have h2 := mul_b (x := b.2 - a.2) (y := c.1 - a.1) (by omega) (by omega)
  unfold crs
  omega
/-- Twice a face's area. -/
def fan (p : List Pt) (c : List Int) (n : Nat) : Int := ((List.range n).map fun (i : Nat) => crs (pt p (rdD 0 c 0)) (pt p (rdD 0 c ((i + 1 : Nat) : Int))) (pt p (rdD 0 c ((i + 2 : Nat) : Int)))).sum
theorem fan_succ (p : List Pt) (c : List Int) (n : Nat) : fan p c (n + 1) = fan p c n + crs (pt p (rdD 0 c 0)) (pt p (rdD 0 c ((n + 1 : Nat) : Int))) (pt p (rdD 0 c ((n + 2 : Nat) : Int))) := by
  unfold fan; rw [List.range_succ, List.map_append, List.sum_append]; simp
def polyA (p : List Pt) (c : List Int) : Int := fan p c (c.length - 2)
def Inr (p : List Pt) (c : List Int) : Prop := ∀ i ∈ c, 0 ≤ i ∧ i < (p.length : Int) ∧ Fit (pt p i)
theorem fan_b {p : List Pt} {c : List Int} (h : Inr p c) (h4 : c.length ≤ 4) : ∀ n, n + 2 ≤ c.length → -147573952589676412928 * (n : Int) ≤ fan p c n ∧ fan p c n ≤ 147573952589676412928 * (n : Int)
  | 0, _ => by simp [fan]
  | n + 1, hn => by
    have ih := fan_b h h4 n (by omega)
    have b := crs_b (h _ (rd_in (c := c) (i := 0) (by omega))).2.2 (h _ (rd_in (c := c) (i := n + 1) (by omega))).2.2 (h _ (rd_in (c := c) (i := n + 2) (by omega))).2.2
    rw [fan_succ]
    have e0 : ((0 : Nat) : Int) = 0 := rfl
    rw [e0] at b
    omega
theorem len6 {x : Nm} (h : Ok x) (hb : -18889465931478580854784 * 1024 ≤ val x ∧ val x ≤ 18889465931478580854784 * 1024) : x.2.length ≤ 6 := by
  refine len_of h ?_ ?_
  · have : (65536 : Int) ^ 6 = 79228162514264337593543950336 := by decide
    rw [this]; omega
  · have : (65536 : Int) ^ 6 = 79228162514264337593543950336 := by decide
    rw [this]; omega
theorem ok_nil : Ok (false, []) := ⟨fun d hd => (by cases hd), fun d h => (by simp at h), fun h => (by cases h)⟩
theorem poly_f (m : Nat) (p : List Pt) (c : List Int) (h : Inr p c) (h3 : 3 ≤ c.length) (h4 : c.length ≤ 4) : ∃ y, g_parquetref08_Area (m + 1000) p c = some y ∧ (Ok y.1 ∧ val y.1 = polyA p c) := by
  unfold g_parquetref08_Area b_parquetref08_Area
  simp only [meet]
  rw [bif_F (by omega)]
  refine loop_ex (fun n s => ∃ i : Nat, i ≤ c.length ∧ n = c.length - i ∧ s = (p, c, (false, []), (i : Int))) _ ?_ (m + 1000) c.length _ ⟨0, Nat.zero_le _, rfl, rfl⟩ (by omega)
  rintro n s ⟨i, hi, rfl, rfl⟩ next hn
  dsimp only
  by_cases e : i < c.length
  · have hc := h _ (List.getElem_mem e)
    rw [bif_T (by omega), gd_t (inb_t ⟨by omega, by omega⟩), rd_get _ _ _ e, bif_F (by omega), gd_t (inb_t ⟨by omega, by omega⟩), bif_F (by omega), gd_t (inb_t ⟨by omega, by omega⟩), gd_t (inb_t ⟨by omega, by omega⟩), etaP, rFits_f, bnd_s]
    rw [show decide (Fit (rdD (0, 0) p c[i])) = true from decide_eq_true hc.2.2, Bool.not_true, cF, w64_id (by omega) (by omega)]
    exact hn (c.length - (i + 1)) _ (by omega) ⟨i + 1, by omega, rfl, rfl⟩
  · obtain rfl : i = c.length := by omega
    rw [bif_F (by omega)]
    clear hn next
    refine loop_ex (fun n s => ∃ (i : Nat) (y : Nm), i + 2 ≤ c.length ∧ n = c.length - 2 - i ∧ s = (p, c, (false, []), y, ((i + 2 : Nat) : Int)) ∧ Ok y ∧ val y = fan p c i) _ ?_ (m + 1000) (c.length - 2) _ ⟨0, (false, []), by omega, rfl, rfl, ok_nil, rfl⟩ (by omega)
    rintro n s ⟨i, y, hi, rfl, rfl, hok, hv⟩ next hn
    dsimp only
    by_cases e : i + 2 < c.length
    · have q0 := h _ (rd_in (c := c) (i := 0) (by omega))
      have q1 := h _ (rd_in (c := c) (i := i + 1) (by omega))
      have q2 := h _ (rd_in (c := c) (i := i + 2) (by omega))
      have e0 : ((0 : Nat) : Int) = 0 := rfl
      rw [e0] at q0
      have hb := fan_b h h4 i hi
      have e1 : w64 (((i + 2 : Nat) : Int) - 1) = ((i + 1 : Nat) : Int) := by rw [w64_id (by omega) (by omega)]; omega
      obtain ⟨z, hz, hzo, hzv⟩ := area_f (m + 900) (pt p (rdD 0 c 0)) (pt p (rdD 0 c ((i + 1 : Nat) : Int))) (pt p (rdD 0 c ((i + 2 : Nat) : Int))) q0.2.2 q1.2.2 q2.2.2
      rw [bif_T (by omega), gd_t (inb_t ⟨by omega, by omega⟩), gd_t (inb_t ⟨by omega, by omega⟩), e1, gd_t (inb_t ⟨by omega, by omega⟩), gd_t (inb_t ⟨by omega, by omega⟩), gd_t (inb_t ⟨by omega, by omega⟩), gd_t (inb_t ⟨by omega, by omega⟩)]
      have hz' : g_parquetref03_Area (m + 1000) (pt p (rdD 0 c 0)) (pt p (rdD 0 c ((i + 1 : Nat) : Int))) (pt p (rdD 0 c ((i + 2 : Nat) : Int))) = some z := hz
      simp only [etaP]
      rw [show rdD (0, 0) p (rdD 0 c 0) = pt p (rdD 0 c 0) from rfl, show rdD (0, 0) p (rdD 0 c ((i + 1 : Nat) : Int)) = pt p (rdD 0 c ((i + 1 : Nat) : Int)) from rfl, show rdD (0, 0) p (rdD 0 c ((i + 2 : Nat) : Int)) = pt p (rdD 0 c ((i + 2 : Nat) : Int)) from rfl]
      rw [hz', bnd_s]
      have cb := crs_b q0.2.2 q1.2.2 q2.2.2
      obtain ⟨r, hr, hro, hrv, _⟩ := plus_f (m + 900) y z hok hzo (by have := len6 hok (by omega); omega) (by have := len6 hzo (by omega); omega)
      have hr' : g_parquetref01_Num_Plus (m + 1000) y z = some r := hr
      show ∃ b, bnd (g_parquetref01_Num_Plus (m + 1000) y z) _ = some b ∧ _
      rw [hr', bnd_s, w64_id (by omega) (by omega)]
      exact hn (c.length - 2 - (i + 1)) _ (by omega) ⟨i + 1, r, by omega, rfl, rfl, hro, by rw [hrv, hv, hzv, fan_succ]⟩
    · rw [bif_F (by omega)]
      refine ⟨_, rfl, hok, ?_⟩
      show val y = _
      rw [hv, polyA, show c.length - 2 = i by omega]
def areaS (p : List Pt) (f : List (List Int)) : Int := (f.map (polyA p)).sum
theorem areaS_snoc (p : List Pt) (f : List (List Int)) (i : Nat) (h : i < f.length) : areaS p (f.take (i + 1)) = areaS p (f.take i) + polyA p f[i] := by
  unfold areaS; rw [map_snoc _ _ _ h, List.sum_append]; simp
theorem areaS_b {p : List Pt} {f : List (List Int)} (h : ∀ c ∈ f, Inr p c ∧ 3 ≤ c.length ∧ c.length ≤ 4) : ∀ i, i ≤ f.length → -295147905179352825856 * (i : Int) ≤ areaS p (f.take i) ∧ areaS p (f.take i) ≤ 295147905179352825856 * (i : Int)
  | 0, _ => by simp [areaS]
  | i + 1, hi => by
    have ih := areaS_b h i (by omega)
    have hc := h _ (List.getElem_mem (by omega : i < f.length))
    have b := fan_b hc.1 hc.2.2 ((f[i]'(by omega)).length - 2) (by omega)
    rw [areaS_snoc p f i (by omega), polyA]
    omega
theorem lawArea_f (m : Nat) (p : List Pt) (f : List (List Int)) (hl : f.length ≤ 200) (h : ∀ c ∈ f, Inr p c ∧ 3 ≤ c.length ∧ c.length ≤ 4) : ∃ y, g_parquetlaw20_area (m + 1000) p f = some y ∧ (Ok y ∧ val y = areaS p f) := by
  unfold g_parquetlaw20_area b_parquetlaw20_area
  refine loop_ex (fun n s => ∃ (i : Nat) (y : Nm), i ≤ f.length ∧ n = f.length - i ∧ s = (p, f, (false, []), y, (i : Int)) ∧ Ok y ∧ val y = areaS p (f.take i)) _ ?_ (m + 1000) f.length _ ⟨0, (false, []), by omega, rfl, rfl, ok_nil, rfl⟩ (by omega)
  rintro n s ⟨i, y, hi, rfl, rfl, hok, hv⟩ next hn
  dsimp only
  have hb := areaS_b h i hi
  by_cases e : i < f.length
  · have hc := h _ (List.getElem_mem e)
    obtain ⟨z, hz, hzo, hzv⟩ := poly_f m p f[i] hc.1 hc.2.1 hc.2.2
    have b := fan_b hc.1 hc.2.2 (f[i].length - 2) (by omega)
    have hzv' : val z.1 = fan p f[i] (f[i].length - 2) := hzv
    rw [bif_T (by omega), gd_t (inb_t ⟨by omega, by omega⟩), rd_get _ _ _ e, hz, bnd_s]
    obtain ⟨r, hr, hro, hrv, _⟩ := plus_f (m + 900) y z.1 hok hzo (by have := len6 hok (by omega); omega) (by have := len6 hzo (by omega); omega)
    have hr' : g_parquetref01_Num_Plus (m + 1000) y z.1 = some r := hr
    show ∃ b, bnd (g_parquetref01_Num_Plus (m + 1000) y z.1) _ = some b ∧ _
    rw [hr', bnd_s, w64_id (by omega) (by omega)]
    exact hn (f.length - (i + 1)) _ (by omega) ⟨i + 1, r, by omega, rfl, rfl, hro, by rw [hrv, hv, hzv, areaS_snoc p f i e]⟩
  · obtain rfl : i = f.length := by omega
    rw [bif_F (by omega)]
    rw [List.take_length] at hv
    exact ⟨_, rfl, hok, hv⟩
theorem cmp_zero (m : Nat) (x y : Nm) (hx : Ok x) (hy : Ok y) (lx : x.2.length ≤ 20) (ly : y.2.length ≤ 20) (h : val x = val y) : g_parquetref01_Num_Cmp (m + 1000) x y = some 0 := by
  unfold g_parquetref01_Num_Cmp b_parquetref01_Num_Cmp
  obtain ⟨z, hz, hzo, hzv⟩ := neg_f (m + 1000) hy
  have hz' : g_parquetref01_Num_Neg (m + 1000) (y.1, y.2) = some z := hz
  rw [hz', bnd_s]
  have lz : z.2.length ≤ 20 := by
    have h1 := nat_lt hy.dig
    have h2 : nat y.2 < 65536 ^ 20 := Int.lt_of_lt_of_le h1 (pow_le ly)
    have h3 := nat_nonneg hy.dig
    refine len_of hzo ?_ ?_
    · rw [hzv]; unfold val; split <;> omega
    · rw [hzv]; unfold val; split <;> omega
  obtain ⟨r, hr, hro, hrv, _⟩ := plus_f (m + 900) x z hx hzo (by omega) (by omega)
  have hr' : g_parquetref01_Num_Plus (m + 1000) (x.1, x.2) (z.1, z.2) = some r := hr
  rw [hr', bnd_s]
  have hs := sign_f (m + 1000) hro
  have hs' : g_parquetref01_Num_Sign (m + 1000) (r.1, r.2) = some (sg (val r)) := hs
  rw [hs', bnd_s, hrv, hzv, h]
  congr 1
  rw [show val y + -val y = 0 by omega]
  rfl
end Go.Proofs.Ytiejhpighhjgiaa.Pure
