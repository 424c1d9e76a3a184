/- The plain law of HalveBox. -/
import Derived.Test.YtiejhpighhjgiaaB10
set_option linter.unusedVariables false
set_option linter.unusedSimpArgs false
set_option maxRecDepth 10000
namespace Go.Proofs.Ytiejhpighhjgiaa.Pure
open Go.RowKit Go.Proofs.Ytiejhpighhjgiaa.AM
/-- A box, its edges; four boxes, their edges; sixteen boxes. -/
def bx : List (List Int) := [[0, 1, 2, 3]]
def bxE : List Pt := [(0, 1), (0, 3), (1, 2), (2, 3)]
def b4 : List (List Int) := [[0, 5, 9, 6], [1, 7, 9, 5], [2, 8, 9, 7], [3, 6, 9, 8]]
def b4E : List Pt := [(0, 5), (0, 6), (1, 5), (1, 7), (2, 7), (2, 8), (3, 6), (3, 8), (5, 9), (6, 9), (7, 9), (8, 9)]
def b16 : List (List Int) := outs 10 b4E b4 4
theorem bx_chk : chk 5 bx = 0 := by decide +kernel
theorem bx_ups : (ups bx).Perm bxE := by decide +kernel
theorem bx_edgs : edgs bx = bxE := edgs_of (chk_mono bx_chk) bx_ups (by unfold Srt bxE; decide)
theorem bx_outs : outs 5 bxE bx 1 = b4 := by decide +kernel
theorem b4_chk : chk 10 b4 = 0 := by decide +kernel
theorem b4_ups : (ups b4).Perm b4E := by decide +kernel
theorem b4_edgs : edgs b4 = b4E := edgs_of (chk_mono b4_chk) b4_ups (by unfold Srt b4E; decide)
theorem b16_chk : chk 1048576 b16 = 0 := by decide +kernel
theorem b16_ups : (ups b16).length = 40 := by decide +kernel
theorem b16_cnt : cntF (alls b16) (alls b16).length = 25 := by decide +kernel
theorem b16_len : b16.length = 16 := by decide +kernel
theorem b16_all : (alls b16).length = 64 := by decide +kernel
theorem b16_c : ∀ c ∈ b16, c.length ≤ 900 := by decide +kernel
theorem b16_cntv : cntv b16 = (25, 40, 16) := by
  rw [cntv, if_pos b16_chk, edgs_count b16_chk, b16_ups, b16_cnt, b16_len]
  rfl
theorem box_law (m : Nat) (l : Pt) (w h : Int) (hw : 0 ≤ w ∧ w < 65536) (hh : 0 ≤ h ∧ h < 65536) : g_parquetlaw20_HalveBox (m + 1000) l w h = some true := by
  unfold g_parquetlaw20_HalveBox b_parquetlaw20_HalveBox
  simp only [meet]
  simp only [known_ok, bnd_s]
  by_cases c1 : l.1 > 1048576
  · rw [bif_T c1]; rfl
  rw [bif_F c1]
  by_cases c2 : l.1 < -1048576
  · rw [bif_T c2]; rfl
  rw [bif_F c2]
  by_cases c3 : l.2 > 1048576
  · rw [bif_T c3]; rfl
  rw [bif_F c3]
  by_cases c4 : l.2 < -1048576
  · rw [bif_T c4]
  rw [bif_F c4]
  rw [w64_id (x := w) (by omega) (by omega), w64_id (x := h) (by omega) (by omega), w64_id (x := 1 + w) (by omega) (by omega), w64_id (x := 1 + h) (by omega) (by omega), w64_id (x := l.1 + (1 + w)) (by omega) (by omega), w64_id (x := l.2 + (1 + h)) (by omega) (by omega)]
  obtain ⟨x, y⟩ := l
  dsimp only at c1 c2 c3 c4 ⊢
  generalize hW : 1 + w = W
  generalize hH : 1 + h = H
  have hp : ∀ q ∈ ([(x, y), (x + W, y), (x + W, y + H), (x, y + H), (7, 7)] : List Pt), FitT q := by
    intro q hq
    apply fitT_of
    simp only [List.mem_cons, List.not_mem_nil, or_false] at hq
    rcases hq with rfl | rfl | rfl | rfl | rfl <;> dsimp only <;> omega
  have hro : runOk [(x, y), (x + W, y), (x + W, y + H), (x, y + H), (7, 7)] bx := by
    refine ⟨bx_chk, hp, fun c hc => ?_⟩
    simp only [bx, List.mem_singleton] at hc
    subst hc
    refine ⟨.inr rfl, fun i hi => ?_⟩
    simp only [List.mem_cons, List.not_mem_nil, or_false] at hi
    have : 0 ≤ i ∧ i < ((5 : Nat) : Int) := by omega
    exact ⟨this.1, this.2, okPt hp this.1 this.2⟩
  have f1 : Few [(x, y), (x + W, y), (x + W, y + H), (x, y + H), (7, 7)] bx := ⟨by simp, by decide, by decide, by decide +kernel⟩
  have hq : plc [(x, y), (x + W, y), (x + W, y + H), (x, y + H), (7, 7)] bx = [(12 * x, 12 * y), (12 * (x + W), 12 * y), (12 * (x + W), 12 * (y + H)), (12 * x, 12 * (y + H)), (84, 84), (6 * (x + (x + W)), 6 * (y + y)), (6 * (x + x), 6 * (y + (y + H))), (6 * ((x + W) + (x + W)), 6 * (y + (y + H))), (6 * ((x + W) + x), 6 * ((y + H) + (y + H))), (3 * (x + ((x + W) + ((x + W) + (x + 0)))), 3 * (y + (y + ((y + H) + ((y + H) + 0)))))] := by
    unfold plc
    rw [bx_edgs]
    rfl
  rw [show ([[0, 1, 2, 3]] : List (List Int)) = bx from rfl, run_f m _ _ f1, bnd_s, runv_ok hro]
  dsimp only
  rw [bx_edgs, show outs ([(x, y), (x + W, y), (x + W, y + H), (x, y + H), (7, 7)] : List Pt).length bxE bx bx.length = b4 from bx_outs]
  have hfit : ∀ a ∈ plc [(x, y), (x + W, y), (x + W, y + H), (x, y + H), (7, 7)] bx, FitT a := by
    rw [hq]
    intro q hq
    apply fitT_of
    simp only [List.mem_cons, List.not_mem_nil, or_false] at hq
    rcases hq with rfl | rfl | rfl | rfl | rfl | rfl | rfl | rfl | rfl | rfl <;> dsimp only <;> omega
  have hlen : (plc [(x, y), (x + W, y), (x + W, y + H), (x, y + H), (7, 7)] bx).length = 10 := by rw [hq]; rfl
  have q4 : rdD (0, 0) (plc [(x, y), (x + W, y), (x + W, y + H), (x, y + H), (7, 7)] bx) 4 = (84, 84) := by rw [hq]; rfl
  have q9 : rdD (0, 0) (plc [(x, y), (x + W, y), (x + W, y + H), (x, y + H), (7, 7)] bx) 9 = (12 * x + 6 * W, 12 * y + 6 * H) := by
    rw [hq]
    show (3 * (x + ((x + W) + ((x + W) + (x + 0)))), 3 * (y + (y + ((y + H) + ((y + H) + 0))))) = _
    refine Prod.ext ?_ ?_ <;> dsimp only <;> omega
  generalize plc [(x, y), (x + W, y), (x + W, y + H), (x, y + H), (7, 7)] bx = q at *
  rw [bif_nT rfl, bif_nT (by omega), bif_nT (by rfl), gd_t (inb_t ⟨by omega, by omega⟩), q4, bif_f (by decide), gd_t (inb_t ⟨by omega, by omega⟩), q9, w64_id (x := 12 * x) (by omega) (by omega), w64_id (x := 12 * y) (by omega) (by omega), w64_id (x := 6 * W) (by omega) (by omega), w64_id (x := 6 * H) (by omega) (by omega), w64_id (x := 12 * x + 6 * W) (by omega) (by omega), w64_id (x := 12 * y + 6 * H) (by omega) (by omega)]
  rw [bif_f (by simp)]
  refine loop_from (fun i => (q, b4, (i : Int))) 4 rfl ?_ ?_ (m + 1000) (by omega)
  · intro next
    dsimp only
    rw [bif_F (by decide)]
    have f2 : Few q b4 := ⟨by omega, by decide, by decide, by decide +kernel⟩
    have hro2 : runOk q b4 := by
      refine ⟨by rw [hlen]; exact b4_chk, hfit, fun c hc => ?_⟩
      have key : ∀ c ∈ b4, c.length = 4 ∧ ∀ i ∈ c, 0 ≤ i ∧ i < 10 := by decide
      refine ⟨.inr (key c hc).1, fun i hi => ?_⟩
      have := (key c hc).2 i hi
      exact ⟨this.1, by omega, okPt hfit this.1 (by omega)⟩
    rw [run_f m _ _ f2, bnd_s, runv_ok hro2]
    dsimp only
    rw [b4_edgs, hlen, show outs 10 b4E b4 b4.length = b16 from rfl, count_f m b16 (by rw [b16_len]; decide) b16_c (by rw [b16_all]; decide), bnd_s, b16_cntv, plc_len, b4_edgs, b16_len, hlen]
    rfl
  · intro i hi next hn
    dsimp only
    match i, hi with
    | 0, _ => exact hn
    | 1, _ => exact hn
    | 2, _ => exact hn
    | 3, _ => exact hn
theorem rng16 {x : Int} (h : Kd.good (.int .u16) x) : 0 ≤ x ∧ x ≤ 65535 := by
  have h' : (Lit.int .u16 x).wf = true := h
  simp only [Lit.wf, decide_eq_true_eq, Bool.and_eq_true] at h'
  simpa [IntKind.min, IntKind.max, IntKind.signed, IntKind.bits] using h'
theorem HalveBox (x0 : (Int × Int)) (x1 : Int) (x2 : Int) (g0 : Kd.good (.pair kI kI) x0) (g1 : Kd.good (.int .u16) x1) (g2 : Kd.good (.int .u16) x2) : ∃ k, g_parquetlaw20_HalveBox k x0 x1 x2 = some true :=
  ⟨1000, box_law 0 x0 x1 x2 (by have := rng16 g1; omega) (by have := rng16 g2; omega)⟩
end Go.Proofs.Ytiejhpighhjgiaa.Pure
