/- The plain law of HalveWhole. -/
import Derived.Test.YtiejhpighhjgiaaB14
set_option linter.unusedVariables false
set_option linter.unusedSimpArgs false
namespace Go.Proofs.Ytiejhpighhjgiaa.Pure
open Go.RowKit Go.Proofs.Ytiejhpighhjgiaa.AM
theorem plc_fit {p : List Pt} {f : List (List Int)} (h : runOk p f) : ∀ a ∈ plc p f, Fit a := by
  intro a ha
  have key : -4294967292 ≤ a.1 ∧ a.1 ≤ 4294967292 ∧ -4294967292 ≤ a.2 ∧ a.2 ≤ 4294967292 := by
    unfold plc at ha
    rw [List.mem_append, List.mem_append] at ha
    rcases ha with (ha | ha) | ha
    · obtain ⟨x, hx, rfl⟩ := List.mem_map.1 ha
      have := (h.2.1 x hx).b
      unfold sc
      dsimp only
      omega
    · obtain ⟨s, hs, rfl⟩ := List.mem_map.1 ha
      have hr := edg_rng h.1 hs
      have b1 := (okPt h.2.1 hr.1.1 hr.1.2).b
      have b2 := (okPt h.2.1 hr.2.1 hr.2.2).b
      unfold hv
      dsimp only
      omega
    · obtain ⟨c, hc, rfl⟩ := List.mem_map.1 ha
      have hm := h.2.2 c hc
      have b1 := sum_b (fun i => (pt p i).1) c (fun i hi => by have := (hm.2 i hi).2.2.b; omega)
      have b2 := sum_b (fun i => (pt p i).2) c (fun i hi => by have := (hm.2 i hi).2.2.b; omega)
      unfold midv wgt sX sY
      rcases hm.1 with e | e
      · rw [if_pos e]
        rw [e] at b1 b2
        dsimp only
        omega
      · rw [if_neg (by omega)]
        rw [e] at b1 b2
        dsimp only
        omega
  unfold Fit
  omega
theorem sumlen (f : List (List Int)) (i : Nat) (h : i < f.length) : (((f.take (i + 1)).flatMap eds).length : Int) = (((f.take i).flatMap eds).length : Int) + (f[i].length : Int) := by
  rw [flat_snoc eds f i h, List.length_append, eds_len]
  omega
theorem whole_law (m : Nat) (p : List Pt) (f : List (List Int)) : g_parquetlaw20_HalveWhole (m + 1000) p f = some true := by
  unfold g_parquetlaw20_HalveWhole b_parquetlaw20_HalveWhole
  simp only [meet]
  obtain ⟨b, hb, hm⟩ := many_f m p f
  rw [hb, bnd_s]
  simp only [known_ok, bnd_s]
  cases b with
  | true => rfl
  | false =>
    have h := hm rfl
    have hf := h.few
    rw [cF, run_f m p f hf, bnd_s]
    by_cases hr : runOk p f
    case neg =>
      rw [runv_no hr]
      dsimp only
      rw [bif_nF (by decide)]
      rfl
    rw [runv_ok hr]
    dsimp only
    rw [bif_nT rfl]
    have h1 := h.hp
    have h2 := h.hf
    have h3 := h.ht
    have hch := hr.1
    have F := fine_of hch
    have hFq := fine_outs hch
    have hfitq := plc_fit hr
    have hql := plc_len p f
    have hel : (edgs f).length ≤ (alls f).length := by
      rw [edgs_count (chk_mono hch), ← tab_len]
      exact List.length_filterMap_le _ _
    have htot := outs_total f p.length (edgs f)
    have h4 : ∀ c ∈ outs p.length (edgs f) f f.length, c.length = 4 := by
      intro c hc
      obtain ⟨i, _, hc⟩ := List.mem_flatMap.1 hc
      obtain ⟨k, _, rfl⟩ := List.mem_map.1 hc
      rfl
    have hinq : ∀ c ∈ outs p.length (edgs f) f f.length, Inr (plc p f) c := fun c hc x hx => by
      have := hFq.rng c hc x hx
      refine ⟨this.1, this.2, ?_⟩
      obtain ⟨n, rfl⟩ := Int.eq_ofNat_of_zero_le this.1
      unfold pt
      rw [rd_get _ _ _ (by omega)]
      exact hfitq _ (List.getElem_mem _)
    have hinp : ∀ c ∈ f, Inr p c ∧ 3 ≤ c.length ∧ c.length ≤ 4 := fun c hc => by
      have hm := hr.2.2 c hc
      refine ⟨fun x hx => ⟨(hm.2 x hx).1, (hm.2 x hx).2.1, (hm.2 x hx).2.2.1⟩, ?_, ?_⟩ <;> rcases hm.1 with e | e <;> omega
    have harea := outs_area hr f.length (Nat.le_refl _)
    rw [List.take_length] at harea
    have hcv : convF p f = true → convF (plc p f) (outs p.length (edgs f) f f.length) = true := by
      intro hc
      unfold convF at hc ⊢
      rw [List.all_eq_true] at hc ⊢
      intro c hcm
      have hin := hinq c hcm
      obtain ⟨i, hi, hcm⟩ := List.mem_flatMap.1 hcm
      obtain ⟨k, hk, rfl⟩ := List.mem_map.1 hcm
      rw [List.mem_range] at hi hk
      refine row_conv hr hi hk (fun P hP => ?_) (hc _ (by rw [fc_get hi]; exact List.getElem_mem hi))
      obtain ⟨x, hx, rfl⟩ := List.mem_map.1 hP
      exact (hin x hx).2.2
    have hgl : ∀ c ∈ outs p.length (edgs f) f f.length, c.length ≤ 900 := fun c hc => by have := h4 c hc; omega
    have hchq := chk_of ⟨by omega, by rw [hql]; omega⟩ hFq
    have hall : (alls (outs p.length (edgs f) f f.length)).length ≤ 900 := by
      rw [alls_len]
      have : ∀ (l : List (List Int)), (∀ c ∈ l, c.length = 4) → (l.map List.length).sum = 4 * l.length := by
        intro l
        induction l with
        | nil => intro _; rfl
        | cons c l ih =>
          intro hl
          rw [List.map_cons, List.sum_cons, ih (fun d hd => hl d (List.mem_cons_of_mem _ hd)), hl c List.mem_cons_self, List.length_cons]
          omega
      rw [this _ h4, htot]
      omega
    generalize plc p f = q at *
    generalize outs p.length (edgs f) f f.length = g at *
    refine loop_from (fun i => (p, f, q, g, (((f.take i).flatMap eds).length : Int), (i : Int))) f.length (by simp) ?_ ?_ (m + 1000) (by omega)
    · intro next
      dsimp only
      have hlen : ((f.take f.length).flatMap eds).length = (alls f).length := by rw [List.take_length]; rfl
      rw [bif_F (by omega), bif_nT (by omega), rCheck_f m _ g (by omega) hgl hall, bnd_s, hchq, bif_nT rfl]
      refine loop_from (fun i => (p, f, q, g, (i : Int))) g.length rfl ?_ ?_ (m + 1000) (by omega)
      · intro next
        dsimp only
        rw [bif_F (by omega)]
        obtain ⟨x, hx, hxo, hxv⟩ := lawArea_f m q g (by omega) (fun c hc => ⟨hinq c hc, by have := h4 c hc; omega, by have := h4 c hc; omega⟩)
        obtain ⟨y, hy, hyo, hyv⟩ := lawArea_f m p f (by omega) hinp
        obtain ⟨z, hz, hzo, hzv, hzl⟩ := small_num (m + 990) 144 (by decide)
        have hz' : g_parquetref01_Small (m + 1000) 144 = some z := hz
        have by1 := areaS_b hinp f.length (Nat.le_refl _)
        rw [List.take_length] at by1
        have ly := len6 hyo (by omega)
        obtain ⟨w, hw, hwo, hwv, hwl⟩ := timesN_f (m + 900) z y hzo hyo (by omega) (by omega)
        have hw' : g_parquetref01_Num_Times (m + 1000) (z.1, z.2) (y.1, y.2) = some w := hw
        have lx := len6 hxo (by omega)
        have hw20 : w.2.length ≤ 20 := by omega
        have hc0 := cmp_zero m x w hxo hwo (by omega) hw20 (by rw [hxv, hwv, hzv, hyv, harea])
        have hc0' : g_parquetref01_Num_Cmp (m + 1000) (x.1, x.2) (w.1, w.2) = some 0 := hc0
        rw [hx, bnd_s, hz', bnd_s, hy, bnd_s, hw', bnd_s, hc0', bnd_s, bif_nT rfl]
        rw [conv19_f m p f (by omega) (fun c hc => ⟨by have := (hinp c hc).2.2; omega, fun i hi => ⟨((hinp c hc).1 i hi).1, ((hinp c hc).1 i hi).2.1⟩⟩), bnd_s]
        rw [conv19_f m q g (by omega) (fun c hc => ⟨by have := h4 c hc; omega, fun i hi => ⟨(hinq c hc i hi).1, (hinq c hc i hi).2.1⟩⟩), bnd_s]
        cases hcp : convF p f with
        | false => rfl
        | true =>
          rw [hcv hcp]
          rfl
      · intro i hi next hn
        dsimp only
        have := h4 _ (List.getElem_mem hi)
        rw [bif_T (by omega), gd_t (inb_t ⟨by omega, by omega⟩), rd_get _ _ _ hi, bif_nT (by omega), w64_id (by omega) (by omega)]
        exact hn
    · intro i hi next hn
      dsimp only
      have h5 := pre_len f i
      have h6 := mem_len (List.getElem_mem hi)
      rw [bif_T (by omega), gd_t (inb_t ⟨by omega, by omega⟩), rd_get _ _ _ hi, w64_id (by omega) (by omega), w64_id (by omega) (by omega), ← hn, sumlen f i hi]
      rfl
theorem HalveWhole (x0 : (List (Int × Int))) (x1 : (List (List Int))) (g0 : Kd.good (.sl (.pair kI kI)) x0) (g1 : Kd.good (.sl (.sl kI)) x1) : ∃ k, g_parquetlaw20_HalveWhole k x0 x1 = some true := ⟨1000, whole_law 0 x0 x1⟩
end Go.Proofs.Ytiejhpighhjgiaa.Pure
