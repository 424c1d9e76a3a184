/- The plain law of HalveEuler. -/
import Derived.Test.YtiejhpighhjgiaaB20
set_option linter.unusedVariables false
set_option linter.unusedSimpArgs false
namespace Go.Proofs.Ytiejhpighhjgiaa.Pure
open Go.RowKit Go.Proofs.Ytiejhpighhjgiaa.AM
theorem sumlen' (f : List (List Int)) (i : Nat) (h : i < f.length) : (off f (i + 1) : Int) = (off f i : Int) + (f[i].length : Int) := by
  rw [off_succ f i h, fc_get h]
  omega
theorem head_rd {s r : List Int} (h : s.head? = r.head?) (hs : 0 < s.length) (hr : 0 < r.length) : rdD 0 s 0 = rdD 0 r 0 := by
  cases s with
  | nil => simp at hs
  | cons a s =>
    cases r with
    | nil => simp at hr
    | cons b r =>
      simp only [List.head?_cons, Option.some.injEq] at h
      subst h
      rfl
theorem rims_two (m : Nat) {p : List Pt} {f : List (List Int)} (hf : Few p f) (hch : chk p.length f = 0) {q : List Pt} (hql : (q.length : Int) = ((plc p f).length : Int)) (hb : (plc p f).length ≤ 1048576) (hgl : (outs p.length (edgs f) f f.length).length ≤ 900) (hgc : ∀ c ∈ outs p.length (edgs f) f f.length, c.length ≤ 900) (hga : (alls (outs p.length (edgs f) f f.length)).length ≤ 900) :
    ∃ r s, g_parquetref11_Rims (m + 1000) p.length f = some r ∧ g_parquetref11_Rims (m + 1000) q.length (outs p.length (edgs f) f f.length) = some s ∧ r.2 = s.2 ∧ Dbl r.1 s.1 ∧ r.1.length ≤ 900 ∧ ∀ x ∈ r.1, x.length ≤ 900 := by
  have F := fine_of hch
  have hq := chk_of ⟨by omega, by omega⟩ (fine_outs hch)
  rw [← hql] at hq
  obtain ⟨r, hr, hrc⟩ := rims_f m p.length f hf.hf hf.hc hf.ht
  obtain ⟨s, hs, hsc⟩ := rims_f m q.length (outs p.length (edgs f) f f.length) hgl hgc hga
  refine ⟨r, s, hr, hs, ?_⟩
  have hone := once_outs hch
  rcases hrc with ⟨h1, _⟩ | ⟨_, h1, rfl⟩ | ⟨_, h1, h2, h3⟩
  · exact absurd hch h1
  · rcases hsc with ⟨g1, _⟩ | ⟨_, g1, rfl⟩ | ⟨_, g1, g2, g3⟩
    · exact absurd hq g1
    · exact ⟨rfl, trivial, by simp, by simp⟩
    · exact absurd (hone.1 g1) h1
  · rcases hsc with ⟨g1, _⟩ | ⟨_, g1, rfl⟩ | ⟨_, g1, g2, g3⟩
    · exact absurd hq g1
    · exact absurd (hone.2 h1) g1
    · refine ⟨by rw [h2, g2], rr_sim hch h1 h3 (fun x hx => hx) (fun x => ?_) g3, ?_, ?_⟩
      · rw [rim_outs hch]
      · -- rings are no more than rim edges
        have key : ∀ {S : Pt → Prop} {rs : List (List Int)}, Rr S rs → ∀ l : List Pt, (∀ x, S x → x ∈ l) → rs.length ≤ l.length := by
          intro S rs hR
          induction hR with
          | nil _ => intro l _; simp
          | @cons S S' e r rs k1 k2 k3 k4 ih =>
            intro l hl
            have hin := hl e k1
            have he : ¬S' e := by
              have : ∀ {S S' : Pt → Prop} {e : Pt} {r : List Int}, Fol S e r S' → ¬S' e := by
                intro S S' e r hF
                cases hF with
                | stop _ => exact fun h => h.2 rfl
                | go _ _ _ h4 => exact fun h => (h4.sub _ h).2 rfl
              exact this k3
            have := ih (l.erase e) (fun x hx => by
              have hne : x ≠ e := by rintro rfl; exact he hx
              exact (List.mem_erase_of_ne hne).2 (hl x (k3.sub x hx)))
            rw [List.length_erase_of_mem hin] at this
            have : 0 < l.length := List.length_pos_of_mem hin
            simp only [List.length_cons]
            omega
        have h5 := key h3 (rimv f) (fun x hx => hx)
        have h6 : (rimv f).length ≤ (alls f).length := List.length_filter_le _ _
        have := hf.ht
        omega
      · have fol_len : ∀ {S S' : Pt → Prop} {e : Pt} {r : List Int}, Fol S e r S' → ∀ l : List Pt, (∀ x, S x → x ∈ l) → e ∈ l → r.length ≤ l.length := by
          intro S S' e r hF
          induction hF with
          | stop _ => intro l _ he; exact List.length_pos_of_mem he
          | @go S S' e e' r h1 h2 h3 h4 ih =>
            intro l hl he
            have := ih (l.erase e) (fun x hx => (List.mem_erase_of_ne hx.2).2 (hl x hx.1)) ((List.mem_erase_of_ne h2).2 (hl e' h1))
            rw [List.length_erase_of_mem he] at this
            have : 0 < l.length := List.length_pos_of_mem he
            simp only [List.length_cons]
            omega
        have key : ∀ {S : Pt → Prop} {rs : List (List Int)}, Rr S rs → ∀ l : List Pt, (∀ x, S x → x ∈ l) → ∀ x ∈ rs, x.length ≤ l.length := by
          intro S rs hR
          induction hR with
          | nil _ => intro l _ x hx; cases hx
          | @cons S S' e r rs k1 k2 k3 k4 ih =>
            intro l hl x hx
            rcases List.mem_cons.1 hx with rfl | hx
            · exact fol_len k3 l hl (hl e k1)
            · exact ih l (fun y hy => hl y (k3.sub y hy)) x hx
        intro x hx
        have h5 := key h3 (rimv f) (fun x hx => hx) x hx
        have h6 : (rimv f).length ≤ (alls f).length := List.length_filter_le _ _
        have := hf.ht
        omega
theorem euler_law (m : Nat) (p : List Pt) (f : List (List Int)) : g_parquetlaw20_HalveEuler (m + 1000) p f = some true := by
  unfold g_parquetlaw20_HalveEuler b_parquetlaw20_HalveEuler
  simp only [meet]
  obtain ⟨b, hb, hm⟩ := many_f m p f
  rw [hb, bnd_s]
  simp only [known_ok, bnd_s]
  cases b with
  | true => rfl
  | false =>
    have h := hm rfl
    have hf := h.few
    rw [cF]
    by_cases h16 : (f.length : Int) > 16
    · rw [bif_T h16]
    rw [bif_F h16, run_f m p f hf, bnd_s]
    by_cases hr : runOk p f
    case neg =>
      rw [runv_no hr]
      dsimp only
      rw [bif_nF (by decide)]
    rw [runv_ok hr]
    dsimp only
    rw [bif_nT rfl]
    have h1 := h.hp
    have h2 := h.hf
    have h3 := h.ht
    have hch := hr.1
    have F := fine_of hch
    have hql := plc_len p f
    have hel : (edgs f).length ≤ (alls f).length := by
      rw [edgs_count (chk_mono hch), ← tab_len]
      exact List.length_filterMap_le _ _
    have htot := outs_total f p.length (edgs f)
    have h4 : ∀ c ∈ outs p.length (edgs f) f f.length, c.length = 4 := by
      intro c hc
      obtain ⟨i, _, hc⟩ := List.mem_flatMap.1 hc
      obtain ⟨k, _, rfl⟩ := List.mem_map.1 hc
      rfl
    have hgl : ∀ c ∈ outs p.length (edgs f) f f.length, c.length ≤ 900 := fun c hc => by have := h4 c hc; omega
    have hall : (alls (outs p.length (edgs f) f f.length)).length ≤ 900 := by
      rw [alls_len]
      have : ∀ (l : List (List Int)), (∀ c ∈ l, c.length = 4) → (l.map List.length).sum = 4 * l.length := by
        intro l
        induction l with
        | nil => intro _; rfl
        | cons c l ih =>
          intro hl
          rw [List.map_cons, List.sum_cons, ih (fun d hd => hl d (List.mem_cons_of_mem _ hd)), hl c List.mem_cons_self, List.length_cons]
          omega
      rw [this _ h4, htot]
      omega
    have hbig : (plc p f).length ≤ 1048576 := by omega
    have hqc := chk_mono (chk_of ⟨by omega, by omega⟩ (fine_outs hch))
    have hedg := edges_outs hch hbig
    obtain ⟨r, s, hR1, hR2, hR3, hR4, hR5, hR6⟩ := rims_two m hf hch (q := plc p f) rfl hbig (by omega) hgl hall
    obtain ⟨u, hu, o, ho, huv⟩ := parts_f m f hf.hf hf.hc hf.ht (chk_mono hch)
    obtain ⟨v, hv, w, hw, hvv⟩ := parts_f m (outs p.length (edgs f) f f.length) (by omega) hgl hall hqc
    have hpart := fun i k hi hk => part_at hch ho hw (i := i) (k := k) hi hk
    have hrk := rk_off hch ho hw
    rw [count_f m f hf.hf hf.hc hf.ht, bnd_s, count_f m _ (by omega) hgl hall, bnd_s]
    have hcf : cntv f = (((cntF (alls f) (alls f).length : Nat) : Int), ((edgs f).length : Int), (f.length : Int)) := by rw [cntv, if_pos (chk_mono hch)]
    have hcg : (cntv (outs p.length (edgs f) f f.length)).2 = (((2 * (edgs f).length + (alls f).length : Nat) : Int), ((alls f).length : Int)) := by
      rw [cntv, if_pos hqc]
      dsimp only
      rw [hedg, htot]
    rw [hcf, hcg]
    dsimp only
    have hul : u.length = f.length := by rw [huv]; simp
    have hvl : v.length = (alls f).length := by rw [hvv]; simp; exact htot
    have hat : ∀ i k, i < f.length → k < (fc f i).length → rdD 0 v ((off f i + k : Nat) : Int) = rdD 0 u (i : Int) := by
      intro i k hi hk
      have hlt := off_lt hch hi hk
      rw [rd_get _ _ _ (by rw [hvl, ← htot]; exact hlt), rd_get _ _ _ (by omega)]
      simp only [huv, hvv, List.getElem_map, List.getElem_range]
      rw [hpart i k hi hk, hrk _ (by have := ho.le i hi; omega)]
    clear hpart hrk huv hvv ho hw hcf hcg hedg
    generalize plc p f = q at *
    generalize outs p.length (edgs f) f f.length = g at *
    refine loop_from (fun i => (p, f, q, g, ((edgs f).length : Int), (f.length : Int), ((2 * (edgs f).length + (alls f).length : Nat) : Int), ((alls f).length : Int), ((off f i : Nat) : Int), (i : Int))) f.length (by rw [off_zero]; rfl) ?_ ?_ (m + 1000) (by omega)
    · intro next
      dsimp only
      have ho := off_all f
      rw [bif_F (by omega), w64_id (x := (p.length : Int) + ((edgs f).length : Int)) (by omega) (by omega), w64_id (x := 2 * ((edgs f).length : Int)) (by omega) (by omega), ho, w64_id (x := (p.length : Int) + ((edgs f).length : Int) + (f.length : Int)) (by omega) (by omega), w64_id (x := 2 * ((edgs f).length : Int) + ((alls f).length : Int)) (by omega) (by omega)]
      rw [bif_nT (by omega), bif_nT (by omega), bif_nT rfl, hR1, bnd_s, hR2, bnd_s, bif_nT hR3]
      have hdl := hR4.len
      have hda := hR4.at
      rw [bif_nT (by omega)]
      refine loop_from (fun i => (f, g, r.1, s.1, (i : Int))) r.1.length rfl ?_ ?_ (m + 1000) (by omega)
      · intro next
        dsimp only
        rw [bif_F (by omega), hu, bnd_s, hv, bnd_s]
        refine loop_from (fun i => (f, u, v, ((off f i : Nat) : Int), (i : Int))) f.length (by rw [off_zero]; rfl) ?_ ?_ (m + 1000) (by omega)
        · intro next
          dsimp only
          rw [bif_F (by omega)]
        · intro i hi next hn
          dsimp only
          have hs := off_succ f i hi
          have hle := off_le f (i + 1)
          rw [bif_T (by omega)]
          refine loop_from (fun k => (f, u, v, ((off f i + k : Nat) : Int), (i : Int), (k : Int))) (fc f i).length rfl ?_ ?_ (m + 1000) (by omega)
          · intro next'
            dsimp only
            rw [gd_t (inb_t ⟨by omega, by omega⟩), show rdD [] f (i : Int) = fc f i from rfl, bif_F (by omega), w64_id (by omega) (by omega), ← hn, hs]
            rfl
          · intro k hk next' hn'
            dsimp only
            rw [gd_t (inb_t ⟨by omega, by omega⟩), show rdD [] f (i : Int) = fc f i from rfl, bif_T (by omega), bif_F (by omega), gd_t (inb_t ⟨by omega, by omega⟩), gd_t (inb_t ⟨by omega, by omega⟩), bif_nT (hat i k hi hk), w64_id (by omega) (by omega), w64_id (by omega) (by omega)]
            exact hn'
      · intro i hi next hn
        dsimp only
        obtain ⟨d1, d2, d3⟩ := hda i hi (by omega)
        have hri := hR6 _ (List.getElem_mem hi)
        rw [bif_T (by omega), gd_t (inb_t ⟨by omega, by omega⟩), gd_t (inb_t ⟨by omega, by omega⟩), rd_get _ _ i (by omega : i < s.1.length), rd_get _ _ i hi, w64_id (x := 2 * (r.1[i].length : Int)) (by omega) (by omega), bif_nT (by omega), gd_t (inb_t ⟨by omega, by omega⟩), gd_t (inb_t ⟨by omega, by omega⟩), gd_t (inb_t ⟨by omega, by omega⟩), gd_t (inb_t ⟨by omega, by omega⟩), bif_nT (head_rd d3 (by omega) d2), w64_id (by omega) (by omega)]
        exact hn
    · intro i hi next hn
      dsimp only
      have hle := off_le f i
      have h6 := mem_len (List.getElem_mem hi)
      rw [bif_T (by omega), gd_t (inb_t ⟨by omega, by omega⟩), rd_get _ _ _ hi, w64_id (by omega) (by omega), w64_id (by omega) (by omega), ← hn, sumlen' f i hi]
      rfl
theorem HalveEuler (x0 : (List (Int × Int))) (x1 : (List (List Int))) (g0 : Kd.good (.sl (.pair kI kI)) x0) (g1 : Kd.good (.sl (.sl kI)) x1) : ∃ k, g_parquetlaw20_HalveEuler k x0 x1 = some true := ⟨1000, euler_law 0 x0 x1⟩
end Go.Proofs.Ytiejhpighhjgiaa.Pure
