/- The plain law of HalveMoved. -/
import Derived.Test.YtiejhpighhjgiaaB9
set_option linter.unusedVariables false
set_option linter.unusedSimpArgs false
namespace Go.Proofs.Ytiejhpighhjgiaa.Pure
open Go.RowKit Go.Proofs.Ytiejhpighhjgiaa.AM
def mv (b a : Pt) : Pt := (a.1 + b.1, a.2 + b.2)
theorem pt_mv (b : Pt) (p : List Pt) {x : Int} (h0 : 0 ≤ x) (h1 : x < (p.length : Int)) : pt (p.map (mv b)) x = mv b (pt p x) := by
  obtain ⟨n, rfl⟩ := Int.eq_ofNat_of_zero_le h0
  have hn : n < p.length := by omega
  unfold pt
  rw [rd_get _ _ _ (by simpa using hn), rd_get _ _ _ hn, List.getElem_map]
theorem wgt_len {c : List Int} (h : c.length = 3 ∨ c.length = 4) : wgt c * (c.length : Int) = 12 := by
  unfold wgt
  rcases h with h | h
  · rw [h]; rfl
  · rw [h, if_neg (by omega)]; rfl
theorem sX_mv (b : Pt) (p : List Pt) : ∀ (l : List Int), (∀ i ∈ l, 0 ≤ i ∧ i < (p.length : Int)) → sX (p.map (mv b)) l = sX p l + (l.length : Int) * b.1
  | [], _ => by simp [sX]
  | i :: l, h => by
    have ih := sX_mv b p l (fun j hj => h j (List.mem_cons_of_mem _ hj))
    have hi := h i List.mem_cons_self
    unfold sX at ih ⊢
    rw [List.map_cons, List.sum_cons, List.map_cons, List.sum_cons, ih, pt_mv b p hi.1 hi.2, List.length_cons]
    show (pt p i).1 + b.1 + _ = _
    rw [Int.natCast_succ, Int.add_mul]
    omega
theorem sY_mv (b : Pt) (p : List Pt) : ∀ (l : List Int), (∀ i ∈ l, 0 ≤ i ∧ i < (p.length : Int)) → sY (p.map (mv b)) l = sY p l + (l.length : Int) * b.2
  | [], _ => by simp [sY]
  | i :: l, h => by
    have ih := sY_mv b p l (fun j hj => h j (List.mem_cons_of_mem _ hj))
    have hi := h i List.mem_cons_self
    unfold sY at ih ⊢
    rw [List.map_cons, List.sum_cons, List.map_cons, List.sum_cons, ih, pt_mv b p hi.1 hi.2, List.length_cons]
    show (pt p i).2 + b.2 + _ = _
    rw [Int.natCast_succ, Int.add_mul]
    omega
theorem midv_mv (b : Pt) {p : List Pt} {c : List Int} (h : midOk p c) : midv (p.map (mv b)) c = mv (sc 12 b) (midv p c) := by
  have hr : ∀ i ∈ c, 0 ≤ i ∧ i < (p.length : Int) := fun i hi => ⟨(h.2 i hi).1, (h.2 i hi).2.1⟩
  have hw := wgt_len h.1
  unfold midv
  rw [sX_mv b p c hr, sY_mv b p c hr]
  unfold mv sc
  dsimp only
  rw [Int.mul_add, Int.mul_add, ← Int.mul_assoc, ← Int.mul_assoc, hw]
theorem plc_mv (b : Pt) {p : List Pt} {f : List (List Int)} (h : runOk p f) : plc (p.map (mv b)) f = (plc p f).map (mv (sc 12 b)) := by
  unfold plc
  rw [List.map_append, List.map_append, List.map_map, List.map_map, List.map_map, List.map_map]
  congr 1
  · congr 1
    · refine List.map_congr_left fun a ha => ?_
      show sc 12 (mv b a) = mv (sc 12 b) (sc 12 a)
      unfold sc mv
      refine Prod.ext ?_ ?_ <;> dsimp only <;> omega
    · refine List.map_congr_left fun s hs => ?_
      have hr := edg_rng h.1 hs
      show hv (p.map (mv b)) s = mv (sc 12 b) (hv p s)
      unfold hv
      rw [pt_mv b p hr.1.1 hr.1.2, pt_mv b p hr.2.1 hr.2.2]
      unfold sc mv
      refine Prod.ext ?_ ?_ <;> dsimp only <;> omega
  · exact List.map_congr_left fun c hc => midv_mv b (h.2.2 c hc)
theorem plc_b {p : List Pt} {f : List (List Int)} (h : runOk p f) : ∀ a ∈ plc p f, -4294967292 ≤ a.1 ∧ a.1 ≤ 4294967292 ∧ -4294967292 ≤ a.2 ∧ a.2 ≤ 4294967292 := by
  intro a ha
  unfold plc at ha
  rw [List.mem_append, List.mem_append] at ha
  rcases ha with (ha | ha) | ha
  · obtain ⟨x, hx, rfl⟩ := List.mem_map.1 ha
    have := (h.2.1 x hx).b
    unfold sc
    dsimp only
    omega
  · obtain ⟨s, hs, rfl⟩ := List.mem_map.1 ha
    have hr := edg_rng h.1 hs
    have b1 := (okPt h.2.1 hr.1.1 hr.1.2).b
    have b2 := (okPt h.2.1 hr.2.1 hr.2.2).b
    unfold hv
    dsimp only
    omega
  · obtain ⟨c, hc, rfl⟩ := List.mem_map.1 ha
    have hm := h.2.2 c hc
    have b1 := sum_b (fun i => (pt p i).1) c (fun i hi => by have := (hm.2 i hi).2.2.b; omega)
    have b2 := sum_b (fun i => (pt p i).2) c (fun i hi => by have := (hm.2 i hi).2.2.b; omega)
    unfold midv wgt sX sY
    rcases hm.1 with e | e
    · rw [if_pos e]
      rw [e] at b1 b2
      dsimp only
      omega
    · rw [if_neg (by omega)]
      rw [e] at b1 b2
      dsimp only
      omega
/-- A face that begins elsewhere. -/
theorem midr_rot (p : List Pt) (c : List Int) (h : c ≠ []) : midr p (c.drop 1 ++ [rdD 0 c 0]) = midr p c := by
  match c, h with
  | x :: t, _ =>
    have e : (x :: t).drop 1 ++ [rdD 0 (x :: t) 0] = t ++ [x] := rfl
    rw [e]
    have hl : (t ++ [x]).length = (x :: t).length := by simp
    have hX : sX p (t ++ [x]) = sX p (x :: t) := by unfold sX; simp; omega
    have hY : sY p (t ++ [x]) = sY p (x :: t) := by unfold sY; simp; omega
    have hw : wgt (t ++ [x]) = wgt (x :: t) := by unfold wgt; rw [hl]
    have hm : midOk p (t ++ [x]) ↔ midOk p (x :: t) := by
      unfold midOk
      rw [hl]
      refine and_congr Iff.rfl ⟨fun h i hi => h i ?_, fun h i hi => h i ?_⟩
      · rcases List.mem_cons.1 hi with rfl | hi
        · simp
        · simp [hi]
      · rcases List.mem_append.1 hi with hi | hi
        · simp [hi]
        · simp at hi; simp [hi]
    unfold midr midv
    rw [hX, hY, hw]
    by_cases h : midOk p (x :: t)
    · rw [if_pos h, if_pos (hm.2 h)]
    · rw [if_neg h, if_neg (fun h2 => h (hm.1 h2))]
theorem moved_law (m : Nat) (p : List Pt) (f : List (List Int)) (b : Pt) : g_parquetlaw20_HalveMoved (m + 1000) p f b = some true := by
  unfold g_parquetlaw20_HalveMoved b_parquetlaw20_HalveMoved
  simp only [meet]
  obtain ⟨bb, hb, hm⟩ := many_f m p f
  rw [hb, bnd_s]
  simp only [known_ok, bnd_s]
  cases bb with
  | true => rfl
  | false =>
    have h := hm rfl
    have hf := h.few
    rw [cF]
    by_cases c1 : b.1 > 1048576
    · rw [bif_T c1]; rfl
    rw [bif_F c1]
    by_cases c2 : b.1 < -1048576
    · rw [bif_T c2]; rfl
    rw [bif_F c2]
    by_cases c3 : b.2 > 1048576
    · rw [bif_T c3]; rfl
    rw [bif_F c3]
    by_cases c4 : b.2 < -1048576
    · rw [bif_T c4]
    rw [bif_F c4, run_f m p f hf, bnd_s]
    by_cases hr : runOk p f
    case neg =>
      rw [runv_no hr]
      dsimp only
      rw [bif_nF (by decide)]
    rw [runv_ok hr]
    dsimp only
    rw [bif_nT rfl]
    have h1 := h.hp
    have h2 := h.hf
    have h3 := h.ht
    have hlen := runv_lens p f h
    rw [runv_ok hr] at hlen
    have hB := plc_b hr
    have hpm := plc_mv b hr
    generalize hq : plc p f = q at *
    generalize hg : outs p.length (edgs f) f f.length = g at *
    refine loop_from (fun i => (p, f, b, q, g, (p.take i).map (mv b), [], (i : Int))) p.length rfl ?_ ?_ (m + 1000) (by omega)
    · intro next
      dsimp only
      rw [bif_F (by omega), List.take_length]
      refine loop_from (fun i => (p, f, b, q, g, p.map (mv b), (q.take i).map (mv (sc 12 b)), (i : Int))) q.length rfl ?_ ?_ (m + 1000) (by have := hlen.1; dsimp only at this; omega)
      · intro next
        dsimp only
        have hf2 : Few (p.map (mv b)) f := ⟨by rw [List.length_map]; exact hf.hp, hf.hf, hf.hc, hf.ht⟩
        rw [bif_F (by omega), List.take_length, run_f m _ _ hf2, bnd_s]
        have hcomb : ∀ {X Y : Option Bool}, (bif decide ((runv (p.map (mv b)) f).2.2 = 0) then (bnd (g_parquetref05_SamePoints (m + 1000) (runv (p.map (mv b)) f).1 (q.map (mv (sc 12 b)))) fun r42 => bif !r42 then (bif true then Y else X) else bnd (g_parquetlaw20_same (m + 1000) g (runv (p.map (mv b)) f).2.1) fun r43 => bif !r43 then Y else X) else (bif false then Y else X)) = X := by
          intro X Y
          by_cases hr2 : runOk (p.map (mv b)) f
          · rw [runv_ok hr2]
            dsimp only
            rw [List.length_map, hg, hpm, bif_T rfl, samePoints_f m _ _ (by rw [List.length_map]; have := hlen.1; dsimp only at this; omega), bnd_s, bif_nT rfl, same_f m _ _ (by have := hlen.2.1; dsimp only at this; omega) (fun c hc => by have := hlen.2.2 c hc; omega), bnd_s, bif_nT rfl]
          · rw [runv_no hr2]
            dsimp only
            rw [bif_F (by decide), cF]
        refine hcomb.trans ?_
        refine loop_from (fun i => (p, f, (i : Int))) f.length rfl ?_ ?_ (m + 1000) (by omega)
        · intro next
          dsimp only
          rw [bif_F (by omega)]
        · intro i hi next hn
          dsimp only
          have hfi : fc f i ∈ f := by rw [fc_get hi]; exact List.getElem_mem hi
          have F := fine_of hr.1
          have hc3 := F.big _ hfi
          have hcl := hf.hc _ hfi
          have hne : fc f i ≠ [] := by intro e; rw [e] at hc3; simp at hc3
          have hd : dpL (fc f i) 1 = (fc f i).drop 1 := rfl
          rw [bif_T (by omega), gd_t (inb_t ⟨by omega, by omega⟩), show rdD [] f (i : Int) = fc f i from rfl, hd, gd_T (by omega), gd_t (few_t (by rw [List.length_drop]; omega)), gd_t (inb_t ⟨by omega, by omega⟩), gd_t (inb_t ⟨by omega, by omega⟩), gd_t (few_t (by rw [List.length_drop]; omega)), gd_t (inb_t ⟨by omega, by omega⟩), middle_f, bnd_s, middle_f, bnd_s, midr_rot _ _ hne]
          rw [show ((decide ((midr p (fc f i)).1.1 = (midr p (fc f i)).1.1)) && (decide ((midr p (fc f i)).1.2 = (midr p (fc f i)).1.2))) = true from by simp]
          rw [Bool.not_true, cF, bif_nT rfl, w64_id (by omega) (by omega)]
          exact hn
      · intro i hi next hn
        dsimp only
        have hb2 := hB q[i] (List.getElem_mem hi)
        rw [bif_T (by omega), gd_t (inb_t ⟨by omega, by omega⟩), gd_t (inb_t ⟨by omega, by omega⟩), gd_t (few_t (by rw [List.length_map, List.length_take]; have := hlen.1; dsimp only at this; omega)), rd_get _ _ _ hi]
        rw [w64_id (x := 12 * b.1) (by omega) (by omega), w64_id (x := 12 * b.2) (by omega) (by omega), w64_id (x := q[i].1 + _) (by omega) (by omega), w64_id (x := q[i].2 + _) (by omega) (by omega), w64_id (by have := hlen.1; dsimp only at this; omega) (by have := hlen.1; dsimp only at this; omega), ← hn, map_snoc _ _ _ hi]
        rfl
    · intro i hi next hn
      dsimp only
      have hb2 := (hr.2.1 p[i] (List.getElem_mem hi)).b
      rw [bif_T (by omega), gd_t (inb_t ⟨by omega, by omega⟩), gd_t (inb_t ⟨by omega, by omega⟩), gd_t (few_t (by rw [List.length_map, List.length_take]; omega)), rd_get _ _ _ hi]
      rw [w64_id (x := p[i].1 + _) (by omega) (by omega), w64_id (x := p[i].2 + _) (by omega) (by omega), w64_id (by omega) (by omega), ← hn, map_snoc _ _ _ hi]
      rfl
theorem HalveMoved (x0 : (List (Int × Int))) (x1 : (List (List Int))) (x2 : (Int × Int)) (g0 : Kd.good (.sl (.pair kI kI)) x0) (g1 : Kd.good (.sl (.sl kI)) x1) (g2 : Kd.good (.pair kI kI) x2) : ∃ k, g_parquetlaw20_HalveMoved k x0 x1 x2 = some true := ⟨1000, moved_law 0 x0 x1 x2⟩
end Go.Proofs.Ytiejhpighhjgiaa.Pure
