/- A face's quarters. -/
import Derived.Test.YtiejhpighhjgiaaB13
set_option linter.unusedVariables false
set_option linter.unusedSimpArgs false
namespace Go.Proofs.Ytiejhpighhjgiaa.Pure
open Go.RowKit Go.Proofs.Ytiejhpighhjgiaa.AM

def h6 (a b : Pt) : Pt := (6 * (a.1 + b.1), 6 * (a.2 + b.2))
theorem crs_cyc (a b c : Pt) : crs b c a = crs a b c := by unfold crs; grind
theorem crs_quad (a b c d : Pt) : crs a b c + crs a c d = crs a b d + crs b c d := by unfold crs; grind
section
variable {a n v o M : Pt}
theorem tri1 (h1 : M.1 = 4 * (a.1 + n.1 + v.1)) (h2 : M.2 = 4 * (a.2 + n.2 + v.2)) : crs (sc 12 a) (h6 a n) M = 24 * crs a n v := by unfold crs sc h6; rw [h1, h2]; dsimp only; grind
theorem tri2 (h1 : M.1 = 4 * (a.1 + n.1 + v.1)) (h2 : M.2 = 4 * (a.2 + n.2 + v.2)) : crs (sc 12 a) M (h6 a v) = 24 * crs a n v := by unfold crs sc h6; rw [h1, h2]; dsimp only; grind
theorem tri3 : crs (sc 12 a) (h6 a n) (h6 a v) = 36 * crs a n v := by unfold crs sc h6; dsimp only; grind
theorem tri4 (h1 : M.1 = 4 * (a.1 + n.1 + v.1)) (h2 : M.2 = 4 * (a.2 + n.2 + v.2)) : crs (h6 a n) M (h6 a v) = 12 * crs a n v := by unfold crs h6; rw [h1, h2]; dsimp only; grind
theorem qua1 (h1 : M.1 = 3 * (a.1 + n.1 + o.1 + v.1)) (h2 : M.2 = 3 * (a.2 + n.2 + o.2 + v.2)) : crs (sc 12 a) (h6 a n) M = 18 * (crs a n v + crs a n o) := by unfold crs sc h6; rw [h1, h2]; dsimp only; grind
theorem qua2 (h1 : M.1 = 3 * (a.1 + n.1 + o.1 + v.1)) (h2 : M.2 = 3 * (a.2 + n.2 + o.2 + v.2)) : crs (sc 12 a) M (h6 a v) = 18 * (crs a n v + crs a o v) := by unfold crs sc h6; rw [h1, h2]; dsimp only; grind
theorem qua4 (h1 : M.1 = 3 * (a.1 + n.1 + o.1 + v.1)) (h2 : M.2 = 3 * (a.2 + n.2 + o.2 + v.2)) : crs (h6 a n) M (h6 a v) = 18 * (crs a n o + crs a o v) := by unfold crs h6; rw [h1, h2]; dsimp only; grind
end
section
variable {p : List Pt} {f : List (List Int)} (h : runOk p f)
include h
theorem mid_len {i : Nat} (hi : i < f.length) : midOk p (fc f i) := h.2.2 _ (by rw [fc_get hi]; exact List.getElem_mem hi)
/-- The four places of a quarter. -/
theorem row_pts {i k : Nat} (hi : i < f.length) (hk : k < (fc f i).length) : (rowv p.length (edgs f) (fc f i) i k).map (pt (plc p f)) = [sc 12 (pt p (rdD 0 (fc f i) (k : Int))), h6 (pt p (rdD 0 (fc f i) (k : Int))) (pt p (nx (fc f i) k)), midv p (fc f i), h6 (pt p (rdD 0 (fc f i) (k : Int))) (pt p (pv (fc f i) k))] := by
  have F := fine_of h.1
  have hm : fc f i ∈ f := by rw [fc_get hi]; exact List.getElem_mem hi
  have a1 := F.rng _ hm _ (rd_in hk)
  have r1 := row_in h.1 hi hk
  have e0 := plc_p p f a1.1 a1.2
  have e1 := plc_e p f r1.1
  have e2 := plc_m p f hi
  have e3 := plc_e p f r1.2
  rw [hv_up] at e1 e3
  unfold rowv
  simp only [List.map_cons, List.map_nil]
  unfold pt at *
  rw [e0, e1, e2, e3]
  rfl
omit h in
theorem polyA_four (q : List Pt) {r0 r1 r2 r3 : Int} {P0 P1 P2 P3 : Pt} (he : [r0, r1, r2, r3].map (pt q) = [P0, P1, P2, P3]) : polyA q [r0, r1, r2, r3] = crs P0 P1 P2 + crs P0 P2 P3 := by
  simp only [List.map_cons, List.map_nil, List.cons.injEq, and_true] at he
  obtain ⟨rfl, rfl, rfl, rfl⟩ := he
  simp [polyA, fan, List.range_succ, rdD]
theorem polyA_row {i k : Nat} (hi : i < f.length) (hk : k < (fc f i).length) : polyA (plc p f) (rowv p.length (edgs f) (fc f i) i k) = crs (sc 12 (pt p (rdD 0 (fc f i) (k : Int)))) (h6 (pt p (rdD 0 (fc f i) (k : Int))) (pt p (nx (fc f i) k))) (midv p (fc f i)) + crs (sc 12 (pt p (rdD 0 (fc f i) (k : Int)))) (midv p (fc f i)) (h6 (pt p (rdD 0 (fc f i) (k : Int))) (pt p (pv (fc f i) k))) :=
  polyA_four (plc p f) (row_pts h hi hk)
omit h in
theorem list3 {c : List Int} (hc : c.length = 3) : ∃ a b d, c = [a, b, d] := by
  match c, hc with
  | [a, b, d], _ => exact ⟨a, b, d, rfl⟩
omit h in
theorem list4 {c : List Int} (hc : c.length = 4) : ∃ a b d e, c = [a, b, d, e] := by
  match c, hc with
  | [a, b, d, e], _ => exact ⟨a, b, d, e, rfl⟩
theorem rows_area {i : Nat} (hi : i < f.length) : ((rows p.length (edgs f) f i).map (polyA (plc p f))).sum = 144 * polyA p (fc f i) := by
  have hm := mid_len h hi
  have hp := fun k hk => polyA_row h (i := i) (k := k) hi hk
  unfold rows
  rcases hm.1 with hl | hl
  · obtain ⟨a, b, d, hc⟩ := list3 hl
    rw [hc] at hp ⊢
    have p0 := hp 0 (by simp)
    have p1 := hp 1 (by simp)
    have p2 := hp 2 (by simp)
    have hM1 : (midv p [a, b, d]).1 = 4 * ((pt p a).1 + ((pt p b).1 + ((pt p d).1 + 0))) := rfl
    have hM2 : (midv p [a, b, d]).2 = 4 * ((pt p a).2 + ((pt p b).2 + ((pt p d).2 + 0))) := rfl
    generalize midv p [a, b, d] = M at *
    rw [show rdD 0 [a, b, d] ((0 : Nat) : Int) = a from rfl, show nx [a, b, d] 0 = b from by simp [nx, rdD], show pv [a, b, d] 0 = d from by simp [pv, rdD], tri1 (M := M) (v := pt p d) (by omega) (by omega), tri2 (M := M) (n := pt p b) (by omega) (by omega)] at p0
    rw [show rdD 0 [a, b, d] ((1 : Nat) : Int) = b from rfl, show nx [a, b, d] 1 = d from by simp [nx, rdD], show pv [a, b, d] 1 = a from by simp [pv, rdD], tri1 (M := M) (v := pt p a) (by omega) (by omega), tri2 (M := M) (n := pt p d) (by omega) (by omega)] at p1
    rw [show rdD 0 [a, b, d] ((2 : Nat) : Int) = d from rfl, show nx [a, b, d] 2 = a from by simp [nx, rdD], show pv [a, b, d] 2 = b from by simp [pv, rdD], tri1 (M := M) (v := pt p b) (by omega) (by omega), tri2 (M := M) (n := pt p a) (by omega) (by omega)] at p2
    have c1 := crs_cyc (pt p a) (pt p b) (pt p d)
    have c2 := crs_cyc (pt p b) (pt p d) (pt p a)
    have hA : polyA p [a, b, d] = crs (pt p a) (pt p b) (pt p d) := by simp [polyA, fan, List.range_succ, rdD]
    rw [hA]
    show ((List.map (rowv p.length (edgs f) [a, b, d] i) [0, 1, 2]).map (polyA (plc p f))).sum = _
    simp only [List.map_cons, List.map_nil, List.sum_cons, List.sum_nil, p0, p1, p2]
    omega
  · obtain ⟨a, b, d, e, hc⟩ := list4 hl
    rw [hc] at hp ⊢
    have p0 := hp 0 (by simp)
    have p1 := hp 1 (by simp)
    have p2 := hp 2 (by simp)
    have p3 := hp 3 (by simp)
    have hM1 : (midv p [a, b, d, e]).1 = 3 * ((pt p a).1 + ((pt p b).1 + ((pt p d).1 + ((pt p e).1 + 0)))) := rfl
    have hM2 : (midv p [a, b, d, e]).2 = 3 * ((pt p a).2 + ((pt p b).2 + ((pt p d).2 + ((pt p e).2 + 0)))) := rfl
    generalize midv p [a, b, d, e] = M at *
    rw [show rdD 0 [a, b, d, e] ((0 : Nat) : Int) = a from rfl, show nx [a, b, d, e] 0 = b from by simp [nx, rdD], show pv [a, b, d, e] 0 = e from by simp [pv, rdD], qua1 (M := M) (v := pt p e) (o := pt p d) (by omega) (by omega), qua2 (M := M) (n := pt p b) (o := pt p d) (by omega) (by omega)] at p0
    rw [show rdD 0 [a, b, d, e] ((1 : Nat) : Int) = b from rfl, show nx [a, b, d, e] 1 = d from by simp [nx, rdD], show pv [a, b, d, e] 1 = a from by simp [pv, rdD], qua1 (M := M) (v := pt p a) (o := pt p e) (by omega) (by omega), qua2 (M := M) (n := pt p d) (o := pt p e) (by omega) (by omega)] at p1
    rw [show rdD 0 [a, b, d, e] ((2 : Nat) : Int) = d from rfl, show nx [a, b, d, e] 2 = e from by simp [nx, rdD], show pv [a, b, d, e] 2 = b from by simp [pv, rdD], qua1 (M := M) (v := pt p b) (o := pt p a) (by omega) (by omega), qua2 (M := M) (n := pt p e) (o := pt p a) (by omega) (by omega)] at p2
    rw [show rdD 0 [a, b, d, e] ((3 : Nat) : Int) = e from rfl, show nx [a, b, d, e] 3 = a from by simp [nx, rdD], show pv [a, b, d, e] 3 = d from by simp [pv, rdD], qua1 (M := M) (v := pt p d) (o := pt p b) (by omega) (by omega), qua2 (M := M) (n := pt p a) (o := pt p b) (by omega) (by omega)] at p3
    have hA : polyA p [a, b, d, e] = crs (pt p a) (pt p b) (pt p d) + crs (pt p a) (pt p d) (pt p e) := by simp [polyA, fan, List.range_succ, rdD]
    have q1 := crs_quad (pt p a) (pt p b) (pt p d) (pt p e)
    have c1 := crs_cyc (pt p a) (pt p b) (pt p d)
    have c2 := crs_cyc (pt p b) (pt p d) (pt p a)
    have c3 := crs_cyc (pt p a) (pt p d) (pt p e)
    have c4 := crs_cyc (pt p d) (pt p e) (pt p a)
    have c5 := crs_cyc (pt p a) (pt p b) (pt p e)
    have c6 := crs_cyc (pt p b) (pt p e) (pt p a)
    have c7 := crs_cyc (pt p b) (pt p d) (pt p e)
    have c8 := crs_cyc (pt p d) (pt p e) (pt p b)
    rw [hA]
    show ((List.map (rowv p.length (edgs f) [a, b, d, e] i) [0, 1, 2, 3]).map (polyA (plc p f))).sum = _
    simp only [List.map_cons, List.map_nil, List.sum_cons, List.sum_nil, p0, p1, p2, p3]
    omega
theorem outs_area : ∀ n, n ≤ f.length → areaS (plc p f) (outs p.length (edgs f) f n) = 144 * areaS p (f.take n)
  | 0, _ => by simp [areaS, outs]
  | n + 1, hn => by
    have ih := outs_area n (by omega)
    have hr := rows_area h (i := n) (by omega)
    rw [outs_snoc, areaS_snoc p f n (by omega), ← fc_get (by omega : n < f.length)]
    unfold areaS at ih ⊢
    rw [List.map_append, List.sum_append, ih, hr]
    omega
theorem row_conv {i k : Nat} (hi : i < f.length) (hk : k < (fc f i).length) (hfit : ∀ P ∈ (rowv p.length (edgs f) (fc f i) i k).map (pt (plc p f)), Fit P) (hcv : conv ((fc f i).map (pt p)) = true) : conv ((rowv p.length (edgs f) (fc f i) i k).map (pt (plc p f))) = true := by
  have hm := mid_len h hi
  rw [row_pts h hi hk] at hfit ⊢
  have f0 := hfit _ List.mem_cons_self
  have f1 := hfit _ (List.mem_cons_of_mem _ List.mem_cons_self)
  have f2 := hfit _ (List.mem_cons_of_mem _ (List.mem_cons_of_mem _ List.mem_cons_self))
  have f3 := hfit _ (List.mem_cons_of_mem _ (List.mem_cons_of_mem _ (List.mem_cons_of_mem _ List.mem_cons_self)))
  rw [conv_four]
  simp only [ori_one]
  suffices hs : 0 < crs (sc 12 (pt p (rdD 0 (fc f i) (k : Int)))) (h6 (pt p (rdD 0 (fc f i) (k : Int))) (pt p (nx (fc f i) k))) (midv p (fc f i)) ∧ 0 < crs (sc 12 (pt p (rdD 0 (fc f i) (k : Int)))) (h6 (pt p (rdD 0 (fc f i) (k : Int))) (pt p (nx (fc f i) k))) (h6 (pt p (rdD 0 (fc f i) (k : Int))) (pt p (pv (fc f i) k))) ∧ 0 < crs (sc 12 (pt p (rdD 0 (fc f i) (k : Int)))) (midv p (fc f i)) (h6 (pt p (rdD 0 (fc f i) (k : Int))) (pt p (pv (fc f i) k))) ∧ 0 < crs (h6 (pt p (rdD 0 (fc f i) (k : Int))) (pt p (nx (fc f i) k))) (midv p (fc f i)) (h6 (pt p (rdD 0 (fc f i) (k : Int))) (pt p (pv (fc f i) k))) from
    ⟨⟨⟨f0, f1, f2⟩, hs.1⟩, ⟨⟨f0, f1, f3⟩, hs.2.1⟩, ⟨⟨f0, f2, f3⟩, hs.2.2.1⟩, ⟨⟨f1, f2, f3⟩, hs.2.2.2⟩⟩
  clear hfit f0 f1 f2 f3
  rcases hm.1 with hl | hl
  · obtain ⟨a, b, d, hc⟩ := list3 hl
    rw [hc] at hcv hk ⊢
    have h1 := (ori_one.1 (conv_three.1 hcv)).2
    have hM1 : (midv p [a, b, d]).1 = 4 * ((pt p a).1 + ((pt p b).1 + ((pt p d).1 + 0))) := rfl
    have hM2 : (midv p [a, b, d]).2 = 4 * ((pt p a).2 + ((pt p b).2 + ((pt p d).2 + 0))) := rfl
    generalize midv p [a, b, d] = M at *
    have c1 := crs_cyc (pt p a) (pt p b) (pt p d)
    have c2 := crs_cyc (pt p b) (pt p d) (pt p a)
    match k, hk with
    | 0, _ =>
      rw [show rdD 0 [a, b, d] ((0 : Nat) : Int) = a from rfl, show nx [a, b, d] 0 = b from by simp [nx, rdD], show pv [a, b, d] 0 = d from by simp [pv, rdD], tri1 (M := M) (v := pt p d) (by omega) (by omega), tri2 (M := M) (n := pt p b) (by omega) (by omega), tri3, tri4 (M := M) (by omega) (by omega)]
      omega
    | 1, _ =>
      rw [show rdD 0 [a, b, d] ((1 : Nat) : Int) = b from rfl, show nx [a, b, d] 1 = d from by simp [nx, rdD], show pv [a, b, d] 1 = a from by simp [pv, rdD], tri1 (M := M) (v := pt p a) (by omega) (by omega), tri2 (M := M) (n := pt p d) (by omega) (by omega), tri3, tri4 (M := M) (by omega) (by omega)]
      omega
    | 2, _ =>
      rw [show rdD 0 [a, b, d] ((2 : Nat) : Int) = d from rfl, show nx [a, b, d] 2 = a from by simp [nx, rdD], show pv [a, b, d] 2 = b from by simp [pv, rdD], tri1 (M := M) (v := pt p b) (by omega) (by omega), tri2 (M := M) (n := pt p a) (by omega) (by omega), tri3, tri4 (M := M) (by omega) (by omega)]
      omega
  · obtain ⟨a, b, d, e, hc⟩ := list4 hl
    rw [hc] at hcv hk ⊢
    obtain ⟨o1, o2, o3, o4⟩ := conv_four.1 hcv
    have h1 := (ori_one.1 o1).2
    have h2 := (ori_one.1 o2).2
    have h3 := (ori_one.1 o3).2
    have h4 := (ori_one.1 o4).2
    have hM1 : (midv p [a, b, d, e]).1 = 3 * ((pt p a).1 + ((pt p b).1 + ((pt p d).1 + ((pt p e).1 + 0)))) := rfl
    have hM2 : (midv p [a, b, d, e]).2 = 3 * ((pt p a).2 + ((pt p b).2 + ((pt p d).2 + ((pt p e).2 + 0)))) := rfl
    generalize midv p [a, b, d, e] = M at *
    have c1 := crs_cyc (pt p a) (pt p b) (pt p d)
    have c2 := crs_cyc (pt p b) (pt p d) (pt p a)
    have c3 := crs_cyc (pt p a) (pt p d) (pt p e)
    have c4 := crs_cyc (pt p d) (pt p e) (pt p a)
    have c5 := crs_cyc (pt p a) (pt p b) (pt p e)
    have c6 := crs_cyc (pt p b) (pt p e) (pt p a)
    have c7 := crs_cyc (pt p b) (pt p d) (pt p e)
    have c8 := crs_cyc (pt p d) (pt p e) (pt p b)
    match k, hk with
    | 0, _ =>
      rw [show rdD 0 [a, b, d, e] ((0 : Nat) : Int) = a from rfl, show nx [a, b, d, e] 0 = b from by simp [nx, rdD], show pv [a, b, d, e] 0 = e from by simp [pv, rdD], qua1 (M := M) (v := pt p e) (o := pt p d) (by omega) (by omega), qua2 (M := M) (n := pt p b) (o := pt p d) (by omega) (by omega), tri3, qua4 (M := M) (o := pt p d) (by omega) (by omega)]
      omega
    | 1, _ =>
      rw [show rdD 0 [a, b, d, e] ((1 : Nat) : Int) = b from rfl, show nx [a, b, d, e] 1 = d from by simp [nx, rdD], show pv [a, b, d, e] 1 = a from by simp [pv, rdD], qua1 (M := M) (v := pt p a) (o := pt p e) (by omega) (by omega), qua2 (M := M) (n := pt p d) (o := pt p e) (by omega) (by omega), tri3, qua4 (M := M) (o := pt p e) (by omega) (by omega)]
      omega
    | 2, _ =>
      rw [show rdD 0 [a, b, d, e] ((2 : Nat) : Int) = d from rfl, show nx [a, b, d, e] 2 = e from by simp [nx, rdD], show pv [a, b, d, e] 2 = b from by simp [pv, rdD], qua1 (M := M) (v := pt p b) (o := pt p a) (by omega) (by omega), qua2 (M := M) (n := pt p e) (o := pt p a) (by omega) (by omega), tri3, qua4 (M := M) (o := pt p a) (by omega) (by omega)]
      omega
    | 3, _ =>
      rw [show rdD 0 [a, b, d, e] ((3 : Nat) : Int) = e from rfl, show nx [a, b, d, e] 3 = a from by simp [nx, rdD], show pv [a, b, d, e] 3 = d from by simp [pv, rdD], qua1 (M := M) (v := pt p d) (o := pt p b) (by omega) (by omega), qua2 (M := M) (n := pt p a) (o := pt p b) (by omega) (by omega), tri3, qua4 (M := M) (o := pt p b) (by omega) (by omega)]
      omega
end
end Go.Proofs.Ytiejhpighhjgiaa.Pure
