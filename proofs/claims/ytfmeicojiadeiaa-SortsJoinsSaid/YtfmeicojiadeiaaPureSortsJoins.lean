import Derived.Test.YtfmeicojiadeiaaPx18
import Derived.Test.YtfmeicojiadeiaaQb
set_option linter.unusedSimpArgs false
namespace Go.Proofs.Ytfmeicojiadeiaa.Pure
open PL Go.RowKit Go.Proofs.YtfmeicojiadeiaaW.PrintWords Go.Proofs.YtfmeicojiadeiaaW.PrintLast Go.Proofs.YtfmeicojiadeiaaW.PrintMore Go.Proofs.Ytfmeicojiadeiaa.P

theorem rd_zero (x : S28) (l : List S28) : rd_T28 (x :: l) 0 = x := rfl
theorem mergeP_ev (a b : List S28) : ∀ out : List S28, out.length + a.length + b.length < 8796093022208 →
    Evn (fun k => api_Point_30.l0 k a b sorts_Less.f out) (out ++ mrg ltP a b) := by
  induction a, b using mrg.induct ltP with
  | case1 b =>
    intro out hl
    simp only [List.length_nil] at hl
    refine Evn.step ?_; simp only [api_Point_30.l0]
    refine Evn.neg (by simp) ?_
    refine Evn.step ?_; simp only [api_Point_30.j1]
    refine Evn.neg (by simp) (Evn.pos (by first | (simp; done) | (simp; omega)) (Evn.bind (Evn.ret _) (Evn.pos (by first | (simp; done) | (simp; omega)) ?_)))
    rw [mrg_nil]; simp only [List.append_nil]; exact Evn.ret _
  | case2 x a =>
    intro out hl
    simp only [List.length_nil] at hl
    refine Evn.step ?_; simp only [api_Point_30.l0]
    refine Evn.pos (by first | (simp; done) | (simp; omega)) ?_
    refine Evn.step ?_; simp only [api_Point_30.j1]
    refine Evn.neg (by simp) (Evn.pos (by first | (simp at hl ⊢; done) | (simp at hl ⊢; omega)) (Evn.bind (Evn.ret _) (Evn.pos (by first | (simp at hl ⊢; done) | (simp at hl ⊢; omega)) ?_)))
    rw [mrg_nil']; simp only [List.append_nil]; exact Evn.ret _
  | case3 x a y b h ih =>
    intro out hl
    simp only [List.length_cons] at hl
    refine Evn.step ?_; simp only [api_Point_30.l0]
    refine Evn.pos (by first | (simp; done) | (simp; omega)) ?_
    refine Evn.step ?_; simp only [api_Point_30.j1]
    refine Evn.pos (by first | (simp; done) | (simp; omega)) (Evn.pos (by first | (simp; done) | (simp; omega)) (Evn.pos (by first | (simp; done) | (simp; omega)) ?_))
    refine Evn.bind (a := true) (Evn.const ?_) ?_
    · rw [rd_zero, rd_zero, less_f, h]
    refine Evn.pos rfl (Evn.pos (by omega) (Evn.pos (by first | (simp; done) | (simp; omega)) ?_))
    rw [mrg, if_pos h]
    have := ih (out ++ [y]) (by first | (simp; done) | (simp; omega))
    simp only [List.append_assoc, List.singleton_append] at this
    exact this
  | case4 x a y b h ih =>
    intro out hl
    simp only [List.length_cons] at hl
    refine Evn.step ?_; simp only [api_Point_30.l0]
    refine Evn.pos (by first | (simp; done) | (simp; omega)) ?_
    refine Evn.step ?_; simp only [api_Point_30.j1]
    refine Evn.pos (by first | (simp; done) | (simp; omega)) (Evn.pos (by first | (simp; done) | (simp; omega)) (Evn.pos (by first | (simp; done) | (simp; omega)) ?_))
    refine Evn.bind (a := false) (Evn.const ?_) ?_
    · have e : ltP y x = false := by simpa using h
      rw [rd_zero, rd_zero, less_f, e]
    refine Evn.neg (by simp) (Evn.pos (by omega) (Evn.pos (by first | (simp; done) | (simp; omega)) ?_))
    rw [mrg, if_neg h]
    have := ih (out ++ [x]) (by first | (simp; done) | (simp; omega))
    simp only [List.append_assoc, List.singleton_append] at this
    exact this
theorem mergeP (a b : List S28) (hl : a.length + b.length < 8796093022208) : Evn (fun k => api_Point_30.f k a b sorts_Less.f) (mrg ltP a b) :=
  mergeP_ev a b [] (by simpa using hl)
theorem sortP : ∀ (n : Nat) (l : List S28), l.length ≤ n → l.length < 8796093022208 → Evn (fun k => api_Point_29.f k l sorts_Less.f) (srt ltP n l)
  | 0, l, h, hl => by
    refine Evn.step ?_; simp only [api_Point_29.f]
    exact Evn.pos (by omega) (Evn.pos (by simpa using hl) (by rw [srt]; exact Evn.ret _))
  | n + 1, l, h, hl => by
    refine Evn.step ?_; simp only [api_Point_29.f]
    by_cases hs : l.length < 2
    · exact Evn.pos (by omega) (Evn.pos (by simpa using hl) (by rw [srt, if_pos hs]; exact Evn.ret _))
    · refine Evn.neg (by omega) ?_
      rw [half_id (by omega)]
      refine Evn.pos (by omega) (Evn.pos (by omega) ?_)
      rw [Int.toNat_natCast, srt, if_neg hs]
      refine Evn.bind (sortP n _ (by rw [List.length_take]; omega) (by rw [List.length_take]; omega)) ?_
      refine Evn.bind (sortP n _ (by rw [List.length_drop]; omega) (by rw [List.length_drop]; omega)) ?_
      exact Evn.bind (mergeP _ _ (by rw [srt_length, srt_length, List.length_take, List.length_drop]; omega)) (Evn.ret _)

/-! ### the order's places are the places, sorted -/
theorem map_idx (p : List S28) : (idx p.length).map (rd_T28 p) = p := by
  apply List.ext_getElem
  · simp [idx]
  · intro i h1 h2
    simp only [idx, List.getElem_map, List.getElem_range, Int.ofNat_eq_natCast]
    exact rd_getElem p i h2
theorem ord_places (p : List S28) : Stable ltP p ((ord p).map (rd_T28 p)) where
  perm := by
    have := (ord_stable p).perm.map (rd_T28 p)
    rwa [map_idx] at this
  sorted := List.pairwise_map.2 ((ord_stable p).sorted)
  filt := fun c => by
    -- of those that are alike only the number differs
    have hall : ∀ l : List S28, ∀ x ∈ l.filter (eqv ltP c), x = c := fun l x hx => (eqvP.1 (List.mem_filter.1 hx).2).symm
    have hperm := ((ord_stable p).perm.map (rd_T28 p)).filter (eqv ltP c)
    rw [map_idx] at hperm
    have hr : ∀ l : List S28, (∀ x ∈ l, x = c) → l = List.replicate l.length c := fun l h => List.eq_replicate_iff.2 ⟨rfl, h⟩
    rw [hr _ (hall ((ord p).map (rd_T28 p))), hr _ (hall p), hperm.length_eq]

/-! ### ranks of the same twice -/
theorem rd_left (p q : List S28) (k : Nat) (h : k < p.length) : rd_T28 (p ++ q) (k : Int) = rd_T28 p (k : Int) := by
  rw [rd_getElem _ k (by simp; omega), rd_getElem _ k h, List.getElem_append_left h]
theorem rd_right (p q : List S28) (k : Nat) (h : k < q.length) : rd_T28 (p ++ q) ((p.length + k : Nat) : Int) = rd_T28 q (k : Int) := by
  rw [rd_getElem _ _ (by simp; omega), rd_getElem _ k h, List.getElem_append_right (by omega)]
  congr 1; omega
theorem first_left (p q : List S28) (k : Nat) (h : k < p.length) : firstB (p ++ q) k = firstB p k := by
  unfold firstB
  rw [Bool.eq_iff_iff, List.all_eq_true, List.all_eq_true]
  refine forall_congr' fun j => ?_
  refine forall_congr' fun hj => ?_
  rw [List.mem_range] at hj
  rw [rd_left p q j (by omega), rd_left p q k h]
theorem cnt_left (p q : List S28) (x : S28) : ∀ m : Nat, m ≤ p.length → cnt (p ++ q) x m = cnt p x m
  | 0, _ => rfl
  | m + 1, h => by
    rw [cnt_succ, cnt_succ, cnt_left p q x m (by omega), rd_left p q m (by omega), first_left p q m (by omega)]
theorem cnt_twice (p : List S28) (x : S28) : ∀ m : Nat, m ≤ p.length → cnt (p ++ p) x (p.length + m) = cnt p x p.length
  | 0, _ => cnt_left p p x _ (Nat.le_refl _)
  | m + 1, h => by
    rw [← Nat.add_assoc, cnt_succ, cnt_twice p x m (by omega)]
    have : firstB (p ++ p) (p.length + m) = false := by
      rw [Bool.eq_false_iff]
      intro hf
      unfold firstB at hf
      rw [List.all_eq_true] at hf
      have := hf m (List.mem_range.2 (by omega))
      rw [rd_left p p m (by omega), rd_right p p m (by omega)] at this
      simp at this
    rw [this]; simp
theorem rk_twice (p : List S28) (x : S28) : rk (p ++ p) x = rk p x := by
  unfold rk; rw [List.length_append]; exact cnt_twice p x _ (Nat.le_refl _)
theorem ranks_twice (p : List S28) : ranks (p ++ p) = ranks p ++ ranks p := by
  apply List.ext_getElem
  · simp [ranks_length]
  · intro i h1 h2
    simp only [ranks_length, List.length_append] at h1
    by_cases h : i < p.length
    · rw [List.getElem_append_left (by rw [ranks_length]; exact h)]
      simp only [ranks, List.getElem_map, List.getElem_range]
      rw [rk_twice, rd_left p p i h]
    · rw [List.getElem_append_right (by rw [ranks_length]; omega)]
      simp only [ranks, List.getElem_map, List.getElem_range, List.length_map, List.length_range]
      have := rd_right p p (i - p.length) (by omega)
      rw [show p.length + (i - p.length) = i by omega] at this
      rw [rk_twice, this]

theorem SortsJoins : parquetlaw07_SortsJoins.Pure := by
  intro a b _ _
  refine Evn.get ?_
  have done_ : Evn (fun k => parquetlaw07_SortsJoins.j0 k a b true) true := by
    refine Evn.step ?_; simp only [parquetlaw07_SortsJoins.j0]
    exact Evn.pos trivial (Evn.bind known_ev (Evn.ret _))
  unfold parquetlaw07_SortsJoins.f
  refine Evn.ite (fun _ => done_) fun ha => ?_
  by_cases hb : (b.length : Int) > 60
  · rw [show decide ((b.length : Int) > 60) = true from decide_eq_true hb]; exact done_
  rw [show decide ((b.length : Int) > 60) = false from decide_eq_false hb]
  have ha' : a.length ≤ 60 := by omega
  have hb' : b.length ≤ 60 := by omega
  refine Evn.step ?_; simp only [parquetlaw07_SortsJoins.j0]
  refine Evn.neg (by simp) (Evn.pos (by simp; omega) (Evn.bind (Evn.ret _) ?_))
  rw [List.nil_append]
  refine Evn.pos (by omega) (Evn.bind (Evn.ret _) ?_)
  have hp : (a ++ b).length = a.length + b.length := List.length_append
  have hst : mrg ltP (srt ltP a.length a) (srt ltP b.length b) = (ord (a ++ b)).map (rd_T28 (a ++ b)) :=
    Stable.unique weakP (mrg_stable weakP (srt_stable weakP _ _ (Nat.le_refl _)) (srt_stable weakP _ _ (Nat.le_refl _))) (ord_places _)
  generalize hpp : a ++ b = p at *
  have hL := ord_length p
  have hR := ranks_length p
  refine Evn.bind (order_ev p (by omega)) (Evn.bind (ranks_ev p (by omega)) (Evn.pos (by simp; omega) (Evn.bind (Evn.ret _) ?_)))
  rw [List.nil_append]
  refine Evn.pos (by omega) (Evn.bind (ranks_ev (p ++ p) (by rw [List.length_append]; omega)) (Evn.pos (by omega) (Evn.pos (by omega) ?_)))
  rw [show (((ranks (p ++ p)).length : Int) != wrap64 (2 * (p.length : Int))) = false from by rw [wrap_id (by omega) (by omega), ranks_length, List.length_append]; simp; omega]
  refine Evn.step ?_; simp only [parquetlaw07_SortsJoins.j1]
  refine Evn.neg (by simp) (Evn.bind (sortP a.length a (Nat.le_refl _) (by omega)) (Evn.bind (sortP b.length b (Nat.le_refl _) (by omega)) (Evn.bind (mergeP _ _ (by rw [srt_length, srt_length]; omega)) ?_)))
  rw [hst]
  refine Evn.pos (by rw [List.length_map]; omega) ?_
  have loop : ∀ d s : Nat, s + d = p.length → Evn (fun k => parquetlaw07_SortsJoins.l0 k p (ord p) (ranks p) (ranks (p ++ p)) ((ord p).map (rd_T28 p)) (s : Int)) true := by
    intro d
    induction d with
    | zero =>
      intro s hs
      refine Evn.step ?_; simp only [parquetlaw07_SortsJoins.l0]
      refine Evn.neg (by omega) (Evn.pos (by omega) (Evn.pos (by rw [ranks_length, List.length_append]; omega) ?_))
      rw [Int.toNat_natCast, ranks_twice, List.take_left' hR, List.drop_left' hR]
      refine Evn.bind (same_ev _ _ (by omega)) (Evn.pos (by simp) (Evn.bind (same_ev _ _ (by omega)) (Evn.pos (by simp) (Evn.bind (refRanks_ev p (by omega)) (Evn.bind (same_ev _ _ (by omega)) (Evn.pos (by simp) (Evn.bind known_ev (Evn.ret _))))))))
    | succ d ih =>
      intro s hs
      refine Evn.step ?_; simp only [parquetlaw07_SortsJoins.l0]
      have b1 := ord_in p (s := s) (by omega)
      have hm : rd_T28 ((ord p).map (rd_T28 p)) (s : Int) = rd_T28 p ((ord p)[s]'(by omega)) := by
        rw [rd_getElem _ s (by rw [List.length_map]; omega), List.getElem_map]
      rw [rdI_getElem (ord p) s (by omega), hm]
      refine Evn.pos (by omega) (Evn.pos (by omega) (Evn.pos (by omega) (Evn.neg (by omega) (Evn.neg (by omega) (Evn.pos (by rw [List.length_map]; omega) (Evn.pos b1.1 (Evn.pos b1.2 (Evn.pos (eqB.2 rfl) ?_))))))))
      rw [wrap_id (by omega) (by omega)]
      exact ih (s + 1) (by omega)
  exact loop p.length 0 (by omega)
end Go.Proofs.Ytfmeicojiadeiaa.Pure
