import Derived.Test.YtfmeicojiadeiaaS
set_option linter.unusedSimpArgs false
namespace Go.Proofs.Ytfmeicojiadeiaa.Pure
open PL Go.RowKit Go.Proofs.YtfmeicojiadeiaaW.PrintWords Go.Proofs.YtfmeicojiadeiaaW.PrintLast Go.Proofs.YtfmeicojiadeiaaW.PrintMore Go.Proofs.Ytfmeicojiadeiaa.P

theorem SortsMerges : parquetlaw07_SortsMerges.Pure := by
  intro a b _ _
  refine Evn.get ?_
  have done_ : Evn (fun k => parquetlaw07_SortsMerges.j0 k a b true) true := by
    refine Evn.step ?_; simp only [parquetlaw07_SortsMerges.j0]
    exact Evn.pos trivial (Evn.bind known_ev (Evn.ret _))
  unfold parquetlaw07_SortsMerges.f
  refine Evn.ite (fun _ => done_) fun ha => ?_
  by_cases hb : (b.length : Int) > 200
  · rw [show decide ((b.length : Int) > 200) = true from decide_eq_true hb]; exact done_
  rw [show decide ((b.length : Int) > 200) = false from decide_eq_false hb]
  have ha' : a.length ≤ 200 := by omega
  have hb' : b.length ≤ 200 := by omega
  refine Evn.step ?_; simp only [parquetlaw07_SortsMerges.j0]
  refine Evn.neg (by simp) ?_
  refine Evn.bind (merge_int _ ltD a b (fun x _ y _ => digits_f y x) (by omega)) (Evn.bind (refMerge_ev a b (by omega) (by omega)) (Evn.bind (same_ev _ _ (by rw [mrg_length]; omega)) (Evn.pos (by simp) (Evn.bind (sort_int _ ltD a.length a (Nat.le_refl _) (fun x _ y _ => digits_f x y) (by omega)) (Evn.pos (by rw [srt_length]) ?_)))))
  have outer : ∀ d n : Nat, n + d = 10 → Evn (fun k => parquetlaw07_SortsMerges.l0 k a (srt ltD a.length a) (bkt a n) (n : Int)) true := by
    intro d
    induction d with
    | zero =>
      intro n hn
      obtain rfl : n = 10 := by omega
      refine Evn.step ?_; simp only [parquetlaw07_SortsMerges.l0]
      refine Evn.neg (by omega) (Evn.bind (same_ev _ _ (by rw [srt_length]; omega)) (Evn.pos (by simp [sorted_bkt]) (Evn.bind known_ev (Evn.ret _))))
    | succ d ih =>
      intro n hn
      have hbl := bkt_length a n
      have hbl2 : n * a.length ≤ 10 * 200 := Nat.mul_le_mul (by omega) ha'
      have inner : ∀ e i : Nat, i + e = a.length → Evn (fun k => parquetlaw07_SortsMerges.l1 k a (srt ltD a.length a) (bkt a n ++ (a.take i).filter fun x => decide (dig x = n)) (n : Int) (i : Int)) true := by
        intro e
        induction e with
        | zero =>
          intro i hi
          refine Evn.step ?_; simp only [parquetlaw07_SortsMerges.l1]
          refine Evn.neg (by omega) ?_
          rw [wrap_id (by omega) (by omega), List.take_of_length_le (by omega)]
          exact ih (n + 1) (by omega)
        | succ e ih2 =>
          intro i hi
          refine Evn.step ?_; simp only [parquetlaw07_SortsMerges.l1]
          have hfl := List.length_filter_le (fun x => decide (dig x = (n : Int))) (a.take i)
          rw [List.length_take] at hfl
          refine Evn.pos (by omega) (Evn.pos (by omega) (Evn.bind (Evn.const (digit_f _)) ?_))
          rw [rdI_getElem a i (by omega), wrap_id (by omega) (by omega)]
          have := ih2 (i + 1) (by omega)
          rw [List.take_succ_eq_append_getElem (by omega), List.filter_append, List.filter_cons, List.filter_nil] at this
          refine Evn.ite (fun h => Evn.pos (by rw [List.length_append]; omega) ?_) (fun h => ?_)
          · simp only [h, decide_true, ite_true, if_pos, cond_true] at this
            rw [List.append_assoc]
            exact this
          · simp only [h, decide_false, Bool.false_eq_true, if_false, cond_false, List.append_nil] at this
            exact this
      refine Evn.step ?_; simp only [parquetlaw07_SortsMerges.l0]
      refine Evn.pos (by omega) ?_
      have := inner a.length 0 (by omega)
      simp only [List.take_zero, List.filter_nil, List.append_nil] at this
      exact this
  exact outer 10 0 (by omega)
end Go.Proofs.Ytfmeicojiadeiaa.Pure
