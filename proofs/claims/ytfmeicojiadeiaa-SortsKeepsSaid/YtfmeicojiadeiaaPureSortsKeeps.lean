import Derived.Test.YtfmeicojiadeiaaPx14
import Derived.Test.YtfmeicojiadeiaaS
set_option linter.unusedSimpArgs false
namespace Go.Proofs.Ytfmeicojiadeiaa.Pure
open PL Go.RowKit Go.Proofs.YtfmeicojiadeiaaW.PrintWords Go.Proofs.YtfmeicojiadeiaaW.PrintLast Go.Proofs.YtfmeicojiadeiaaW.PrintMore Go.Proofs.Ytfmeicojiadeiaa.P

theorem always_f (x y : Int) : parquetlaw07_always.f x y = some ((fun _ _ => true : Int → Int → Bool) x y) := rfl

theorem Keeps_true (a b : List Int) (q : Bool) : Evn (fun k => parquetlaw07_SortsKeeps_true.f k a b q) true := by
  have done_ : Evn (fun k => parquetlaw07_SortsKeeps_true.j0 k a b true) true := by
    refine Evn.step ?_; simp only [parquetlaw07_SortsKeeps_true.j0]
    exact Evn.pos trivial (Evn.bind known_ev (Evn.ret _))
  unfold parquetlaw07_SortsKeeps_true.f
  refine Evn.ite (fun _ => done_) fun ha => ?_
  by_cases hb : (b.length : Int) > 100
  · rw [show decide ((b.length : Int) > 100) = true from decide_eq_true hb]; exact done_
  rw [show decide ((b.length : Int) > 100) = false from decide_eq_false hb]
  have ha' : a.length ≤ 100 := by omega
  have hb' : b.length ≤ 100 := by omega
  refine Evn.step ?_; simp only [parquetlaw07_SortsKeeps_true.j0]
  refine Evn.neg (by simp) (Evn.pos (by simp; omega) (Evn.bind (Evn.ret _) ?_))
  rw [List.nil_append]
  have hm := mrg_perm (lt := (fun _ _ => true : Int → Int → Bool)) a b
  have hs := srt_perm (lt := (fun _ _ => true : Int → Int → Bool)) a.length a
  refine Evn.bind (merge_int _ (fun _ _ => true : Int → Int → Bool) a b (fun x _ y _ => always_f y x) (by omega)) (Evn.bind (sort_int _ (fun _ _ => true : Int → Int → Bool) a.length a (Nat.le_refl _) (fun x _ y _ => always_f x y) (by omega)) (Evn.pos (by rw [mrg_length, wrap_id (by omega) (by omega)]; omega) ?_))
  rw [show ((((srt (fun _ _ => true : Int → Int → Bool) a.length a).length : Int) != (a.length : Int)) = false) from by rw [srt_length]; simp]
  refine Evn.step ?_; simp only [parquetlaw07_SortsKeeps_true.j1]
  refine Evn.neg (by simp) ?_
  have last : ∀ d i : Nat, ∀ s : List Int, i + d = s.length → s.length ≤ 100 → Evn (fun k => parquetlaw07_SortsKeeps_true.l2 k a a s (i : Int)) true := by
    intro d
    induction d with
    | zero =>
      intro i s hi hl
      refine Evn.step ?_; simp only [parquetlaw07_SortsKeeps_true.l2]
      exact Evn.neg (by omega) (Evn.bind (same_ev _ _ (by omega)) (Evn.pos (by simp) (Evn.bind known_ev (Evn.ret _))))
    | succ d ih =>
      intro i s hi hl
      refine Evn.step ?_; simp only [parquetlaw07_SortsKeeps_true.l2]
      refine Evn.pos (by omega) (Evn.pos (by omega) ?_)
      rw [wrap_id (by omega) (by omega)]
      exact ih (i + 1) _ (by rw [List.length_set]; omega) (by rw [List.length_set]; omega)
  have mid : ∀ d i : Nat, ∀ m : List Int, i + d = m.length → m.length ≤ 200 → Evn (fun k => parquetlaw07_SortsKeeps_true.l1 k a a m (srt (fun _ _ => true : Int → Int → Bool) a.length a) (i : Int)) true := by
    intro d
    induction d with
    | zero =>
      intro i m hi hl
      refine Evn.step ?_; simp only [parquetlaw07_SortsKeeps_true.l1]
      exact Evn.neg (by omega) (last (srt (fun _ _ => true : Int → Int → Bool) a.length a).length 0 _ (by omega) (by rw [srt_length]; omega))
    | succ d ih =>
      intro i m hi hl
      refine Evn.step ?_; simp only [parquetlaw07_SortsKeeps_true.l1]
      refine Evn.pos (by omega) (Evn.pos (by omega) ?_)
      rw [wrap_id (by omega) (by omega)]
      exact ih (i + 1) _ (by rw [List.length_set]; omega) (by rw [List.length_set]; omega)
  have first_ : ∀ d i : Nat, i + d = a.length → Evn (fun k => parquetlaw07_SortsKeeps_true.l0 k a b a (mrg (fun _ _ => true : Int → Int → Bool) a b) (srt (fun _ _ => true : Int → Int → Bool) a.length a) (i : Int)) true := by
    intro d
    induction d with
    | zero =>
      intro i hi
      refine Evn.step ?_; simp only [parquetlaw07_SortsKeeps_true.l0]
      refine Evn.neg (by omega) ?_
      exact mid (mrg (fun _ _ => true : Int → Int → Bool) a b).length 0 _ (by omega) (by rw [mrg_length]; omega)
    | succ d ih =>
      intro i hi
      refine Evn.step ?_; simp only [parquetlaw07_SortsKeeps_true.l0]
      refine Evn.pos (by omega) (Evn.pos (by omega) ?_)
      generalize rd a (i : Int) = x
      have c1 : a.count x ≤ a.length := List.count_le_length
      have c2 : b.count x ≤ b.length := List.count_le_length
      have e1 : (mrg (fun _ _ => true : Int → Int → Bool) a b).count x = a.count x + b.count x := by rw [hm.count_eq, List.count_append]
      have e2 : (srt (fun _ _ => true : Int → Int → Bool) a.length a).count x = a.count x := hs.count_eq x
      refine Evn.bind (count_ev _ x (by rw [mrg_length]; omega)) (Evn.bind (count_ev _ x (by omega)) (Evn.bind (count_ev _ x (by omega)) (Evn.pos (by rw [wrap_id (by omega) (by omega)]; omega) (Evn.bind (count_ev _ x (by rw [srt_length]; omega)) (Evn.bind (count_ev _ x (by omega)) (Evn.pos (by omega) ?_))))))
      rw [wrap_id (by omega) (by omega)]
      exact ih (i + 1) (by omega)
  exact first_ a.length 0 (by omega)

theorem Keeps_false (a b : List Int) (q : Bool) : Evn (fun k => parquetlaw07_SortsKeeps_false.f k a b q) true := by
  have done_ : Evn (fun k => parquetlaw07_SortsKeeps_false.j0 k a b true) true := by
    refine Evn.step ?_; simp only [parquetlaw07_SortsKeeps_false.j0]
    exact Evn.pos trivial (Evn.bind known_ev (Evn.ret _))
  unfold parquetlaw07_SortsKeeps_false.f
  refine Evn.ite (fun _ => done_) fun ha => ?_
  by_cases hb : (b.length : Int) > 100
  · rw [show decide ((b.length : Int) > 100) = true from decide_eq_true hb]; exact done_
  rw [show decide ((b.length : Int) > 100) = false from decide_eq_false hb]
  have ha' : a.length ≤ 100 := by omega
  have hb' : b.length ≤ 100 := by omega
  refine Evn.step ?_; simp only [parquetlaw07_SortsKeeps_false.j0]
  refine Evn.neg (by simp) (Evn.pos (by simp; omega) (Evn.bind (Evn.ret _) ?_))
  rw [List.nil_append]
  have hm := mrg_perm (lt := ltD) a b
  have hs := srt_perm (lt := ltD) a.length a
  refine Evn.bind (merge_int _ ltD a b (fun x _ y _ => digits_f y x) (by omega)) (Evn.bind (sort_int _ ltD a.length a (Nat.le_refl _) (fun x _ y _ => digits_f x y) (by omega)) (Evn.pos (by rw [mrg_length, wrap_id (by omega) (by omega)]; omega) ?_))
  rw [show ((((srt ltD a.length a).length : Int) != (a.length : Int)) = false) from by rw [srt_length]; simp]
  refine Evn.step ?_; simp only [parquetlaw07_SortsKeeps_false.j1]
  refine Evn.neg (by simp) ?_
  have last : ∀ d i : Nat, ∀ s : List Int, i + d = s.length → s.length ≤ 100 → Evn (fun k => parquetlaw07_SortsKeeps_false.l2 k a a s (i : Int)) true := by
    intro d
    induction d with
    | zero =>
      intro i s hi hl
      refine Evn.step ?_; simp only [parquetlaw07_SortsKeeps_false.l2]
      exact Evn.neg (by omega) (Evn.bind (same_ev _ _ (by omega)) (Evn.pos (by simp) (Evn.bind known_ev (Evn.ret _))))
    | succ d ih =>
      intro i s hi hl
      refine Evn.step ?_; simp only [parquetlaw07_SortsKeeps_false.l2]
      refine Evn.pos (by omega) (Evn.pos (by omega) ?_)
      rw [wrap_id (by omega) (by omega)]
      exact ih (i + 1) _ (by rw [List.length_set]; omega) (by rw [List.length_set]; omega)
  have mid : ∀ d i : Nat, ∀ m : List Int, i + d = m.length → m.length ≤ 200 → Evn (fun k => parquetlaw07_SortsKeeps_false.l1 k a a m (srt ltD a.length a) (i : Int)) true := by
    intro d
    induction d with
    | zero =>
      intro i m hi hl
      refine Evn.step ?_; simp only [parquetlaw07_SortsKeeps_false.l1]
      exact Evn.neg (by omega) (last (srt ltD a.length a).length 0 _ (by omega) (by rw [srt_length]; omega))
    | succ d ih =>
      intro i m hi hl
      refine Evn.step ?_; simp only [parquetlaw07_SortsKeeps_false.l1]
      refine Evn.pos (by omega) (Evn.pos (by omega) ?_)
      rw [wrap_id (by omega) (by omega)]
      exact ih (i + 1) _ (by rw [List.length_set]; omega) (by rw [List.length_set]; omega)
  have first_ : ∀ d i : Nat, i + d = a.length → Evn (fun k => parquetlaw07_SortsKeeps_false.l0 k a b a (mrg ltD a b) (srt ltD a.length a) (i : Int)) true := by
    intro d
    induction d with
    | zero =>
      intro i hi
      refine Evn.step ?_; simp only [parquetlaw07_SortsKeeps_false.l0]
      refine Evn.neg (by omega) ?_
      have hso : Sorted ltD (srt ltD a.length a) := (srt_stable weakD _ _ (Nat.le_refl _)).sorted
      have he : srt ltD a.length (srt ltD a.length a) = srt ltD a.length a := Stable.unique weakD (srt_stable weakD _ _ (by rw [srt_length]; exact Nat.le_refl _)) (Stable.refl hso)
      refine Evn.bind (sort_int _ ltD a.length _ (by rw [srt_length]; exact Nat.le_refl _) (fun x _ y _ => digits_f x y) (by rw [srt_length]; omega)) (Evn.bind (same_ev _ _ (by rw [srt_length, srt_length]; omega)) (Evn.pos (by simp [he]) ?_))
      exact mid (mrg ltD a b).length 0 _ (by omega) (by rw [mrg_length]; omega)
    | succ d ih =>
      intro i hi
      refine Evn.step ?_; simp only [parquetlaw07_SortsKeeps_false.l0]
      refine Evn.pos (by omega) (Evn.pos (by omega) ?_)
      generalize rd a (i : Int) = x
      have c1 : a.count x ≤ a.length := List.count_le_length
      have c2 : b.count x ≤ b.length := List.count_le_length
      have e1 : (mrg ltD a b).count x = a.count x + b.count x := by rw [hm.count_eq, List.count_append]
      have e2 : (srt ltD a.length a).count x = a.count x := hs.count_eq x
      refine Evn.bind (count_ev _ x (by rw [mrg_length]; omega)) (Evn.bind (count_ev _ x (by omega)) (Evn.bind (count_ev _ x (by omega)) (Evn.pos (by rw [wrap_id (by omega) (by omega)]; omega) (Evn.bind (count_ev _ x (by rw [srt_length]; omega)) (Evn.bind (count_ev _ x (by omega)) (Evn.pos (by omega) ?_))))))
      rw [wrap_id (by omega) (by omega)]
      exact ih (i + 1) (by omega)
  exact first_ a.length 0 (by omega)

theorem SortsKeeps : parquetlaw07_SortsKeeps.Pure := by
  intro a b q _ _
  refine Evn.get ?_
  unfold parquetlaw07_SortsKeeps.f
  exact Evn.ite (fun _ => Keeps_true a b q) (fun _ => Keeps_false a b q)
end Go.Proofs.Ytfmeicojiadeiaa.Pure
