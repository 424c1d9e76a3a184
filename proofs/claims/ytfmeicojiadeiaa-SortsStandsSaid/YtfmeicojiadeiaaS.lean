/- Digits, the document's merging, counting: what the printed functions come to. -/
import Derived.Test.YtfmeicojiadeiaaPx12
import Derived.Test.YtfmeicojiadeiaaQ
set_option linter.unusedSimpArgs false
namespace Go.Proofs.Ytfmeicojiadeiaa.Pure
open PL Go.RowKit Go.Proofs.YtfmeicojiadeiaaW.PrintWords Go.Proofs.YtfmeicojiadeiaaW.PrintLast Go.Proofs.YtfmeicojiadeiaaW.PrintMore Go.Proofs.Ytfmeicojiadeiaa.P

def dig (a : Int) : Int := if Int.tmod a 10 < 0 then -(Int.tmod a 10) else Int.tmod a 10
theorem tmod10 (a : Int) : -10 < Int.tmod a 10 ∧ Int.tmod a 10 < 10 := ⟨by have := Int.lt_tmod_of_pos a (b := 10) (by omega); omega, Int.tmod_lt_of_pos a (by omega)⟩
theorem dig_range (a : Int) : 0 ≤ dig a ∧ dig a < 10 := by have := tmod10 a; unfold dig; split <;> omega
theorem digit_f (a : Int) : parquetref07_Digit.f a = some (dig a) := by
  have := tmod10 a
  unfold parquetref07_Digit.f dig
  split
  · rw [wrap_id (by omega) (by omega)]
  · rfl
def ltD (a b : Int) : Bool := decide (dig a < dig b)
theorem digits_f (a b : Int) : parquetlaw07_digits.f a b = some (ltD a b) := by
  unfold parquetlaw07_digits.f
  rw [digit_f, digit_f]; rfl
theorem weakD : Weak ltD where
  asymm := by intro x y h; simp [ltD] at h ⊢; omega
  neg := by intro x y z h1 h2; simp [ltD] at h1 h2 ⊢; omega
theorem eqvD {a b : Int} : eqv ltD a b = decide (dig b = dig a) := by
  simp only [eqv, ltD]
  by_cases h : dig b = dig a
  · simp [h]
  · simp only [h, decide_false]
    by_cases h1 : dig a < dig b
    · simp [h1]
    · have : dig b < dig a := by omega
      simp [this]
theorem refMerge_ev (a b : List Int) (ha : a.length ≤ 4294967296) (hb : b.length ≤ 4294967296) : Evn (fun k => parquetref07_Merge.f k a b) (mrg ltD a b) := by
  unfold parquetref07_Merge.f
  have key : ∀ d i j : Nat, (a.length - i) + (b.length - j) = d → i ≤ a.length → j ≤ b.length → ∀ out : List Int, out.length = i + j → Evn (fun k => parquetref07_Merge.l0 k a b out (i : Int) (j : Int)) (out ++ mrg ltD (a.drop i) (b.drop j)) := by
    intro d
    induction d with
    | zero =>
      intro i j hd hi hj out ho
      refine Evn.step ?_; simp only [parquetref07_Merge.l0]
      refine Evn.neg (by omega) ?_
      refine Evn.step ?_; simp only [parquetref07_Merge.j1]
      refine Evn.neg (by simp) (Evn.pos (by omega) (Evn.pos (by omega) (Evn.pos (by rw [List.length_drop]; omega) (Evn.bind (Evn.ret _) (Evn.pos (by omega) (Evn.pos (by omega) (Evn.pos (by rw [List.length_append, List.length_drop, List.length_drop]; omega) ((Evn.ret _).to ?_))))))))
      rw [Int.toNat_natCast, Int.toNat_natCast, List.drop_of_length_le (l := a) (by omega), List.drop_of_length_le (l := b) (by omega), mrg_nil]
      simp
    | succ d ih =>
      intro i j hd hi hj out ho
      refine Evn.step ?_; simp only [parquetref07_Merge.l0]
      by_cases hia : i < a.length
      · refine Evn.pos (by omega) ?_
        refine Evn.step ?_; simp only [parquetref07_Merge.j1]
        by_cases hjb : j < b.length
        · refine Evn.pos (by simp; omega) (Evn.pos (by omega) (Evn.pos (by omega) (Evn.bind (Evn.const (digit_f _)) (Evn.pos (by omega) (Evn.pos (by omega) (Evn.bind (Evn.const (digit_f _)) ?_))))))
          rw [rdI_getElem a i hia, rdI_getElem b j hjb, List.drop_eq_getElem_cons hia, List.drop_eq_getElem_cons hjb]
          refine Evn.ite (fun h => Evn.pos (by omega) ?_) (fun h => Evn.pos (by omega) ?_)
          · have h' : ltD b[j] a[i] = true := by simpa [ltD] using h
            rw [wrap_id (by omega) (by omega), mrg, if_pos h']
            have := ih i (j + 1) (by omega) hi (by omega) (out ++ [b[j]]) (by simp; omega)
            rw [List.drop_eq_getElem_cons hia, List.append_assoc, List.singleton_append] at this
            exact this
          · have h' : ¬ ltD b[j] a[i] = true := by simpa [ltD] using h
            rw [wrap_id (by omega) (by omega), mrg, if_neg h']
            have := ih (i + 1) j (by omega) (by omega) hj (out ++ [a[i]]) (by simp; omega)
            rw [List.drop_eq_getElem_cons hjb, List.append_assoc, List.singleton_append] at this
            exact this
        · refine Evn.neg (by simp; omega) (Evn.pos (by omega) (Evn.pos (by omega) (Evn.pos (by rw [List.length_drop]; omega) (Evn.bind (Evn.ret _) (Evn.pos (by omega) (Evn.pos (by omega) (Evn.pos (by rw [List.length_append, List.length_drop, List.length_drop]; omega) ((Evn.ret _).to ?_))))))))
          rw [Int.toNat_natCast, Int.toNat_natCast, List.drop_of_length_le (l := b) (by omega), mrg_nil']
          simp
      · refine Evn.neg (by omega) ?_
        refine Evn.step ?_; simp only [parquetref07_Merge.j1]
        refine Evn.neg (by simp) (Evn.pos (by omega) (Evn.pos (by omega) (Evn.pos (by rw [List.length_drop]; omega) (Evn.bind (Evn.ret _) (Evn.pos (by omega) (Evn.pos (by omega) (Evn.pos (by rw [List.length_append, List.length_drop, List.length_drop]; omega) ((Evn.ret _).to ?_))))))))
        rw [Int.toNat_natCast, Int.toNat_natCast, List.drop_of_length_le (l := a) (by omega), mrg_nil]
        simp
  exact key _ 0 0 rfl (by omega) (by omega) [] rfl

/-! ### buckets -/
def bkt (l : List Int) : Nat → List Int
  | 0 => []
  | n + 1 => bkt l n ++ l.filter fun x => decide (dig x = n)
theorem bkt_lt (l : List Int) : ∀ n : Nat, ∀ x ∈ bkt l n, dig x < n
  | 0, x, h => by simp [bkt] at h
  | n + 1, x, h => by
    rw [bkt, List.mem_append] at h
    rcases h with h | h
    · have := bkt_lt l n x h; omega
    · simp at h; omega
theorem bkt_sorted (l : List Int) : ∀ n : Nat, Sorted ltD (bkt l n)
  | 0 => List.Pairwise.nil
  | n + 1 => by
    refine List.pairwise_append.2 ⟨bkt_sorted l n, ?_, ?_⟩
    · refine List.Pairwise.imp_of_mem (R := fun _ _ => True) (fun {x y} hx hy _ => ?_) (List.pairwise_of_forall (fun _ _ => trivial))
      simp at hx hy
      simp [ltD]; omega
    · intro x hx y hy
      have := bkt_lt l n x hx
      simp at hy
      simp [ltD]; omega
theorem bkt_filter (l : List Int) (c : Int) : ∀ n : Nat, (bkt l n).filter (eqv ltD c) = if dig c < n then l.filter (eqv ltD c) else []
  | 0 => by have := dig_range c; rw [if_neg (by omega)]; rfl
  | n + 1 => by
    rw [bkt, List.filter_append, bkt_filter l c n, List.filter_filter]
    have he : eqv ltD c = fun x => decide (dig x = dig c) := funext fun x => eqvD
    by_cases h : dig c < n
    · have h0 : l.filter (fun a => eqv ltD c a && decide (dig a = (n : Int))) = [] := List.filter_eq_nil_iff.2 fun x _ hx => by simp [he] at hx; omega
      rw [if_pos h, if_pos (by omega), h0, List.append_nil]
    · rw [if_neg h, List.nil_append]
      by_cases h2 : dig c = n
      · rw [if_pos (by omega)]
        refine List.filter_congr fun x _ => ?_
        simp [he]; omega
      · rw [if_neg (by omega), List.filter_eq_nil_iff]
        intro x _ hx
        simp [he] at hx; omega
theorem bkt_length (l : List Int) : ∀ n : Nat, (bkt l n).length ≤ n * l.length
  | 0 => by simp [bkt]
  | n + 1 => by
    rw [bkt, List.length_append, Nat.succ_mul]
    have := bkt_length l n
    have := List.length_filter_le (fun x => decide (dig x = n)) l
    omega
theorem sorted_bkt (l : List Int) : srt ltD l.length l = bkt l 10 := by
  refine Stable.unique_aux weakD (srt_stable weakD _ _ (Nat.le_refl _)).sorted (bkt_sorted l 10) fun c => ?_
  rw [(srt_stable weakD _ _ (Nat.le_refl _)).filt, bkt_filter, if_pos (by have := (dig_range c).2; omega)]

/-! ### counting -/
theorem count_ev (l : List Int) (x : Int) (hl : l.length ≤ 4294967296) : Evn (fun k => parquetlaw07_count.f k l x) ((l.count x : Nat) : Int) := by
  unfold parquetlaw07_count.f
  have key : ∀ d i : Nat, i + d = l.length → Evn (fun k => parquetlaw07_count.l0 k l x (((l.take i).count x : Nat) : Int) (i : Int)) ((l.count x : Nat) : Int) := by
    intro d
    induction d with
    | zero =>
      intro i hi
      refine Evn.step ?_; simp only [parquetlaw07_count.l0]
      exact Evn.neg (by omega) ((Evn.ret _).to (by rw [List.take_of_length_le (by omega)]))
    | succ d ih =>
      intro i hi
      refine Evn.step ?_; simp only [parquetlaw07_count.l0]
      refine Evn.pos (by omega) (Evn.pos (by omega) ?_)
      have := ih (i + 1) (by omega)
      have hc : (l.take i).count x ≤ i := Nat.le_trans List.count_le_length (by rw [List.length_take]; omega)
      rw [List.take_succ_eq_append_getElem (by omega), List.count_append, List.count_singleton] at this
      rw [rdI_getElem l i (by omega)]
      refine Evn.ite (fun h => ?_) (fun h => ?_)
      · rw [if_pos (by simpa using h)] at this
        rw [wrap_id (by omega) (by omega), wrap_id (by omega) (by omega)]
        exact this
      · rw [if_neg (by simpa using h)] at this
        rw [wrap_id (x := (i : Int) + 1) (by omega) (by omega)]
        exact this
  exact (key l.length 0 (by omega))
end Go.Proofs.Ytfmeicojiadeiaa.Pure
