/- The document's order and ranks: what the printed functions come to. -/
import Derived.Test.YtfmeicojiadeiaaPx8
import Derived.Test.YtfmeicojiadeiaaQ
set_option linter.unusedSimpArgs false
namespace Go.Proofs.Ytfmeicojiadeiaa.Pure
open PL Go.RowKit Go.Proofs.YtfmeicojiadeiaaW.PrintWords Go.Proofs.YtfmeicojiadeiaaW.PrintLast Go.Proofs.YtfmeicojiadeiaaW.PrintMore Go.Proofs.Ytfmeicojiadeiaa.P
/-! ### the document's order and ranks -/
theorem lay_drop (p : List S28) (i : Int) (out : List Int) (n : Nat) : n ≤ out.length → (∀ y ∈ out.take n, ltI p i y = false) → lay (ltI p) i out = out.take n ++ lay (ltI p) i (out.drop n) := by
  induction out generalizing n with
  | nil => intro h _; simp at h; subst h; simp
  | cons y out ih =>
    intro h hy
    cases n with
    | zero => simp
    | succ n =>
      simp only [List.take_succ_cons, List.drop_succ_cons, List.cons_append]
      rw [lay, if_neg (by rw [hy y (by simp)]; simp), ih n (by simpa using h) (fun z hz => hy z (by simp [hz]))]
def lays (p : List S28) : Nat → List Int
  | 0 => []
  | n + 1 => lay (ltI p) (n : Int) (lays p n)
theorem lays_stable (p : List S28) : ∀ n, Stable (ltI p) (idx n) (lays p n)
  | 0 => Stable.refl List.Pairwise.nil
  | n + 1 => by rw [idx_succ]; exact lay_stable (weakI p) (lays_stable p n) _
theorem lays_length (p : List S28) (n : Nat) : (lays p n).length = n := by rw [(lays_stable p n).perm.length_eq, idx_length]
theorem mem_lays {p : List S28} {n : Nat} {i : Int} : i ∈ lays p n ↔ 0 ≤ i ∧ i < n := (lays_stable p n).perm.mem_iff.trans mem_idx
theorem lays_all (p : List S28) : lays p p.length = ord p := Stable.unique (weakI p) (lays_stable p _) (ord_stable p)
theorem refOrder_ev (p : List S28) (hp : p.length ≤ 4294967296) : Evn (fun k => parquetref07_Order.f k p) (ord p) := by
  unfold parquetref07_Order.f
  have key : ∀ d i : Nat, i + d = p.length → Evn (fun k => parquetref07_Order.l0 k p (lays p i) (i : Int)) (ord p) := by
    intro d
    induction d with
    | zero =>
      intro i hi
      refine Evn.step ?_; simp only [parquetref07_Order.l0]
      refine Evn.neg (by omega) ((Evn.ret _).to ?_)
      rw [← lays_all, show i = p.length by omega]
    | succ d ih =>
      intro i hi
      refine Evn.step ?_; simp only [parquetref07_Order.l0]
      refine Evn.pos (by omega) ?_
      have ih' := ih (i + 1) (by omega)
      have hL := lays_length p i
      have inner : ∀ e n : Nat, n + e = i → (∀ y ∈ (lays p i).take n, ltI p i y = false) → Evn (fun k => parquetref07_Order.l1 k p (lays p i) (i : Int) ((lays p i).take n) (n : Int)) (ord p) := by
        intro e
        induction e with
        | zero =>
          intro n hn hy
          refine Evn.step ?_; simp only [parquetref07_Order.l1]
          refine Evn.neg (by omega) (Evn.pos (by rw [List.length_take]; omega) (Evn.bind (Evn.ret _) (Evn.pos (by omega) (Evn.pos (by omega) (Evn.bind (Evn.ret _) (Evn.pos (by simp; omega) ?_))))))
          rw [wrap_id (by omega) (by omega), Int.toNat_natCast]
          have hl := lay_drop p i (lays p i) n (by omega) hy
          rw [List.drop_of_length_le (by omega), lay] at hl
          rw [List.drop_of_length_le (by omega), List.append_nil, ← hl]
          exact ih'
        | succ e ih2 =>
          intro n hn hy
          have hnl : n < (lays p i).length := by omega
          have hmem : (lays p i)[n] ∈ lays p i := List.getElem_mem _
          rw [mem_lays] at hmem
          refine Evn.step ?_; simp only [parquetref07_Order.l1]
          refine Evn.pos (by omega) (Evn.pos (by omega) (Evn.pos (by omega) (Evn.pos (by omega) ?_)))
          rw [rdI_getElem _ n hnl]
          refine Evn.pos (by omega) (Evn.pos (by omega) (Evn.bind (Evn.const (refLess_f _ _)) ?_))
          refine Evn.ite (fun he => Evn.pos (by rw [List.length_take]; omega) (Evn.bind (Evn.ret _) (Evn.pos (by omega) (Evn.bind (Evn.ret _) (Evn.pos (by simp; omega) ?_))))) (fun he => Evn.pos (by rw [List.length_take]; omega) ?_)
          · rw [wrap_id (by omega) (by omega), Int.toNat_natCast]
            have hl := lay_drop p i (lays p i) n (by omega) hy
            have he' : ltI p i (lays p i)[n] = true := he
            rw [List.drop_eq_getElem_cons hnl, lay, if_pos he'] at hl
            rw [List.drop_eq_getElem_cons hnl, List.append_assoc, List.singleton_append, ← hl]
            exact ih'
          · rw [wrap_id (by omega) (by omega), ← List.take_succ_eq_append_getElem hnl]
            refine ih2 (n + 1) (by omega) fun y hyy => ?_
            rw [List.take_succ_eq_append_getElem hnl] at hyy
            rcases List.mem_append.1 hyy with h | h
            · exact hy y h
            · rw [List.mem_singleton.1 h]; exact Bool.eq_false_iff.mpr he
      exact inner i 0 (by omega) (by simp)
  exact key p.length 0 (by omega)
theorem refRanks_ev (p : List S28) (hp : p.length ≤ 4294967296) : Evn (fun k => parquetref07_Ranks.f k p) (ranks p) := by
  unfold parquetref07_Ranks.f
  have key : ∀ d i : Nat, i + d = p.length → Evn (fun k => parquetref07_Ranks.l0 k p ((ranks p).take i) (i : Int)) (ranks p) := by
    intro d
    have hL := ranks_length p
    induction d with
    | zero =>
      intro i hi
      refine Evn.step ?_; simp only [parquetref07_Ranks.l0]
      exact Evn.neg (by omega) ((Evn.ret _).to (List.take_of_length_le (by omega)))
    | succ d ih =>
      intro i hi
      refine Evn.step ?_; simp only [parquetref07_Ranks.l0]
      refine Evn.pos (by omega) ?_
      have ih' := ih (i + 1) (by omega)
      have mid : ∀ e m : Nat, m + e = p.length → Evn (fun k => parquetref07_Ranks.l1 k p ((ranks p).take i) (i : Int) (cnt p (rd_T28 p (i : Nat)) m : Nat) (m : Int)) (ranks p) := by
        intro e
        induction e with
        | zero =>
          intro m hm
          refine Evn.step ?_; simp only [parquetref07_Ranks.l1]
          refine Evn.neg (by omega) (Evn.pos (by rw [List.length_take]; omega) ?_)
          rw [wrap_id (by omega) (by omega)]
          rw [List.take_succ_eq_append_getElem (by omega)] at ih'
          have : (ranks p)[i]'(by omega) = ((cnt p (rd_T28 p (i : Nat)) m : Nat) : Int) := by simp [ranks, rk, show m = p.length by omega]
          rw [this] at ih'
          exact ih'
        | succ e ih2 =>
          intro m hm
          refine Evn.step ?_; simp only [parquetref07_Ranks.l1]
          refine Evn.pos (by omega) (Evn.pos (by omega) (Evn.pos (by omega) (Evn.pos (by omega) (Evn.bind (Evn.const (refLess_f _ _)) ?_))))
          have ih2' := ih2 (m + 1) (by omega)
          rw [cnt_succ] at ih2'
          have hc := cnt_le p (rd_T28 p (i : Nat)) m
          have inner : ∀ g j : Nat, j + g = m → ∀ b : Bool, (b && (List.range m).all fun (j' : Nat) => decide (j' < j) || !decide (rd_T28 p j' = rd_T28 p m)) = (ltP (rd_T28 p m) (rd_T28 p (i : Nat)) && firstB p m) →
              Evn (fun k => parquetref07_Ranks.l2 k p ((ranks p).take i) (i : Int) (cnt p (rd_T28 p (i : Nat)) m : Nat) (m : Int) b (j : Int)) (ranks p) := by
            intro g
            induction g with
            | zero =>
              intro j hj b hb
              have hall : ((List.range m).all fun (j' : Nat) => decide (j' < j) || !decide (rd_T28 p j' = rd_T28 p m)) = true := by
                rw [List.all_eq_true]; intro x hx; rw [List.mem_range] at hx; simp; omega
              rw [hall, Bool.and_true] at hb
              refine Evn.step ?_; simp only [parquetref07_Ranks.l2]
              refine Evn.neg (by omega) (Evn.ite (fun h => ?_) (fun h => ?_))
              · rw [wrap_id (by omega) (by omega), wrap_id (by omega) (by omega)]
                rw [if_pos (by rw [← hb]; exact h)] at ih2'
                exact ih2'
              · rw [wrap_id (by omega) (by omega)]
                rw [if_neg (by rw [← hb]; exact h)] at ih2'
                exact ih2'
            | succ g ih3 =>
              intro j hj b hb
              have hall : ((List.range m).all fun (j' : Nat) => decide (j' < j) || !decide (rd_T28 p j' = rd_T28 p m)) = (!decide (rd_T28 p (j : Nat) = rd_T28 p m) && ((List.range m).all fun (j' : Nat) => decide (j' < j + 1) || !decide (rd_T28 p j' = rd_T28 p m))) := by
                rw [Bool.eq_iff_iff]
                simp only [List.all_eq_true, Bool.and_eq_true, Bool.or_eq_true, decide_eq_true_eq, Bool.not_eq_true', decide_eq_false_iff_not, List.mem_range]
                constructor
                · intro h
                  refine ⟨?_, fun x hx => ?_⟩
                  · rcases h j (by omega) with q | q
                    · omega
                    · exact q
                  · rcases h x hx with q | q
                    · left; omega
                    · exact .inr q
                · rintro ⟨h1, h2⟩ x hx
                  rcases h2 x hx with q | q
                  · by_cases e : x = j
                    · subst e; exact .inr h1
                    · left; omega
                  · exact .inr q
              rw [hall] at hb
              refine Evn.step ?_; simp only [parquetref07_Ranks.l2]
              refine Evn.pos (by omega) (Evn.ite (fun h => Evn.pos (by omega) (Evn.pos (by omega) (Evn.pos (by omega) (Evn.pos (by omega) ?_)))) (fun h => ?_))
              · rw [wrap_id (by omega) (by omega)]
                refine ih3 (j + 1) (by omega) _ ?_
                rw [← hb, h, Bool.true_and]
                congr 1
                rw [Bool.eq_iff_iff, neB]; simp
              · rw [wrap_id (by omega) (by omega)]
                refine ih3 (j + 1) (by omega) _ ?_
                rw [← hb]; simp at h; rw [h]; simp
          refine inner m 0 (by omega) _ ?_
          simp [firstB]
      exact mid p.length 0 (by omega)
  exact key p.length 0 (by omega)
end Go.Proofs.Ytfmeicojiadeiaa.Pure
