import Derived.Test.YtfmeicojiadeiaaPx15
import Derived.Test.YtfmeicojiadeiaaS
set_option linter.unusedSimpArgs false
namespace Go.Proofs.Ytfmeicojiadeiaa.Pure
open PL Go.RowKit Go.Proofs.YtfmeicojiadeiaaW.PrintWords Go.Proofs.YtfmeicojiadeiaaW.PrintLast Go.Proofs.YtfmeicojiadeiaaW.PrintMore Go.Proofs.Ytfmeicojiadeiaa.P

theorem SortsStands : parquetlaw07_SortsStands.Pure := by
  intro p _
  refine Evn.get ?_
  unfold parquetlaw07_SortsStands.f
  refine Evn.ite (fun _ => Evn.bind known_ev (Evn.ret _)) fun hp => ?_
  have hp' : p.length ≤ 120 := by omega
  have hL := ord_length p
  have hR := ranks_length p
  refine Evn.bind (order_ev p (by omega)) (Evn.bind (ranks_ev p (by omega)) (Evn.pos (by omega) ?_))
  rw [show (((ranks p).length : Int) != (p.length : Int)) = false from by rw [hR]; simp]
  refine Evn.step ?_; simp only [parquetlaw07_SortsStands.j0]
  refine Evn.neg (by simp) ?_
  have l1 : ∀ d s : Nat, s + d = p.length ∨ (d = 0 ∧ p.length ≤ s ∧ s ≤ 1) → 1 ≤ s → Evn (fun k => parquetlaw07_SortsStands.l1 k p (ord p) (ranks p) (s : Int)) true := by
    intro d
    induction d with
    | zero =>
      intro s hs h1
      refine Evn.step ?_; simp only [parquetlaw07_SortsStands.l1]
      exact Evn.neg (by omega) (Evn.bind known_ev (Evn.ret _))
    | succ d ih =>
      intro s hs h1
      obtain ⟨m, rfl⟩ : ∃ m, s = m + 1 := ⟨s - 1, by omega⟩
      refine Evn.step ?_; simp only [parquetlaw07_SortsStands.l1]
      have w1 : wrap64 (((m + 1 : Nat) : Int) - 1) = (m : Int) := by rw [wrap_id (by omega) (by omega)]; omega
      have b1 := ord_in p (s := m) (by omega)
      have b2 := ord_in p (s := m + 1) (by omega)
      rw [w1, rdI_getElem (ord p) m (by omega), rdI_getElem (ord p) (m + 1) (by omega)]
      have hal := rk_along p (t := m) (by omega)
      have hle := ord_le p (s := m) (t := m + 1) (by omega) (by omega)
      have heq := ord_eq p (s := m) (t := m + 1) (by omega) (by omega)
      generalize (ord p)[m]'(by omega) = a at *
      generalize (ord p)[m + 1]'(by omega) = b at *
      obtain ⟨a', rfl⟩ := Int.eq_ofNat_of_zero_le b1.1
      obtain ⟨b', rfl⟩ := Int.eq_ofNat_of_zero_le b2.1
      have rb : rk p (rd_T28 p (b' : Int)) ≤ p.length := cnt_le _ _ _
      have ra : rk p (rd_T28 p (a' : Int)) ≤ p.length := cnt_le _ _ _
      refine Evn.pos (by omega) (Evn.pos (by omega) (Evn.pos (by omega) (Evn.pos (by omega) (Evn.pos b2.1 (Evn.pos (by omega) (Evn.pos b1.1 (Evn.pos (by omega) (Evn.pos b2.2 (Evn.pos b1.2 ?_)))))))))
      refine Evn.bind (Evn.const (refLess_f _ _)) (Evn.neg (by simp [hle]) ?_)
      rw [ranks_get p a' (by omega), ranks_get p b' (by omega), wrap_id (x := ((m + 1 : Nat) : Int) + 1) (by omega) (by omega), wrap_id (x := (rk p (rd_T28 p (b' : Int)) : Int) - _) (by omega) (by omega)]
      refine Evn.ite (fun he => ?_) (fun he => ?_)
      · have he' := eqB.1 he
        have := heq he'
        rw [if_pos he'.symm] at hal
        exact Evn.neg (by omega) (Evn.pos (by omega) (ih (m + 1 + 1) (by omega) (by omega)))
      · have he' : ¬ rd_T28 p (b' : Int) = rd_T28 p (a' : Int) := fun h => he (eqB.2 h.symm)
        rw [if_neg he'] at hal
        exact Evn.pos (by omega) (ih (m + 1 + 1) (by omega) (by omega))
  have l0 : ∀ d s : Nat, s + d = p.length → Evn (fun k => parquetlaw07_SortsStands.l0 k p (ord p) (ranks p) (s : Int)) true := by
    intro d
    induction d with
    | zero =>
      intro s hs
      refine Evn.step ?_; simp only [parquetlaw07_SortsStands.l0]
      exact Evn.neg (by omega) (l1 (p.length - 1) 1 (by omega) (by omega))
    | succ d ih =>
      intro s hs
      refine Evn.step ?_; simp only [parquetlaw07_SortsStands.l0]
      have b := ord_in p (s := s) (by omega)
      have hc : (ord p).count ((ord p)[s]'(by omega)) = 1 := by rw [(ord_nodup p).count, if_pos (List.getElem_mem _)]
      rw [rdI_getElem (ord p) s (by omega)]
      refine Evn.pos (by omega) (Evn.pos (by omega) (Evn.neg (by omega) (Evn.neg (by omega) (Evn.bind (count_ev _ _ (by omega)) (Evn.pos (by omega) ?_)))))
      rw [wrap_id (by omega) (by omega)]
      exact ih (s + 1) (by omega)
  exact l0 p.length 0 (by omega)
end Go.Proofs.Ytfmeicojiadeiaa.Pure
