import Derived.Test.YtfmeicojiadeiaaQb
set_option linter.unusedSimpArgs false
namespace Go.Proofs.Ytfmeicojiadeiaa.Pure
open PL Go.RowKit Go.Proofs.YtfmeicojiadeiaaW.PrintWords Go.Proofs.YtfmeicojiadeiaaW.PrintLast Go.Proofs.YtfmeicojiadeiaaW.PrintMore Go.Proofs.Ytfmeicojiadeiaa.P

theorem SortsOrders : parquetlaw07_SortsOrders.Pure := by
  intro p _
  refine Evn.get ?_
  unfold parquetlaw07_SortsOrders.f
  refine Evn.ite (fun _ => Evn.bind known_ev (Evn.ret _)) fun hp => ?_
  have hp' : p.length ≤ 120 := by omega
  refine Evn.pos (by simp; omega) (Evn.bind (Evn.ret _) ?_)
  rw [List.nil_append]
  refine Evn.bind (order_ev p (by omega)) (Evn.bind (ranks_ev p (by omega)) (Evn.bind (refOrder_ev p (by omega)) (Evn.bind (same_ev _ _ (by rw [ord_length]; omega)) (Evn.pos (by simp) (Evn.bind (refRanks_ev p (by omega)) (Evn.bind (same_ev _ _ (by rw [ranks_length]; omega)) ?_))))))
  have loop : ∀ d i : Nat, i + d = p.length → Evn (fun k => parquetlaw07_SortsOrders.l0 k p p (i : Int)) true := by
    intro d
    induction d with
    | zero =>
      intro i hi
      refine Evn.step ?_; simp only [parquetlaw07_SortsOrders.l0]
      exact Evn.neg (by omega) (Evn.bind known_ev (Evn.ret _))
    | succ d ih =>
      intro i hi
      refine Evn.step ?_; simp only [parquetlaw07_SortsOrders.l0]
      refine Evn.pos (by omega) (Evn.pos (by omega) (Evn.pos (by omega) (Evn.pos (eqB.2 rfl) ?_)))
      rw [wrap_id (by omega) (by omega)]
      exact ih (i + 1) (by omega)
  refine Evn.step ?_; simp only [parquetlaw07_SortsOrders.j0]
  exact Evn.neg (by simp) (loop p.length 0 (by omega))
end Go.Proofs.Ytfmeicojiadeiaa.Pure
