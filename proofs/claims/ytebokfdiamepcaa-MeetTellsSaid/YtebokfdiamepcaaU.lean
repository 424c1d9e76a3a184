/- The abstract machine, 11: operators, cuts of slices. -/
import Derived.Test.YtebokfdiamepcaaQ
set_option linter.unusedVariables false
set_option linter.unusedSimpArgs false
namespace Go.Proofs.Ytebokfdiamepcaa.AM
open Go.RowKit

section
variable {P : Program} {tb : Tb} (HT : TbOk P tb) {B : Nat} {w0 : World} {Γ : Gh} {m : Mem} (M : MemRel B w0 Γ m)

theorem bin_int {op : BinOp} {t : Nat} {ox oy : Operand} {i j : IntKind} {a b : Int} {v : AV} {m' : Mem} (h : kBin tb m pairK op t (.int i a) (.int j b) = some (v, m')) :
    m' = m ∧ ∃ u, RepV Γ v u ∧ (do eqGuard op t ox oy (.int i a) (.int j b); binOp op t (.int i a) (.int j b) : Sem Value).run P Γ.w = .ok u Γ.w := by
  have hg : (eqGuard op t ox oy (.int i a) (.int j b)) = pure () := eqGuard_at_int ..
  rw [hg]
  simp only [pure_bind]
  unfold kBin at h
  simp only at h
  split at h
  · obtain ⟨hb, h⟩ := gd_some h
    obtain ⟨rfl, rfl⟩ := pairK_some h
    refine ⟨rfl, .int i (i.wrap (shlI i a b)), by simp only [RepV, wr_eq], ?_⟩
    have hb' : ¬ b < 0 := by have := of_decide_eq_true hb; omega
    simp only [binOp, Op.shift, if_neg hb', Sem.run_pure, shlI]
  · obtain ⟨hb, h⟩ := gd_some h
    obtain ⟨rfl, rfl⟩ := pairK_some h
    refine ⟨rfl, .int i (shrI i a b), by simp only [RepV], ?_⟩
    have hb' : ¬ b < 0 := by have := of_decide_eq_true hb; omega
    simp only [binOp, Op.shift, if_neg hb', Sem.run_pure, shrI]
  all_goals first
    | (obtain ⟨hk, h⟩ := cond_some h
       obtain ⟨rfl, rfl⟩ := pairK_some h
       obtain rfl := kb_eq hk
       refine ⟨rfl, .bool (a == b), by simp only [RepV]; rfl, ?_⟩
       simp [binOp, Op.intCmp]
       done)
    | (obtain ⟨hk, h⟩ := cond_some h
       obtain ⟨rfl, rfl⟩ := pairK_some h
       obtain rfl := kb_eq hk
       refine ⟨rfl, .bool (a != b), by simp only [RepV]; rfl, ?_⟩
       simp [binOp, Op.intCmp]
       done)
    | (obtain ⟨hk, h⟩ := cond_some h
       obtain ⟨rfl, rfl⟩ := pairK_some h
       obtain rfl := kb_eq hk
       refine ⟨rfl, _, by simp only [RepV]; rfl, ?_⟩
       simp [binOp, Op.intArith, Op.intBits, Op.intCmp, addI, subI, mulI, bitI, eqI, notB, ltI, leI, gtI, geI, wr_eq]
       done)
    | (obtain ⟨hk, h⟩ := cond_some h
       obtain ⟨hb, h⟩ := gd_some h
       obtain ⟨rfl, rfl⟩ := pairK_some h
       obtain rfl := kb_eq hk
       have hb' : ¬ b = 0 := by simpa [notB, eqI] using hb
       refine ⟨rfl, _, by simp only [RepV]; rfl, ?_⟩
       simp [binOp, Op.intDiv, hb', quoI, remI, wr_eq]
       done)
    | cases h
include HT
theorem bin_ok {op : BinOp} {t : Nat} {ox oy : Operand} {x y v : AV} {vx vy : Value} {m' : Mem} (h : kBin tb m pairK op t x y = some (v, m')) (hx : RepV Γ x vx) (hy : RepV Γ y vy) :
    m' = m ∧ ∃ u, RepV Γ v u ∧ (do eqGuard op t ox oy vx vy; binOp op t vx vy : Sem Value).run P Γ.w = .ok u Γ.w := by
  cases x
  case int i a =>
    cases y
    case int j b =>
      simp only [RepV] at hx hy
      subst hx
      subst hy
      exact bin_int h
    all_goals simp [kBin] at h
  case bool a =>
    cases y
    case bool b =>
      simp only [RepV] at hx hy
      subst hx
      subst hy
      have hg : (eqGuard op t ox oy (.bool a) (.bool b)) = pure () := eqGuard_at_bool ..
      rw [hg]
      simp only [pure_bind]
      unfold kBin at h
      simp only at h
      split at h
      · rename_i hd
        obtain ⟨rfl, rfl⟩ := pairK_some h
        have hdesc := (at_ok HT (t := t) (by rw [hd]; rfl)).desc
        rw [hd] at hdesc
        refine ⟨rfl, .bool (a == b), by simp only [RepV, eqB], ?_⟩
        simp only [binOp, Op.equal, Sem.run_bind, show Op.maxDepth = 9999 + 1 from rfl, run_equalIn_bool' Γ.w 9999 t a b (desc_bool hdesc), Result.andThen_ok, Sem.run_pure]
      · rename_i hd
        obtain ⟨rfl, rfl⟩ := pairK_some h
        have hdesc := (at_ok HT (t := t) (by rw [hd]; rfl)).desc
        rw [hd] at hdesc
        refine ⟨rfl, .bool (!(a == b)), by simp only [RepV, eqB, notB], ?_⟩
        simp only [binOp, Op.equal, Sem.run_bind, show Op.maxDepth = 9999 + 1 from rfl, run_equalIn_bool' Γ.w 9999 t a b (desc_bool hdesc), Result.andThen_ok, Sem.run_pure]
      · cases h
    all_goals simp [kBin] at h
  case agg cs =>
    cases y
    case agg ds =>
      unfold kBin at h
      simp only at h
      split at h
      · rename_i ks hks
        have hkd : (tb.at t).d.ok = true := by
          rcases HT t with h' | h'
          · rw [h'] at hks; cases hks
          · have := h'.desc
            cases hd : (tb.at t).d <;> first | rfl | (rw [hd] at this; unfold descB at this; split at this <;> simp_all)
        obtain ⟨ha, hm, hl⟩ := (at_ok HT hkd).eq ks hks
        simp only [RepV] at hx hy
        obtain ⟨vs, rfl, hvs⟩ := hx
        obtain ⟨us, rfl, hus⟩ := hy
        have he : ∀ c, eqL ks cs ds = some c → (Op.equalIn 10000 t (.agg vs.toArray) (.agg us.toArray)).run P Γ.w = .ok c Γ.w := by
          intro c hc
          obtain ⟨h1, h2, h3⟩ := eqL_ok hc hvs hus
          have := eq_leafs (P := P) Γ.w 8 t ks hl vs us h1 h2 10000 (by omega)
          simp only [mkVal, ha, if_true, h3] at this
          exact this
        split at h
        · rename_i c hc
          obtain ⟨rfl, rfl⟩ := pairK_some h
          refine ⟨rfl, .bool c, by simp only [RepV], ?_⟩
          simp only [Sem.run_bind, run_eqGuard_agg Γ.w _ t ox oy _ _ hm, Result.andThen_ok, run_eql_struct, he c hc]
        · rename_i c hc
          obtain ⟨rfl, rfl⟩ := pairK_some h
          refine ⟨rfl, .bool (!c), by simp only [RepV, notB], ?_⟩
          simp only [Sem.run_bind, run_eqGuard_agg Γ.w _ t ox oy _ _ hm, Result.andThen_ok, run_neq_struct, he c hc]
        · cases h
      · cases h
    all_goals simp [kBin] at h
  all_goals simp [kBin] at h
end
end Go.Proofs.Ytebokfdiamepcaa.AM
