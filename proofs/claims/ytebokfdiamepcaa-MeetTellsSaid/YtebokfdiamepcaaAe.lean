/- The abstract machine, 21: two operations, in either order. -/
import Derived.Test.YtebokfdiamepcaaAd
set_option linter.unusedVariables false
set_option linter.unusedSimpArgs false
namespace Go.Proofs.Ytebokfdiamepcaa.AM
open Go.RowKit

/-- Is an operation wanted? -/
def gst (ops : Array Oper) (o : Oper) (s : St) : Option Bool := match o.guard with
  | none => some true
  | some (j, want) => match gdst ops j with
    | some d => match s.tm d with
      | .bool b => some (b == want)
      | .tup [] => some false
      | _ => none
    | none => none
theorem stepD_eq (cl : ∀ ρ, CallT ρ) (tb : Tb) (ops : Array Oper) (o : Oper) (s : St) : stepD cl tb ops o s = match gst ops o s with
    | some true => (opD cl tb o s.ev s.m).map fun p => s.put o.dst p.1 p.2
    | some false => some (s.put o.dst (.tup []) s.m)
    | none => none := by
  unfold stepD gst
  cases o.guard with
  | none => simp only; cases opD cl tb o s.ev s.m <;> rfl
  | some jw =>
    obtain ⟨j, want⟩ := jw
    simp only
    cases gdst ops j with
    | none => rfl
    | some d =>
      simp only
      cases hd : s.tm d
      case bool b =>
        simp only
        cases b == want
        · rfl
        · simp only [cond]; cases opD cl tb o s.ev s.m <;> rfl
      case tup vs => cases vs <;> rfl
      all_goals rfl
theorem gdst_eq (ops : Array Oper) (j : Nat) : gdst ops j = (ops[j]?).bind (·.dst) := by
  unfold gdst
  rw [Array.getElem?_toList]
  cases ops[j]? <;> rfl
theorem put_tm (s : St) (d : Option Nat) (v : AV) (m : Mem) (i : Nat) : (s.put d v m).tm i = if d = some i then v else s.tm i := by
  cases d with
  | none => simp [St.put]
  | some d =>
    simp only [St.put, upd_eq, Option.some.injEq]
    by_cases h : i = d
    · subst h; simp
    · rw [if_neg h, if_neg (Ne.symm h)]
theorem put_m (s : St) (d : Option Nat) (v : AV) (m : Mem) : (s.put d v m).m = m := by cases d <;> rfl
theorem put_ev {s : St} {d : Option Nat} {v : AV} {m : Mem} {ops : Array Oper} {o : Oper} (h : ∀ i, d = some i → i ∉ o.looksAt ops) : ∀ x ∈ o.op.operands.toList, (s.put d v m).ev x = s.ev x := by
  intro x hx
  cases x with
  | tmp t =>
    show (s.put d v m).tm t = s.tm t
    rw [put_tm, if_neg]
    intro e
    exact h t e (List.mem_append_left _ (List.mem_filterMap.2 ⟨.tmp t, hx, rfl⟩))
  | _ => rfl
theorem put_gst {s : St} {d : Option Nat} {v : AV} {m : Mem} {ops : Array Oper} {o : Oper} (h : ∀ i, d = some i → i ∉ o.looksAt ops) : gst ops o (s.put d v m) = gst ops o s := by
  unfold gst
  cases hg : o.guard with
  | none => rfl
  | some jw =>
    obtain ⟨j, want⟩ := jw
    simp only
    cases hd : gdst ops j with
    | none => rfl
    | some e =>
      simp only
      rw [put_tm, if_neg]
      intro he
      refine h e he (List.mem_append_right _ ?_)
      rw [hg]
      simp only
      rw [← gdst_eq, hd]
      simp
theorem put_put {s : St} {d e : Option Nat} {u v : AV} {m m' m2 m3 : Mem} (h : ∀ i, d = some i → e ≠ some i) (hm : m' = m3) : (s.put d u m).put e v m' = (s.put e v m2).put d u m3 := by
  subst hm
  cases d with
  | none => cases e <;> rfl
  | some d =>
    cases e with
    | none => rfl
    | some e =>
      simp only [St.put]
      rw [upd_comm _ _ _ (fun e' => h d rfl (by rw [e']))]

theorem okId_at {m : Mem} {o : Oper} {ops : Array Oper} {d : Nat} (h : d ∉ o.looksAt ops) : okId m o (m.id d) = false := by
  unfold okId Mem.id
  rw [Bool.or_eq_false_iff]
  constructor
  · cases hb : Nat.blt (m.ep * 4096 + d) (m.ep * 4096) with
    | false => rfl
    | true => simp only [Nat.blt, Nat.ble_eq] at hb; omega
  · rw [List.any_eq_false]
    intro x hx
    cases x with
    | tmp t =>
      simp only
      intro hb
      have := Nat.eq_of_beq_eq_true hb
      obtain rfl : d = t := by omega
      exact h (List.mem_append_left _ (List.mem_filterMap.2 ⟨.tmp d, hx, rfl⟩))
    | _ => simp

section
variable {cl : ∀ ρ, CallT ρ} (hcl : CallB cl) (hcc : CallC cl) {tb : Tb} {ops : Array Oper}
include hcl hcc
/-- The two operations themselves, in either order. -/
theorem op_swap {x y : Oper} (hap : x.apart ops y = true) (hm : mayB (cls tb x) (cls tb y) = true) {ex ey : Operand → AV} {m m1 m2 : Mem} {u v : AV} (h1 : opD cl tb x ex m = some (u, m1)) (h2 : opD cl tb y ey m1 = some (v, m2)) :
    ∃ m1', opD cl tb y ey m = some (v, m1') ∧ opD cl tb x ex m1' = some (u, m2) := by
  obtain ⟨a1, a2, a3⟩ := Oper.apart_spec hap
  by_cases hx0 : cls tb x = 0
  · obtain ⟨rfl, hr⟩ := cls0 hcl hx0 h1
    exact ⟨m2, h2, hr m2⟩
  by_cases hy0 : cls tb y = 0
  · obtain ⟨rfl, hr⟩ := cls0 hcl hy0 h2
    exact ⟨m, hr m, h1⟩
  have hx4 : cls tb x ≠ 4 := by intro e; rw [e] at hm; revert hm; cases hq : cls tb y with
    | zero => exact absurd hq hy0
    | succ n => intro hm; cases hm
  have hy4 : cls tb y ≠ 4 := by
    intro e; rw [e] at hm
    revert hm hx0
    generalize cls tb x = q
    intro hm hq
    match q, hm with
    | 0, _ => exact hq rfl
    | 1, hm => cases hm
    | 2, hm => cases hm
    | 3, hm => cases hm
    | n + 4, hm => cases hm
  obtain ⟨a, rfl, fa⟩ := op_form hcl hcc hx4 h1
  obtain ⟨b, rfl, fb⟩ := op_form hcl hcc hy4 h2
  have ep1 := ap_ep a m
  -- the numbers that are given out
  have xid : ∀ i, a.id? = some i → okId m y i = false := by
    intro i hi
    obtain ⟨d, hd, rfl, _⟩ := fa.id i hi
    exact okId_at (a1 d hd)
  have yid : ∀ i, b.id? = some i → okId m x i = false := by
    intro i hi
    obtain ⟨d, hd, rfl, _⟩ := fb.id i hi
    rw [show (a.ap m).id d = m.id d by unfold Mem.id; rw [ep1]]
    exact okId_at (a3 d hd)
  have hnew : ∀ i, b.id? = some i → m.new i = true ∧ a.id? ≠ some i := by
    intro i hi
    obtain ⟨d, hd, rfl, hn⟩ := fb.id i hi
    exact new_of_ap hn
  have r1 : opD cl tb y ey m = some (v, b.ap m) := by
    refine fb.replay m ep1.symm (fun i hi => (alike_ap a m i fun e => ?_).symm) fun i hi => (hnew i hi).1
    rw [okId_ep ep1, xid i e] at hi
    cases hi
  have r2 : opD cl tb x ex (b.ap m) = some (u, a.ap (b.ap m)) := by
    refine fa.replay (b.ap m) (ap_ep b m) (fun i hi => alike_ap b m i fun e => ?_) fun i hi => ?_
    · rw [yid i e] at hi
      cases hi
    · obtain ⟨d, hd, rfl, hn⟩ := fa.id i hi
      exact new_ap hn fun e => (hnew _ e).2 hi
  have hab : a.apart b := by
    have ne : ∀ i j, a.id? = some i → b.id? = some j → i ≠ j := fun i j hi hj e => (hnew j hj).2 (e ▸ hi)
    have two := fa.two
    have two' := fb.two
    have fx := fa.fixed
    have fy := fb.fixed
    have fxb := fa.fixedb
    have fyb := fb.fixedb
    cases a <;> cases b <;> try trivial
    case box.box i _ j _ => exact ne i j rfl rfl
    case row.row i _ j _ => exact ne i j rfl rfl
    case fix.row F j _ =>
      intro hj
      have := fx F rfl j hj
      rw [yid j rfl] at this
      cases this
    case row.fix j _ F =>
      intro hj
      have := fy F rfl j hj
      rw [okId_ep ep1, xid j rfl] at this
      cases this
    case fixb.box i j _ =>
      intro e
      have := fxb i rfl
      rw [e, yid j rfl] at this
      cases this
    case box.fixb j _ i =>
      intro e
      have := fyb i rfl
      rw [okId_ep ep1, e, xid j rfl] at this
      cases this
  exact ⟨b.ap m, r1, by rw [r2, ap_comm hab]⟩

theorem step_swap {x y : Oper} (hap : x.apart ops y = true) (hm : mayB (cls tb x) (cls tb y) = true) {s s1 s2 : St} (h1 : stepD cl tb ops x s = some s1) (h2 : stepD cl tb ops y s1 = some s2) :
    ∃ s1', stepD cl tb ops y s = some s1' ∧ stepD cl tb ops x s1' = some s2 := by
  obtain ⟨a1, a2, a3⟩ := Oper.apart_spec hap
  have evy : ∀ u m m', opD cl tb y (s.put x.dst u m).ev m' = opD cl tb y s.ev m' := fun u m m' => opD_congr y m' (put_ev a1)
  have evx : ∀ u m m', opD cl tb x (s.put y.dst u m).ev m' = opD cl tb x s.ev m' := fun u m m' => opD_congr x m' (put_ev a3)
  rw [stepD_eq] at h1 h2
  simp only [stepD_eq]
  cases gx : gst ops x s with
  | none => rw [gx] at h1; cases h1
  | some bx =>
    rw [gx] at h1
    cases bx with
    | false =>
      simp only [Option.some.injEq] at h1
      subst h1
      rw [put_gst a1] at h2
      cases gy : gst ops y s with
      | none => rw [gy] at h2; cases h2
      | some by' =>
        rw [gy] at h2
        cases by' with
        | false =>
          simp only [Option.some.injEq] at h2
          subst h2
          refine ⟨_, rfl, ?_⟩
          rw [put_gst a3, gx]
          simp only [Option.some.injEq, put_m]
          exact (put_put a2 rfl).symm
        | true =>
          simp only [put_m, evy] at h2
          cases ho : opD cl tb y s.ev s.m with
          | none => rw [ho] at h2; cases h2
          | some p =>
            rw [ho] at h2
            simp only [Option.map_some, Option.some.injEq] at h2
            subst h2
            refine ⟨_, rfl, ?_⟩
            rw [put_gst a3, gx]
            simp only [Option.some.injEq, put_m]
            exact (put_put a2 rfl).symm
    | true =>
      cases hx : opD cl tb x s.ev s.m with
      | none => rw [hx] at h1; cases h1
      | some p =>
        rw [hx] at h1
        simp only [Option.map_some, Option.some.injEq] at h1
        subst h1
        rw [put_gst a1] at h2
        cases gy : gst ops y s with
        | none => rw [gy] at h2; cases h2
        | some by' =>
          rw [gy] at h2
          cases by' with
          | false =>
            simp only [Option.some.injEq] at h2
            subst h2
            refine ⟨_, rfl, ?_⟩
            rw [put_gst a3, gx]
            simp only [put_m, evx, hx, Option.map_some, Option.some.injEq]
            exact (put_put a2 rfl).symm
          | true =>
            simp only [put_m, evy] at h2
            cases hy : opD cl tb y s.ev p.2 with
            | none => rw [hy] at h2; cases h2
            | some q =>
              rw [hy] at h2
              simp only [Option.map_some, Option.some.injEq] at h2
              subst h2
              obtain ⟨m1', r1, r2⟩ := op_swap hcl hcc hap hm (u := p.1) (m1 := p.2) (v := q.1) (m2 := q.2) hx hy
              rw [r1]
              refine ⟨_, rfl, ?_⟩
              rw [put_gst a3, gx]
              simp only [put_m, evx, r2, Option.map_some, Option.some.injEq]
              exact (put_put a2 rfl).symm
end
end Go.Proofs.Ytebokfdiamepcaa.AM
