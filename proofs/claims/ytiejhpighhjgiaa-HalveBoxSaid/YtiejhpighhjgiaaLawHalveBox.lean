/- The row of the law HalveBox: for every input the call returns true, and each argument reads as before. Conditions: none beyond the given row's. -/
import Derived.Test.YtiejhpighhjgiaaRows
import Derived.Test.YtiejhpighhjgiaaGa4
import Derived.Test.YtiejhpighhjgiaaPureHalveBox
import Derived.Test.YtiejhpighhjgiaaAn
import Derived.WalkKit
import Derived.ProofKit
import Derived.OpenShut
import Derived.ShutString
import Derived.ChangeOld
import Derived.Below
import Derived.SizedLaws
namespace Go.Proofs.Ytiejhpighhjgiaa.halveBox
open Go.ChangeShapes Go.WideShapes Go.ChangeAt Go.RowKit Go.Proofs.Ytiejhpighhjgiaa.AM
set_option linter.unusedVariables false
theorem own : ownKnob Try.prog.godebug = none := by kernel_rfl
theorem laidOut : laidOutB Try.prog = true := by kernel_rfl
set_option maxRecDepth 100000 in
theorem lifted (os : Os) (started : os.Started) (H : Type) (enc : TypeId × Value → H) :
    ReturnsInHanded {} Try.checked os 7 .any (Rows.halveBoxSpec.pre6 enc Try.prog Try.f7 Rows.halveBoxRow.domain false) (Rows.halveBoxSpec.post enc Try.prog Try.f7 false true false false) := by
  refine returnsInHanded_of_change_sized (C := Try.checked) own started (by kernel_rfl) Try.func7
    (ChangeSpec.witness6 (enc := enc) (C := Try.checked) false ⟨#[], #[.agg #[.int .i64 0, .int .i64 0], .int .u16 0, .int .u16 0], []⟩ 8 (by kernel_rfl) (by kernel_rfl) (by kernel_rfl) (by kernel_rfl)) ?_
  intro W base args ds gs before hval0 hW hcnd hsz0 _
  have hval : ∀ (j : Nat) t v, Try.f7.params[j]? = some t → args[j]? = some v → Value.okWide Try.prog W .any base t v := hval0
  have hW' := hW
  obtain ⟨p, q, hA0, hV, rfl, hfz, hnd⟩ := hW
  have hA : DataW.TrodAll enc Try.prog W 0 (fun _ => true) true Try.f7.params.toList args.toList ds p := hA0
  rw [Try.params7] at hA hval
  obtain ⟨v0, vs0, d0, ds0, p0, q0, hargs, rfl, rfl, h0, r0⟩ := trodAll_cons hA
  obtain ⟨v1, vs1, d1, ds1, p1, q1, rfl, rfl, rfl, h1, r1⟩ := trodAll_cons r0
  obtain ⟨v2, vs2, d2, ds2, p2, q2, rfl, rfl, rfl, h2, r2⟩ := trodAll_cons r1
  obtain ⟨rfl, rfl, rfl⟩ := trodAll_nil r2
  obtain rfl : args = #[v0, v1, v2] := by cases args; simp_all
  obtain ⟨rfl, rfl⟩ := trodVars_none hV
  have lt0 : ∀ x ∈ p0, x.block < W.heap.size := by obtain ⟨m, hm⟩ := h0; exact DataW.trod_lt m _ _ _ hm
  obtain ⟨x0, K0, g0⟩ := opn_arg (d := 9) (κ := (.pair kI kI)) (by kernel_rfl) h0
  have e0 := arg_rep (κ := (.pair kI kI)) (by kernel_rfl) (hval 0 33 v0 rfl rfl) K0
  have lt1 : ∀ x ∈ p1, x.block < W.heap.size := by obtain ⟨m, hm⟩ := h1; exact DataW.trod_lt m _ _ _ hm
  obtain ⟨x1, K1, g1⟩ := opn_arg (d := 9) (κ := (.int .u16)) (by kernel_rfl) h1
  have e1 := arg_rep (κ := (.int .u16)) (by kernel_rfl) (hval 1 53 v1 rfl rfl) K1
  have lt2 : ∀ x ∈ p2, x.block < W.heap.size := by obtain ⟨m, hm⟩ := h2; exact DataW.trod_lt m _ _ _ hm
  obtain ⟨x2, K2, g2⟩ := opn_arg (d := 9) (κ := (.int .u16)) (by kernel_rfl) h2
  have e2 := arg_rep (κ := (.int .u16)) (by kernel_rfl) (hval 2 53 v2 rfl rfl) K2
  obtain ⟨k, hk⟩ := Pure.HalveBox x0 x1 x2 g0 g1 g2
  clear hA0 hval0 hsz0
  have hr : RepL (bare W (fun b => b < W.heap.size)) (encA [.d (.pair kI kI), .d (.int .u16), .d (.int .u16)] (x0, x1, x2)) [v0, v1, v2] := by
    show RepL _ [Kd.av (.pair kI kI) x0, Kd.av (.int .u16) x1, Kd.av (.int .u16) x2] _
    simp only [RepL]
    exact ⟨_, _, rfl, e0, ⟨_, _, rfl, e1, ⟨_, _, rfl, e2, rfl⟩⟩⟩
  refine (law_calls (tells_parquetlaw20_HalveBox k) Try.func7 (by kernel_rfl) (by kernel_rfl) (x := (x0, x1, x2)) hk hr).mono fun e W' ⟨he, bel⟩ => ?_
  subst he
  exact ⟨_, rfl, _, _, _, [], _, [], hW', trodAll_mk1 (shut_bool Try.underlying4 _), (trodAll_cons_mk (Below.trod laidOut (by kernel_rfl) (of_decide_eq_true (by kernel_rfl)) h0 bel lt0) (trodAll_cons_mk (Below.trod laidOut (by kernel_rfl) (of_decide_eq_true (by kernel_rfl)) h1 bel lt1) (trodAll_cons_mk (Below.trod laidOut (by kernel_rfl) (of_decide_eq_true (by kernel_rfl)) h2 bel lt2) trodAll_mk0))), rfl, bel.frame _, fun h => by cases h⟩
theorem over : Rows.halveBoxRow.holds Try.pinned (OpenSpec.ofChange Rows.halveBoxSpec) :=
  OpenClaim.holds_of_wide 7 Try.f7 rfl rfl rfl rfl rfl rfl rfl ⟨rfl, rfl, rfl, rfl, rfl⟩ rfl rfl rfl rfl rfl (by kernel_rfl) Try.func7 (by kernel_rfl)
    (of_decide_eq_true (by kernel_rfl)) (by unfold Func.isWrapper; first | (rw [if_pos (by decide +kernel)]; kernel_rfl) | (rw [if_neg (by decide +kernel)]; exact ⟨rfl, rfl⟩))
    (fun os started H enc _ => lifted os started H enc)
theorem proved : Rows.HalveBoxSaid := over
#print axioms proved
end Go.Proofs.Ytiejhpighhjgiaa.halveBox
namespace Go.Proofs.Ytiejhpighhjgiaa
/-- The row, under a short name, for the claim. -/
theorem halveBox_holds : Rows.HalveBoxSaid := halveBox.proved
end Go.Proofs.Ytiejhpighhjgiaa
