/- The row of the law ValidHole: for every input the call returns true, and each argument reads as before. Conditions: none beyond the given row's. -/
import Derived.Test.YtjbimhfhapnjeaaRows
import Derived.Test.YtjbimhfhapnjeaaGa6
import Derived.Test.YtjbimhfhapnjeaaPureValidHole
import Derived.Test.YtjbimhfhapnjeaaAn
import Derived.WalkKit
import Derived.ProofKit
import Derived.OpenShut
import Derived.ShutString
import Derived.ChangeOld
import Derived.Below
import Derived.SizedLaws
namespace Go.Proofs.Ytjbimhfhapnjeaa.validHole
open Go.ChangeShapes Go.WideShapes Go.ChangeAt Go.RowKit Go.Proofs.Ytjbimhfhapnjeaa.AM
set_option linter.unusedVariables false
theorem own : ownKnob Try.prog.godebug = none := by kernel_rfl
theorem laidOut : laidOutB Try.prog = true := by kernel_rfl
set_option maxRecDepth 100000 in
theorem lifted (os : Os) (started : os.Started) (H : Type) (enc : TypeId × Value → H) :
    ReturnsInHanded {} Try.checked os 9 .any (Rows.validHoleSpec.pre6 enc Try.prog Try.f9 Rows.validHoleRow.domain false) (Rows.validHoleSpec.post enc Try.prog Try.f9 false true false false) := by
  refine returnsInHanded_of_change_sized (C := Try.checked) own started (by kernel_rfl) Try.func9
    (ChangeSpec.witness6 (enc := enc) (C := Try.checked) false ⟨#[], #[.int .u8 0, .int .u8 0, .int .u8 0, .int .u8 0], []⟩ 8 (by kernel_rfl) (by kernel_rfl) (by kernel_rfl) (by kernel_rfl)) ?_
  intro W base args ds gs before hval0 hW hcnd hsz0 _
  have hval : ∀ (j : Nat) t v, Try.f9.params[j]? = some t → args[j]? = some v → Value.okWide Try.prog W .any base t v := hval0
  have hW' := hW
  obtain ⟨p, q, hA0, hV, rfl, hfz, hnd⟩ := hW
  have hA : DataW.TrodAll enc Try.prog W 0 (fun _ => true) true Try.f9.params.toList args.toList ds p := hA0
  rw [Try.params9] at hA hval
  obtain ⟨v0, vs0, d0, ds0, p0, q0, hargs, rfl, rfl, h0, r0⟩ := trodAll_cons hA
  obtain ⟨v1, vs1, d1, ds1, p1, q1, rfl, rfl, rfl, h1, r1⟩ := trodAll_cons r0
  obtain ⟨v2, vs2, d2, ds2, p2, q2, rfl, rfl, rfl, h2, r2⟩ := trodAll_cons r1
  obtain ⟨v3, vs3, d3, ds3, p3, q3, rfl, rfl, rfl, h3, r3⟩ := trodAll_cons r2
  obtain ⟨rfl, rfl, rfl⟩ := trodAll_nil r3
  obtain rfl : args = #[v0, v1, v2, v3] := by cases args; simp_all
  obtain ⟨rfl, rfl⟩ := trodVars_none hV
  have lt0 : ∀ x ∈ p0, x.block < W.heap.size := by obtain ⟨m, hm⟩ := h0; exact DataW.trod_lt m _ _ _ hm
  obtain ⟨x0, K0, g0⟩ := opn_arg (d := 9) (κ := (.int .u8)) (by kernel_rfl) h0
  have e0 := arg_rep (κ := (.int .u8)) (by kernel_rfl) (hval 0 5 v0 rfl rfl) K0
  have lt1 : ∀ x ∈ p1, x.block < W.heap.size := by obtain ⟨m, hm⟩ := h1; exact DataW.trod_lt m _ _ _ hm
  obtain ⟨x1, K1, g1⟩ := opn_arg (d := 9) (κ := (.int .u8)) (by kernel_rfl) h1
  have e1 := arg_rep (κ := (.int .u8)) (by kernel_rfl) (hval 1 5 v1 rfl rfl) K1
  have lt2 : ∀ x ∈ p2, x.block < W.heap.size := by obtain ⟨m, hm⟩ := h2; exact DataW.trod_lt m _ _ _ hm
  obtain ⟨x2, K2, g2⟩ := opn_arg (d := 9) (κ := (.int .u8)) (by kernel_rfl) h2
  have e2 := arg_rep (κ := (.int .u8)) (by kernel_rfl) (hval 2 5 v2 rfl rfl) K2
  have lt3 : ∀ x ∈ p3, x.block < W.heap.size := by obtain ⟨m, hm⟩ := h3; exact DataW.trod_lt m _ _ _ hm
  obtain ⟨x3, K3, g3⟩ := opn_arg (d := 9) (κ := (.int .u8)) (by kernel_rfl) h3
  have e3 := arg_rep (κ := (.int .u8)) (by kernel_rfl) (hval 3 5 v3 rfl rfl) K3
  obtain ⟨k, hk⟩ := Pure.ValidHole x0 x1 x2 x3 g0 g1 g2 g3
  clear hA0 hval0 hsz0
  have hr : RepL (bare W (fun b => b < W.heap.size)) (encA [.d (.int .u8), .d (.int .u8), .d (.int .u8), .d (.int .u8)] (x0, x1, x2, x3)) [v0, v1, v2, v3] := by
    show RepL _ [Kd.av (.int .u8) x0, Kd.av (.int .u8) x1, Kd.av (.int .u8) x2, Kd.av (.int .u8) x3] _
    simp only [RepL]
    exact ⟨_, _, rfl, e0, ⟨_, _, rfl, e1, ⟨_, _, rfl, e2, ⟨_, _, rfl, e3, rfl⟩⟩⟩⟩
  refine (law_calls (tells_parquetlaw10_ValidHole k) Try.func9 (by kernel_rfl) (by kernel_rfl) (x := (x0, x1, x2, x3)) hk hr).mono fun e W' ⟨he, bel⟩ => ?_
  subst he
  exact ⟨_, rfl, _, _, _, [], _, [], hW', trodAll_mk1 (shut_bool Try.underlying4 _), (trodAll_cons_mk (Below.trod laidOut (by kernel_rfl) (of_decide_eq_true (by kernel_rfl)) h0 bel lt0) (trodAll_cons_mk (Below.trod laidOut (by kernel_rfl) (of_decide_eq_true (by kernel_rfl)) h1 bel lt1) (trodAll_cons_mk (Below.trod laidOut (by kernel_rfl) (of_decide_eq_true (by kernel_rfl)) h2 bel lt2) (trodAll_cons_mk (Below.trod laidOut (by kernel_rfl) (of_decide_eq_true (by kernel_rfl)) h3 bel lt3) trodAll_mk0)))), rfl, bel.frame _, fun h => by cases h⟩
theorem over : Rows.validHoleRow.holds Try.pinned (OpenSpec.ofChange Rows.validHoleSpec) :=
  OpenClaim.holds_of_wide 9 Try.f9 rfl rfl rfl rfl rfl rfl rfl ⟨rfl, rfl, rfl, rfl, rfl⟩ rfl rfl rfl rfl rfl (by kernel_rfl) Try.func9 (by kernel_rfl)
    (of_decide_eq_true (by kernel_rfl)) (by unfold Func.isWrapper; first | (rw [if_pos (by decide +kernel)]; kernel_rfl) | (rw [if_neg (by decide +kernel)]; exact ⟨rfl, rfl⟩))
    (fun os started H enc _ => lifted os started H enc)
theorem proved : Rows.ValidHoleSaid := over
#print axioms proved
end Go.Proofs.Ytjbimhfhapnjeaa.validHole
namespace Go.Proofs.Ytjbimhfhapnjeaa
/-- The row, under a short name, for the claim. -/
theorem validHole_holds : Rows.ValidHoleSaid := validHole.proved
end Go.Proofs.Ytjbimhfhapnjeaa
