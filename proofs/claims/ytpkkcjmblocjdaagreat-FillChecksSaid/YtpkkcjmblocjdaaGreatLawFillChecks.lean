/- The row of the law FillChecks: for every input the call returns true, and each argument reads as before. Conditions: none beyond the given row's. -/
import Derived.Test.YtpkkcjmblocjdaaGreatRows
import Derived.Test.YtpkkcjmblocjdaaGreatGa8
import Derived.Test.YtpkkcjmblocjdaaGreatPureFillChecks
import Derived.Test.YtpkkcjmblocjdaaGreatAn
import Derived.WalkKit
import Derived.ProofKit
import Derived.OpenShut
import Derived.ShutString
import Derived.ChangeOld
import Derived.Below
import Derived.SizedLaws
namespace Go.Proofs.YtpkkcjmblocjdaaGreat.fillChecks
open Go.ChangeShapes Go.WideShapes Go.ChangeAt Go.RowKit Go.Proofs.YtpkkcjmblocjdaaGreat.AM
set_option linter.unusedVariables false
theorem own : ownKnob Tryz.prog.godebug = none := by kernel_rfl
theorem laidOut : laidOutB Tryz.prog = true := by kernel_rfl
set_option maxRecDepth 100000 in
theorem lifted (os : Os) (started : os.Started) (H : Type) (enc : TypeId × Value → H) :
    ReturnsInHanded {} Tryz.checked os 9 .any (Rows.fillChecksSpec.pre6 enc Tryz.prog Tryz.f9 Rows.fillChecksRow.domain false) (Rows.fillChecksSpec.post enc Tryz.prog Tryz.f9 false true false false) := by
  refine returnsInHanded_of_change_sized (C := Tryz.checked) own started (by kernel_rfl) Tryz.func9
    (ChangeSpec.witness6 (enc := enc) (C := Tryz.checked) false ⟨#[], #[.agg #[.slice none 0 0, .slice none 0 0, .slice none 0 0], .int .i64 0, .int .i64 0, .int .i64 0], []⟩ 8 (by kernel_rfl) (by kernel_rfl) (by kernel_rfl) (by kernel_rfl)) ?_
  intro W base args ds gs before hval0 hW hcnd hsz0 _
  have hval : ∀ (j : Nat) t v, Tryz.f9.params[j]? = some t → args[j]? = some v → Value.okWide Tryz.prog W .any base t v := hval0
  have hW' := hW
  obtain ⟨p, q, hA0, hV, rfl, hfz, hnd⟩ := hW
  have hA : DataW.TrodAll enc Tryz.prog W 0 (fun _ => true) true Tryz.f9.params.toList args.toList ds p := hA0
  rw [Tryz.params9] at hA hval
  obtain ⟨v0, vs0, d0, ds0, p0, q0, hargs, rfl, rfl, h0, r0⟩ := trodAll_cons hA
  obtain ⟨v1, vs1, d1, ds1, p1, q1, rfl, rfl, rfl, h1, r1⟩ := trodAll_cons r0
  obtain ⟨v2, vs2, d2, ds2, p2, q2, rfl, rfl, rfl, h2, r2⟩ := trodAll_cons r1
  obtain ⟨v3, vs3, d3, ds3, p3, q3, rfl, rfl, rfl, h3, r3⟩ := trodAll_cons r2
  obtain ⟨rfl, rfl, rfl⟩ := trodAll_nil r3
  obtain rfl : args = #[v0, v1, v2, v3] := by cases args; simp_all
  obtain ⟨rfl, rfl⟩ := trodVars_none hV
  have lt0 : ∀ x ∈ p0, x.block < W.heap.size := by obtain ⟨m, hm⟩ := h0; exact DataW.trod_lt m _ _ _ hm
  obtain ⟨x0, K0, g0⟩ := opn_arg (d := 9) (κ := (.pair (.sl (.pair kI kI)) (.pair (.sl (.pair kI (.pair kI kI))) (.sl (.pair kI kI))))) (by kernel_rfl) h0
  have e0 := arg_rep (κ := (.pair (.sl (.pair kI kI)) (.pair (.sl (.pair kI (.pair kI kI))) (.sl (.pair kI kI))))) (by kernel_rfl) (hval 0 36 v0 rfl rfl) K0
  have lt1 : ∀ x ∈ p1, x.block < W.heap.size := by obtain ⟨m, hm⟩ := h1; exact DataW.trod_lt m _ _ _ hm
  obtain ⟨x1, K1, g1⟩ := opn_arg (d := 9) (κ := kI) (by kernel_rfl) h1
  have e1 := arg_rep (κ := kI) (by kernel_rfl) (hval 1 3 v1 rfl rfl) K1
  have lt2 : ∀ x ∈ p2, x.block < W.heap.size := by obtain ⟨m, hm⟩ := h2; exact DataW.trod_lt m _ _ _ hm
  obtain ⟨x2, K2, g2⟩ := opn_arg (d := 9) (κ := kI) (by kernel_rfl) h2
  have e2 := arg_rep (κ := kI) (by kernel_rfl) (hval 2 3 v2 rfl rfl) K2
  have lt3 : ∀ x ∈ p3, x.block < W.heap.size := by obtain ⟨m, hm⟩ := h3; exact DataW.trod_lt m _ _ _ hm
  obtain ⟨x3, K3, g3⟩ := opn_arg (d := 9) (κ := kI) (by kernel_rfl) h3
  have e3 := arg_rep (κ := kI) (by kernel_rfl) (hval 3 3 v3 rfl rfl) K3
  obtain ⟨k, hk⟩ := Pure.FillChecks x0 x1 x2 x3 g0 g1 g2 g3
  clear hA0 hval0 hsz0
  have hr : RepL (bare W (fun b => b < W.heap.size)) (encA [.d (.pair (.sl (.pair kI kI)) (.pair (.sl (.pair kI (.pair kI kI))) (.sl (.pair kI kI)))), .d kI, .d kI, .d kI] (x0, x1, x2, x3)) [v0, v1, v2, v3] := by
    show RepL _ [Kd.av (.pair (.sl (.pair kI kI)) (.pair (.sl (.pair kI (.pair kI kI))) (.sl (.pair kI kI)))) x0, Kd.av kI x1, Kd.av kI x2, Kd.av kI x3] _
    simp only [RepL]
    exact ⟨_, _, rfl, e0, ⟨_, _, rfl, e1, ⟨_, _, rfl, e2, ⟨_, _, rfl, e3, rfl⟩⟩⟩⟩
  refine (law_calls (tells_parquetlaw12_FillChecks k) Tryz.func9 (by kernel_rfl) (by kernel_rfl) (x := (x0, x1, x2, x3)) hk hr).mono fun e W' ⟨he, bel⟩ => ?_
  subst he
  exact ⟨_, rfl, _, _, _, [], _, [], hW', trodAll_mk1 (shut_bool Tryz.underlying4 _), (trodAll_cons_mk (Below.trod laidOut (by kernel_rfl) (of_decide_eq_true (by kernel_rfl)) h0 bel lt0) (trodAll_cons_mk (Below.trod laidOut (by kernel_rfl) (of_decide_eq_true (by kernel_rfl)) h1 bel lt1) (trodAll_cons_mk (Below.trod laidOut (by kernel_rfl) (of_decide_eq_true (by kernel_rfl)) h2 bel lt2) (trodAll_cons_mk (Below.trod laidOut (by kernel_rfl) (of_decide_eq_true (by kernel_rfl)) h3 bel lt3) trodAll_mk0)))), rfl, bel.frame _, fun h => by cases h⟩
theorem over : Rows.fillChecksRow.holds Tryz.pinned (OpenSpec.ofChange Rows.fillChecksSpec) :=
  OpenClaim.holds_of_wide 9 Tryz.f9 rfl rfl rfl rfl rfl rfl rfl ⟨rfl, rfl, rfl, rfl, rfl⟩ rfl rfl rfl rfl rfl (by kernel_rfl) Tryz.func9 (by kernel_rfl)
    (of_decide_eq_true (by kernel_rfl)) (by unfold Func.isWrapper; first | (rw [if_pos (by decide +kernel)]; kernel_rfl) | (rw [if_neg (by decide +kernel)]; exact ⟨rfl, rfl⟩))
    (fun os started H enc _ => lifted os started H enc)
theorem proved : Rows.FillChecksSaid := over
#print axioms proved
end Go.Proofs.YtpkkcjmblocjdaaGreat.fillChecks
namespace Go.Proofs.YtpkkcjmblocjdaaGreat
/-- The row, under a short name, for the claim. -/
theorem fillChecks_holds : Rows.FillChecksSaid := fillChecks.proved
end Go.Proofs.YtpkkcjmblocjdaaGreat
