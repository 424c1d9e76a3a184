/- The row of the law SortsJoins: for every input the call returns true, and each argument reads as before. Conditions: none beyond the given row's. -/
import Derived.Test.YtfmeicojiadeiaaRows
import Derived.Test.YtfmeicojiadeiaaPx18
import Derived.Test.YtfmeicojiadeiaaPureSortsJoins
import Derived.Test.YtfmeicojiadeiaaO
import Derived.WalkKit
import Derived.ProofKit
import Derived.OpenShut
import Derived.ShutString
import Derived.ChangeOld
import Derived.Below
import Derived.SizedLaws
namespace Go.Proofs.Ytfmeicojiadeiaa.sortsJoins
open Go.ChangeShapes Go.WideShapes Go.ChangeAt Go.RowKit Go.Proofs.YtfmeicojiadeiaaW.PrintWords Go.Proofs.YtfmeicojiadeiaaW.PrintLast Go.Proofs.YtfmeicojiadeiaaW.PrintMore Go.Proofs.Ytfmeicojiadeiaa.P
open Go.ChangeMaps (open_string shut_string)
set_option linter.unusedVariables false
theorem own : ownKnob Try.prog.godebug = none := by kernel_rfl
theorem laidOut : laidOutB Try.prog = true := by kernel_rfl
set_option maxRecDepth 100000 in
theorem lifted (os : Os) (started : os.Started) (H : Type) (enc : TypeId × Value → H) :
    ReturnsInHanded {} Try.checked os 9 .any (Rows.sortsJoinsSpec.pre6 enc Try.prog Try.f9 Rows.sortsJoinsRow.domain false) (Rows.sortsJoinsSpec.post enc Try.prog Try.f9 false true false false) := by
  refine returnsInHanded_of_change_sized (C := Try.checked) own started (by kernel_rfl) Try.func9
    (ChangeSpec.witness6 (enc := enc) (C := Try.checked) false ⟨#[], #[.slice none 0 0, .slice none 0 0], []⟩ 8 (by kernel_rfl) (by kernel_rfl) (by kernel_rfl) (by kernel_rfl)) ?_
  intro W base args ds gs before hval0 hW hcnd hsz0 _
  have hval : ∀ (j : Nat) t v, Try.f9.params[j]? = some t → args[j]? = some v → Value.okWide Try.prog W .any base t v := hval0
  have hW' := hW
  obtain ⟨p, q, hA0, hV, rfl, hfz, hnd⟩ := hW
  have hA : DataW.TrodAll enc Try.prog W 0 (fun _ => true) true Try.f9.params.toList args.toList ds p := hA0
  rw [Try.params9] at hA hval
  obtain ⟨v0, vs0, d0, ds0, p0, q0, hargs, rfl, rfl, h0, r0⟩ := trodAll_cons hA
  obtain ⟨v1, vs1, d1, ds1, p1, q1, rfl, rfl, rfl, h1, r1⟩ := trodAll_cons r0
  obtain ⟨rfl, rfl, rfl⟩ := trodAll_nil r1
  obtain rfl : args = #[v0, v1] := by cases args; simp_all
  obtain ⟨rfl, rfl⟩ := trodVars_none hV
  have k0 := h0
  have lt0 : ∀ x ∈ p0, x.block < W.heap.size := by obtain ⟨m, hm⟩ := k0; exact DataW.trod_lt m _ _ _ hm
  obtain ⟨x0, K0, g0⟩ := opn_top (opn_slice Try.underlying22 (by kernel_rfl) (opn_iso (f := fun (y : S28) => (y.f0, y.f1)) (fun p => (⟨p.1, p.2⟩ : S28)) (fun _ => rfl) (opn_struct2 Try.underlying28 (by kernel_rfl) rfl (by kernel_rfl) rfl (by kernel_rfl) (opn_int Try.underlying3) (opn_int Try.underlying3)))) h0
  obtain ⟨aa0, len0, cap0, rfl⟩ := okWide_slice Try.underlying22 (hval 0 22 v0 rfl rfl)
  obtain ⟨A0, c0, e0, hc0, hr0⟩ := K0
  simp [Value.cells] at e0
  obtain ⟨rfl, rfl, rfl⟩ := e0
  have k1 := h1
  have lt1 : ∀ x ∈ p1, x.block < W.heap.size := by obtain ⟨m, hm⟩ := k1; exact DataW.trod_lt m _ _ _ hm
  obtain ⟨x1, K1, g1⟩ := opn_top (opn_slice Try.underlying22 (by kernel_rfl) (opn_iso (f := fun (y : S28) => (y.f0, y.f1)) (fun p => (⟨p.1, p.2⟩ : S28)) (fun _ => rfl) (opn_struct2 Try.underlying28 (by kernel_rfl) rfl (by kernel_rfl) rfl (by kernel_rfl) (opn_int Try.underlying3) (opn_int Try.underlying3)))) h1
  obtain ⟨aa1, len1, cap1, rfl⟩ := okWide_slice Try.underlying22 (hval 1 22 v1 rfl rfl)
  obtain ⟨A1, c1, e1, hc1, hr1⟩ := K1
  simp [Value.cells] at e1
  obtain ⟨rfl, rfl, rfl⟩ := e1
  obtain ⟨k, hk⟩ := Pure.SortsJoins x0 x1 g0 g1
  clear hA0 hval0 hsz0
  refine (parquetlaw07_SortsJoins.calls k _ _ x0 _ _ x1 true W hr0 hc0 hr1 hc1 ⟨rfl⟩ hk).mono fun e W' ⟨he, bel0⟩ => ?_
  have bel : Below W.heap.size W W' := bel0
  subst he
  exact ⟨_, rfl, _, _, _, [], _, [], hW', trodAll_mk1 (shut_bool Try.underlying4 _), (trodAll_cons_mk (Below.trod laidOut (by kernel_rfl) (of_decide_eq_true (by kernel_rfl)) k0 bel lt0) (trodAll_cons_mk (Below.trod laidOut (by kernel_rfl) (of_decide_eq_true (by kernel_rfl)) k1 bel lt1) trodAll_mk0)), rfl, bel.frame _, fun h => by cases h⟩
theorem over : Rows.sortsJoinsRow.holds Try.pinned (OpenSpec.ofChange Rows.sortsJoinsSpec) :=
  OpenClaim.holds_of_wide 9 Try.f9 rfl rfl rfl rfl rfl rfl rfl ⟨rfl, rfl, rfl, rfl, rfl⟩ rfl rfl rfl rfl rfl (by kernel_rfl) Try.func9 (by kernel_rfl)
    (of_decide_eq_true (by kernel_rfl)) (by unfold Func.isWrapper; first | (rw [if_pos (by decide +kernel)]; kernel_rfl) | (rw [if_neg (by decide +kernel)]; exact ⟨rfl, rfl⟩))
    (fun os started H enc _ => lifted os started H enc)
theorem proved : Rows.SortsJoinsSaid := over
#print axioms proved
end Go.Proofs.Ytfmeicojiadeiaa.sortsJoins
namespace Go.Proofs.Ytfmeicojiadeiaa
/-- The row, under a short name, for the claim. -/
theorem sortsJoins_holds : Rows.SortsJoinsSaid := sortsJoins.proved
end Go.Proofs.Ytfmeicojiadeiaa
