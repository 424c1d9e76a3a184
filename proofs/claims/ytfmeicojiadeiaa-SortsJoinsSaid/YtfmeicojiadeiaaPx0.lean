-- PRINTED by print.py (a twelfth state) out of the translation. Not trusted: Lean checks it.
import Derived.Test.YtfmeicojiadeiaaProg
import Derived.Below
import Derived.Deep.Draws
import Derived.Deep.AppendLies
import Derived.Maps.AppendAt
import Derived.OwnWalk
import Derived.Laws.BytesArg
import Derived.Laws.MakeOwn
import Derived.Laws.OwnMore
import Derived.Deep.OwnRows
import Derived.Tactics
import Derived.Lib.ConvBytes
import Derived.Laws.Slices
import Derived.WalkKit
import Derived.KernelRfl
import Derived.RowKit3
import Derived.Deep.LoopGhost
import Derived.Deep.QuietTactic
import Derived.BigQuiet
import Derived.WideLaws
import Derived.Deep.DeepCutAuto
import Derived.Deep.CutBlock
import Derived.Deep.RegionHeld3
import Derived.Laws.Rows
import Derived.Lib.AppendStr
import Derived.ArgAppend
import Derived.Laws.IdiomCopy
import Derived.OrdersHeld
import Derived.Laws.BitsLemmas
import Derived.RowKit
import Derived.Test.YtfmeicojiadeiaaWWords
import Derived.Test.YtfmeicojiadeiaaWLast
import Derived.Test.YtfmeicojiadeiaaWTab
import Derived.Test.YtfmeicojiadeiaaWFour
import Derived.Test.YtfmeicojiadeiaaWQPut
import Derived.Test.YtfmeicojiadeiaaWApart
import Derived.Test.YtfmeicojiadeiaaWArr
import Derived.Test.YtfmeicojiadeiaaWZeros
import Derived.Test.YtfmeicojiadeiaaWFoot
import Derived.Test.YtfmeicojiadeiaaWKept
import Derived.Test.YtfmeicojiadeiaaWShare
import Derived.Test.YtfmeicojiadeiaaWN
import Derived.Test.YtfmeicojiadeiaaWFootNe
import Derived.Test.YtfmeicojiadeiaaWAt
import Derived.Test.YtfmeicojiadeiaaWEqStruct
import Derived.Test.YtfmeicojiadeiaaWRepsOne
import Derived.Test.YtfmeicojiadeiaaWInv
import Derived.Test.YtfmeicojiadeiaaWInvWords
import Derived.Test.YtfmeicojiadeiaaWGuard
import Derived.Test.YtfmeicojiadeiaaWNEv
import Derived.Test.YtfmeicojiadeiaaWMore
import Derived.Test.YtfmeicojiadeiaaV
namespace Go.Proofs.Ytfmeicojiadeiaa.P
open Go.RowKit Go.Proofs.YtfmeicojiadeiaaW.PrintWords Go.Proofs.YtfmeicojiadeiaaW.PrintLast Go.Proofs.YtfmeicojiadeiaaW.PrintMore
attribute [local go_sem] max2_int min2_int max_two min_two max_three min_three max_four min_four   -- for this text's walks alone
set_option linter.unusedVariables false
set_option linter.unusedSimpArgs false



def errW : Option Int → Value
  | none => .nilIface
  | some c => .iface 0 (.int .i64 c)
theorem errW_none : errW none = .nilIface := rfl
theorem errW_some (c : Int) : errW (some c) = .iface 0 (.int .i64 c) := rfl

theorem info3 : (Try.prog.info? 3).map (fun i => (i.zero, i.size, i.bytes)) = some (some (.int .i64 0), 1, 8) := by kernel_rfl
theorem info28 : (Try.prog.info? 28).map (fun i => (i.zero, i.size, i.bytes)) = some (some (.agg #[(.int .i64 0), (.int .i64 0)]), 2, 16) := by kernel_rfl
-- the values' own types
/-! #### struct type 28 -/
structure S28 where
  f0 : Int
  f1 : Int
def z28 : S28 := ⟨(0 : Int), (0 : Int)⟩
def k28 : Kd S28 := Kd.iso (Kd.pair (Kd.int .i64) (Kd.int .i64)) (fun x : S28 => (x.f0, x.f1))
theorem k28_heap : Kd.Heap k28 := Kd.heap_iso _ (Kd.heap_pair (Kd.heap_int .i64) (Kd.heap_int .i64))
theorem k28_open {w : World} {x : S28} {cs : List Value} (h : k28.K w x cs) : cs = [.int .i64 x.f0, .int .i64 x.f1] := by
  obtain ⟨_, _, rfl, rfl, rfl⟩ := h
  exact rfl
theorem k28_openM {w : World} {base : Nat} {ok : Nat → Prop} {x : S28} {cs : List Value} (h : k28.M w base ok x cs) : cs = [.int .i64 x.f0, .int .i64 x.f1] := by
  obtain ⟨_, _, rfl, rfl, rfl⟩ := h
  exact rfl
theorem k28_mk (w : World) (x : S28)  : k28.K w x [.int .i64 x.f0, .int .i64 x.f1] := ⟨[.int .i64 x.f0], [.int .i64 x.f1], rfl, rfl, rfl⟩
theorem k28_mkM (w : World) (base : Nat) (ok : Nat → Prop) (x : S28)  : k28.M w base ok x [.int .i64 x.f0, .int .i64 x.f1] := ⟨[.int .i64 x.f0], [.int .i64 x.f1], rfl, rfl, rfl⟩
theorem k28_mkF (W : World) (ok : Nat → Prop) (x : S28) : Kd.FK k28 W ok x [.int .i64 x.f0, .int .i64 x.f1] := fun W2 _ => k28_mk W2 x
def rd_T28 (xs : List S28) (i : Int) : S28 := xs.getD i.toNat z28
theorem at_T28 {w : World} {A : Option Addr} {n : Nat} {xs : List S28} (h : Kd.C k28 w A n xs) (i : Int) (h0 : 0 ≤ i) (h1 : i < n) : ∃ ad , A = some ad ∧ w.cell? (ad.add (i.toNat * 2)) = some (.int .i64 (rd_T28 xs i).f0) ∧ w.cell? ⟨(ad.add (i.toNat * 2)).block, (ad.add (i.toNat * 2)).off + 1, none⟩ = some (.int .i64 (rd_T28 xs i).f1) := by
  obtain ⟨ad, c, e, _, hK, hc0⟩ := Kd.C_get h z28 i h0 h1
  have hc : ∀ j u, c[j]? = some u → w.cell? (ad.add (i.toNat * 2 + j)) = some u := hc0
  obtain rfl := k28_open hK
  exact ⟨ad, e, hc 0 _ rfl, by rw [← add_field _ _ 1 (by omega)]; exact hc 1 _ rfl⟩

/-- What is known of a function value of type 34: it is entered, and comes to what a says, in every later world. -/
def FnT34 (w : World) (F : FuncId) (fb fc : Array Value) (a : (Int → Int → Int → Int → Option (Bool))) : Prop :=
  (∀ (as_ : Array Value) (W : World), (callFunc F as_).run Try.prog W = .ok (.enter F as_) W) ∧
  ∀ (W : World), Below w.heap.size w W → ∀ (x0_0 : Int) (x0_1 : Int) (x1_0 : Int) (x1_1 : Int) (r0 : Bool), a x0_0 x0_1 x1_0 x1_1 = some r0 → Calls Try.prog F (fb ++ #[.agg #[.int .i64 x0_0, .int .i64 x0_1], .agg #[.int .i64 x1_0, .int .i64 x1_1]] ++ fc) W fun e w' => e = .returned (.bool r0) ∧ Below W.heap.size W w'
theorem FnT34.later {w w1 : World} {F : FuncId} {fb fc : Array Value} {a : (Int → Int → Int → Int → Option (Bool))} (h : FnT34 w F fb fc a) (hb : Below w.heap.size w w1) : FnT34 w1 F fb fc a :=
  ⟨h.1, fun W hB => h.2 W (below_step hb hB)⟩
theorem FnT34.call {w W : World} {F : FuncId} {fb fc as_ : Array Value} {a : (Int → Int → Int → Int → Option (Bool))} (h : FnT34 w F fb fc a) (hB : Below w.heap.size w W) {x0_0 : Int} {x0_1 : Int} {x1_0 : Int} {x1_1 : Int} {r0 : Bool} (ha : a x0_0 x0_1 x1_0 x1_1 = some r0) (he : as_ = fb ++ #[.agg #[.int .i64 x0_0, .int .i64 x0_1], .agg #[.int .i64 x1_0, .int .i64 x1_1]] ++ fc) : Calls Try.prog F as_ W fun e w' => e = .returned (.bool r0) ∧ Below W.heap.size W w' := by
  rw [he]; exact h.2 W hB _ _ _ _ _ ha

/-- What is known of a function value of type 37: it is entered, and comes to what a says, in every later world. -/
def FnT37 (w : World) (F : FuncId) (fb fc : Array Value) (a : (Int → Int → Option (Bool))) : Prop :=
  (∀ (as_ : Array Value) (W : World), (callFunc F as_).run Try.prog W = .ok (.enter F as_) W) ∧
  ∀ (W : World), Below w.heap.size w W → ∀ (x0_0 : Int) (x1_0 : Int) (r0 : Bool), a x0_0 x1_0 = some r0 → Calls Try.prog F (fb ++ #[.int .i64 x0_0, .int .i64 x1_0] ++ fc) W fun e w' => e = .returned (.bool r0) ∧ Below W.heap.size W w'
theorem FnT37.later {w w1 : World} {F : FuncId} {fb fc : Array Value} {a : (Int → Int → Option (Bool))} (h : FnT37 w F fb fc a) (hb : Below w.heap.size w w1) : FnT37 w1 F fb fc a :=
  ⟨h.1, fun W hB => h.2 W (below_step hb hB)⟩
theorem FnT37.call {w W : World} {F : FuncId} {fb fc as_ : Array Value} {a : (Int → Int → Option (Bool))} (h : FnT37 w F fb fc a) (hB : Below w.heap.size w W) {x0_0 : Int} {x1_0 : Int} {r0 : Bool} (ha : a x0_0 x1_0 = some r0) (he : as_ = fb ++ #[.int .i64 x0_0, .int .i64 x1_0] ++ fc) : Calls Try.prog F as_ W fun e w' => e = .returned (.bool r0) ∧ Below W.heap.size W w' := by
  rw [he]; exact h.2 W hB _ _ _ ha

end Go.Proofs.Ytfmeicojiadeiaa.P
