/-
  No cell of these rows narrows 'for every input' (looked for: loops, veiled, ifaces, maps, wideKeys, modest, calm, conditions, laid).
  DERIVED. THE GIVEN ROWS OF THIS SEAT. 6 by the template 'for every input the law returns true; each argument reads behind the call as it read before'; 0 by the template 'total and deterministic' (their statements: YtiejhpighhjgiaaTotals.lean).
  GIVEN WITH THE SEED: the statements are not yours to turn. If you find one false, say at which input.
  Laid BY PROGRAM, IN A SANDBOX (cutbox-rows.mjs): the forced cells as the released guide's own fill.sh prints them over the translation b3e23d74799969a7… (all of the seat's roots in one cut). By AI agents, Wed Nov 11 2026. No macro, syntax, notation, axiom, sorry.
-/
import Derived.Test.YtiejhpighhjgiaaChecked
import GoSem.Claim
import GoSem.ClaimJoined
import GoSem.ClaimMapViews
import Derived.JoinedTies
import Derived.KernelRfl
namespace Go.Proofs.Ytiejhpighhjgiaa
/- THE CELL 'sum', in the pinned program and in every row, IS THE sha256 OF THE DUMP (.gsa) THAT YtiejhpighhjgiaaProg.lean LOADS. Nothing in Lean hashes anything: it is a label: what it is worth is what the hold of that sum in a sandbox is worth. -/
noncomputable def Try.pinned : Pinned := { name := "ytiejhpighhjgiaa", sum := "b3e23d74799969a77f232da33658a671a67465a8bb1c7451b47106f68383a444", checked := Try.checked }
namespace Rows
def none {H : Type} : Left H := { results := [], args := [] }

/-- 'parquetlaw20.HalveTells': WHATEVER THE INPUT: true; the input reads as it did. -/
def halveTellsSpec : ChangeSpec := { name := "halveTells", fn := fun _ => fun
  | [d1, d2, d3] => { results := [.lit (.bool true)], args := [d1, d2, d3] }
  | _ => none }
def halveTellsRow : OpenClaim := { program := "ytiejhpighhjgiaa", sum := "b3e23d74799969a77f232da33658a671a67465a8bb1c7451b47106f68383a444", func := "parquet/parquetlaw20.HalveTells", spec := "halveTells", unfollowed := true, recurses := true, plainKeys := false, apart := false }
def HalveTellsSaid : Prop := halveTellsRow.holds Try.pinned (OpenSpec.ofChange halveTellsSpec)

/-- ITS FALSE NEIGHBOUR: 'it returns false'. Refute it at one input. -/
def halveTellsWrong : ChangeSpec := { name := "halveTells", fn := fun _ => fun
  | [d1, d2, d3] => { results := [.lit (.bool false)], args := [d1, d2, d3] }
  | _ => none }
def HalveTellsWrongFalsely : Prop := halveTellsRow.holds Try.pinned (OpenSpec.ofChange halveTellsWrong)

/-- 'parquetlaw20.HalveWhole': WHATEVER THE INPUT: true; the input reads as it did. -/
def halveWholeSpec : ChangeSpec := { name := "halveWhole", fn := fun _ => fun
  | [d1, d2] => { results := [.lit (.bool true)], args := [d1, d2] }
  | _ => none }
def halveWholeRow : OpenClaim := { program := "ytiejhpighhjgiaa", sum := "b3e23d74799969a77f232da33658a671a67465a8bb1c7451b47106f68383a444", func := "parquet/parquetlaw20.HalveWhole", spec := "halveWhole", unfollowed := true, recurses := true, plainKeys := false, apart := false }
def HalveWholeSaid : Prop := halveWholeRow.holds Try.pinned (OpenSpec.ofChange halveWholeSpec)

/-- ITS FALSE NEIGHBOUR: 'it returns false'. Refute it at one input. -/
def halveWholeWrong : ChangeSpec := { name := "halveWhole", fn := fun _ => fun
  | [d1, d2] => { results := [.lit (.bool false)], args := [d1, d2] }
  | _ => none }
def HalveWholeWrongFalsely : Prop := halveWholeRow.holds Try.pinned (OpenSpec.ofChange halveWholeWrong)

/-- 'parquetlaw20.HalveEuler': WHATEVER THE INPUT: true; the input reads as it did. -/
def halveEulerSpec : ChangeSpec := { name := "halveEuler", fn := fun _ => fun
  | [d1, d2] => { results := [.lit (.bool true)], args := [d1, d2] }
  | _ => none }
def halveEulerRow : OpenClaim := { program := "ytiejhpighhjgiaa", sum := "b3e23d74799969a77f232da33658a671a67465a8bb1c7451b47106f68383a444", func := "parquet/parquetlaw20.HalveEuler", spec := "halveEuler", unfollowed := true, recurses := true, plainKeys := false, apart := false }
def HalveEulerSaid : Prop := halveEulerRow.holds Try.pinned (OpenSpec.ofChange halveEulerSpec)

/-- ITS FALSE NEIGHBOUR: 'it returns false'. Refute it at one input. -/
def halveEulerWrong : ChangeSpec := { name := "halveEuler", fn := fun _ => fun
  | [d1, d2] => { results := [.lit (.bool false)], args := [d1, d2] }
  | _ => none }
def HalveEulerWrongFalsely : Prop := halveEulerRow.holds Try.pinned (OpenSpec.ofChange halveEulerWrong)

/-- 'parquetlaw20.HalveCorners': WHATEVER THE INPUT: true; the input reads as it did. -/
def halveCornersSpec : ChangeSpec := { name := "halveCorners", fn := fun _ => fun
  | [d1, d2] => { results := [.lit (.bool true)], args := [d1, d2] }
  | _ => none }
def halveCornersRow : OpenClaim := { program := "ytiejhpighhjgiaa", sum := "b3e23d74799969a77f232da33658a671a67465a8bb1c7451b47106f68383a444", func := "parquet/parquetlaw20.HalveCorners", spec := "halveCorners", unfollowed := true, recurses := true, plainKeys := false, apart := false }
def HalveCornersSaid : Prop := halveCornersRow.holds Try.pinned (OpenSpec.ofChange halveCornersSpec)

/-- ITS FALSE NEIGHBOUR: 'it returns false'. Refute it at one input. -/
def halveCornersWrong : ChangeSpec := { name := "halveCorners", fn := fun _ => fun
  | [d1, d2] => { results := [.lit (.bool false)], args := [d1, d2] }
  | _ => none }
def HalveCornersWrongFalsely : Prop := halveCornersRow.holds Try.pinned (OpenSpec.ofChange halveCornersWrong)

/-- 'parquetlaw20.HalveBox': WHATEVER THE INPUT: true; the input reads as it did. -/
def halveBoxSpec : ChangeSpec := { name := "halveBox", fn := fun _ => fun
  | [d1, d2, d3] => { results := [.lit (.bool true)], args := [d1, d2, d3] }
  | _ => none }
def halveBoxRow : OpenClaim := { program := "ytiejhpighhjgiaa", sum := "b3e23d74799969a77f232da33658a671a67465a8bb1c7451b47106f68383a444", func := "parquet/parquetlaw20.HalveBox", spec := "halveBox", unfollowed := true, recurses := true, plainKeys := false, apart := false }
def HalveBoxSaid : Prop := halveBoxRow.holds Try.pinned (OpenSpec.ofChange halveBoxSpec)

/-- ITS FALSE NEIGHBOUR: 'it returns false'. Refute it at one input. -/
def halveBoxWrong : ChangeSpec := { name := "halveBox", fn := fun _ => fun
  | [d1, d2, d3] => { results := [.lit (.bool false)], args := [d1, d2, d3] }
  | _ => none }
def HalveBoxWrongFalsely : Prop := halveBoxRow.holds Try.pinned (OpenSpec.ofChange halveBoxWrong)

/-- 'parquetlaw20.HalveMoved': WHATEVER THE INPUT: true; the input reads as it did. -/
def halveMovedSpec : ChangeSpec := { name := "halveMoved", fn := fun _ => fun
  | [d1, d2, d3] => { results := [.lit (.bool true)], args := [d1, d2, d3] }
  | _ => none }
def halveMovedRow : OpenClaim := { program := "ytiejhpighhjgiaa", sum := "b3e23d74799969a77f232da33658a671a67465a8bb1c7451b47106f68383a444", func := "parquet/parquetlaw20.HalveMoved", spec := "halveMoved", unfollowed := true, recurses := true, plainKeys := false, apart := false }
def HalveMovedSaid : Prop := halveMovedRow.holds Try.pinned (OpenSpec.ofChange halveMovedSpec)

/-- ITS FALSE NEIGHBOUR: 'it returns false'. Refute it at one input. -/
def halveMovedWrong : ChangeSpec := { name := "halveMoved", fn := fun _ => fun
  | [d1, d2, d3] => { results := [.lit (.bool false)], args := [d1, d2, d3] }
  | _ => none }
def HalveMovedWrongFalsely : Prop := halveMovedRow.holds Try.pinned (OpenSpec.ofChange halveMovedWrong)

/- THE SECOND FORM. 'bulk': how many values and letters a reading holds, each counted each time it is reached (what is shared counts as often as it is met; a slice's spare places count too). A statement '..UptoSaid' is the law's where the arguments, and the package variables that the reading takes, are together of bulk at most 1048576: NARROWER than '..Said'. Prove '..Said' where nothing that the law and all that it calls make is longer than what came in: it says more and counts as full. Else prove '..UptoSaid'. A law counts once. -/
mutual
def uptoBulk {H : Type} : DataW H → Nat
  | .lit (.string bytes) => bytes.length + 1
  | .lit _ => 1
  | .nil => 1
  | .ptr d => uptoBulk d + 1
  | .slice elems spare => uptoBulkAll elems + uptoBulkAll spare + 1
  | .agg parts => uptoBulkAll parts + 1
  | .iface _ d => uptoBulk d + 1
  | .map entries => uptoBulkEntries entries + 1
  | .held _ => 1
def uptoBulkAll {H : Type} : List (DataW H) → Nat
  | [] => 0
  | d :: r => uptoBulk d + uptoBulkAll r
def uptoBulkEntries {H : Type} : List (Lit × DataW H) → Nat
  | [] => 0
  | x :: r => uptoBulkEntry x + uptoBulkEntries r
def uptoBulkEntry {H : Type} : Lit × DataW H → Nat
  | (.string bytes, d) => bytes.length + uptoBulk d + 1
  | (_, d) => uptoBulk d + 1
 end
def uptoSmall : (H : Type) → List (DataW H) → Bool := fun _ ds => decide (uptoBulkAll ds ≤ 1048576)
def OpenSpec.upto (s : _root_.Go.ChangeSpec) : _root_.Go.OpenSpec := { _root_.Go.OpenSpec.ofChange s with cond := some uptoSmall }

/-- 'parquetlaw20.HalveTells', WHERE WHAT IT READS IS OF BULK AT MOST 1048576: true; the input reads as it did. -/
def halveTellsUptoRow : OpenClaim := { program := "ytiejhpighhjgiaa", sum := "b3e23d74799969a77f232da33658a671a67465a8bb1c7451b47106f68383a444", func := "parquet/parquetlaw20.HalveTells", spec := "halveTells", unfollowed := true, recurses := true, plainKeys := false, apart := false, narrowed := true }
def HalveTellsUptoSaid : Prop := halveTellsUptoRow.holds Try.pinned (OpenSpec.upto halveTellsSpec)

/-- 'parquetlaw20.HalveWhole', WHERE WHAT IT READS IS OF BULK AT MOST 1048576: true; the input reads as it did. -/
def halveWholeUptoRow : OpenClaim := { program := "ytiejhpighhjgiaa", sum := "b3e23d74799969a77f232da33658a671a67465a8bb1c7451b47106f68383a444", func := "parquet/parquetlaw20.HalveWhole", spec := "halveWhole", unfollowed := true, recurses := true, plainKeys := false, apart := false, narrowed := true }
def HalveWholeUptoSaid : Prop := halveWholeUptoRow.holds Try.pinned (OpenSpec.upto halveWholeSpec)

/-- 'parquetlaw20.HalveEuler', WHERE WHAT IT READS IS OF BULK AT MOST 1048576: true; the input reads as it did. -/
def halveEulerUptoRow : OpenClaim := { program := "ytiejhpighhjgiaa", sum := "b3e23d74799969a77f232da33658a671a67465a8bb1c7451b47106f68383a444", func := "parquet/parquetlaw20.HalveEuler", spec := "halveEuler", unfollowed := true, recurses := true, plainKeys := false, apart := false, narrowed := true }
def HalveEulerUptoSaid : Prop := halveEulerUptoRow.holds Try.pinned (OpenSpec.upto halveEulerSpec)

/-- 'parquetlaw20.HalveCorners', WHERE WHAT IT READS IS OF BULK AT MOST 1048576: true; the input reads as it did. -/
def halveCornersUptoRow : OpenClaim := { program := "ytiejhpighhjgiaa", sum := "b3e23d74799969a77f232da33658a671a67465a8bb1c7451b47106f68383a444", func := "parquet/parquetlaw20.HalveCorners", spec := "halveCorners", unfollowed := true, recurses := true, plainKeys := false, apart := false, narrowed := true }
def HalveCornersUptoSaid : Prop := halveCornersUptoRow.holds Try.pinned (OpenSpec.upto halveCornersSpec)

/-- 'parquetlaw20.HalveBox', WHERE WHAT IT READS IS OF BULK AT MOST 1048576: true; the input reads as it did. -/
def halveBoxUptoRow : OpenClaim := { program := "ytiejhpighhjgiaa", sum := "b3e23d74799969a77f232da33658a671a67465a8bb1c7451b47106f68383a444", func := "parquet/parquetlaw20.HalveBox", spec := "halveBox", unfollowed := true, recurses := true, plainKeys := false, apart := false, narrowed := true }
def HalveBoxUptoSaid : Prop := halveBoxUptoRow.holds Try.pinned (OpenSpec.upto halveBoxSpec)

/-- 'parquetlaw20.HalveMoved', WHERE WHAT IT READS IS OF BULK AT MOST 1048576: true; the input reads as it did. -/
def halveMovedUptoRow : OpenClaim := { program := "ytiejhpighhjgiaa", sum := "b3e23d74799969a77f232da33658a671a67465a8bb1c7451b47106f68383a444", func := "parquet/parquetlaw20.HalveMoved", spec := "halveMoved", unfollowed := true, recurses := true, plainKeys := false, apart := false, narrowed := true }
def HalveMovedUptoSaid : Prop := halveMovedUptoRow.holds Try.pinned (OpenSpec.upto halveMovedSpec)

end Rows
end Go.Proofs.Ytiejhpighhjgiaa
