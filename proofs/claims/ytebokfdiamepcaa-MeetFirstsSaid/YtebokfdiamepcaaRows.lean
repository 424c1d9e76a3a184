/-
  No cell of these rows narrows 'for every input' (looked for: loops, veiled, ifaces, maps, wideKeys, modest, calm, conditions, laid).
  DERIVED. THE GIVEN ROWS OF THIS SEAT. 7 by the template 'for every input the law returns true; each argument reads behind the call as it read before'; 0 by the template 'total and deterministic' (their statements: YtebokfdiamepcaaTotals.lean).
  GIVEN WITH THE SEED: the statements are not yours to turn. If you find one false, say at which input.
  Laid BY PROGRAM, IN A SANDBOX (cutbox-rows.mjs): the forced cells as the released guide's own fill.sh prints them over the translation 625ec8b2d7e539bb… (all of the seat's roots in one cut). By AI agents, Wed Nov 11 2026. No macro, syntax, notation, axiom, sorry.
-/
import Derived.Test.YtebokfdiamepcaaChecked
import GoSem.Claim
import GoSem.ClaimJoined
import GoSem.ClaimMapViews
import Derived.JoinedTies
import Derived.KernelRfl
namespace Go.Proofs.Ytebokfdiamepcaa
/- THE CELL 'sum', in the pinned program and in every row, IS THE sha256 OF THE DUMP (.gsa) THAT YtebokfdiamepcaaProg.lean LOADS. Nothing in Lean hashes anything: it is a label: what it is worth is what the hold of that sum in a sandbox is worth. -/
noncomputable def Try.pinned : Pinned := { name := "ytebokfdiamepcaa", sum := "625ec8b2d7e539bb72e0ba81106dff99ce0959efc80fc55734fd71f173e32f8f", checked := Try.checked }
namespace Rows
def none {H : Type} : Left H := { results := [], args := [] }

/-- 'parquetlaw04.MeetTells': WHATEVER THE INPUT: true; the input reads as it did. -/
def meetTellsSpec : ChangeSpec := { name := "meetTells", fn := fun _ => fun
  | [d1, d2, d3, d4] => { results := [.lit (.bool true)], args := [d1, d2, d3, d4] }
  | _ => none }
def meetTellsRow : OpenClaim := { program := "ytebokfdiamepcaa", sum := "625ec8b2d7e539bb72e0ba81106dff99ce0959efc80fc55734fd71f173e32f8f", func := "parquet/parquetlaw04.MeetTells", spec := "meetTells", apart := false }
def MeetTellsSaid : Prop := meetTellsRow.holds Try.pinned (OpenSpec.ofChange meetTellsSpec)

/-- ITS FALSE NEIGHBOUR: 'it returns false'. Refute it at one input. -/
def meetTellsWrong : ChangeSpec := { name := "meetTells", fn := fun _ => fun
  | [d1, d2, d3, d4] => { results := [.lit (.bool false)], args := [d1, d2, d3, d4] }
  | _ => none }
def MeetTellsWrongFalsely : Prop := meetTellsRow.holds Try.pinned (OpenSpec.ofChange meetTellsWrong)

/-- 'parquetlaw04.MeetOns': WHATEVER THE INPUT: true; the input reads as it did. -/
def meetOnsSpec : ChangeSpec := { name := "meetOns", fn := fun _ => fun
  | [d1, d2, d3] => { results := [.lit (.bool true)], args := [d1, d2, d3] }
  | _ => none }
def meetOnsRow : OpenClaim := { program := "ytebokfdiamepcaa", sum := "625ec8b2d7e539bb72e0ba81106dff99ce0959efc80fc55734fd71f173e32f8f", func := "parquet/parquetlaw04.MeetOns", spec := "meetOns", apart := false }
def MeetOnsSaid : Prop := meetOnsRow.holds Try.pinned (OpenSpec.ofChange meetOnsSpec)

/-- ITS FALSE NEIGHBOUR: 'it returns false'. Refute it at one input. -/
def meetOnsWrong : ChangeSpec := { name := "meetOns", fn := fun _ => fun
  | [d1, d2, d3] => { results := [.lit (.bool false)], args := [d1, d2, d3] }
  | _ => none }
def MeetOnsWrongFalsely : Prop := meetOnsRow.holds Try.pinned (OpenSpec.ofChange meetOnsWrong)

/-- 'parquetlaw04.MeetEnds': WHATEVER THE INPUT: true; the input reads as it did. -/
def meetEndsSpec : ChangeSpec := { name := "meetEnds", fn := fun _ => fun
  | [d1, d2, d3, d4] => { results := [.lit (.bool true)], args := [d1, d2, d3, d4] }
  | _ => none }
def meetEndsRow : OpenClaim := { program := "ytebokfdiamepcaa", sum := "625ec8b2d7e539bb72e0ba81106dff99ce0959efc80fc55734fd71f173e32f8f", func := "parquet/parquetlaw04.MeetEnds", spec := "meetEnds", apart := false }
def MeetEndsSaid : Prop := meetEndsRow.holds Try.pinned (OpenSpec.ofChange meetEndsSpec)

/-- ITS FALSE NEIGHBOUR: 'it returns false'. Refute it at one input. -/
def meetEndsWrong : ChangeSpec := { name := "meetEnds", fn := fun _ => fun
  | [d1, d2, d3, d4] => { results := [.lit (.bool false)], args := [d1, d2, d3, d4] }
  | _ => none }
def MeetEndsWrongFalsely : Prop := meetEndsRow.holds Try.pinned (OpenSpec.ofChange meetEndsWrong)

/-- 'parquetlaw04.MeetParts': WHATEVER THE INPUT: true; the input reads as it did. -/
def meetPartsSpec : ChangeSpec := { name := "meetParts", fn := fun _ => fun
  | [d1, d2, d3, d4, d5] => { results := [.lit (.bool true)], args := [d1, d2, d3, d4, d5] }
  | _ => none }
def meetPartsRow : OpenClaim := { program := "ytebokfdiamepcaa", sum := "625ec8b2d7e539bb72e0ba81106dff99ce0959efc80fc55734fd71f173e32f8f", func := "parquet/parquetlaw04.MeetParts", spec := "meetParts", apart := false }
def MeetPartsSaid : Prop := meetPartsRow.holds Try.pinned (OpenSpec.ofChange meetPartsSpec)

/-- ITS FALSE NEIGHBOUR: 'it returns false'. Refute it at one input. -/
def meetPartsWrong : ChangeSpec := { name := "meetParts", fn := fun _ => fun
  | [d1, d2, d3, d4, d5] => { results := [.lit (.bool false)], args := [d1, d2, d3, d4, d5] }
  | _ => none }
def MeetPartsWrongFalsely : Prop := meetPartsRow.holds Try.pinned (OpenSpec.ofChange meetPartsWrong)

/-- 'parquetlaw04.MeetMoved': WHATEVER THE INPUT: true; the input reads as it did. -/
def meetMovedSpec : ChangeSpec := { name := "meetMoved", fn := fun _ => fun
  | [d1, d2, d3, d4, d5] => { results := [.lit (.bool true)], args := [d1, d2, d3, d4, d5] }
  | _ => none }
def meetMovedRow : OpenClaim := { program := "ytebokfdiamepcaa", sum := "625ec8b2d7e539bb72e0ba81106dff99ce0959efc80fc55734fd71f173e32f8f", func := "parquet/parquetlaw04.MeetMoved", spec := "meetMoved", apart := false }
def MeetMovedSaid : Prop := meetMovedRow.holds Try.pinned (OpenSpec.ofChange meetMovedSpec)

/-- ITS FALSE NEIGHBOUR: 'it returns false'. Refute it at one input. -/
def meetMovedWrong : ChangeSpec := { name := "meetMoved", fn := fun _ => fun
  | [d1, d2, d3, d4, d5] => { results := [.lit (.bool false)], args := [d1, d2, d3, d4, d5] }
  | _ => none }
def MeetMovedWrongFalsely : Prop := meetMovedRow.holds Try.pinned (OpenSpec.ofChange meetMovedWrong)

/-- 'parquetlaw04.MeetFan': WHATEVER THE INPUT: true; the input reads as it did. -/
def meetFanSpec : ChangeSpec := { name := "meetFan", fn := fun _ => fun
  | [d1, d2, d3] => { results := [.lit (.bool true)], args := [d1, d2, d3] }
  | _ => none }
def meetFanRow : OpenClaim := { program := "ytebokfdiamepcaa", sum := "625ec8b2d7e539bb72e0ba81106dff99ce0959efc80fc55734fd71f173e32f8f", func := "parquet/parquetlaw04.MeetFan", spec := "meetFan", apart := false }
def MeetFanSaid : Prop := meetFanRow.holds Try.pinned (OpenSpec.ofChange meetFanSpec)

/-- ITS FALSE NEIGHBOUR: 'it returns false'. Refute it at one input. -/
def meetFanWrong : ChangeSpec := { name := "meetFan", fn := fun _ => fun
  | [d1, d2, d3] => { results := [.lit (.bool false)], args := [d1, d2, d3] }
  | _ => none }
def MeetFanWrongFalsely : Prop := meetFanRow.holds Try.pinned (OpenSpec.ofChange meetFanWrong)

/-- 'parquetlaw04.MeetFirsts': WHATEVER THE INPUT: true; the input reads as it did. -/
def meetFirstsSpec : ChangeSpec := { name := "meetFirsts", fn := fun _ => fun
  | [d] => { results := [.lit (.bool true)], args := [d] }
  | _ => none }
def meetFirstsRow : OpenClaim := { program := "ytebokfdiamepcaa", sum := "625ec8b2d7e539bb72e0ba81106dff99ce0959efc80fc55734fd71f173e32f8f", func := "parquet/parquetlaw04.MeetFirsts", spec := "meetFirsts", apart := false }
def MeetFirstsSaid : Prop := meetFirstsRow.holds Try.pinned (OpenSpec.ofChange meetFirstsSpec)

/-- ITS FALSE NEIGHBOUR: 'it returns false'. Refute it at one input. -/
def meetFirstsWrong : ChangeSpec := { name := "meetFirsts", fn := fun _ => fun
  | [d] => { results := [.lit (.bool false)], args := [d] }
  | _ => none }
def MeetFirstsWrongFalsely : Prop := meetFirstsRow.holds Try.pinned (OpenSpec.ofChange meetFirstsWrong)

/- THE SECOND FORM. 'bulk': how many values and letters a reading holds, each counted each time it is reached (what is shared counts as often as it is met; a slice's spare places count too). A statement '..UptoSaid' is the law's where the arguments, and the package variables that the reading takes, are together of bulk at most 1048576: NARROWER than '..Said'. Prove '..Said' where nothing that the law and all that it calls make is longer than what came in: it says more and counts as full. Else prove '..UptoSaid'. A law counts once. -/
mutual
def uptoBulk {H : Type} : DataW H → Nat
  | .lit (.string bytes) => bytes.length + 1
  | .lit _ => 1
  | .nil => 1
  | .ptr d => uptoBulk d + 1
  | .slice elems spare => uptoBulkAll elems + uptoBulkAll spare + 1
  | .agg parts => uptoBulkAll parts + 1
  | .iface _ d => uptoBulk d + 1
  | .map entries => uptoBulkEntries entries + 1
  | .held _ => 1
def uptoBulkAll {H : Type} : List (DataW H) → Nat
  | [] => 0
  | d :: r => uptoBulk d + uptoBulkAll r
def uptoBulkEntries {H : Type} : List (Lit × DataW H) → Nat
  | [] => 0
  | x :: r => uptoBulkEntry x + uptoBulkEntries r
def uptoBulkEntry {H : Type} : Lit × DataW H → Nat
  | (.string bytes, d) => bytes.length + uptoBulk d + 1
  | (_, d) => uptoBulk d + 1
 end
def uptoSmall : (H : Type) → List (DataW H) → Bool := fun _ ds => decide (uptoBulkAll ds ≤ 1048576)
def OpenSpec.upto (s : _root_.Go.ChangeSpec) : _root_.Go.OpenSpec := { _root_.Go.OpenSpec.ofChange s with cond := some uptoSmall }

/-- 'parquetlaw04.MeetTells', WHERE WHAT IT READS IS OF BULK AT MOST 1048576: true; the input reads as it did. -/
def meetTellsUptoRow : OpenClaim := { program := "ytebokfdiamepcaa", sum := "625ec8b2d7e539bb72e0ba81106dff99ce0959efc80fc55734fd71f173e32f8f", func := "parquet/parquetlaw04.MeetTells", spec := "meetTells", apart := false, narrowed := true }
def MeetTellsUptoSaid : Prop := meetTellsUptoRow.holds Try.pinned (OpenSpec.upto meetTellsSpec)

/-- 'parquetlaw04.MeetOns', WHERE WHAT IT READS IS OF BULK AT MOST 1048576: true; the input reads as it did. -/
def meetOnsUptoRow : OpenClaim := { program := "ytebokfdiamepcaa", sum := "625ec8b2d7e539bb72e0ba81106dff99ce0959efc80fc55734fd71f173e32f8f", func := "parquet/parquetlaw04.MeetOns", spec := "meetOns", apart := false, narrowed := true }
def MeetOnsUptoSaid : Prop := meetOnsUptoRow.holds Try.pinned (OpenSpec.upto meetOnsSpec)

/-- 'parquetlaw04.MeetEnds', WHERE WHAT IT READS IS OF BULK AT MOST 1048576: true; the input reads as it did. -/
def meetEndsUptoRow : OpenClaim := { program := "ytebokfdiamepcaa", sum := "625ec8b2d7e539bb72e0ba81106dff99ce0959efc80fc55734fd71f173e32f8f", func := "parquet/parquetlaw04.MeetEnds", spec := "meetEnds", apart := false, narrowed := true }
def MeetEndsUptoSaid : Prop := meetEndsUptoRow.holds Try.pinned (OpenSpec.upto meetEndsSpec)

/-- 'parquetlaw04.MeetParts', WHERE WHAT IT READS IS OF BULK AT MOST 1048576: true; the input reads as it did. -/
def meetPartsUptoRow : OpenClaim := { program := "ytebokfdiamepcaa", sum := "625ec8b2d7e539bb72e0ba81106dff99ce0959efc80fc55734fd71f173e32f8f", func := "parquet/parquetlaw04.MeetParts", spec := "meetParts", apart := false, narrowed := true }
def MeetPartsUptoSaid : Prop := meetPartsUptoRow.holds Try.pinned (OpenSpec.upto meetPartsSpec)

/-- 'parquetlaw04.MeetMoved', WHERE WHAT IT READS IS OF BULK AT MOST 1048576: true; the input reads as it did. -/
def meetMovedUptoRow : OpenClaim := { program := "ytebokfdiamepcaa", sum := "625ec8b2d7e539bb72e0ba81106dff99ce0959efc80fc55734fd71f173e32f8f", func := "parquet/parquetlaw04.MeetMoved", spec := "meetMoved", apart := false, narrowed := true }
def MeetMovedUptoSaid : Prop := meetMovedUptoRow.holds Try.pinned (OpenSpec.upto meetMovedSpec)

/-- 'parquetlaw04.MeetFan', WHERE WHAT IT READS IS OF BULK AT MOST 1048576: true; the input reads as it did. -/
def meetFanUptoRow : OpenClaim := { program := "ytebokfdiamepcaa", sum := "625ec8b2d7e539bb72e0ba81106dff99ce0959efc80fc55734fd71f173e32f8f", func := "parquet/parquetlaw04.MeetFan", spec := "meetFan", apart := false, narrowed := true }
def MeetFanUptoSaid : Prop := meetFanUptoRow.holds Try.pinned (OpenSpec.upto meetFanSpec)

/-- 'parquetlaw04.MeetFirsts', WHERE WHAT IT READS IS OF BULK AT MOST 1048576: true; the input reads as it did. -/
def meetFirstsUptoRow : OpenClaim := { program := "ytebokfdiamepcaa", sum := "625ec8b2d7e539bb72e0ba81106dff99ce0959efc80fc55734fd71f173e32f8f", func := "parquet/parquetlaw04.MeetFirsts", spec := "meetFirsts", apart := false, narrowed := true }
def MeetFirstsUptoSaid : Prop := meetFirstsUptoRow.holds Try.pinned (OpenSpec.upto meetFirstsSpec)

end Rows
end Go.Proofs.Ytebokfdiamepcaa
