/-
  No cell of these rows narrows 'for every input' (looked for: loops, veiled, ifaces, maps, wideKeys, modest, calm, conditions, laid).
  DERIVED. THE GIVEN ROWS OF THIS SEAT. 7 by the template 'for every input the law returns true; each argument reads behind the call as it read before'; 0 by the template 'total and deterministic' (their statements: YtpkkcjmblocjdaaGreatTotals.lean).
  GIVEN WITH THE SEED: the statements are not yours to turn. If you find one false, say at which input.
  Laid BY PROGRAM, IN A SANDBOX (cutbox-rows.mjs): the forced cells as the released guide's own fill.sh prints them over the translation 8c065b453da7e238… (all of the seat's roots in one cut). By AI agents, Wed Nov 11 2026. No macro, syntax, notation, axiom, sorry.
-/
import Derived.Test.YtpkkcjmblocjdaaGreatChecked
import GoSem.Claim
import GoSem.ClaimJoined
import GoSem.ClaimMapViews
import Derived.JoinedTies
import Derived.KernelRfl
namespace Go.Proofs.YtpkkcjmblocjdaaGreat
/- THE CELL 'sum', in the pinned program and in every row, IS THE sha256 OF THE DUMP (.gsa) THAT YtpkkcjmblocjdaaGreatProg.lean LOADS. Nothing in Lean hashes anything: it is a label: what it is worth is what the hold of that sum in a sandbox is worth. -/
noncomputable def Tryz.pinned : Pinned := { name := "ytpkkcjmblocjdaagreat", sum := "8c065b453da7e238f1b882f9332d00dfd35a97859473508630ddbde1f882b871", checked := Tryz.checked }
namespace Rows
def none {H : Type} : Left H := { results := [], args := [] }

/-- 'parquetlaw12.FillMakes': WHATEVER THE INPUT: true; the input reads as it did. -/
def fillMakesSpec : ChangeSpec := { name := "fillMakes", fn := fun _ => fun
  | [d] => { results := [.lit (.bool true)], args := [d] }
  | _ => none }
def fillMakesRow : OpenClaim := { program := "ytpkkcjmblocjdaagreat", sum := "8c065b453da7e238f1b882f9332d00dfd35a97859473508630ddbde1f882b871", func := "parquet/parquetlaw12.FillMakes", spec := "fillMakes", unfollowed := true, recurses := true, plainKeys := false, apart := false }
def FillMakesSaid : Prop := fillMakesRow.holds Tryz.pinned (OpenSpec.ofChange fillMakesSpec)

/-- ITS FALSE NEIGHBOUR: 'it returns false'. Refute it at one input. -/
def fillMakesWrong : ChangeSpec := { name := "fillMakes", fn := fun _ => fun
  | [d] => { results := [.lit (.bool false)], args := [d] }
  | _ => none }
def FillMakesWrongFalsely : Prop := fillMakesRow.holds Tryz.pinned (OpenSpec.ofChange fillMakesWrong)

/-- 'parquetlaw12.FillWhole': WHATEVER THE INPUT: true; the input reads as it did. -/
def fillWholeSpec : ChangeSpec := { name := "fillWhole", fn := fun _ => fun
  | [d] => { results := [.lit (.bool true)], args := [d] }
  | _ => none }
def fillWholeRow : OpenClaim := { program := "ytpkkcjmblocjdaagreat", sum := "8c065b453da7e238f1b882f9332d00dfd35a97859473508630ddbde1f882b871", func := "parquet/parquetlaw12.FillWhole", spec := "fillWhole", unfollowed := true, recurses := true, plainKeys := false, apart := false }
def FillWholeSaid : Prop := fillWholeRow.holds Tryz.pinned (OpenSpec.ofChange fillWholeSpec)

/-- ITS FALSE NEIGHBOUR: 'it returns false'. Refute it at one input. -/
def fillWholeWrong : ChangeSpec := { name := "fillWhole", fn := fun _ => fun
  | [d] => { results := [.lit (.bool false)], args := [d] }
  | _ => none }
def FillWholeWrongFalsely : Prop := fillWholeRow.holds Tryz.pinned (OpenSpec.ofChange fillWholeWrong)

/-- 'parquetlaw12.FillApart': WHATEVER THE INPUT: true; the input reads as it did. -/
def fillApartSpec : ChangeSpec := { name := "fillApart", fn := fun _ => fun
  | [d] => { results := [.lit (.bool true)], args := [d] }
  | _ => none }
def fillApartRow : OpenClaim := { program := "ytpkkcjmblocjdaagreat", sum := "8c065b453da7e238f1b882f9332d00dfd35a97859473508630ddbde1f882b871", func := "parquet/parquetlaw12.FillApart", spec := "fillApart", unfollowed := true, recurses := true, plainKeys := false, apart := false }
def FillApartSaid : Prop := fillApartRow.holds Tryz.pinned (OpenSpec.ofChange fillApartSpec)

/-- ITS FALSE NEIGHBOUR: 'it returns false'. Refute it at one input. -/
def fillApartWrong : ChangeSpec := { name := "fillApart", fn := fun _ => fun
  | [d] => { results := [.lit (.bool false)], args := [d] }
  | _ => none }
def FillApartWrongFalsely : Prop := fillApartRow.holds Tryz.pinned (OpenSpec.ofChange fillApartWrong)

/-- 'parquetlaw12.FillEuler': WHATEVER THE INPUT: true; the input reads as it did. -/
def fillEulerSpec : ChangeSpec := { name := "fillEuler", fn := fun _ => fun
  | [d] => { results := [.lit (.bool true)], args := [d] }
  | _ => none }
def fillEulerRow : OpenClaim := { program := "ytpkkcjmblocjdaagreat", sum := "8c065b453da7e238f1b882f9332d00dfd35a97859473508630ddbde1f882b871", func := "parquet/parquetlaw12.FillEuler", spec := "fillEuler", unfollowed := true, recurses := true, plainKeys := false, apart := false }
def FillEulerSaid : Prop := fillEulerRow.holds Tryz.pinned (OpenSpec.ofChange fillEulerSpec)

/-- ITS FALSE NEIGHBOUR: 'it returns false'. Refute it at one input. -/
def fillEulerWrong : ChangeSpec := { name := "fillEuler", fn := fun _ => fun
  | [d] => { results := [.lit (.bool false)], args := [d] }
  | _ => none }
def FillEulerWrongFalsely : Prop := fillEulerRow.holds Tryz.pinned (OpenSpec.ofChange fillEulerWrong)

/-- 'parquetlaw12.FillMost': WHATEVER THE INPUT: true; the input reads as it did. -/
def fillMostSpec : ChangeSpec := { name := "fillMost", fn := fun _ => fun
  | [d] => { results := [.lit (.bool true)], args := [d] }
  | _ => none }
def fillMostRow : OpenClaim := { program := "ytpkkcjmblocjdaagreat", sum := "8c065b453da7e238f1b882f9332d00dfd35a97859473508630ddbde1f882b871", func := "parquet/parquetlaw12.FillMost", spec := "fillMost", unfollowed := true, recurses := true, plainKeys := false, apart := false }
def FillMostSaid : Prop := fillMostRow.holds Tryz.pinned (OpenSpec.ofChange fillMostSpec)

/-- ITS FALSE NEIGHBOUR: 'it returns false'. Refute it at one input. -/
def fillMostWrong : ChangeSpec := { name := "fillMost", fn := fun _ => fun
  | [d] => { results := [.lit (.bool false)], args := [d] }
  | _ => none }
def FillMostWrongFalsely : Prop := fillMostRow.holds Tryz.pinned (OpenSpec.ofChange fillMostWrong)

/-- 'parquetlaw12.FillCounts': WHATEVER THE INPUT: true; the input reads as it did. -/
def fillCountsSpec : ChangeSpec := { name := "fillCounts", fn := fun _ => fun
  | [d] => { results := [.lit (.bool true)], args := [d] }
  | _ => none }
def fillCountsRow : OpenClaim := { program := "ytpkkcjmblocjdaagreat", sum := "8c065b453da7e238f1b882f9332d00dfd35a97859473508630ddbde1f882b871", func := "parquet/parquetlaw12.FillCounts", spec := "fillCounts", unfollowed := true, recurses := true, plainKeys := false, apart := false }
def FillCountsSaid : Prop := fillCountsRow.holds Tryz.pinned (OpenSpec.ofChange fillCountsSpec)

/-- ITS FALSE NEIGHBOUR: 'it returns false'. Refute it at one input. -/
def fillCountsWrong : ChangeSpec := { name := "fillCounts", fn := fun _ => fun
  | [d] => { results := [.lit (.bool false)], args := [d] }
  | _ => none }
def FillCountsWrongFalsely : Prop := fillCountsRow.holds Tryz.pinned (OpenSpec.ofChange fillCountsWrong)

/-- 'parquetlaw12.FillChecks': WHATEVER THE INPUT: true; the input reads as it did. -/
def fillChecksSpec : ChangeSpec := { name := "fillChecks", fn := fun _ => fun
  | [d1, d2, d3, d4] => { results := [.lit (.bool true)], args := [d1, d2, d3, d4] }
  | _ => none }
def fillChecksRow : OpenClaim := { program := "ytpkkcjmblocjdaagreat", sum := "8c065b453da7e238f1b882f9332d00dfd35a97859473508630ddbde1f882b871", func := "parquet/parquetlaw12.FillChecks", spec := "fillChecks", unfollowed := true, recurses := true, plainKeys := false, apart := false }
def FillChecksSaid : Prop := fillChecksRow.holds Tryz.pinned (OpenSpec.ofChange fillChecksSpec)

/-- ITS FALSE NEIGHBOUR: 'it returns false'. Refute it at one input. -/
def fillChecksWrong : ChangeSpec := { name := "fillChecks", fn := fun _ => fun
  | [d1, d2, d3, d4] => { results := [.lit (.bool false)], args := [d1, d2, d3, d4] }
  | _ => none }
def FillChecksWrongFalsely : Prop := fillChecksRow.holds Tryz.pinned (OpenSpec.ofChange fillChecksWrong)

/- THE SECOND FORM. 'bulk': how many values and letters a reading holds, each counted each time it is reached (what is shared counts as often as it is met; a slice's spare places count too). A statement '..UptoSaid' is the law's where the arguments, and the package variables that the reading takes, are together of bulk at most 1048576: NARROWER than '..Said'. Prove '..Said' where nothing that the law and all that it calls make is longer than what came in: it says more and counts as full. Else prove '..UptoSaid'. A law counts once. -/
mutual
def uptoBulk {H : Type} : DataW H → Nat
  | .lit (.string bytes) => bytes.length + 1
  | .lit _ => 1
  | .nil => 1
  | .ptr d => uptoBulk d + 1
  | .slice elems spare => uptoBulkAll elems + uptoBulkAll spare + 1
  | .agg parts => uptoBulkAll parts + 1
  | .iface _ d => uptoBulk d + 1
  | .map entries => uptoBulkEntries entries + 1
  | .held _ => 1
def uptoBulkAll {H : Type} : List (DataW H) → Nat
  | [] => 0
  | d :: r => uptoBulk d + uptoBulkAll r
def uptoBulkEntries {H : Type} : List (Lit × DataW H) → Nat
  | [] => 0
  | x :: r => uptoBulkEntry x + uptoBulkEntries r
def uptoBulkEntry {H : Type} : Lit × DataW H → Nat
  | (.string bytes, d) => bytes.length + uptoBulk d + 1
  | (_, d) => uptoBulk d + 1
 end
def uptoSmall : (H : Type) → List (DataW H) → Bool := fun _ ds => decide (uptoBulkAll ds ≤ 1048576)
def OpenSpec.upto (s : _root_.Go.ChangeSpec) : _root_.Go.OpenSpec := { _root_.Go.OpenSpec.ofChange s with cond := some uptoSmall }

/-- 'parquetlaw12.FillMakes', WHERE WHAT IT READS IS OF BULK AT MOST 1048576: true; the input reads as it did. -/
def fillMakesUptoRow : OpenClaim := { program := "ytpkkcjmblocjdaagreat", sum := "8c065b453da7e238f1b882f9332d00dfd35a97859473508630ddbde1f882b871", func := "parquet/parquetlaw12.FillMakes", spec := "fillMakes", unfollowed := true, recurses := true, plainKeys := false, apart := false, narrowed := true }
def FillMakesUptoSaid : Prop := fillMakesUptoRow.holds Tryz.pinned (OpenSpec.upto fillMakesSpec)

/-- 'parquetlaw12.FillWhole', WHERE WHAT IT READS IS OF BULK AT MOST 1048576: true; the input reads as it did. -/
def fillWholeUptoRow : OpenClaim := { program := "ytpkkcjmblocjdaagreat", sum := "8c065b453da7e238f1b882f9332d00dfd35a97859473508630ddbde1f882b871", func := "parquet/parquetlaw12.FillWhole", spec := "fillWhole", unfollowed := true, recurses := true, plainKeys := false, apart := false, narrowed := true }
def FillWholeUptoSaid : Prop := fillWholeUptoRow.holds Tryz.pinned (OpenSpec.upto fillWholeSpec)

/-- 'parquetlaw12.FillApart', WHERE WHAT IT READS IS OF BULK AT MOST 1048576: true; the input reads as it did. -/
def fillApartUptoRow : OpenClaim := { program := "ytpkkcjmblocjdaagreat", sum := "8c065b453da7e238f1b882f9332d00dfd35a97859473508630ddbde1f882b871", func := "parquet/parquetlaw12.FillApart", spec := "fillApart", unfollowed := true, recurses := true, plainKeys := false, apart := false, narrowed := true }
def FillApartUptoSaid : Prop := fillApartUptoRow.holds Tryz.pinned (OpenSpec.upto fillApartSpec)

/-- 'parquetlaw12.FillEuler', WHERE WHAT IT READS IS OF BULK AT MOST 1048576: true; the input reads as it did. -/
def fillEulerUptoRow : OpenClaim := { program := "ytpkkcjmblocjdaagreat", sum := "8c065b453da7e238f1b882f9332d00dfd35a97859473508630ddbde1f882b871", func := "parquet/parquetlaw12.FillEuler", spec := "fillEuler", unfollowed := true, recurses := true, plainKeys := false, apart := false, narrowed := true }
def FillEulerUptoSaid : Prop := fillEulerUptoRow.holds Tryz.pinned (OpenSpec.upto fillEulerSpec)

/-- 'parquetlaw12.FillMost', WHERE WHAT IT READS IS OF BULK AT MOST 1048576: true; the input reads as it did. -/
def fillMostUptoRow : OpenClaim := { program := "ytpkkcjmblocjdaagreat", sum := "8c065b453da7e238f1b882f9332d00dfd35a97859473508630ddbde1f882b871", func := "parquet/parquetlaw12.FillMost", spec := "fillMost", unfollowed := true, recurses := true, plainKeys := false, apart := false, narrowed := true }
def FillMostUptoSaid : Prop := fillMostUptoRow.holds Tryz.pinned (OpenSpec.upto fillMostSpec)

/-- 'parquetlaw12.FillCounts', WHERE WHAT IT READS IS OF BULK AT MOST 1048576: true; the input reads as it did. -/
def fillCountsUptoRow : OpenClaim := { program := "ytpkkcjmblocjdaagreat", sum := "8c065b453da7e238f1b882f9332d00dfd35a97859473508630ddbde1f882b871", func := "parquet/parquetlaw12.FillCounts", spec := "fillCounts", unfollowed := true, recurses := true, plainKeys := false, apart := false, narrowed := true }
def FillCountsUptoSaid : Prop := fillCountsUptoRow.holds Tryz.pinned (OpenSpec.upto fillCountsSpec)

/-- 'parquetlaw12.FillChecks', WHERE WHAT IT READS IS OF BULK AT MOST 1048576: true; the input reads as it did. -/
def fillChecksUptoRow : OpenClaim := { program := "ytpkkcjmblocjdaagreat", sum := "8c065b453da7e238f1b882f9332d00dfd35a97859473508630ddbde1f882b871", func := "parquet/parquetlaw12.FillChecks", spec := "fillChecks", unfollowed := true, recurses := true, plainKeys := false, apart := false, narrowed := true }
def FillChecksUptoSaid : Prop := fillChecksUptoRow.holds Tryz.pinned (OpenSpec.upto fillChecksSpec)

end Rows
end Go.Proofs.YtpkkcjmblocjdaaGreat
