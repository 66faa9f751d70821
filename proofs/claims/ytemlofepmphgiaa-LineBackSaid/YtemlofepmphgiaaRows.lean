/-
  No cell of these rows narrows 'for every input' (looked for: loops, veiled, ifaces, maps, wideKeys, modest, calm, conditions, laid).
  DERIVED. THE GIVEN ROWS OF THIS SEAT. 6 by the template 'for every input the law returns true; each argument reads behind the call as it read before'; 0 by the template 'total and deterministic' (their statements: YtemlofepmphgiaaTotals.lean).
  GIVEN WITH THE SEED: the statements are not yours to turn. If you find one false, say at which input.
  Laid BY PROGRAM, IN A SANDBOX (cutbox-rows.mjs): the forced cells as the released guide's own fill.sh prints them over the translation 7f7696bf1a0ee653… (all of the seat's roots in one cut). By AI agents, Wed Nov 11 2026. No macro, syntax, notation, axiom, sorry.
-/
import Derived.Test.YtemlofepmphgiaaChecked
import GoSem.Claim
import GoSem.ClaimJoined
import GoSem.ClaimMapViews
import Derived.JoinedTies
import Derived.KernelRfl
namespace Go.Proofs.Ytemlofepmphgiaa
/- THE CELL 'sum', in the pinned program and in every row, IS THE sha256 OF THE DUMP (.gsa) THAT YtemlofepmphgiaaProg.lean LOADS. Nothing in Lean hashes anything: it is a label: what it is worth is what the hold of that sum in a sandbox is worth. -/
noncomputable def Try.pinned : Pinned := { name := "ytemlofepmphgiaa", sum := "7f7696bf1a0ee6533f37d4c39d1bba94cfaee7f290df956528a2f9d3b4a9a125", checked := Try.checked }
namespace Rows
def none {H : Type} : Left H := { results := [], args := [] }

/-- 'wharfingerlaw06.LineFeeds': WHATEVER THE INPUT: true; the input reads as it did. -/
def lineFeedsSpec : ChangeSpec := { name := "lineFeeds", fn := fun _ => fun
  | [d1, d2, d3, d4, d5] => { results := [.lit (.bool true)], args := [d1, d2, d3, d4, d5] }
  | _ => none }
def lineFeedsRow : OpenClaim := { program := "ytemlofepmphgiaa", sum := "7f7696bf1a0ee6533f37d4c39d1bba94cfaee7f290df956528a2f9d3b4a9a125", func := "wharfinger/wharfingerlaw06.LineFeeds", spec := "lineFeeds", inPlace := ["internal/bytealg.IndexByteString", "internal/bytealg.IndexString"], named := ["internal/bytealg.MaxLen"], apart := false }
def LineFeedsSaid : Prop := lineFeedsRow.holds Try.pinned (OpenSpec.ofChange lineFeedsSpec)

/-- ITS FALSE NEIGHBOUR: 'it returns false'. Refute it at one input. -/
def lineFeedsWrong : ChangeSpec := { name := "lineFeeds", fn := fun _ => fun
  | [d1, d2, d3, d4, d5] => { results := [.lit (.bool false)], args := [d1, d2, d3, d4, d5] }
  | _ => none }
def LineFeedsWrongFalsely : Prop := lineFeedsRow.holds Try.pinned (OpenSpec.ofChange lineFeedsWrong)

/-- 'wharfingerlaw06.LineParts': WHATEVER THE INPUT: true; the input reads as it did. -/
def linePartsSpec : ChangeSpec := { name := "lineParts", fn := fun _ => fun
  | [d1, d2, d3, d4, d5] => { results := [.lit (.bool true)], args := [d1, d2, d3, d4, d5] }
  | _ => none }
def linePartsRow : OpenClaim := { program := "ytemlofepmphgiaa", sum := "7f7696bf1a0ee6533f37d4c39d1bba94cfaee7f290df956528a2f9d3b4a9a125", func := "wharfinger/wharfingerlaw06.LineParts", spec := "lineParts", inPlace := ["internal/bytealg.IndexByteString", "internal/bytealg.IndexString"], named := ["internal/bytealg.MaxLen"], apart := false }
def LinePartsSaid : Prop := linePartsRow.holds Try.pinned (OpenSpec.ofChange linePartsSpec)

/-- ITS FALSE NEIGHBOUR: 'it returns false'. Refute it at one input. -/
def linePartsWrong : ChangeSpec := { name := "lineParts", fn := fun _ => fun
  | [d1, d2, d3, d4, d5] => { results := [.lit (.bool false)], args := [d1, d2, d3, d4, d5] }
  | _ => none }
def LinePartsWrongFalsely : Prop := linePartsRow.holds Try.pinned (OpenSpec.ofChange linePartsWrong)

/-- 'wharfingerlaw06.LineBack': WHATEVER THE INPUT: true; the input reads as it did. -/
def lineBackSpec : ChangeSpec := { name := "lineBack", fn := fun _ => fun
  | [d1, d2, d3] => { results := [.lit (.bool true)], args := [d1, d2, d3] }
  | _ => none }
def lineBackRow : OpenClaim := { program := "ytemlofepmphgiaa", sum := "7f7696bf1a0ee6533f37d4c39d1bba94cfaee7f290df956528a2f9d3b4a9a125", func := "wharfinger/wharfingerlaw06.LineBack", spec := "lineBack", inPlace := ["internal/bytealg.IndexByteString", "internal/bytealg.IndexString"], named := ["internal/bytealg.MaxLen"], apart := false }
def LineBackSaid : Prop := lineBackRow.holds Try.pinned (OpenSpec.ofChange lineBackSpec)

/-- ITS FALSE NEIGHBOUR: 'it returns false'. Refute it at one input. -/
def lineBackWrong : ChangeSpec := { name := "lineBack", fn := fun _ => fun
  | [d1, d2, d3] => { results := [.lit (.bool false)], args := [d1, d2, d3] }
  | _ => none }
def LineBackWrongFalsely : Prop := lineBackRow.holds Try.pinned (OpenSpec.ofChange lineBackWrong)

/-- 'wharfingerlaw06.LineNext': WHATEVER THE INPUT: true; the input reads as it did. -/
def lineNextSpec : ChangeSpec := { name := "lineNext", fn := fun _ => fun
  | [d1, d2, d3, d4] => { results := [.lit (.bool true)], args := [d1, d2, d3, d4] }
  | _ => none }
def lineNextRow : OpenClaim := { program := "ytemlofepmphgiaa", sum := "7f7696bf1a0ee6533f37d4c39d1bba94cfaee7f290df956528a2f9d3b4a9a125", func := "wharfinger/wharfingerlaw06.LineNext", spec := "lineNext", inPlace := ["internal/bytealg.IndexByteString", "internal/bytealg.IndexString"], named := ["internal/bytealg.MaxLen"], apart := false }
def LineNextSaid : Prop := lineNextRow.holds Try.pinned (OpenSpec.ofChange lineNextSpec)

/-- ITS FALSE NEIGHBOUR: 'it returns false'. Refute it at one input. -/
def lineNextWrong : ChangeSpec := { name := "lineNext", fn := fun _ => fun
  | [d1, d2, d3, d4] => { results := [.lit (.bool false)], args := [d1, d2, d3, d4] }
  | _ => none }
def LineNextWrongFalsely : Prop := lineNextRow.holds Try.pinned (OpenSpec.ofChange lineNextWrong)

/-- 'wharfingerlaw06.LineCounts': WHATEVER THE INPUT: true; the input reads as it did. -/
def lineCountsSpec : ChangeSpec := { name := "lineCounts", fn := fun _ => fun
  | [d1, d2] => { results := [.lit (.bool true)], args := [d1, d2] }
  | _ => none }
def lineCountsRow : OpenClaim := { program := "ytemlofepmphgiaa", sum := "7f7696bf1a0ee6533f37d4c39d1bba94cfaee7f290df956528a2f9d3b4a9a125", func := "wharfinger/wharfingerlaw06.LineCounts", spec := "lineCounts", inPlace := ["internal/bytealg.IndexByteString", "internal/bytealg.IndexString"], named := ["internal/bytealg.MaxLen"], apart := false }
def LineCountsSaid : Prop := lineCountsRow.holds Try.pinned (OpenSpec.ofChange lineCountsSpec)

/-- ITS FALSE NEIGHBOUR: 'it returns false'. Refute it at one input. -/
def lineCountsWrong : ChangeSpec := { name := "lineCounts", fn := fun _ => fun
  | [d1, d2] => { results := [.lit (.bool false)], args := [d1, d2] }
  | _ => none }
def LineCountsWrongFalsely : Prop := lineCountsRow.holds Try.pinned (OpenSpec.ofChange lineCountsWrong)

/-- 'wharfingerlaw06.LineLong': WHATEVER THE INPUT: true; the input reads as it did. -/
def lineLongSpec : ChangeSpec := { name := "lineLong", fn := fun _ => fun
  | [d1, d2] => { results := [.lit (.bool true)], args := [d1, d2] }
  | _ => none }
def lineLongRow : OpenClaim := { program := "ytemlofepmphgiaa", sum := "7f7696bf1a0ee6533f37d4c39d1bba94cfaee7f290df956528a2f9d3b4a9a125", func := "wharfinger/wharfingerlaw06.LineLong", spec := "lineLong", inPlace := ["internal/bytealg.IndexByteString", "internal/bytealg.IndexString"], named := ["internal/bytealg.MaxLen"], apart := false }
def LineLongSaid : Prop := lineLongRow.holds Try.pinned (OpenSpec.ofChange lineLongSpec)

/-- ITS FALSE NEIGHBOUR: 'it returns false'. Refute it at one input. -/
def lineLongWrong : ChangeSpec := { name := "lineLong", fn := fun _ => fun
  | [d1, d2] => { results := [.lit (.bool false)], args := [d1, d2] }
  | _ => none }
def LineLongWrongFalsely : Prop := lineLongRow.holds Try.pinned (OpenSpec.ofChange lineLongWrong)

/- THE SECOND FORM. 'bulk': how many values and letters a reading holds, each counted each time it is reached (what is shared counts as often as it is met; a slice's spare places count too). A statement '..UptoSaid' is the law's where the arguments, and the package variables that the reading takes, are together of bulk at most 1048576: NARROWER than '..Said'. Prove '..Said' where nothing that the law and all that it calls make is longer than what came in: it says more and counts as full. Else prove '..UptoSaid'. A law counts once. -/
mutual
def uptoBulk {H : Type} : DataW H → Nat
  | .lit (.string bytes) => bytes.length + 1
  | .lit _ => 1
  | .nil => 1
  | .ptr d => uptoBulk d + 1
  | .slice elems spare => uptoBulkAll elems + uptoBulkAll spare + 1
  | .agg parts => uptoBulkAll parts + 1
  | .iface _ d => uptoBulk d + 1
  | .map entries => uptoBulkEntries entries + 1
  | .held _ => 1
def uptoBulkAll {H : Type} : List (DataW H) → Nat
  | [] => 0
  | d :: r => uptoBulk d + uptoBulkAll r
def uptoBulkEntries {H : Type} : List (Lit × DataW H) → Nat
  | [] => 0
  | x :: r => uptoBulkEntry x + uptoBulkEntries r
def uptoBulkEntry {H : Type} : Lit × DataW H → Nat
  | (.string bytes, d) => bytes.length + uptoBulk d + 1
  | (_, d) => uptoBulk d + 1
 end
def uptoSmall : (H : Type) → List (DataW H) → Bool := fun _ ds => decide (uptoBulkAll ds ≤ 1048576)
def OpenSpec.upto (s : _root_.Go.ChangeSpec) : _root_.Go.OpenSpec := { _root_.Go.OpenSpec.ofChange s with cond := some uptoSmall }

/-- 'wharfingerlaw06.LineFeeds', WHERE WHAT IT READS IS OF BULK AT MOST 1048576: true; the input reads as it did. -/
def lineFeedsUptoRow : OpenClaim := { program := "ytemlofepmphgiaa", sum := "7f7696bf1a0ee6533f37d4c39d1bba94cfaee7f290df956528a2f9d3b4a9a125", func := "wharfinger/wharfingerlaw06.LineFeeds", spec := "lineFeeds", inPlace := ["internal/bytealg.IndexByteString", "internal/bytealg.IndexString"], named := ["internal/bytealg.MaxLen"], apart := false, narrowed := true }
def LineFeedsUptoSaid : Prop := lineFeedsUptoRow.holds Try.pinned (OpenSpec.upto lineFeedsSpec)

/-- 'wharfingerlaw06.LineParts', WHERE WHAT IT READS IS OF BULK AT MOST 1048576: true; the input reads as it did. -/
def linePartsUptoRow : OpenClaim := { program := "ytemlofepmphgiaa", sum := "7f7696bf1a0ee6533f37d4c39d1bba94cfaee7f290df956528a2f9d3b4a9a125", func := "wharfinger/wharfingerlaw06.LineParts", spec := "lineParts", inPlace := ["internal/bytealg.IndexByteString", "internal/bytealg.IndexString"], named := ["internal/bytealg.MaxLen"], apart := false, narrowed := true }
def LinePartsUptoSaid : Prop := linePartsUptoRow.holds Try.pinned (OpenSpec.upto linePartsSpec)

/-- 'wharfingerlaw06.LineBack', WHERE WHAT IT READS IS OF BULK AT MOST 1048576: true; the input reads as it did. -/
def lineBackUptoRow : OpenClaim := { program := "ytemlofepmphgiaa", sum := "7f7696bf1a0ee6533f37d4c39d1bba94cfaee7f290df956528a2f9d3b4a9a125", func := "wharfinger/wharfingerlaw06.LineBack", spec := "lineBack", inPlace := ["internal/bytealg.IndexByteString", "internal/bytealg.IndexString"], named := ["internal/bytealg.MaxLen"], apart := false, narrowed := true }
def LineBackUptoSaid : Prop := lineBackUptoRow.holds Try.pinned (OpenSpec.upto lineBackSpec)

/-- 'wharfingerlaw06.LineNext', WHERE WHAT IT READS IS OF BULK AT MOST 1048576: true; the input reads as it did. -/
def lineNextUptoRow : OpenClaim := { program := "ytemlofepmphgiaa", sum := "7f7696bf1a0ee6533f37d4c39d1bba94cfaee7f290df956528a2f9d3b4a9a125", func := "wharfinger/wharfingerlaw06.LineNext", spec := "lineNext", inPlace := ["internal/bytealg.IndexByteString", "internal/bytealg.IndexString"], named := ["internal/bytealg.MaxLen"], apart := false, narrowed := true }
def LineNextUptoSaid : Prop := lineNextUptoRow.holds Try.pinned (OpenSpec.upto lineNextSpec)

/-- 'wharfingerlaw06.LineCounts', WHERE WHAT IT READS IS OF BULK AT MOST 1048576: true; the input reads as it did. -/
def lineCountsUptoRow : OpenClaim := { program := "ytemlofepmphgiaa", sum := "7f7696bf1a0ee6533f37d4c39d1bba94cfaee7f290df956528a2f9d3b4a9a125", func := "wharfinger/wharfingerlaw06.LineCounts", spec := "lineCounts", inPlace := ["internal/bytealg.IndexByteString", "internal/bytealg.IndexString"], named := ["internal/bytealg.MaxLen"], apart := false, narrowed := true }
def LineCountsUptoSaid : Prop := lineCountsUptoRow.holds Try.pinned (OpenSpec.upto lineCountsSpec)

/-- 'wharfingerlaw06.LineLong', WHERE WHAT IT READS IS OF BULK AT MOST 1048576: true; the input reads as it did. -/
def lineLongUptoRow : OpenClaim := { program := "ytemlofepmphgiaa", sum := "7f7696bf1a0ee6533f37d4c39d1bba94cfaee7f290df956528a2f9d3b4a9a125", func := "wharfinger/wharfingerlaw06.LineLong", spec := "lineLong", inPlace := ["internal/bytealg.IndexByteString", "internal/bytealg.IndexString"], named := ["internal/bytealg.MaxLen"], apart := false, narrowed := true }
def LineLongUptoSaid : Prop := lineLongUptoRow.holds Try.pinned (OpenSpec.upto lineLongSpec)

end Rows
end Go.Proofs.Ytemlofepmphgiaa
