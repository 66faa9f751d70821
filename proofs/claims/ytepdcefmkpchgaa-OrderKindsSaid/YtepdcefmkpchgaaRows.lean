/-
  No cell of these rows narrows 'for every input' (looked for: loops, veiled, ifaces, maps, wideKeys, modest, calm, conditions, laid).
  DERIVED. THE GIVEN ROWS OF THIS SEAT. 5 by the template 'for every input the law returns true; each argument reads behind the call as it read before'; 0 by the template 'total and deterministic' (their statements: YtepdcefmkpchgaaTotals.lean).
  GIVEN WITH THE SEED: the statements are not yours to turn. If you find one false, say at which input.
  Laid BY PROGRAM, IN A SANDBOX (cutbox-rows.mjs): the forced cells as the released guide's own fill.sh prints them over the translation 83e40431ab21d21a… (all of the seat's roots in one cut). By AI agents, Wed Nov 11 2026. No macro, syntax, notation, axiom, sorry.
-/
import Derived.Test.YtepdcefmkpchgaaChecked
import GoSem.Claim
import GoSem.ClaimJoined
import GoSem.ClaimMapViews
import Derived.JoinedTies
import Derived.KernelRfl
namespace Go.Proofs.Ytepdcefmkpchgaa
/- THE CELL 'sum', in the pinned program and in every row, IS THE sha256 OF THE DUMP (.gsa) THAT YtepdcefmkpchgaaProg.lean LOADS. Nothing in Lean hashes anything: it is a label: what it is worth is what the hold of that sum in a sandbox is worth. -/
noncomputable def Try.pinned : Pinned := { name := "ytepdcefmkpchgaa", sum := "83e40431ab21d21a0ba15996d5c33641c8e20c87c28c2ee10072717dee526a08", checked := Try.checked }
namespace Rows
def none {H : Type} : Left H := { results := [], args := [] }

/-- 'wharfingerlaw18.OrderGoes': WHATEVER THE INPUT: true; the input reads as it did. -/
def orderGoesSpec : ChangeSpec := { name := "orderGoes", fn := fun _ => fun
  | [d1, d2, d3] => { results := [.lit (.bool true)], args := [d1, d2, d3] }
  | _ => none }
def orderGoesRow : OpenClaim := { program := "ytepdcefmkpchgaa", sum := "83e40431ab21d21a0ba15996d5c33641c8e20c87c28c2ee10072717dee526a08", func := "wharfinger/wharfingerlaw18.OrderGoes", spec := "orderGoes", inPlace := ["internal/bytealg.IndexByteString"], apart := false }
def OrderGoesSaid : Prop := orderGoesRow.holds Try.pinned (OpenSpec.ofChange orderGoesSpec)

/-- ITS FALSE NEIGHBOUR: 'it returns false'. Refute it at one input. -/
def orderGoesWrong : ChangeSpec := { name := "orderGoes", fn := fun _ => fun
  | [d1, d2, d3] => { results := [.lit (.bool false)], args := [d1, d2, d3] }
  | _ => none }
def OrderGoesWrongFalsely : Prop := orderGoesRow.holds Try.pinned (OpenSpec.ofChange orderGoesWrong)

/-- 'wharfingerlaw18.OrderMay': WHATEVER THE INPUT: true; the input reads as it did. -/
def orderMaySpec : ChangeSpec := { name := "orderMay", fn := fun _ => fun
  | [d1, d2, d3] => { results := [.lit (.bool true)], args := [d1, d2, d3] }
  | _ => none }
def orderMayRow : OpenClaim := { program := "ytepdcefmkpchgaa", sum := "83e40431ab21d21a0ba15996d5c33641c8e20c87c28c2ee10072717dee526a08", func := "wharfinger/wharfingerlaw18.OrderMay", spec := "orderMay", inPlace := ["internal/bytealg.IndexByteString"], apart := false }
def OrderMaySaid : Prop := orderMayRow.holds Try.pinned (OpenSpec.ofChange orderMaySpec)

/-- ITS FALSE NEIGHBOUR: 'it returns false'. Refute it at one input. -/
def orderMayWrong : ChangeSpec := { name := "orderMay", fn := fun _ => fun
  | [d1, d2, d3] => { results := [.lit (.bool false)], args := [d1, d2, d3] }
  | _ => none }
def OrderMayWrongFalsely : Prop := orderMayRow.holds Try.pinned (OpenSpec.ofChange orderMayWrong)

/-- 'wharfingerlaw18.OrderOne': WHATEVER THE INPUT: true; the input reads as it did. -/
def orderOneSpec : ChangeSpec := { name := "orderOne", fn := fun _ => fun
  | [d1, d2, d3] => { results := [.lit (.bool true)], args := [d1, d2, d3] }
  | _ => none }
def orderOneRow : OpenClaim := { program := "ytepdcefmkpchgaa", sum := "83e40431ab21d21a0ba15996d5c33641c8e20c87c28c2ee10072717dee526a08", func := "wharfinger/wharfingerlaw18.OrderOne", spec := "orderOne", inPlace := ["internal/bytealg.IndexByteString"], apart := false }
def OrderOneSaid : Prop := orderOneRow.holds Try.pinned (OpenSpec.ofChange orderOneSpec)

/-- ITS FALSE NEIGHBOUR: 'it returns false'. Refute it at one input. -/
def orderOneWrong : ChangeSpec := { name := "orderOne", fn := fun _ => fun
  | [d1, d2, d3] => { results := [.lit (.bool false)], args := [d1, d2, d3] }
  | _ => none }
def OrderOneWrongFalsely : Prop := orderOneRow.holds Try.pinned (OpenSpec.ofChange orderOneWrong)

/-- 'wharfingerlaw18.OrderIdle': WHATEVER THE INPUT: true; the input reads as it did. -/
def orderIdleSpec : ChangeSpec := { name := "orderIdle", fn := fun _ => fun
  | [d1, d2] => { results := [.lit (.bool true)], args := [d1, d2] }
  | _ => none }
def orderIdleRow : OpenClaim := { program := "ytepdcefmkpchgaa", sum := "83e40431ab21d21a0ba15996d5c33641c8e20c87c28c2ee10072717dee526a08", func := "wharfinger/wharfingerlaw18.OrderIdle", spec := "orderIdle", inPlace := ["internal/bytealg.IndexByteString"], apart := false }
def OrderIdleSaid : Prop := orderIdleRow.holds Try.pinned (OpenSpec.ofChange orderIdleSpec)

/-- ITS FALSE NEIGHBOUR: 'it returns false'. Refute it at one input. -/
def orderIdleWrong : ChangeSpec := { name := "orderIdle", fn := fun _ => fun
  | [d1, d2] => { results := [.lit (.bool false)], args := [d1, d2] }
  | _ => none }
def OrderIdleWrongFalsely : Prop := orderIdleRow.holds Try.pinned (OpenSpec.ofChange orderIdleWrong)

/-- 'wharfingerlaw18.OrderKinds': WHATEVER THE INPUT: true; the input reads as it did. -/
def orderKindsSpec : ChangeSpec := { name := "orderKinds", fn := fun _ => fun
  | [d1, d2] => { results := [.lit (.bool true)], args := [d1, d2] }
  | _ => none }
def orderKindsRow : OpenClaim := { program := "ytepdcefmkpchgaa", sum := "83e40431ab21d21a0ba15996d5c33641c8e20c87c28c2ee10072717dee526a08", func := "wharfinger/wharfingerlaw18.OrderKinds", spec := "orderKinds", inPlace := ["internal/bytealg.IndexByteString"], unfollowed := true, recurses := true, apart := false }
def OrderKindsSaid : Prop := orderKindsRow.holds Try.pinned (OpenSpec.ofChange orderKindsSpec)

/-- ITS FALSE NEIGHBOUR: 'it returns false'. Refute it at one input. -/
def orderKindsWrong : ChangeSpec := { name := "orderKinds", fn := fun _ => fun
  | [d1, d2] => { results := [.lit (.bool false)], args := [d1, d2] }
  | _ => none }
def OrderKindsWrongFalsely : Prop := orderKindsRow.holds Try.pinned (OpenSpec.ofChange orderKindsWrong)

/- THE SECOND FORM. 'bulk': how many values and letters a reading holds, each counted each time it is reached (what is shared counts as often as it is met; a slice's spare places count too). A statement '..UptoSaid' is the law's where the arguments, and the package variables that the reading takes, are together of bulk at most 1048576: NARROWER than '..Said'. Prove '..Said' where nothing that the law and all that it calls make is longer than what came in: it says more and counts as full. Else prove '..UptoSaid'. A law counts once. -/
mutual
def uptoBulk {H : Type} : DataW H → Nat
  | .lit (.string bytes) => bytes.length + 1
  | .lit _ => 1
  | .nil => 1
  | .ptr d => uptoBulk d + 1
  | .slice elems spare => uptoBulkAll elems + uptoBulkAll spare + 1
  | .agg parts => uptoBulkAll parts + 1
  | .iface _ d => uptoBulk d + 1
  | .map entries => uptoBulkEntries entries + 1
  | .held _ => 1
def uptoBulkAll {H : Type} : List (DataW H) → Nat
  | [] => 0
  | d :: r => uptoBulk d + uptoBulkAll r
def uptoBulkEntries {H : Type} : List (Lit × DataW H) → Nat
  | [] => 0
  | x :: r => uptoBulkEntry x + uptoBulkEntries r
def uptoBulkEntry {H : Type} : Lit × DataW H → Nat
  | (.string bytes, d) => bytes.length + uptoBulk d + 1
  | (_, d) => uptoBulk d + 1
 end
def uptoSmall : (H : Type) → List (DataW H) → Bool := fun _ ds => decide (uptoBulkAll ds ≤ 1048576)
def OpenSpec.upto (s : _root_.Go.ChangeSpec) : _root_.Go.OpenSpec := { _root_.Go.OpenSpec.ofChange s with cond := some uptoSmall }

/-- 'wharfingerlaw18.OrderGoes', WHERE WHAT IT READS IS OF BULK AT MOST 1048576: true; the input reads as it did. -/
def orderGoesUptoRow : OpenClaim := { program := "ytepdcefmkpchgaa", sum := "83e40431ab21d21a0ba15996d5c33641c8e20c87c28c2ee10072717dee526a08", func := "wharfinger/wharfingerlaw18.OrderGoes", spec := "orderGoes", inPlace := ["internal/bytealg.IndexByteString"], apart := false, narrowed := true }
def OrderGoesUptoSaid : Prop := orderGoesUptoRow.holds Try.pinned (OpenSpec.upto orderGoesSpec)

/-- 'wharfingerlaw18.OrderMay', WHERE WHAT IT READS IS OF BULK AT MOST 1048576: true; the input reads as it did. -/
def orderMayUptoRow : OpenClaim := { program := "ytepdcefmkpchgaa", sum := "83e40431ab21d21a0ba15996d5c33641c8e20c87c28c2ee10072717dee526a08", func := "wharfinger/wharfingerlaw18.OrderMay", spec := "orderMay", inPlace := ["internal/bytealg.IndexByteString"], apart := false, narrowed := true }
def OrderMayUptoSaid : Prop := orderMayUptoRow.holds Try.pinned (OpenSpec.upto orderMaySpec)

/-- 'wharfingerlaw18.OrderOne', WHERE WHAT IT READS IS OF BULK AT MOST 1048576: true; the input reads as it did. -/
def orderOneUptoRow : OpenClaim := { program := "ytepdcefmkpchgaa", sum := "83e40431ab21d21a0ba15996d5c33641c8e20c87c28c2ee10072717dee526a08", func := "wharfinger/wharfingerlaw18.OrderOne", spec := "orderOne", inPlace := ["internal/bytealg.IndexByteString"], apart := false, narrowed := true }
def OrderOneUptoSaid : Prop := orderOneUptoRow.holds Try.pinned (OpenSpec.upto orderOneSpec)

/-- 'wharfingerlaw18.OrderIdle', WHERE WHAT IT READS IS OF BULK AT MOST 1048576: true; the input reads as it did. -/
def orderIdleUptoRow : OpenClaim := { program := "ytepdcefmkpchgaa", sum := "83e40431ab21d21a0ba15996d5c33641c8e20c87c28c2ee10072717dee526a08", func := "wharfinger/wharfingerlaw18.OrderIdle", spec := "orderIdle", inPlace := ["internal/bytealg.IndexByteString"], apart := false, narrowed := true }
def OrderIdleUptoSaid : Prop := orderIdleUptoRow.holds Try.pinned (OpenSpec.upto orderIdleSpec)

/-- 'wharfingerlaw18.OrderKinds', WHERE WHAT IT READS IS OF BULK AT MOST 1048576: true; the input reads as it did. -/
def orderKindsUptoRow : OpenClaim := { program := "ytepdcefmkpchgaa", sum := "83e40431ab21d21a0ba15996d5c33641c8e20c87c28c2ee10072717dee526a08", func := "wharfinger/wharfingerlaw18.OrderKinds", spec := "orderKinds", inPlace := ["internal/bytealg.IndexByteString"], unfollowed := true, recurses := true, apart := false, narrowed := true }
def OrderKindsUptoSaid : Prop := orderKindsUptoRow.holds Try.pinned (OpenSpec.upto orderKindsSpec)

end Rows
end Go.Proofs.Ytepdcefmkpchgaa
