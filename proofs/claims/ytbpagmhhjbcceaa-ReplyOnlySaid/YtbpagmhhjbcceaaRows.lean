/-
  No cell of these rows narrows 'for every input' (looked for: loops, veiled, ifaces, maps, wideKeys, modest, calm, conditions, laid).
  DERIVED. THE GIVEN ROWS OF THIS SEAT. 5 by the template 'for every input the law returns true; each argument reads behind the call as it read before'; 0 by the template 'total and deterministic' (their statements: YtbpagmhhjbcceaaTotals.lean).
  GIVEN WITH THE SEED: the statements are not yours to turn. If you find one false, say at which input.
  Laid BY PROGRAM, IN A SANDBOX (cutbox-rows.mjs): the forced cells as the released guide's own fill.sh prints them over the translation aecd91a5fa235d47… (all of the seat's roots in one cut). By AI agents, Wed Nov 11 2026. No macro, syntax, notation, axiom, sorry.
-/
import Derived.Test.YtbpagmhhjbcceaaChecked
import GoSem.Claim
import GoSem.ClaimJoined
import GoSem.ClaimMapViews
import Derived.JoinedTies
import Derived.KernelRfl
namespace Go.Proofs.Ytbpagmhhjbcceaa
/- THE CELL 'sum', in the pinned program and in every row, IS THE sha256 OF THE DUMP (.gsa) THAT YtbpagmhhjbcceaaProg.lean LOADS. Nothing in Lean hashes anything: it is a label: what it is worth is what the hold of that sum in a sandbox is worth. -/
noncomputable def Try.pinned : Pinned := { name := "ytbpagmhhjbcceaa", sum := "aecd91a5fa235d47b94138b577bb621b5f965203db4cb15fbf14aac53857e1a8", checked := Try.checked }
namespace Rows
def none {H : Type} : Left H := { results := [], args := [] }

/-- 'wharfingerlaw09.ReplyTells': WHATEVER THE INPUT: true; the input reads as it did. -/
def replyTellsSpec : ChangeSpec := { name := "replyTells", fn := fun _ => fun
  | [d1, d2] => { results := [.lit (.bool true)], args := [d1, d2] }
  | _ => none }
def replyTellsRow : OpenClaim := { program := "ytbpagmhhjbcceaa", sum := "aecd91a5fa235d47b94138b577bb621b5f965203db4cb15fbf14aac53857e1a8", func := "wharfinger/wharfingerlaw09.ReplyTells", spec := "replyTells", inPlace := ["internal/bytealg.IndexByteString"], apart := false }
def ReplyTellsSaid : Prop := replyTellsRow.holds Try.pinned (OpenSpec.ofChange replyTellsSpec)

/-- ITS FALSE NEIGHBOUR: 'it returns false'. Refute it at one input. -/
def replyTellsWrong : ChangeSpec := { name := "replyTells", fn := fun _ => fun
  | [d1, d2] => { results := [.lit (.bool false)], args := [d1, d2] }
  | _ => none }
def ReplyTellsWrongFalsely : Prop := replyTellsRow.holds Try.pinned (OpenSpec.ofChange replyTellsWrong)

/-- 'wharfingerlaw09.ReplyBack': WHATEVER THE INPUT: true; the input reads as it did. -/
def replyBackSpec : ChangeSpec := { name := "replyBack", fn := fun _ => fun
  | [d] => { results := [.lit (.bool true)], args := [d] }
  | _ => none }
def replyBackRow : OpenClaim := { program := "ytbpagmhhjbcceaa", sum := "aecd91a5fa235d47b94138b577bb621b5f965203db4cb15fbf14aac53857e1a8", func := "wharfinger/wharfingerlaw09.ReplyBack", spec := "replyBack", inPlace := ["internal/bytealg.IndexByteString"], apart := false }
def ReplyBackSaid : Prop := replyBackRow.holds Try.pinned (OpenSpec.ofChange replyBackSpec)

/-- ITS FALSE NEIGHBOUR: 'it returns false'. Refute it at one input. -/
def replyBackWrong : ChangeSpec := { name := "replyBack", fn := fun _ => fun
  | [d] => { results := [.lit (.bool false)], args := [d] }
  | _ => none }
def ReplyBackWrongFalsely : Prop := replyBackRow.holds Try.pinned (OpenSpec.ofChange replyBackWrong)

/-- 'wharfingerlaw09.ReplyOne': WHATEVER THE INPUT: true; the input reads as it did. -/
def replyOneSpec : ChangeSpec := { name := "replyOne", fn := fun _ => fun
  | [d] => { results := [.lit (.bool true)], args := [d] }
  | _ => none }
def replyOneRow : OpenClaim := { program := "ytbpagmhhjbcceaa", sum := "aecd91a5fa235d47b94138b577bb621b5f965203db4cb15fbf14aac53857e1a8", func := "wharfinger/wharfingerlaw09.ReplyOne", spec := "replyOne", inPlace := ["internal/bytealg.IndexByteString"], apart := false }
def ReplyOneSaid : Prop := replyOneRow.holds Try.pinned (OpenSpec.ofChange replyOneSpec)

/-- ITS FALSE NEIGHBOUR: 'it returns false'. Refute it at one input. -/
def replyOneWrong : ChangeSpec := { name := "replyOne", fn := fun _ => fun
  | [d] => { results := [.lit (.bool false)], args := [d] }
  | _ => none }
def ReplyOneWrongFalsely : Prop := replyOneRow.holds Try.pinned (OpenSpec.ofChange replyOneWrong)

/-- 'wharfingerlaw09.ReplyOpen': WHATEVER THE INPUT: true; the input reads as it did. -/
def replyOpenSpec : ChangeSpec := { name := "replyOpen", fn := fun _ => fun
  | [d1, d2, d3] => { results := [.lit (.bool true)], args := [d1, d2, d3] }
  | _ => none }
def replyOpenRow : OpenClaim := { program := "ytbpagmhhjbcceaa", sum := "aecd91a5fa235d47b94138b577bb621b5f965203db4cb15fbf14aac53857e1a8", func := "wharfinger/wharfingerlaw09.ReplyOpen", spec := "replyOpen", inPlace := ["internal/bytealg.IndexByteString"], apart := false }
def ReplyOpenSaid : Prop := replyOpenRow.holds Try.pinned (OpenSpec.ofChange replyOpenSpec)

/-- ITS FALSE NEIGHBOUR: 'it returns false'. Refute it at one input. -/
def replyOpenWrong : ChangeSpec := { name := "replyOpen", fn := fun _ => fun
  | [d1, d2, d3] => { results := [.lit (.bool false)], args := [d1, d2, d3] }
  | _ => none }
def ReplyOpenWrongFalsely : Prop := replyOpenRow.holds Try.pinned (OpenSpec.ofChange replyOpenWrong)

/-- 'wharfingerlaw09.ReplyOnly': WHATEVER THE INPUT: true; the input reads as it did. -/
def replyOnlySpec : ChangeSpec := { name := "replyOnly", fn := fun _ => fun
  | [d1, d2] => { results := [.lit (.bool true)], args := [d1, d2] }
  | _ => none }
def replyOnlyRow : OpenClaim := { program := "ytbpagmhhjbcceaa", sum := "aecd91a5fa235d47b94138b577bb621b5f965203db4cb15fbf14aac53857e1a8", func := "wharfinger/wharfingerlaw09.ReplyOnly", spec := "replyOnly", inPlace := ["internal/bytealg.IndexByteString"], apart := false }
def ReplyOnlySaid : Prop := replyOnlyRow.holds Try.pinned (OpenSpec.ofChange replyOnlySpec)

/-- ITS FALSE NEIGHBOUR: 'it returns false'. Refute it at one input. -/
def replyOnlyWrong : ChangeSpec := { name := "replyOnly", fn := fun _ => fun
  | [d1, d2] => { results := [.lit (.bool false)], args := [d1, d2] }
  | _ => none }
def ReplyOnlyWrongFalsely : Prop := replyOnlyRow.holds Try.pinned (OpenSpec.ofChange replyOnlyWrong)

/- THE SECOND FORM. 'bulk': how many values and letters a reading holds, each counted each time it is reached (what is shared counts as often as it is met; a slice's spare places count too). A statement '..UptoSaid' is the law's where the arguments, and the package variables that the reading takes, are together of bulk at most 1048576: NARROWER than '..Said'. Prove '..Said' where nothing that the law and all that it calls make is longer than what came in: it says more and counts as full. Else prove '..UptoSaid'. A law counts once. -/
mutual
def uptoBulk {H : Type} : DataW H → Nat
  | .lit (.string bytes) => bytes.length + 1
  | .lit _ => 1
  | .nil => 1
  | .ptr d => uptoBulk d + 1
  | .slice elems spare => uptoBulkAll elems + uptoBulkAll spare + 1
  | .agg parts => uptoBulkAll parts + 1
  | .iface _ d => uptoBulk d + 1
  | .map entries => uptoBulkEntries entries + 1
  | .held _ => 1
def uptoBulkAll {H : Type} : List (DataW H) → Nat
  | [] => 0
  | d :: r => uptoBulk d + uptoBulkAll r
def uptoBulkEntries {H : Type} : List (Lit × DataW H) → Nat
  | [] => 0
  | x :: r => uptoBulkEntry x + uptoBulkEntries r
def uptoBulkEntry {H : Type} : Lit × DataW H → Nat
  | (.string bytes, d) => bytes.length + uptoBulk d + 1
  | (_, d) => uptoBulk d + 1
 end
def uptoSmall : (H : Type) → List (DataW H) → Bool := fun _ ds => decide (uptoBulkAll ds ≤ 1048576)
def OpenSpec.upto (s : _root_.Go.ChangeSpec) : _root_.Go.OpenSpec := { _root_.Go.OpenSpec.ofChange s with cond := some uptoSmall }

/-- 'wharfingerlaw09.ReplyTells', WHERE WHAT IT READS IS OF BULK AT MOST 1048576: true; the input reads as it did. -/
def replyTellsUptoRow : OpenClaim := { program := "ytbpagmhhjbcceaa", sum := "aecd91a5fa235d47b94138b577bb621b5f965203db4cb15fbf14aac53857e1a8", func := "wharfinger/wharfingerlaw09.ReplyTells", spec := "replyTells", inPlace := ["internal/bytealg.IndexByteString"], apart := false, narrowed := true }
def ReplyTellsUptoSaid : Prop := replyTellsUptoRow.holds Try.pinned (OpenSpec.upto replyTellsSpec)

/-- 'wharfingerlaw09.ReplyBack', WHERE WHAT IT READS IS OF BULK AT MOST 1048576: true; the input reads as it did. -/
def replyBackUptoRow : OpenClaim := { program := "ytbpagmhhjbcceaa", sum := "aecd91a5fa235d47b94138b577bb621b5f965203db4cb15fbf14aac53857e1a8", func := "wharfinger/wharfingerlaw09.ReplyBack", spec := "replyBack", inPlace := ["internal/bytealg.IndexByteString"], apart := false, narrowed := true }
def ReplyBackUptoSaid : Prop := replyBackUptoRow.holds Try.pinned (OpenSpec.upto replyBackSpec)

/-- 'wharfingerlaw09.ReplyOne', WHERE WHAT IT READS IS OF BULK AT MOST 1048576: true; the input reads as it did. -/
def replyOneUptoRow : OpenClaim := { program := "ytbpagmhhjbcceaa", sum := "aecd91a5fa235d47b94138b577bb621b5f965203db4cb15fbf14aac53857e1a8", func := "wharfinger/wharfingerlaw09.ReplyOne", spec := "replyOne", inPlace := ["internal/bytealg.IndexByteString"], apart := false, narrowed := true }
def ReplyOneUptoSaid : Prop := replyOneUptoRow.holds Try.pinned (OpenSpec.upto replyOneSpec)

/-- 'wharfingerlaw09.ReplyOpen', WHERE WHAT IT READS IS OF BULK AT MOST 1048576: true; the input reads as it did. -/
def replyOpenUptoRow : OpenClaim := { program := "ytbpagmhhjbcceaa", sum := "aecd91a5fa235d47b94138b577bb621b5f965203db4cb15fbf14aac53857e1a8", func := "wharfinger/wharfingerlaw09.ReplyOpen", spec := "replyOpen", inPlace := ["internal/bytealg.IndexByteString"], apart := false, narrowed := true }
def ReplyOpenUptoSaid : Prop := replyOpenUptoRow.holds Try.pinned (OpenSpec.upto replyOpenSpec)

/-- 'wharfingerlaw09.ReplyOnly', WHERE WHAT IT READS IS OF BULK AT MOST 1048576: true; the input reads as it did. -/
def replyOnlyUptoRow : OpenClaim := { program := "ytbpagmhhjbcceaa", sum := "aecd91a5fa235d47b94138b577bb621b5f965203db4cb15fbf14aac53857e1a8", func := "wharfinger/wharfingerlaw09.ReplyOnly", spec := "replyOnly", inPlace := ["internal/bytealg.IndexByteString"], apart := false, narrowed := true }
def ReplyOnlyUptoSaid : Prop := replyOnlyUptoRow.holds Try.pinned (OpenSpec.upto replyOnlySpec)

end Rows
end Go.Proofs.Ytbpagmhhjbcceaa
