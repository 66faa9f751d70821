/-
  No cell of these rows narrows 'for every input' (looked for: loops, veiled, ifaces, maps, wideKeys, modest, calm, conditions, laid).
  DERIVED. THE GIVEN ROWS OF THIS SEAT. 5 by the template 'for every input the law returns true; each argument reads behind the call as it read before'; 0 by the template 'total and deterministic' (their statements: YtlapmahiabcbmaaTotals.lean).
  GIVEN WITH THE SEED: the statements are not yours to turn. If you find one false, say at which input.
  Laid BY PROGRAM, IN A SANDBOX (cutbox-rows.mjs): the forced cells as the released guide's own fill.sh prints them over the translation 3714364c4d8a0347… (all of the seat's roots in one cut). By AI agents, Wed Nov 11 2026. No macro, syntax, notation, axiom, sorry.
-/
import Derived.Test.YtlapmahiabcbmaaChecked
import GoSem.Claim
import GoSem.ClaimJoined
import GoSem.ClaimMapViews
import Derived.JoinedTies
import Derived.KernelRfl
namespace Go.Proofs.Ytlapmahiabcbmaa
/- THE CELL 'sum', in the pinned program and in every row, IS THE sha256 OF THE DUMP (.gsa) THAT YtlapmahiabcbmaaProg.lean LOADS. Nothing in Lean hashes anything: it is a label: what it is worth is what the hold of that sum in a sandbox is worth. -/
noncomputable def Try.pinned : Pinned := { name := "ytlapmahiabcbmaa", sum := "3714364c4d8a0347d3ca9300ae4d5c0f4c4d7d8b4279bf6a00700bb46ece7427", checked := Try.checked }
namespace Rows
def none {H : Type} : Left H := { results := [], args := [] }

/-- 'wharfingerlaw07.VerbTells': WHATEVER THE INPUT: true; the input reads as it did. -/
def verbTellsSpec : ChangeSpec := { name := "verbTells", fn := fun _ => fun
  | [d] => { results := [.lit (.bool true)], args := [d] }
  | _ => none }
def verbTellsRow : OpenClaim := { program := "ytlapmahiabcbmaa", sum := "3714364c4d8a0347d3ca9300ae4d5c0f4c4d7d8b4279bf6a00700bb46ece7427", func := "wharfinger/wharfingerlaw07.VerbTells", spec := "verbTells", unfollowed := true, recurses := true, apart := false }
def VerbTellsSaid : Prop := verbTellsRow.holds Try.pinned (OpenSpec.ofChange verbTellsSpec)

/-- ITS FALSE NEIGHBOUR: 'it returns false'. Refute it at one input. -/
def verbTellsWrong : ChangeSpec := { name := "verbTells", fn := fun _ => fun
  | [d] => { results := [.lit (.bool false)], args := [d] }
  | _ => none }
def VerbTellsWrongFalsely : Prop := verbTellsRow.holds Try.pinned (OpenSpec.ofChange verbTellsWrong)

/-- 'wharfingerlaw07.VerbFinds': WHATEVER THE INPUT: true; the input reads as it did. -/
def verbFindsSpec : ChangeSpec := { name := "verbFinds", fn := fun _ => fun
  | [d1, d2] => { results := [.lit (.bool true)], args := [d1, d2] }
  | _ => none }
def verbFindsRow : OpenClaim := { program := "ytlapmahiabcbmaa", sum := "3714364c4d8a0347d3ca9300ae4d5c0f4c4d7d8b4279bf6a00700bb46ece7427", func := "wharfinger/wharfingerlaw07.VerbFinds", spec := "verbFinds", unfollowed := true, recurses := true, apart := false }
def VerbFindsSaid : Prop := verbFindsRow.holds Try.pinned (OpenSpec.ofChange verbFindsSpec)

/-- ITS FALSE NEIGHBOUR: 'it returns false'. Refute it at one input. -/
def verbFindsWrong : ChangeSpec := { name := "verbFinds", fn := fun _ => fun
  | [d1, d2] => { results := [.lit (.bool false)], args := [d1, d2] }
  | _ => none }
def VerbFindsWrongFalsely : Prop := verbFindsRow.holds Try.pinned (OpenSpec.ofChange verbFindsWrong)

/-- 'wharfingerlaw07.VerbUpper': WHATEVER THE INPUT: true; the input reads as it did. -/
def verbUpperSpec : ChangeSpec := { name := "verbUpper", fn := fun _ => fun
  | [d] => { results := [.lit (.bool true)], args := [d] }
  | _ => none }
def verbUpperRow : OpenClaim := { program := "ytlapmahiabcbmaa", sum := "3714364c4d8a0347d3ca9300ae4d5c0f4c4d7d8b4279bf6a00700bb46ece7427", func := "wharfinger/wharfingerlaw07.VerbUpper", spec := "verbUpper", unfollowed := true, recurses := true, apart := false }
def VerbUpperSaid : Prop := verbUpperRow.holds Try.pinned (OpenSpec.ofChange verbUpperSpec)

/-- ITS FALSE NEIGHBOUR: 'it returns false'. Refute it at one input. -/
def verbUpperWrong : ChangeSpec := { name := "verbUpper", fn := fun _ => fun
  | [d] => { results := [.lit (.bool false)], args := [d] }
  | _ => none }
def VerbUpperWrongFalsely : Prop := verbUpperRow.holds Try.pinned (OpenSpec.ofChange verbUpperWrong)

/-- 'wharfingerlaw07.VerbOnly': WHATEVER THE INPUT: true; the input reads as it did. -/
def verbOnlySpec : ChangeSpec := { name := "verbOnly", fn := fun _ => fun
  | [d1, d2] => { results := [.lit (.bool true)], args := [d1, d2] }
  | _ => none }
def verbOnlyRow : OpenClaim := { program := "ytlapmahiabcbmaa", sum := "3714364c4d8a0347d3ca9300ae4d5c0f4c4d7d8b4279bf6a00700bb46ece7427", func := "wharfinger/wharfingerlaw07.VerbOnly", spec := "verbOnly", unfollowed := true, recurses := true, apart := false }
def VerbOnlySaid : Prop := verbOnlyRow.holds Try.pinned (OpenSpec.ofChange verbOnlySpec)

/-- ITS FALSE NEIGHBOUR: 'it returns false'. Refute it at one input. -/
def verbOnlyWrong : ChangeSpec := { name := "verbOnly", fn := fun _ => fun
  | [d1, d2] => { results := [.lit (.bool false)], args := [d1, d2] }
  | _ => none }
def VerbOnlyWrongFalsely : Prop := verbOnlyRow.holds Try.pinned (OpenSpec.ofChange verbOnlyWrong)

/-- 'wharfingerlaw07.VerbKinds': WHATEVER THE INPUT: true; the input reads as it did. -/
def verbKindsSpec : ChangeSpec := { name := "verbKinds", fn := fun _ => fun
  | [d] => { results := [.lit (.bool true)], args := [d] }
  | _ => none }
def verbKindsRow : OpenClaim := { program := "ytlapmahiabcbmaa", sum := "3714364c4d8a0347d3ca9300ae4d5c0f4c4d7d8b4279bf6a00700bb46ece7427", func := "wharfinger/wharfingerlaw07.VerbKinds", spec := "verbKinds", unfollowed := true, recurses := true, apart := false }
def VerbKindsSaid : Prop := verbKindsRow.holds Try.pinned (OpenSpec.ofChange verbKindsSpec)

/-- ITS FALSE NEIGHBOUR: 'it returns false'. Refute it at one input. -/
def verbKindsWrong : ChangeSpec := { name := "verbKinds", fn := fun _ => fun
  | [d] => { results := [.lit (.bool false)], args := [d] }
  | _ => none }
def VerbKindsWrongFalsely : Prop := verbKindsRow.holds Try.pinned (OpenSpec.ofChange verbKindsWrong)

/- THE SECOND FORM. 'bulk': how many values and letters a reading holds, each counted each time it is reached (what is shared counts as often as it is met; a slice's spare places count too). A statement '..UptoSaid' is the law's where the arguments, and the package variables that the reading takes, are together of bulk at most 1048576: NARROWER than '..Said'. Prove '..Said' where nothing that the law and all that it calls make is longer than what came in: it says more and counts as full. Else prove '..UptoSaid'. A law counts once. -/
mutual
def uptoBulk {H : Type} : DataW H → Nat
  | .lit (.string bytes) => bytes.length + 1
  | .lit _ => 1
  | .nil => 1
  | .ptr d => uptoBulk d + 1
  | .slice elems spare => uptoBulkAll elems + uptoBulkAll spare + 1
  | .agg parts => uptoBulkAll parts + 1
  | .iface _ d => uptoBulk d + 1
  | .map entries => uptoBulkEntries entries + 1
  | .held _ => 1
def uptoBulkAll {H : Type} : List (DataW H) → Nat
  | [] => 0
  | d :: r => uptoBulk d + uptoBulkAll r
def uptoBulkEntries {H : Type} : List (Lit × DataW H) → Nat
  | [] => 0
  | x :: r => uptoBulkEntry x + uptoBulkEntries r
def uptoBulkEntry {H : Type} : Lit × DataW H → Nat
  | (.string bytes, d) => bytes.length + uptoBulk d + 1
  | (_, d) => uptoBulk d + 1
 end
def uptoSmall : (H : Type) → List (DataW H) → Bool := fun _ ds => decide (uptoBulkAll ds ≤ 1048576)
def OpenSpec.upto (s : _root_.Go.ChangeSpec) : _root_.Go.OpenSpec := { _root_.Go.OpenSpec.ofChange s with cond := some uptoSmall }

/-- 'wharfingerlaw07.VerbTells', WHERE WHAT IT READS IS OF BULK AT MOST 1048576: true; the input reads as it did. -/
def verbTellsUptoRow : OpenClaim := { program := "ytlapmahiabcbmaa", sum := "3714364c4d8a0347d3ca9300ae4d5c0f4c4d7d8b4279bf6a00700bb46ece7427", func := "wharfinger/wharfingerlaw07.VerbTells", spec := "verbTells", unfollowed := true, recurses := true, apart := false, narrowed := true }
def VerbTellsUptoSaid : Prop := verbTellsUptoRow.holds Try.pinned (OpenSpec.upto verbTellsSpec)

/-- 'wharfingerlaw07.VerbFinds', WHERE WHAT IT READS IS OF BULK AT MOST 1048576: true; the input reads as it did. -/
def verbFindsUptoRow : OpenClaim := { program := "ytlapmahiabcbmaa", sum := "3714364c4d8a0347d3ca9300ae4d5c0f4c4d7d8b4279bf6a00700bb46ece7427", func := "wharfinger/wharfingerlaw07.VerbFinds", spec := "verbFinds", unfollowed := true, recurses := true, apart := false, narrowed := true }
def VerbFindsUptoSaid : Prop := verbFindsUptoRow.holds Try.pinned (OpenSpec.upto verbFindsSpec)

/-- 'wharfingerlaw07.VerbUpper', WHERE WHAT IT READS IS OF BULK AT MOST 1048576: true; the input reads as it did. -/
def verbUpperUptoRow : OpenClaim := { program := "ytlapmahiabcbmaa", sum := "3714364c4d8a0347d3ca9300ae4d5c0f4c4d7d8b4279bf6a00700bb46ece7427", func := "wharfinger/wharfingerlaw07.VerbUpper", spec := "verbUpper", unfollowed := true, recurses := true, apart := false, narrowed := true }
def VerbUpperUptoSaid : Prop := verbUpperUptoRow.holds Try.pinned (OpenSpec.upto verbUpperSpec)

/-- 'wharfingerlaw07.VerbOnly', WHERE WHAT IT READS IS OF BULK AT MOST 1048576: true; the input reads as it did. -/
def verbOnlyUptoRow : OpenClaim := { program := "ytlapmahiabcbmaa", sum := "3714364c4d8a0347d3ca9300ae4d5c0f4c4d7d8b4279bf6a00700bb46ece7427", func := "wharfinger/wharfingerlaw07.VerbOnly", spec := "verbOnly", unfollowed := true, recurses := true, apart := false, narrowed := true }
def VerbOnlyUptoSaid : Prop := verbOnlyUptoRow.holds Try.pinned (OpenSpec.upto verbOnlySpec)

/-- 'wharfingerlaw07.VerbKinds', WHERE WHAT IT READS IS OF BULK AT MOST 1048576: true; the input reads as it did. -/
def verbKindsUptoRow : OpenClaim := { program := "ytlapmahiabcbmaa", sum := "3714364c4d8a0347d3ca9300ae4d5c0f4c4d7d8b4279bf6a00700bb46ece7427", func := "wharfinger/wharfingerlaw07.VerbKinds", spec := "verbKinds", unfollowed := true, recurses := true, apart := false, narrowed := true }
def VerbKindsUptoSaid : Prop := verbKindsUptoRow.holds Try.pinned (OpenSpec.upto verbKindsSpec)

end Rows
end Go.Proofs.Ytlapmahiabcbmaa
