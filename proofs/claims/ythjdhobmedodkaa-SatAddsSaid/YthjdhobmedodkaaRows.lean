/-
  No cell of these rows narrows 'for every input' (looked for: loops, veiled, ifaces, maps, wideKeys, modest, calm, conditions, laid).
  DERIVED. THE GIVEN ROWS OF THIS SEAT. 6 by the template 'for every input the law returns true; each argument reads behind the call as it read before'; 0 by the template 'total and deterministic' (their statements: YthjdhobmedodkaaTotals.lean).
  GIVEN WITH THE SEED: the statements are not yours to turn. If you find one false, say at which input.
  Laid BY PROGRAM, IN A SANDBOX (cutbox-rows.mjs): the forced cells as the released guide's own fill.sh prints them over the translation 1821e9e47861b296… (all of the seat's roots in one cut). By AI agents, Wed Nov 11 2026. No macro, syntax, notation, axiom, sorry.
-/
import Derived.Test.YthjdhobmedodkaaChecked
import GoSem.Claim
import GoSem.ClaimJoined
import GoSem.ClaimMapViews
import Derived.JoinedTies
import Derived.KernelRfl
namespace Go.Proofs.Ythjdhobmedodkaa
/- THE CELL 'sum', in the pinned program and in every row, IS THE sha256 OF THE DUMP (.gsa) THAT YthjdhobmedodkaaProg.lean LOADS. Nothing in Lean hashes anything: it is a label: what it is worth is what the hold of that sum in a sandbox is worth. -/
noncomputable def Try.pinned : Pinned := { name := "ythjdhobmedodkaa", sum := "1821e9e47861b29689eb8b0937c7cad999fad1b15d8ce896125ccdc6dcfd5806", checked := Try.checked }
namespace Rows
def none {H : Type} : Left H := { results := [], args := [] }

/-- 'wharfingerlaw01.SatTells': WHATEVER THE INPUT: true; the input reads as it did. -/
def satTellsSpec : ChangeSpec := { name := "satTells", fn := fun _ => fun
  | [d1, d2, d3] => { results := [.lit (.bool true)], args := [d1, d2, d3] }
  | _ => none }
def satTellsRow : OpenClaim := { program := "ythjdhobmedodkaa", sum := "1821e9e47861b29689eb8b0937c7cad999fad1b15d8ce896125ccdc6dcfd5806", func := "wharfinger/wharfingerlaw01.SatTells", spec := "satTells", apart := false }
def SatTellsSaid : Prop := satTellsRow.holds Try.pinned (OpenSpec.ofChange satTellsSpec)

/-- ITS FALSE NEIGHBOUR: 'it returns false'. Refute it at one input. -/
def satTellsWrong : ChangeSpec := { name := "satTells", fn := fun _ => fun
  | [d1, d2, d3] => { results := [.lit (.bool false)], args := [d1, d2, d3] }
  | _ => none }
def SatTellsWrongFalsely : Prop := satTellsRow.holds Try.pinned (OpenSpec.ofChange satTellsWrong)

/-- 'wharfingerlaw01.SatStays': WHATEVER THE INPUT: true; the input reads as it did. -/
def satStaysSpec : ChangeSpec := { name := "satStays", fn := fun _ => fun
  | [d1, d2, d3] => { results := [.lit (.bool true)], args := [d1, d2, d3] }
  | _ => none }
def satStaysRow : OpenClaim := { program := "ythjdhobmedodkaa", sum := "1821e9e47861b29689eb8b0937c7cad999fad1b15d8ce896125ccdc6dcfd5806", func := "wharfinger/wharfingerlaw01.SatStays", spec := "satStays", apart := false }
def SatStaysSaid : Prop := satStaysRow.holds Try.pinned (OpenSpec.ofChange satStaysSpec)

/-- ITS FALSE NEIGHBOUR: 'it returns false'. Refute it at one input. -/
def satStaysWrong : ChangeSpec := { name := "satStays", fn := fun _ => fun
  | [d1, d2, d3] => { results := [.lit (.bool false)], args := [d1, d2, d3] }
  | _ => none }
def SatStaysWrongFalsely : Prop := satStaysRow.holds Try.pinned (OpenSpec.ofChange satStaysWrong)

/-- 'wharfingerlaw01.SatTwice': WHATEVER THE INPUT: true; the input reads as it did. -/
def satTwiceSpec : ChangeSpec := { name := "satTwice", fn := fun _ => fun
  | [d1, d2, d3, d4] => { results := [.lit (.bool true)], args := [d1, d2, d3, d4] }
  | _ => none }
def satTwiceRow : OpenClaim := { program := "ythjdhobmedodkaa", sum := "1821e9e47861b29689eb8b0937c7cad999fad1b15d8ce896125ccdc6dcfd5806", func := "wharfinger/wharfingerlaw01.SatTwice", spec := "satTwice", apart := false }
def SatTwiceSaid : Prop := satTwiceRow.holds Try.pinned (OpenSpec.ofChange satTwiceSpec)

/-- ITS FALSE NEIGHBOUR: 'it returns false'. Refute it at one input. -/
def satTwiceWrong : ChangeSpec := { name := "satTwice", fn := fun _ => fun
  | [d1, d2, d3, d4] => { results := [.lit (.bool false)], args := [d1, d2, d3, d4] }
  | _ => none }
def SatTwiceWrongFalsely : Prop := satTwiceRow.holds Try.pinned (OpenSpec.ofChange satTwiceWrong)

/-- 'wharfingerlaw01.SatAdds': WHATEVER THE INPUT: true; the input reads as it did. -/
def satAddsSpec : ChangeSpec := { name := "satAdds", fn := fun _ => fun
  | [d1, d2, d3] => { results := [.lit (.bool true)], args := [d1, d2, d3] }
  | _ => none }
def satAddsRow : OpenClaim := { program := "ythjdhobmedodkaa", sum := "1821e9e47861b29689eb8b0937c7cad999fad1b15d8ce896125ccdc6dcfd5806", func := "wharfinger/wharfingerlaw01.SatAdds", spec := "satAdds", apart := false }
def SatAddsSaid : Prop := satAddsRow.holds Try.pinned (OpenSpec.ofChange satAddsSpec)

/-- ITS FALSE NEIGHBOUR: 'it returns false'. Refute it at one input. -/
def satAddsWrong : ChangeSpec := { name := "satAdds", fn := fun _ => fun
  | [d1, d2, d3] => { results := [.lit (.bool false)], args := [d1, d2, d3] }
  | _ => none }
def SatAddsWrongFalsely : Prop := satAddsRow.holds Try.pinned (OpenSpec.ofChange satAddsWrong)

/-- 'wharfingerlaw01.SatOrder': WHATEVER THE INPUT: true; the input reads as it did. -/
def satOrderSpec : ChangeSpec := { name := "satOrder", fn := fun _ => fun
  | [d1, d2, d3] => { results := [.lit (.bool true)], args := [d1, d2, d3] }
  | _ => none }
def satOrderRow : OpenClaim := { program := "ythjdhobmedodkaa", sum := "1821e9e47861b29689eb8b0937c7cad999fad1b15d8ce896125ccdc6dcfd5806", func := "wharfinger/wharfingerlaw01.SatOrder", spec := "satOrder", apart := false }
def SatOrderSaid : Prop := satOrderRow.holds Try.pinned (OpenSpec.ofChange satOrderSpec)

/-- ITS FALSE NEIGHBOUR: 'it returns false'. Refute it at one input. -/
def satOrderWrong : ChangeSpec := { name := "satOrder", fn := fun _ => fun
  | [d1, d2, d3] => { results := [.lit (.bool false)], args := [d1, d2, d3] }
  | _ => none }
def SatOrderWrongFalsely : Prop := satOrderRow.holds Try.pinned (OpenSpec.ofChange satOrderWrong)

/-- 'wharfingerlaw01.SatCap': WHATEVER THE INPUT: true; the input reads as it did. -/
def satCapSpec : ChangeSpec := { name := "satCap", fn := fun _ => fun
  | [d1, d2] => { results := [.lit (.bool true)], args := [d1, d2] }
  | _ => none }
def satCapRow : OpenClaim := { program := "ythjdhobmedodkaa", sum := "1821e9e47861b29689eb8b0937c7cad999fad1b15d8ce896125ccdc6dcfd5806", func := "wharfinger/wharfingerlaw01.SatCap", spec := "satCap", apart := false }
def SatCapSaid : Prop := satCapRow.holds Try.pinned (OpenSpec.ofChange satCapSpec)

/-- ITS FALSE NEIGHBOUR: 'it returns false'. Refute it at one input. -/
def satCapWrong : ChangeSpec := { name := "satCap", fn := fun _ => fun
  | [d1, d2] => { results := [.lit (.bool false)], args := [d1, d2] }
  | _ => none }
def SatCapWrongFalsely : Prop := satCapRow.holds Try.pinned (OpenSpec.ofChange satCapWrong)

/- THE SECOND FORM. 'bulk': how many values and letters a reading holds, each counted each time it is reached (what is shared counts as often as it is met; a slice's spare places count too). A statement '..UptoSaid' is the law's where the arguments, and the package variables that the reading takes, are together of bulk at most 1048576: NARROWER than '..Said'. Prove '..Said' where nothing that the law and all that it calls make is longer than what came in: it says more and counts as full. Else prove '..UptoSaid'. A law counts once. -/
mutual
def uptoBulk {H : Type} : DataW H → Nat
  | .lit (.string bytes) => bytes.length + 1
  | .lit _ => 1
  | .nil => 1
  | .ptr d => uptoBulk d + 1
  | .slice elems spare => uptoBulkAll elems + uptoBulkAll spare + 1
  | .agg parts => uptoBulkAll parts + 1
  | .iface _ d => uptoBulk d + 1
  | .map entries => uptoBulkEntries entries + 1
  | .held _ => 1
def uptoBulkAll {H : Type} : List (DataW H) → Nat
  | [] => 0
  | d :: r => uptoBulk d + uptoBulkAll r
def uptoBulkEntries {H : Type} : List (Lit × DataW H) → Nat
  | [] => 0
  | x :: r => uptoBulkEntry x + uptoBulkEntries r
def uptoBulkEntry {H : Type} : Lit × DataW H → Nat
  | (.string bytes, d) => bytes.length + uptoBulk d + 1
  | (_, d) => uptoBulk d + 1
 end
def uptoSmall : (H : Type) → List (DataW H) → Bool := fun _ ds => decide (uptoBulkAll ds ≤ 1048576)
def OpenSpec.upto (s : _root_.Go.ChangeSpec) : _root_.Go.OpenSpec := { _root_.Go.OpenSpec.ofChange s with cond := some uptoSmall }

/-- 'wharfingerlaw01.SatTells', WHERE WHAT IT READS IS OF BULK AT MOST 1048576: true; the input reads as it did. -/
def satTellsUptoRow : OpenClaim := { program := "ythjdhobmedodkaa", sum := "1821e9e47861b29689eb8b0937c7cad999fad1b15d8ce896125ccdc6dcfd5806", func := "wharfinger/wharfingerlaw01.SatTells", spec := "satTells", apart := false, narrowed := true }
def SatTellsUptoSaid : Prop := satTellsUptoRow.holds Try.pinned (OpenSpec.upto satTellsSpec)

/-- 'wharfingerlaw01.SatStays', WHERE WHAT IT READS IS OF BULK AT MOST 1048576: true; the input reads as it did. -/
def satStaysUptoRow : OpenClaim := { program := "ythjdhobmedodkaa", sum := "1821e9e47861b29689eb8b0937c7cad999fad1b15d8ce896125ccdc6dcfd5806", func := "wharfinger/wharfingerlaw01.SatStays", spec := "satStays", apart := false, narrowed := true }
def SatStaysUptoSaid : Prop := satStaysUptoRow.holds Try.pinned (OpenSpec.upto satStaysSpec)

/-- 'wharfingerlaw01.SatTwice', WHERE WHAT IT READS IS OF BULK AT MOST 1048576: true; the input reads as it did. -/
def satTwiceUptoRow : OpenClaim := { program := "ythjdhobmedodkaa", sum := "1821e9e47861b29689eb8b0937c7cad999fad1b15d8ce896125ccdc6dcfd5806", func := "wharfinger/wharfingerlaw01.SatTwice", spec := "satTwice", apart := false, narrowed := true }
def SatTwiceUptoSaid : Prop := satTwiceUptoRow.holds Try.pinned (OpenSpec.upto satTwiceSpec)

/-- 'wharfingerlaw01.SatAdds', WHERE WHAT IT READS IS OF BULK AT MOST 1048576: true; the input reads as it did. -/
def satAddsUptoRow : OpenClaim := { program := "ythjdhobmedodkaa", sum := "1821e9e47861b29689eb8b0937c7cad999fad1b15d8ce896125ccdc6dcfd5806", func := "wharfinger/wharfingerlaw01.SatAdds", spec := "satAdds", apart := false, narrowed := true }
def SatAddsUptoSaid : Prop := satAddsUptoRow.holds Try.pinned (OpenSpec.upto satAddsSpec)

/-- 'wharfingerlaw01.SatOrder', WHERE WHAT IT READS IS OF BULK AT MOST 1048576: true; the input reads as it did. -/
def satOrderUptoRow : OpenClaim := { program := "ythjdhobmedodkaa", sum := "1821e9e47861b29689eb8b0937c7cad999fad1b15d8ce896125ccdc6dcfd5806", func := "wharfinger/wharfingerlaw01.SatOrder", spec := "satOrder", apart := false, narrowed := true }
def SatOrderUptoSaid : Prop := satOrderUptoRow.holds Try.pinned (OpenSpec.upto satOrderSpec)

/-- 'wharfingerlaw01.SatCap', WHERE WHAT IT READS IS OF BULK AT MOST 1048576: true; the input reads as it did. -/
def satCapUptoRow : OpenClaim := { program := "ythjdhobmedodkaa", sum := "1821e9e47861b29689eb8b0937c7cad999fad1b15d8ce896125ccdc6dcfd5806", func := "wharfinger/wharfingerlaw01.SatCap", spec := "satCap", apart := false, narrowed := true }
def SatCapUptoSaid : Prop := satCapUptoRow.holds Try.pinned (OpenSpec.upto satCapSpec)

end Rows
end Go.Proofs.Ythjdhobmedodkaa
