/-
  NARROWER THAN 'FOR EVERY INPUT', by the rows' own cells (each row's printed sentence says how): CmdTells: laid · CmdBack: laid · CmdForms: laid · CmdOnly: laid · CmdArgs: laid · CmdCase: laid.
  DERIVED. THE GIVEN ROWS OF THIS SEAT. 6 by the template 'for every input the law returns true; each argument reads behind the call as it read before'; 0 by the template 'total and deterministic' (their statements: YtgagnohelibaoaaDoorTotals.lean).
  GIVEN WITH THE SEED: the statements are not yours to turn. If you find one false, say at which input.
  Laid BY PROGRAM, IN A SANDBOX (cutbox-rows.mjs): the forced cells as the released guide's own fill.sh prints them over the translation 597e924733c784f2… (all of the seat's roots in one cut). By AI agents, Wed Nov 11 2026. No macro, syntax, notation, axiom, sorry.
-/
import Derived.Test.YtgagnohelibaoaaDoorChecked
import GoSem.Claim
import GoSem.ClaimJoined
import GoSem.ClaimMapViews
import Derived.JoinedTies
import Derived.KernelRfl
namespace Go.Proofs.YtgagnohelibaoaaDoor
/- THE CELL 'sum', in the pinned program and in every row, IS THE sha256 OF THE DUMP (.gsa) THAT YtgagnohelibaoaaDoorProg.lean LOADS. Nothing in Lean hashes anything: it is a label: what it is worth is what the hold of that sum in a sandbox is worth. -/
noncomputable def Tryd.pinned : Pinned := { name := "ytgagnohelibaoaadoor", sum := "597e924733c784f2de5d2be31dd9a4bf8722391d453decf753b55d73f0f8076f", checked := Tryd.checked }
namespace Rows
def none {H : Type} : Left H := { results := [], args := [] }

/- WHAT THE LISTED PACKAGE-LEVEL VARIABLES READ AS WHEN THE CALL BEGINS. Each datum BY PROGRAM (the guide's laid-datum.mjs) off the statement by which the dump's own 'gosem.cut.vars' lays the variable. In a bare row this is a premise. The card (YtgagnohelibaoaaDoorCards.lean) ties it to the program's text. -/
def laid_errors_errorType {H : Type} : DataW H := .iface "internal/reflectlite.rtype" (.agg [.ptr (.lit (.string [101, 114, 114, 111, 114]))])

/-- 'wharfingerlaw08.CmdTells': WHATEVER THE INPUT: true; the input reads as it did. -/
def cmdTellsSpec : ChangeSpec := { name := "cmdTells", fn := fun _ => fun
  | [d1, d2] => { results := [.lit (.bool true)], args := [d1, d2] }
  | _ => none }
def cmdTellsRow : OpenClaim := { program := "ytgagnohelibaoaadoor", sum := "597e924733c784f2de5d2be31dd9a4bf8722391d453decf753b55d73f0f8076f", func := "wharfinger/wharfingerlaw08.CmdTells", spec := "cmdTells", inPlace := ["internal/bytealg.IndexByteString", "internal/bytealg.IndexString", "internal/reflectlite.ValueOf", "(internal/reflectlite.Value).Type", "(internal/reflectlite.Value).IsNil", "internal/reflectlite.TypeOf", "(internal/reflectlite.Value).Elem", "(internal/reflectlite.Value).Set"], unfollowed := true, recurses := true, named := ["internal/bytealg.MaxLen", "errors.errorType"], apart := false, laid := [("errors.errorType", laid_errors_errorType)] }
def CmdTellsSaid : Prop := cmdTellsRow.holds Tryd.pinned (OpenSpec.ofChange cmdTellsSpec)

/-- ITS FALSE NEIGHBOUR: 'it returns false'. Refute it at one input. -/
def cmdTellsWrong : ChangeSpec := { name := "cmdTells", fn := fun _ => fun
  | [d1, d2] => { results := [.lit (.bool false)], args := [d1, d2] }
  | _ => none }
def CmdTellsWrongFalsely : Prop := cmdTellsRow.holds Tryd.pinned (OpenSpec.ofChange cmdTellsWrong)

/-- 'wharfingerlaw08.CmdBack': WHATEVER THE INPUT: true; the input reads as it did. -/
def cmdBackSpec : ChangeSpec := { name := "cmdBack", fn := fun _ => fun
  | [d1, d2] => { results := [.lit (.bool true)], args := [d1, d2] }
  | _ => none }
def cmdBackRow : OpenClaim := { program := "ytgagnohelibaoaadoor", sum := "597e924733c784f2de5d2be31dd9a4bf8722391d453decf753b55d73f0f8076f", func := "wharfinger/wharfingerlaw08.CmdBack", spec := "cmdBack", inPlace := ["internal/bytealg.IndexByteString", "internal/bytealg.IndexString", "internal/reflectlite.ValueOf", "(internal/reflectlite.Value).Type", "(internal/reflectlite.Value).IsNil", "internal/reflectlite.TypeOf", "(internal/reflectlite.Value).Elem", "(internal/reflectlite.Value).Set"], unfollowed := true, recurses := true, named := ["internal/bytealg.MaxLen", "errors.errorType"], apart := false, laid := [("errors.errorType", laid_errors_errorType)] }
def CmdBackSaid : Prop := cmdBackRow.holds Tryd.pinned (OpenSpec.ofChange cmdBackSpec)

/-- ITS FALSE NEIGHBOUR: 'it returns false'. Refute it at one input. -/
def cmdBackWrong : ChangeSpec := { name := "cmdBack", fn := fun _ => fun
  | [d1, d2] => { results := [.lit (.bool false)], args := [d1, d2] }
  | _ => none }
def CmdBackWrongFalsely : Prop := cmdBackRow.holds Tryd.pinned (OpenSpec.ofChange cmdBackWrong)

/-- 'wharfingerlaw08.CmdForms': WHATEVER THE INPUT: true; the input reads as it did. -/
def cmdFormsSpec : ChangeSpec := { name := "cmdForms", fn := fun _ => fun
  | [d1, d2] => { results := [.lit (.bool true)], args := [d1, d2] }
  | _ => none }
def cmdFormsRow : OpenClaim := { program := "ytgagnohelibaoaadoor", sum := "597e924733c784f2de5d2be31dd9a4bf8722391d453decf753b55d73f0f8076f", func := "wharfinger/wharfingerlaw08.CmdForms", spec := "cmdForms", inPlace := ["internal/bytealg.IndexByteString", "internal/bytealg.IndexString", "internal/reflectlite.ValueOf", "(internal/reflectlite.Value).Type", "(internal/reflectlite.Value).IsNil", "internal/reflectlite.TypeOf", "(internal/reflectlite.Value).Elem", "(internal/reflectlite.Value).Set"], unfollowed := true, recurses := true, named := ["internal/bytealg.MaxLen", "errors.errorType"], apart := false, laid := [("errors.errorType", laid_errors_errorType)] }
def CmdFormsSaid : Prop := cmdFormsRow.holds Tryd.pinned (OpenSpec.ofChange cmdFormsSpec)

/-- ITS FALSE NEIGHBOUR: 'it returns false'. Refute it at one input. -/
def cmdFormsWrong : ChangeSpec := { name := "cmdForms", fn := fun _ => fun
  | [d1, d2] => { results := [.lit (.bool false)], args := [d1, d2] }
  | _ => none }
def CmdFormsWrongFalsely : Prop := cmdFormsRow.holds Tryd.pinned (OpenSpec.ofChange cmdFormsWrong)

/-- 'wharfingerlaw08.CmdOnly': WHATEVER THE INPUT: true; the input reads as it did. -/
def cmdOnlySpec : ChangeSpec := { name := "cmdOnly", fn := fun _ => fun
  | [d1, d2] => { results := [.lit (.bool true)], args := [d1, d2] }
  | _ => none }
def cmdOnlyRow : OpenClaim := { program := "ytgagnohelibaoaadoor", sum := "597e924733c784f2de5d2be31dd9a4bf8722391d453decf753b55d73f0f8076f", func := "wharfinger/wharfingerlaw08.CmdOnly", spec := "cmdOnly", inPlace := ["internal/bytealg.IndexByteString", "internal/bytealg.IndexString", "internal/reflectlite.ValueOf", "(internal/reflectlite.Value).Type", "(internal/reflectlite.Value).IsNil", "internal/reflectlite.TypeOf", "(internal/reflectlite.Value).Elem", "(internal/reflectlite.Value).Set"], unfollowed := true, recurses := true, named := ["internal/bytealg.MaxLen", "errors.errorType"], apart := false, laid := [("errors.errorType", laid_errors_errorType)] }
def CmdOnlySaid : Prop := cmdOnlyRow.holds Tryd.pinned (OpenSpec.ofChange cmdOnlySpec)

/-- ITS FALSE NEIGHBOUR: 'it returns false'. Refute it at one input. -/
def cmdOnlyWrong : ChangeSpec := { name := "cmdOnly", fn := fun _ => fun
  | [d1, d2] => { results := [.lit (.bool false)], args := [d1, d2] }
  | _ => none }
def CmdOnlyWrongFalsely : Prop := cmdOnlyRow.holds Tryd.pinned (OpenSpec.ofChange cmdOnlyWrong)

/-- 'wharfingerlaw08.CmdArgs': WHATEVER THE INPUT: true; the input reads as it did. -/
def cmdArgsSpec : ChangeSpec := { name := "cmdArgs", fn := fun _ => fun
  | [d1, d2] => { results := [.lit (.bool true)], args := [d1, d2] }
  | _ => none }
def cmdArgsRow : OpenClaim := { program := "ytgagnohelibaoaadoor", sum := "597e924733c784f2de5d2be31dd9a4bf8722391d453decf753b55d73f0f8076f", func := "wharfinger/wharfingerlaw08.CmdArgs", spec := "cmdArgs", inPlace := ["internal/bytealg.IndexByteString", "internal/bytealg.IndexString", "internal/reflectlite.ValueOf", "(internal/reflectlite.Value).Type", "(internal/reflectlite.Value).IsNil", "internal/reflectlite.TypeOf", "(internal/reflectlite.Value).Elem", "(internal/reflectlite.Value).Set"], unfollowed := true, recurses := true, named := ["internal/bytealg.MaxLen", "errors.errorType"], apart := false, laid := [("errors.errorType", laid_errors_errorType)] }
def CmdArgsSaid : Prop := cmdArgsRow.holds Tryd.pinned (OpenSpec.ofChange cmdArgsSpec)

/-- ITS FALSE NEIGHBOUR: 'it returns false'. Refute it at one input. -/
def cmdArgsWrong : ChangeSpec := { name := "cmdArgs", fn := fun _ => fun
  | [d1, d2] => { results := [.lit (.bool false)], args := [d1, d2] }
  | _ => none }
def CmdArgsWrongFalsely : Prop := cmdArgsRow.holds Tryd.pinned (OpenSpec.ofChange cmdArgsWrong)

/-- 'wharfingerlaw08.CmdCase': WHATEVER THE INPUT: true; the input reads as it did. -/
def cmdCaseSpec : ChangeSpec := { name := "cmdCase", fn := fun _ => fun
  | [d1, d2, d3] => { results := [.lit (.bool true)], args := [d1, d2, d3] }
  | _ => none }
def cmdCaseRow : OpenClaim := { program := "ytgagnohelibaoaadoor", sum := "597e924733c784f2de5d2be31dd9a4bf8722391d453decf753b55d73f0f8076f", func := "wharfinger/wharfingerlaw08.CmdCase", spec := "cmdCase", inPlace := ["internal/bytealg.IndexByteString", "internal/bytealg.IndexString", "internal/reflectlite.ValueOf", "(internal/reflectlite.Value).Type", "(internal/reflectlite.Value).IsNil", "internal/reflectlite.TypeOf", "(internal/reflectlite.Value).Elem", "(internal/reflectlite.Value).Set"], unfollowed := true, recurses := true, named := ["internal/bytealg.MaxLen", "errors.errorType"], apart := false, laid := [("errors.errorType", laid_errors_errorType)] }
def CmdCaseSaid : Prop := cmdCaseRow.holds Tryd.pinned (OpenSpec.ofChange cmdCaseSpec)

/-- ITS FALSE NEIGHBOUR: 'it returns false'. Refute it at one input. -/
def cmdCaseWrong : ChangeSpec := { name := "cmdCase", fn := fun _ => fun
  | [d1, d2, d3] => { results := [.lit (.bool false)], args := [d1, d2, d3] }
  | _ => none }
def CmdCaseWrongFalsely : Prop := cmdCaseRow.holds Tryd.pinned (OpenSpec.ofChange cmdCaseWrong)

/- THE SECOND FORM. 'bulk': how many values and letters a reading holds, each counted each time it is reached (what is shared counts as often as it is met; a slice's spare places count too). A statement '..UptoSaid' is the law's where the arguments, and the package variables that the reading takes, are together of bulk at most 1048576: NARROWER than '..Said'. Prove '..Said' where nothing that the law and all that it calls make is longer than what came in: it says more and counts as full. Else prove '..UptoSaid'. A law counts once. -/
mutual
def uptoBulk {H : Type} : DataW H → Nat
  | .lit (.string bytes) => bytes.length + 1
  | .lit _ => 1
  | .nil => 1
  | .ptr d => uptoBulk d + 1
  | .slice elems spare => uptoBulkAll elems + uptoBulkAll spare + 1
  | .agg parts => uptoBulkAll parts + 1
  | .iface _ d => uptoBulk d + 1
  | .map entries => uptoBulkEntries entries + 1
  | .held _ => 1
def uptoBulkAll {H : Type} : List (DataW H) → Nat
  | [] => 0
  | d :: r => uptoBulk d + uptoBulkAll r
def uptoBulkEntries {H : Type} : List (Lit × DataW H) → Nat
  | [] => 0
  | x :: r => uptoBulkEntry x + uptoBulkEntries r
def uptoBulkEntry {H : Type} : Lit × DataW H → Nat
  | (.string bytes, d) => bytes.length + uptoBulk d + 1
  | (_, d) => uptoBulk d + 1
 end
def uptoSmall : (H : Type) → List (DataW H) → Bool := fun _ ds => decide (uptoBulkAll ds ≤ 1048576)
def OpenSpec.upto (s : _root_.Go.ChangeSpec) : _root_.Go.OpenSpec := { _root_.Go.OpenSpec.ofChange s with cond := some uptoSmall }

/-- 'wharfingerlaw08.CmdTells', WHERE WHAT IT READS IS OF BULK AT MOST 1048576: true; the input reads as it did. -/
def cmdTellsUptoRow : OpenClaim := { program := "ytgagnohelibaoaadoor", sum := "597e924733c784f2de5d2be31dd9a4bf8722391d453decf753b55d73f0f8076f", func := "wharfinger/wharfingerlaw08.CmdTells", spec := "cmdTells", inPlace := ["internal/bytealg.IndexByteString", "internal/bytealg.IndexString", "internal/reflectlite.ValueOf", "(internal/reflectlite.Value).Type", "(internal/reflectlite.Value).IsNil", "internal/reflectlite.TypeOf", "(internal/reflectlite.Value).Elem", "(internal/reflectlite.Value).Set"], unfollowed := true, recurses := true, named := ["internal/bytealg.MaxLen", "errors.errorType"], apart := false, laid := [("errors.errorType", laid_errors_errorType)], narrowed := true }
def CmdTellsUptoSaid : Prop := cmdTellsUptoRow.holds Tryd.pinned (OpenSpec.upto cmdTellsSpec)

/-- 'wharfingerlaw08.CmdBack', WHERE WHAT IT READS IS OF BULK AT MOST 1048576: true; the input reads as it did. -/
def cmdBackUptoRow : OpenClaim := { program := "ytgagnohelibaoaadoor", sum := "597e924733c784f2de5d2be31dd9a4bf8722391d453decf753b55d73f0f8076f", func := "wharfinger/wharfingerlaw08.CmdBack", spec := "cmdBack", inPlace := ["internal/bytealg.IndexByteString", "internal/bytealg.IndexString", "internal/reflectlite.ValueOf", "(internal/reflectlite.Value).Type", "(internal/reflectlite.Value).IsNil", "internal/reflectlite.TypeOf", "(internal/reflectlite.Value).Elem", "(internal/reflectlite.Value).Set"], unfollowed := true, recurses := true, named := ["internal/bytealg.MaxLen", "errors.errorType"], apart := false, laid := [("errors.errorType", laid_errors_errorType)], narrowed := true }
def CmdBackUptoSaid : Prop := cmdBackUptoRow.holds Tryd.pinned (OpenSpec.upto cmdBackSpec)

/-- 'wharfingerlaw08.CmdForms', WHERE WHAT IT READS IS OF BULK AT MOST 1048576: true; the input reads as it did. -/
def cmdFormsUptoRow : OpenClaim := { program := "ytgagnohelibaoaadoor", sum := "597e924733c784f2de5d2be31dd9a4bf8722391d453decf753b55d73f0f8076f", func := "wharfinger/wharfingerlaw08.CmdForms", spec := "cmdForms", inPlace := ["internal/bytealg.IndexByteString", "internal/bytealg.IndexString", "internal/reflectlite.ValueOf", "(internal/reflectlite.Value).Type", "(internal/reflectlite.Value).IsNil", "internal/reflectlite.TypeOf", "(internal/reflectlite.Value).Elem", "(internal/reflectlite.Value).Set"], unfollowed := true, recurses := true, named := ["internal/bytealg.MaxLen", "errors.errorType"], apart := false, laid := [("errors.errorType", laid_errors_errorType)], narrowed := true }
def CmdFormsUptoSaid : Prop := cmdFormsUptoRow.holds Tryd.pinned (OpenSpec.upto cmdFormsSpec)

/-- 'wharfingerlaw08.CmdOnly', WHERE WHAT IT READS IS OF BULK AT MOST 1048576: true; the input reads as it did. -/
def cmdOnlyUptoRow : OpenClaim := { program := "ytgagnohelibaoaadoor", sum := "597e924733c784f2de5d2be31dd9a4bf8722391d453decf753b55d73f0f8076f", func := "wharfinger/wharfingerlaw08.CmdOnly", spec := "cmdOnly", inPlace := ["internal/bytealg.IndexByteString", "internal/bytealg.IndexString", "internal/reflectlite.ValueOf", "(internal/reflectlite.Value).Type", "(internal/reflectlite.Value).IsNil", "internal/reflectlite.TypeOf", "(internal/reflectlite.Value).Elem", "(internal/reflectlite.Value).Set"], unfollowed := true, recurses := true, named := ["internal/bytealg.MaxLen", "errors.errorType"], apart := false, laid := [("errors.errorType", laid_errors_errorType)], narrowed := true }
def CmdOnlyUptoSaid : Prop := cmdOnlyUptoRow.holds Tryd.pinned (OpenSpec.upto cmdOnlySpec)

/-- 'wharfingerlaw08.CmdArgs', WHERE WHAT IT READS IS OF BULK AT MOST 1048576: true; the input reads as it did. -/
def cmdArgsUptoRow : OpenClaim := { program := "ytgagnohelibaoaadoor", sum := "597e924733c784f2de5d2be31dd9a4bf8722391d453decf753b55d73f0f8076f", func := "wharfinger/wharfingerlaw08.CmdArgs", spec := "cmdArgs", inPlace := ["internal/bytealg.IndexByteString", "internal/bytealg.IndexString", "internal/reflectlite.ValueOf", "(internal/reflectlite.Value).Type", "(internal/reflectlite.Value).IsNil", "internal/reflectlite.TypeOf", "(internal/reflectlite.Value).Elem", "(internal/reflectlite.Value).Set"], unfollowed := true, recurses := true, named := ["internal/bytealg.MaxLen", "errors.errorType"], apart := false, laid := [("errors.errorType", laid_errors_errorType)], narrowed := true }
def CmdArgsUptoSaid : Prop := cmdArgsUptoRow.holds Tryd.pinned (OpenSpec.upto cmdArgsSpec)

/-- 'wharfingerlaw08.CmdCase', WHERE WHAT IT READS IS OF BULK AT MOST 1048576: true; the input reads as it did. -/
def cmdCaseUptoRow : OpenClaim := { program := "ytgagnohelibaoaadoor", sum := "597e924733c784f2de5d2be31dd9a4bf8722391d453decf753b55d73f0f8076f", func := "wharfinger/wharfingerlaw08.CmdCase", spec := "cmdCase", inPlace := ["internal/bytealg.IndexByteString", "internal/bytealg.IndexString", "internal/reflectlite.ValueOf", "(internal/reflectlite.Value).Type", "(internal/reflectlite.Value).IsNil", "internal/reflectlite.TypeOf", "(internal/reflectlite.Value).Elem", "(internal/reflectlite.Value).Set"], unfollowed := true, recurses := true, named := ["internal/bytealg.MaxLen", "errors.errorType"], apart := false, laid := [("errors.errorType", laid_errors_errorType)], narrowed := true }
def CmdCaseUptoSaid : Prop := cmdCaseUptoRow.holds Tryd.pinned (OpenSpec.upto cmdCaseSpec)

end Rows
end Go.Proofs.YtgagnohelibaoaaDoor
