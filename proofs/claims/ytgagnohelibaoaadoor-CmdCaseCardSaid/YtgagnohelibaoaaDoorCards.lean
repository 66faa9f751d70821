/-
  DERIVED. GIVEN WITH THE SEED: THE CARDS: each row of YtgagnohelibaoaaDoorRows.lean that lists a variable, with what it lists TIED to the program's text (the seventh form; the later family's looks); each row that meets fmt, with fmt's text TOLD by the authors' own Lean function (tested against real Go, not proved from fmt's source: count such statements apart). THE CARD IS WHAT COUNTS. Prove the row's statement (the work); the ties are given (YtgagnohelibaoaaDoorTie.lean); close each card by the builder's one call (the guide's Derived/Test/ToyasCard.lean, 'card_holds'). Laid BY PROGRAM, IN A SANDBOX (cutbox-door.mjs). By AI agents, Wed Nov 11 2026. No macro, syntax, notation, axiom, sorry.
-/
import Derived.Test.YtgagnohelibaoaaDoorRows
import GoSem.ClaimSeven
namespace Go.Proofs.YtgagnohelibaoaaDoor
namespace Rows

/-- THE TIED CARD OF 'wharfingerlaw08.CmdTells'. -/
def cmdTellsCard : Claim7 := { stood := { row := cmdTellsRow, standIns := [], harness := (true, "5417161fa85133a66d98272f779f9916858a053edb9d1854bd0a9a1fc2acfb4f"), looks := true }, kinds := [], alts := [], laidByText := true, laidKinds := [.handle], laidTests := true, laidLooks := .later }
def CmdTellsCardSaid : Prop := Claim7.holds Tryd.pinned (.plain (OpenSpec.ofChange cmdTellsSpec)) cmdTellsCard

/-- THE TIED CARD OF 'wharfingerlaw08.CmdBack'. -/
def cmdBackCard : Claim7 := { stood := { row := cmdBackRow, standIns := [], harness := (true, "5417161fa85133a66d98272f779f9916858a053edb9d1854bd0a9a1fc2acfb4f"), looks := true }, kinds := [], alts := [], laidByText := true, laidKinds := [.handle], laidTests := true, laidLooks := .later }
def CmdBackCardSaid : Prop := Claim7.holds Tryd.pinned (.plain (OpenSpec.ofChange cmdBackSpec)) cmdBackCard

/-- THE TIED CARD OF 'wharfingerlaw08.CmdForms'. -/
def cmdFormsCard : Claim7 := { stood := { row := cmdFormsRow, standIns := [], harness := (true, "5417161fa85133a66d98272f779f9916858a053edb9d1854bd0a9a1fc2acfb4f"), looks := true }, kinds := [], alts := [], laidByText := true, laidKinds := [.handle], laidTests := true, laidLooks := .later }
def CmdFormsCardSaid : Prop := Claim7.holds Tryd.pinned (.plain (OpenSpec.ofChange cmdFormsSpec)) cmdFormsCard

/-- THE TIED CARD OF 'wharfingerlaw08.CmdOnly'. -/
def cmdOnlyCard : Claim7 := { stood := { row := cmdOnlyRow, standIns := [], harness := (true, "5417161fa85133a66d98272f779f9916858a053edb9d1854bd0a9a1fc2acfb4f"), looks := true }, kinds := [], alts := [], laidByText := true, laidKinds := [.handle], laidTests := true, laidLooks := .later }
def CmdOnlyCardSaid : Prop := Claim7.holds Tryd.pinned (.plain (OpenSpec.ofChange cmdOnlySpec)) cmdOnlyCard

/-- THE TIED CARD OF 'wharfingerlaw08.CmdArgs'. -/
def cmdArgsCard : Claim7 := { stood := { row := cmdArgsRow, standIns := [], harness := (true, "5417161fa85133a66d98272f779f9916858a053edb9d1854bd0a9a1fc2acfb4f"), looks := true }, kinds := [], alts := [], laidByText := true, laidKinds := [.handle], laidTests := true, laidLooks := .later }
def CmdArgsCardSaid : Prop := Claim7.holds Tryd.pinned (.plain (OpenSpec.ofChange cmdArgsSpec)) cmdArgsCard

/-- THE TIED CARD OF 'wharfingerlaw08.CmdCase'. -/
def cmdCaseCard : Claim7 := { stood := { row := cmdCaseRow, standIns := [], harness := (true, "5417161fa85133a66d98272f779f9916858a053edb9d1854bd0a9a1fc2acfb4f"), looks := true }, kinds := [], alts := [], laidByText := true, laidKinds := [.handle], laidTests := true, laidLooks := .later }
def CmdCaseCardSaid : Prop := Claim7.holds Tryd.pinned (.plain (OpenSpec.ofChange cmdCaseSpec)) cmdCaseCard

/-- THE SECOND FORM's CARD OF 'wharfingerlaw08.CmdTells'. -/
def cmdTellsUptoCard : Claim7 := { stood := { row := cmdTellsUptoRow, standIns := [], harness := (true, "5417161fa85133a66d98272f779f9916858a053edb9d1854bd0a9a1fc2acfb4f"), looks := true }, kinds := [], alts := [], laidByText := true, laidKinds := [.handle], laidTests := true, laidLooks := .later }
def CmdTellsUptoCardSaid : Prop := Claim7.holds Tryd.pinned (.plain (OpenSpec.upto cmdTellsSpec)) cmdTellsUptoCard

/-- THE SECOND FORM's CARD OF 'wharfingerlaw08.CmdBack'. -/
def cmdBackUptoCard : Claim7 := { stood := { row := cmdBackUptoRow, standIns := [], harness := (true, "5417161fa85133a66d98272f779f9916858a053edb9d1854bd0a9a1fc2acfb4f"), looks := true }, kinds := [], alts := [], laidByText := true, laidKinds := [.handle], laidTests := true, laidLooks := .later }
def CmdBackUptoCardSaid : Prop := Claim7.holds Tryd.pinned (.plain (OpenSpec.upto cmdBackSpec)) cmdBackUptoCard

/-- THE SECOND FORM's CARD OF 'wharfingerlaw08.CmdForms'. -/
def cmdFormsUptoCard : Claim7 := { stood := { row := cmdFormsUptoRow, standIns := [], harness := (true, "5417161fa85133a66d98272f779f9916858a053edb9d1854bd0a9a1fc2acfb4f"), looks := true }, kinds := [], alts := [], laidByText := true, laidKinds := [.handle], laidTests := true, laidLooks := .later }
def CmdFormsUptoCardSaid : Prop := Claim7.holds Tryd.pinned (.plain (OpenSpec.upto cmdFormsSpec)) cmdFormsUptoCard

/-- THE SECOND FORM's CARD OF 'wharfingerlaw08.CmdOnly'. -/
def cmdOnlyUptoCard : Claim7 := { stood := { row := cmdOnlyUptoRow, standIns := [], harness := (true, "5417161fa85133a66d98272f779f9916858a053edb9d1854bd0a9a1fc2acfb4f"), looks := true }, kinds := [], alts := [], laidByText := true, laidKinds := [.handle], laidTests := true, laidLooks := .later }
def CmdOnlyUptoCardSaid : Prop := Claim7.holds Tryd.pinned (.plain (OpenSpec.upto cmdOnlySpec)) cmdOnlyUptoCard

/-- THE SECOND FORM's CARD OF 'wharfingerlaw08.CmdArgs'. -/
def cmdArgsUptoCard : Claim7 := { stood := { row := cmdArgsUptoRow, standIns := [], harness := (true, "5417161fa85133a66d98272f779f9916858a053edb9d1854bd0a9a1fc2acfb4f"), looks := true }, kinds := [], alts := [], laidByText := true, laidKinds := [.handle], laidTests := true, laidLooks := .later }
def CmdArgsUptoCardSaid : Prop := Claim7.holds Tryd.pinned (.plain (OpenSpec.upto cmdArgsSpec)) cmdArgsUptoCard

/-- THE SECOND FORM's CARD OF 'wharfingerlaw08.CmdCase'. -/
def cmdCaseUptoCard : Claim7 := { stood := { row := cmdCaseUptoRow, standIns := [], harness := (true, "5417161fa85133a66d98272f779f9916858a053edb9d1854bd0a9a1fc2acfb4f"), looks := true }, kinds := [], alts := [], laidByText := true, laidKinds := [.handle], laidTests := true, laidLooks := .later }
def CmdCaseUptoCardSaid : Prop := Claim7.holds Tryd.pinned (.plain (OpenSpec.upto cmdCaseSpec)) cmdCaseUptoCard
end Rows
end Go.Proofs.YtgagnohelibaoaaDoor
