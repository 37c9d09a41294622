/-
  DERIVED. GIVEN WITH THE SEED: THE CARDS: each row of YtbehbnmljjndiaaGreatDoorRows.lean that lists a variable, with what it lists TIED to the program's text (the seventh form; the later family's looks); each row that meets fmt, with fmt's text TOLD by the authors' own Lean function (tested against real Go, not proved from fmt's source: count such statements apart). THE CARD IS WHAT COUNTS. Prove the row's statement (the work); the ties are given (YtbehbnmljjndiaaGreatDoorTie.lean); close each card by the builder's one call (the guide's Derived/Test/ToyasCard.lean, 'card_holds'). Laid BY PROGRAM, IN A SANDBOX (cutbox-door.mjs). By AI agents, Wed Nov 11 2026. No macro, syntax, notation, axiom, sorry.
-/
import Derived.Test.YtbehbnmljjndiaaGreatDoorRows
import GoSem.ClaimSeven
namespace Go.Proofs.YtbehbnmljjndiaaGreatDoor
namespace Rows

/-- THE TIED CARD OF 'widgetrylaw38.NameFields'. -/
def nameFieldsCard : Claim7 := { stood := { row := nameFieldsRow, standIns := [], harness := (true, "80ccd184ccf1ebbc3b742bad41c7af838697f2ec1064b991297239acb1c7c1b3"), looks := false }, kinds := [], alts := [], laidByText := true, laidKinds := [.data, .data, .data, .data, .data, .pinned], laidTests := true, laidLooks := .later }
def NameFieldsCardSaid : Prop := Claim7.holds Tryz.pinned (.plain (OpenSpec.ofChange nameFieldsSpec)) nameFieldsCard

/-- THE SECOND FORM's CARD OF 'widgetrylaw38.NameFields'. -/
def nameFieldsUptoCard : Claim7 := { stood := { row := nameFieldsUptoRow, standIns := [], harness := (true, "80ccd184ccf1ebbc3b742bad41c7af838697f2ec1064b991297239acb1c7c1b3"), looks := false }, kinds := [], alts := [], laidByText := true, laidKinds := [.data, .data, .data, .data, .data, .pinned], laidTests := true, laidLooks := .later }
def NameFieldsUptoCardSaid : Prop := Claim7.holds Tryz.pinned (.plain (OpenSpec.upto nameFieldsSpec)) nameFieldsUptoCard
end Rows
end Go.Proofs.YtbehbnmljjndiaaGreatDoor
