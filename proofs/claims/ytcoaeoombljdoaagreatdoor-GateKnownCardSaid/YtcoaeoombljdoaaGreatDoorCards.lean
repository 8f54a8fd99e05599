/-
  DERIVED. GIVEN WITH THE SEED: THE CARDS: each row of YtcoaeoombljdoaaGreatDoorRows.lean that lists a variable, with what it lists TIED to the program's text (the seventh form; the later family's looks); each row that meets fmt, with fmt's text TOLD by the authors' own Lean function (tested against real Go, not proved from fmt's source: count such statements apart). THE CARD IS WHAT COUNTS. Prove the row's statement (the work); the ties are given (YtcoaeoombljdoaaGreatDoorTie.lean); close each card by the builder's one call (the guide's Derived/Test/ToyasCard.lean, 'card_holds'). Laid BY PROGRAM, IN A SANDBOX (cutbox-door.mjs). By AI agents, Wed Nov 11 2026. No macro, syntax, notation, axiom, sorry.
-/
import Derived.Test.YtcoaeoombljdoaaGreatDoorRows
import GoSem.ClaimSeven
namespace Go.Proofs.YtcoaeoombljdoaaGreatDoor
namespace Rows

/-- THE TIED CARD OF 'bailiwicklaw29.GateKnown'. -/
def gateKnownCard : Claim7 := { stood := { row := gateKnownRow, standIns := [], harness := (true, "8525bdaed8ec174a9e798ed94744120c04b1098b7f8f9c2684b552dc01e03ea5"), looks := true }, kinds := [], alts := [], laidByText := true, laidKinds := [.data, .data, .data, .data, .pinned], laidTests := true, laidLooks := .later }
def GateKnownCardSaid : Prop := Claim7.holds Tryz.pinned (.plain (OpenSpec.ofChange gateKnownSpec)) gateKnownCard

/-- THE SECOND FORM's CARD OF 'bailiwicklaw29.GateKnown'. -/
def gateKnownUptoCard : Claim7 := { stood := { row := gateKnownUptoRow, standIns := [], harness := (true, "8525bdaed8ec174a9e798ed94744120c04b1098b7f8f9c2684b552dc01e03ea5"), looks := true }, kinds := [], alts := [], laidByText := true, laidKinds := [.data, .data, .data, .data, .pinned], laidTests := true, laidLooks := .later }
def GateKnownUptoCardSaid : Prop := Claim7.holds Tryz.pinned (.plain (OpenSpec.upto gateKnownSpec)) gateKnownUptoCard
end Rows
end Go.Proofs.YtcoaeoombljdoaaGreatDoor
