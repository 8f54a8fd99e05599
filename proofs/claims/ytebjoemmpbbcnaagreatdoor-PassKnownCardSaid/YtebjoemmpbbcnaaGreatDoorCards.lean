/-
  DERIVED. GIVEN WITH THE SEED: THE CARDS: each row of YtebjoemmpbbcnaaGreatDoorRows.lean that lists a variable, with what it lists TIED to the program's text (the seventh form; the later family's looks); each row that meets fmt, with fmt's text TOLD by the authors' own Lean function (tested against real Go, not proved from fmt's source: count such statements apart). THE CARD IS WHAT COUNTS. Prove the row's statement (the work); the ties are given (YtebjoemmpbbcnaaGreatDoorTie.lean); close each card by the builder's one call (the guide's Derived/Test/ToyasCard.lean, 'card_holds'). Laid BY PROGRAM, IN A SANDBOX (cutbox-door.mjs). By AI agents, Wed Nov 11 2026. No macro, syntax, notation, axiom, sorry.
-/
import Derived.Test.YtebjoemmpbbcnaaGreatDoorRows
import GoSem.ClaimSeven
namespace Go.Proofs.YtebjoemmpbbcnaaGreatDoor
namespace Rows

/-- THE TIED CARD OF 'bailiwicklaw27.PassKnown'. -/
def passKnownCard : Claim7 := { stood := { row := passKnownRow, standIns := [], harness := (true, "b65c499030dd93a08e43d865ad99e391dd226ba1e9f7ee8fe441a534ebf39b91"), looks := true }, kinds := [], alts := [], laidByText := true, laidKinds := [.data, .data, .data, .data, .pinned], laidTests := true, laidLooks := .later }
def PassKnownCardSaid : Prop := Claim7.holds Tryz.pinned (.plain (OpenSpec.ofChange passKnownSpec)) passKnownCard

/-- THE SECOND FORM's CARD OF 'bailiwicklaw27.PassKnown'. -/
def passKnownUptoCard : Claim7 := { stood := { row := passKnownUptoRow, standIns := [], harness := (true, "b65c499030dd93a08e43d865ad99e391dd226ba1e9f7ee8fe441a534ebf39b91"), looks := true }, kinds := [], alts := [], laidByText := true, laidKinds := [.data, .data, .data, .data, .pinned], laidTests := true, laidLooks := .later }
def PassKnownUptoCardSaid : Prop := Claim7.holds Tryz.pinned (.plain (OpenSpec.upto passKnownSpec)) passKnownUptoCard
end Rows
end Go.Proofs.YtebjoemmpbbcnaaGreatDoor
