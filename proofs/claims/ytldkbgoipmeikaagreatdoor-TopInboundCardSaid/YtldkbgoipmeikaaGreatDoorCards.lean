/-
  DERIVED. GIVEN WITH THE SEED: THE CARDS: each row of YtldkbgoipmeikaaGreatDoorRows.lean that lists a variable, with what it lists TIED to the program's text (the seventh form; the later family's looks); each row that meets fmt, with fmt's text TOLD by the authors' own Lean function (tested against real Go, not proved from fmt's source: count such statements apart). THE CARD IS WHAT COUNTS. Prove the row's statement (the work); the ties are given (YtldkbgoipmeikaaGreatDoorTie.lean); close each card by the builder's one call (the guide's Derived/Test/ToyasCard.lean, 'card_holds'). Laid BY PROGRAM, IN A SANDBOX (cutbox-door.mjs). By AI agents, Wed Nov 11 2026. No macro, syntax, notation, axiom, sorry.
-/
import Derived.Test.YtldkbgoipmeikaaGreatDoorRows
import GoSem.ClaimSeven
namespace Go.Proofs.YtldkbgoipmeikaaGreatDoor
namespace Rows

/-- THE TIED CARD OF 'bailiwicktop.TopInbound'. -/
def topInboundCard : Claim7 := { stood := { row := topInboundRow, standIns := [], harness := (true, "140ae94424f4650bca20813eb97f59ceeade7fb478c42a912ab7272c68f34cb8"), looks := true }, kinds := [], alts := [], laidByText := true, laidKinds := [.data, .data, .data, .data, .pinned], laidTests := true, laidLooks := .later }
def TopInboundCardSaid : Prop := Claim7.holds Tryz.pinned (.plain (OpenSpec.ofChange topInboundSpec)) topInboundCard

/-- THE SECOND FORM's CARD OF 'bailiwicktop.TopInbound'. -/
def topInboundUptoCard : Claim7 := { stood := { row := topInboundUptoRow, standIns := [], harness := (true, "140ae94424f4650bca20813eb97f59ceeade7fb478c42a912ab7272c68f34cb8"), looks := true }, kinds := [], alts := [], laidByText := true, laidKinds := [.data, .data, .data, .data, .pinned], laidTests := true, laidLooks := .later }
def TopInboundUptoCardSaid : Prop := Claim7.holds Tryz.pinned (.plain (OpenSpec.upto topInboundSpec)) topInboundUptoCard
end Rows
end Go.Proofs.YtldkbgoipmeikaaGreatDoor
