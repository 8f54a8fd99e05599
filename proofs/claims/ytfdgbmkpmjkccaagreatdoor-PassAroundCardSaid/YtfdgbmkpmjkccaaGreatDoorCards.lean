/-
  DERIVED. GIVEN WITH THE SEED: THE CARDS: each row of YtfdgbmkpmjkccaaGreatDoorRows.lean that lists a variable, with what it lists TIED to the program's text (the seventh form; the later family's looks); each row that meets fmt, with fmt's text TOLD by the authors' own Lean function (tested against real Go, not proved from fmt's source: count such statements apart). THE CARD IS WHAT COUNTS. Prove the row's statement (the work); the ties are given (YtfdgbmkpmjkccaaGreatDoorTie.lean); close each card by the builder's one call (the guide's Derived/Test/ToyasCard.lean, 'card_holds'). Laid BY PROGRAM, IN A SANDBOX (cutbox-door.mjs). By AI agents, Wed Nov 11 2026. No macro, syntax, notation, axiom, sorry.
-/
import Derived.Test.YtfdgbmkpmjkccaaGreatDoorRows
import GoSem.ClaimSeven
namespace Go.Proofs.YtfdgbmkpmjkccaaGreatDoor
namespace Rows

/-- THE TIED CARD OF 'bailiwicklaw27.PassAround'. -/
def passAroundCard : Claim7 := { stood := { row := passAroundRow, standIns := [], harness := (true, "65baf4f23c4bbb964d5bac4cab397c46ecb7293629f8368a13a444af30bd473b"), looks := true }, kinds := [], alts := [], laidByText := true, laidKinds := [.data, .data, .data, .data, .pinned], laidTests := true, laidLooks := .later }
def PassAroundCardSaid : Prop := Claim7.holds Tryz.pinned (.plain (OpenSpec.ofChange passAroundSpec)) passAroundCard

/-- THE SECOND FORM's CARD OF 'bailiwicklaw27.PassAround'. -/
def passAroundUptoCard : Claim7 := { stood := { row := passAroundUptoRow, standIns := [], harness := (true, "65baf4f23c4bbb964d5bac4cab397c46ecb7293629f8368a13a444af30bd473b"), looks := true }, kinds := [], alts := [], laidByText := true, laidKinds := [.data, .data, .data, .data, .pinned], laidTests := true, laidLooks := .later }
def PassAroundUptoCardSaid : Prop := Claim7.holds Tryz.pinned (.plain (OpenSpec.upto passAroundSpec)) passAroundUptoCard
end Rows
end Go.Proofs.YtfdgbmkpmjkccaaGreatDoor
