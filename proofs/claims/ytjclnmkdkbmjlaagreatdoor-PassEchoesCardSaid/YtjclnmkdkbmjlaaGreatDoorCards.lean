/-
  DERIVED. GIVEN WITH THE SEED: THE CARDS: each row of YtjclnmkdkbmjlaaGreatDoorRows.lean that lists a variable, with what it lists TIED to the program's text (the seventh form; the later family's looks); each row that meets fmt, with fmt's text TOLD by the authors' own Lean function (tested against real Go, not proved from fmt's source: count such statements apart). THE CARD IS WHAT COUNTS. Prove the row's statement (the work); the ties are given (YtjclnmkdkbmjlaaGreatDoorTie.lean); close each card by the builder's one call (the guide's Derived/Test/ToyasCard.lean, 'card_holds'). Laid BY PROGRAM, IN A SANDBOX (cutbox-door.mjs). By AI agents, Wed Nov 11 2026. No macro, syntax, notation, axiom, sorry.
-/
import Derived.Test.YtjclnmkdkbmjlaaGreatDoorRows
import GoSem.ClaimSeven
namespace Go.Proofs.YtjclnmkdkbmjlaaGreatDoor
namespace Rows

/-- THE TIED CARD OF 'bailiwicklaw27.PassAround'. -/
def passAroundCard : Claim7 := { stood := { row := passAroundRow, standIns := [], harness := (true, "55090b1f2630137124a2eaefac75a422731cbfe4701a89ac1eae6dfa49b008c1"), looks := true }, kinds := [], alts := [], laidByText := true, laidKinds := [.data, .data, .data, .data, .pinned], laidTests := true, laidLooks := .later }
def PassAroundCardSaid : Prop := Claim7.holds Tryz.pinned (.plain (OpenSpec.ofChange passAroundSpec)) passAroundCard

/-- THE TIED CARD OF 'bailiwicklaw27.PassEchoes'. -/
def passEchoesCard : Claim7 := { stood := { row := passEchoesRow, standIns := [], harness := (true, "55090b1f2630137124a2eaefac75a422731cbfe4701a89ac1eae6dfa49b008c1"), looks := true }, kinds := [], alts := [], laidByText := true, laidKinds := [.data, .data, .data, .data, .pinned], laidTests := true, laidLooks := .later }
def PassEchoesCardSaid : Prop := Claim7.holds Tryz.pinned (.plain (OpenSpec.ofChange passEchoesSpec)) passEchoesCard

/-- THE SECOND FORM's CARD OF 'bailiwicklaw27.PassAround'. -/
def passAroundUptoCard : Claim7 := { stood := { row := passAroundUptoRow, standIns := [], harness := (true, "55090b1f2630137124a2eaefac75a422731cbfe4701a89ac1eae6dfa49b008c1"), looks := true }, kinds := [], alts := [], laidByText := true, laidKinds := [.data, .data, .data, .data, .pinned], laidTests := true, laidLooks := .later }
def PassAroundUptoCardSaid : Prop := Claim7.holds Tryz.pinned (.plain (OpenSpec.upto passAroundSpec)) passAroundUptoCard

/-- THE SECOND FORM's CARD OF 'bailiwicklaw27.PassEchoes'. -/
def passEchoesUptoCard : Claim7 := { stood := { row := passEchoesUptoRow, standIns := [], harness := (true, "55090b1f2630137124a2eaefac75a422731cbfe4701a89ac1eae6dfa49b008c1"), looks := true }, kinds := [], alts := [], laidByText := true, laidKinds := [.data, .data, .data, .data, .pinned], laidTests := true, laidLooks := .later }
def PassEchoesUptoCardSaid : Prop := Claim7.holds Tryz.pinned (.plain (OpenSpec.upto passEchoesSpec)) passEchoesUptoCard
end Rows
end Go.Proofs.YtjclnmkdkbmjlaaGreatDoor
