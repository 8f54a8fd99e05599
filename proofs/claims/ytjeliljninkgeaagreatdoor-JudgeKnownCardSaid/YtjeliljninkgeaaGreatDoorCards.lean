/-
  DERIVED. GIVEN WITH THE SEED: THE CARDS: each row of YtjeliljninkgeaaGreatDoorRows.lean that lists a variable, with what it lists TIED to the program's text (the seventh form; the later family's looks); each row that meets fmt, with fmt's text TOLD by the authors' own Lean function (tested against real Go, not proved from fmt's source: count such statements apart). THE CARD IS WHAT COUNTS. Prove the row's statement (the work); the ties are given (YtjeliljninkgeaaGreatDoorTie.lean); close each card by the builder's one call (the guide's Derived/Test/ToyasCard.lean, 'card_holds'). Laid BY PROGRAM, IN A SANDBOX (cutbox-door.mjs). By AI agents, Wed Nov 11 2026. No macro, syntax, notation, axiom, sorry.
-/
import Derived.Test.YtjeliljninkgeaaGreatDoorRows
import GoSem.ClaimSeven
namespace Go.Proofs.YtjeliljninkgeaaGreatDoor
namespace Rows

/-- THE TIED CARD OF 'bailiwicklaw30.JudgeKnown'. -/
def judgeKnownCard : Claim7 := { stood := { row := judgeKnownRow, standIns := [], harness := (true, "33c5e310531745bbb860cb13a29501af5dae0c717b41fa86dfec692e0e258de0"), looks := true }, kinds := [], alts := [], laidByText := true, laidKinds := [.data, .data, .data, .data, .pinned], laidTests := true, laidLooks := .later }
def JudgeKnownCardSaid : Prop := Claim7.holds Tryz.pinned (.plain (OpenSpec.ofChange judgeKnownSpec)) judgeKnownCard

/-- THE SECOND FORM's CARD OF 'bailiwicklaw30.JudgeKnown'. -/
def judgeKnownUptoCard : Claim7 := { stood := { row := judgeKnownUptoRow, standIns := [], harness := (true, "33c5e310531745bbb860cb13a29501af5dae0c717b41fa86dfec692e0e258de0"), looks := true }, kinds := [], alts := [], laidByText := true, laidKinds := [.data, .data, .data, .data, .pinned], laidTests := true, laidLooks := .later }
def JudgeKnownUptoCardSaid : Prop := Claim7.holds Tryz.pinned (.plain (OpenSpec.upto judgeKnownSpec)) judgeKnownUptoCard
end Rows
end Go.Proofs.YtjeliljninkgeaaGreatDoor
