/-
  Calls that are known by a run each over a small memory, whatever the numbers are that it does not tell.
  Conditions: none.
-/
import Derived.Test.YtldkbgoipmeikaaGreatDoorKnY00
open Go Go.Ab
namespace Go.Proofs.YtldkbgoipmeikaaGreatDoor
theorem ok562 : e562.ok Tryz.prog (knWith kb 6 [e92]) 6 1000 60 = true := by decide +kernel
theorem ok563 : e563.ok Tryz.prog (knWith kb 6 [e403]) 6 1000 60 = true := by decide +kernel
theorem ok565 : e565.ok Tryz.prog (knWith kb 6 [e403]) 6 1000 60 = true := by decide +kernel
end Go.Proofs.YtldkbgoipmeikaaGreatDoor
