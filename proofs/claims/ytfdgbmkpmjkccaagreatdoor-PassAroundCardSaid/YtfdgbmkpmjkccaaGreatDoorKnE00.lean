/-
  Calls that are known by a run each over a small memory, whatever the numbers are that it does not tell.
  Conditions: none.
-/
import Derived.Test.YtfdgbmkpmjkccaaGreatDoorKnY01
open Go Go.Ab
namespace Go.Proofs.YtfdgbmkpmjkccaaGreatDoor
theorem j0:Ok e0 [eEmpty,eScan]:=by decide +kernel
end Go.Proofs.YtfdgbmkpmjkccaaGreatDoor
