/-
  Calls that are known by a run each over a small memory.
  Conditions: none.
-/
import Derived.Test.YtjeliljninkgeaaGreatDoorKnE02
open Go Go.Ab
namespace Go.Proofs.YtjeliljninkgeaaGreatDoor
noncomputable section
/-- A call that costs 1306 operations. -/
def e2000000 : Ent := { f := 4, args := [], nx := 6, objs := [], ways := [], ret := (.bool true), news := [], outs := [] }
theorem ok2000000 : e2000000.ok Tryz.prog (knWith kb 6 [e16, e15, e0]) 6 1000 60 = true := by decide +kernel
theorem gd2000000 : AllGoodW Tryz.prog kb [e2000000] := .one (gd16.app (gd15.app (gd0.app .nil))) (fuel := 1000) (n := 60) (by rw [g0]; exact ok2000000)
end
end Go.Proofs.YtjeliljninkgeaaGreatDoor
