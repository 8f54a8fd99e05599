/-
  Calls that are known by a run each over a small memory.
  Conditions: none.
-/
import Derived.Test.YtebjoemmpbbcnaaGreatDoorKnE03
open Go Go.Ab
namespace Go.Proofs.YtebjoemmpbbcnaaGreatDoor
noncomputable section
/-- A call that costs 1171 operations. -/
def e2000000 : Ent := { f := 4, args := [], nx := 6, objs := [], ways := [], ret := (.bool true), news := [], outs := [] }
theorem ok2000000 : e2000000.ok Tryz.prog (knOf 6 [e1204, e261, e233, e64, e28, eOpen]) 6 1000 60 = true := by decide +kernel
theorem gd2000000 : AllGood Tryz.prog [e2000000] := .one (gd1204.app (gd261.app (gd233.app (gd64.app (gd28.app (gdOpen.app .nil)))))) (fuel := 1000) (n := 60) (by rw [g0]; exact ok2000000)
end
end Go.Proofs.YtebjoemmpbbcnaaGreatDoor
