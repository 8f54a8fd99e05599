/-
  The closed law, run over what is known.
  Conditions: none.
-/
import Derived.Test.YtjeliljninkgeaaGreatDoorKnE03
import Derived.Test.YtjeliljninkgeaaGreatDoorKnS
open Go Go.Ab Go.ChangeShapes Go.WideShapes Go.ChangeAt Go.RowKit
namespace Go.Proofs.YtjeliljninkgeaaGreatDoor
theorem ran : yieldsTrue Tryz.prog (knWith kb 6 [e15, e0, e2000000]) 1000 60 3 = true := by decide +kernel
theorem walk0 (w : World) (hG : Tryz.prog.globals.size ≤ w.heap.size) : Calls Tryz.prog 3 #[] w fun e w' => e = .returned (.bool true) ∧ Below w.heap.size w w' :=
  below_of_calls (knWith_sim kbSim (gd15.app (gd0.app (gd2000000.app .nil)))) (by rw [g0]; decide) (by rw [g0]; exact ran) hG
end Go.Proofs.YtjeliljninkgeaaGreatDoor
