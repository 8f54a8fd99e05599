/-
  The closed law, run over what is known.
  Conditions: none.
-/
import Derived.Test.YtebjoemmpbbcnaaGreatDoorKnE04
open Go Go.Ab Go.ChangeShapes Go.WideShapes Go.ChangeAt Go.RowKit
namespace Go.Proofs.YtebjoemmpbbcnaaGreatDoor
theorem ran : yieldsTrue Tryz.prog (knOf 6 [e4569, e4453, e4365, e4335, e4017, e3908, e3818, e3788, e261, e233, e64, e28, eOpen, e2000000]) 1000 60 3 = true := by decide +kernel
theorem walk0 (w : World) (hG : Tryz.prog.globals.size ≤ w.heap.size) : Calls Tryz.prog 3 #[] w fun e w' => e = .returned (.bool true) ∧ Below w.heap.size w w' :=
  below_of_calls (knOf_sim (gd4569.app (gd4453.app (gd4365.app (gd4335.app (gd4017.app (gd3908.app (gd3818.app (gd3788.app (gd261.app (gd233.app (gd64.app (gd28.app (gdOpen.app (gd2000000.app .nil))))))))))))))) (by rw [g0]; decide) (by rw [g0]; exact ran) hG
end Go.Proofs.YtebjoemmpbbcnaaGreatDoor
