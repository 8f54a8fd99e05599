/-
  The closed law, run over what is known.
  Conditions: none.
-/
import Derived.Test.YtcoaeoombljdoaaGreatDoorKnE02
open Go Go.Ab Go.ChangeShapes Go.WideShapes Go.ChangeAt Go.RowKit
namespace Go.Proofs.YtcoaeoombljdoaaGreatDoor
theorem ran : yieldsTrue Tryz.prog (knOf 6 [e17, e5, e4, e16, e3, e2000000]) 1000 60 3 = true := by decide +kernel
theorem walk0 (w : World) (hG : Tryz.prog.globals.size ≤ w.heap.size) : Calls Tryz.prog 3 #[] w fun e w' => e = .returned (.bool true) ∧ Below w.heap.size w w' :=
  below_of_calls (knOf_sim (gd17.app (gd5.app (gd4.app (gd16.app (gd3.app (gd2000000.app .nil))))))) (by rw [g0]; decide) (by rw [g0]; exact ran) hG
end Go.Proofs.YtcoaeoombljdoaaGreatDoor
