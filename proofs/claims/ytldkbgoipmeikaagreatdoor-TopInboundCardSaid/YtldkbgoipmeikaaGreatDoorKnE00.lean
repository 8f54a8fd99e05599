/-
  Calls that are known by a run each over a small memory, whatever the numbers are that it does not tell.
  Conditions: none.
-/
import Derived.Test.YtldkbgoipmeikaaGreatDoorKnY00
open Go Go.Ab
namespace Go.Proofs.YtldkbgoipmeikaaGreatDoor
theorem ok0 : e0.ok Tryz.prog (knWith kb 6 []) 6 1000 60 = true := by decide +kernel
theorem ok1 : e1.ok Tryz.prog (knWith kb 6 []) 6 1000 60 = true := by decide +kernel
theorem ok2 : e2.ok Tryz.prog (knWith kb 6 []) 6 1000 60 = true := by decide +kernel
theorem ok3 : e3.ok Tryz.prog (knWith kb 6 [eEmpty, eScan]) 6 1000 60 = true := by decide +kernel
theorem ok4 : e4.ok Tryz.prog (knWith kb 6 []) 6 1000 60 = true := by decide +kernel
theorem ok5 : e5.ok Tryz.prog (knWith kb 6 [e3, e4]) 6 1000 60 = true := by decide +kernel
theorem ok6 : e6.ok Tryz.prog (knWith kb 6 []) 6 1000 60 = true := by decide +kernel
theorem ok7 : e7.ok Tryz.prog (knWith kb 6 []) 6 1000 60 = true := by decide +kernel
theorem ok8 : e8.ok Tryz.prog (knWith kb 6 []) 6 1000 60 = true := by decide +kernel
theorem ok9 : e9.ok Tryz.prog (knWith kb 6 [e8]) 6 1000 60 = true := by decide +kernel
theorem ok10 : e10.ok Tryz.prog (knWith kb 6 [e2]) 6 1000 60 = true := by decide +kernel
theorem ok11 : e11.ok Tryz.prog (knWith kb 6 [e2, e9, e10]) 6 1000 60 = true := by decide +kernel
theorem ok12 : e12.ok Tryz.prog (knWith kb 6 [e2, e11]) 6 1000 60 = true := by decide +kernel
theorem ok13 : e13.ok Tryz.prog (knWith kb 6 [e2]) 6 1000 60 = true := by decide +kernel
theorem ok14 : e14.ok Tryz.prog (knWith kb 6 []) 6 1000 60 = true := by decide +kernel
theorem ok15 : e15.ok Tryz.prog (knWith kb 6 []) 6 1000 60 = true := by decide +kernel
theorem ok16 : e16.ok Tryz.prog (knWith kb 6 [e6, e7, e14, e15]) 6 1000 60 = true := by decide +kernel
theorem ok17 : e17.ok Tryz.prog (knWith kb 6 []) 6 1000 60 = true := by decide +kernel
theorem ok18 : e18.ok Tryz.prog (knWith kb 6 []) 6 1000 60 = true := by decide +kernel
theorem ok19 : e19.ok Tryz.prog (knWith kb 6 []) 6 1000 60 = true := by decide +kernel
theorem ok20 : e20.ok Tryz.prog (knWith kb 6 [e12, e13, e16, e17, e18, e19]) 6 1000 60 = true := by decide +kernel
theorem ok21 : e21.ok Tryz.prog (knWith kb 6 [e2, e6, e7, e20]) 6 1000 60 = true := by decide +kernel
theorem ok22 : e22.ok Tryz.prog (knWith kb 6 [e2, e6, e7, e21]) 6 1000 60 = true := by decide +kernel
theorem ok23 : e23.ok Tryz.prog (knWith kb 6 []) 6 1000 60 = true := by decide +kernel
theorem ok24 : e24.ok Tryz.prog (knWith kb 6 [e6, e7, e18, e23]) 6 1000 60 = true := by decide +kernel
theorem ok25 : e25.ok Tryz.prog (knWith kb 6 [e2, e5, e22, e24]) 6 1000 60 = true := by decide +kernel
theorem ok26 : e26.ok Tryz.prog (knWith kb 6 [e4, e8, eScan]) 6 1000 60 = true := by decide +kernel
theorem ok2000000 : e2000000.ok Tryz.prog (knWith kb 6 [e0, e1, e2, e25, e26]) 6 1000 60 = true := by decide +kernel
theorem ok28 : e28.ok Tryz.prog (knWith kb 6 []) 6 1000 60 = true := by decide +kernel
theorem ok29 : e29.ok Tryz.prog (knWith kb 6 [e4, eOpen]) 6 1000 60 = true := by decide +kernel
theorem ok30 : e30.ok Tryz.prog (knWith kb 6 []) 6 1000 60 = true := by decide +kernel
theorem ok31 : e31.ok Tryz.prog (knWith kb 6 []) 6 1000 60 = true := by decide +kernel
theorem ok32 : e32.ok Tryz.prog (knWith kb 6 []) 6 1000 60 = true := by decide +kernel
theorem ok33 : e33.ok Tryz.prog (knWith kb 6 []) 6 1000 60 = true := by decide +kernel
theorem ok34 : e34.ok Tryz.prog (knWith kb 6 []) 6 1000 60 = true := by decide +kernel
end Go.Proofs.YtldkbgoipmeikaaGreatDoor
