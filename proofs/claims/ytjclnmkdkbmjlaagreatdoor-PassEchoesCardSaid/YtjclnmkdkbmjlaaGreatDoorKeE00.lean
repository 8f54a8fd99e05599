/-
  Calls that are known by a run each over a small memory, whatever the numbers are that it does not tell.
  Conditions: none.
-/
import Derived.Test.YtjclnmkdkbmjlaaGreatDoorKeY00
open Go Go.Ab
namespace Go.Proofs.YtjclnmkdkbmjlaaGreatDoor
theorem ok0 : e0.ok Tryz.prog (knWith kb 6 []) 6 1000 60 = true := by decide +kernel
theorem ok1 : e1.ok Tryz.prog (knWith kb 6 []) 6 1000 60 = true := by decide +kernel
theorem ok2 : e2.ok Tryz.prog (knWith kb 6 []) 6 1000 60 = true := by decide +kernel
theorem ok3 : e3.ok Tryz.prog (knWith kb 6 [e1, e2, e0, eOpen]) 6 1000 60 = true := by decide +kernel
theorem ok4 : e4.ok Tryz.prog (knWith kb 6 []) 6 1000 60 = true := by decide +kernel
theorem ok5 : e5.ok Tryz.prog (knWith kb 6 []) 6 1000 60 = true := by decide +kernel
theorem ok6 : e6.ok Tryz.prog (knWith kb 6 []) 6 1000 60 = true := by decide +kernel
theorem ok7 : e7.ok Tryz.prog (knWith kb 6 []) 6 1000 60 = true := by decide +kernel
theorem ok8 : e8.ok Tryz.prog (knWith kb 6 []) 6 1000 60 = true := by decide +kernel
theorem ok9 : e9.ok Tryz.prog (knWith kb 6 [e8]) 6 1000 60 = true := by decide +kernel
theorem ok10 : e10.ok Tryz.prog (knWith kb 6 [e2]) 6 1000 60 = true := by decide +kernel
theorem ok11 : e11.ok Tryz.prog (knWith kb 6 [e10, e2, e9]) 6 1000 60 = true := by decide +kernel
theorem ok12 : e12.ok Tryz.prog (knWith kb 6 [e11, e2]) 6 1000 60 = true := by decide +kernel
theorem ok13 : e13.ok Tryz.prog (knWith kb 6 [e2, e12]) 6 1000 60 = true := by decide +kernel
theorem ok14 : e14.ok Tryz.prog (knWith kb 6 []) 6 1000 60 = true := by decide +kernel
theorem ok15 : e15.ok Tryz.prog (knWith kb 6 [e14]) 6 1000 60 = true := by decide +kernel
theorem ok16 : e16.ok Tryz.prog (knWith kb 6 []) 6 1000 60 = true := by decide +kernel
theorem ok17 : e17.ok Tryz.prog (knWith kb 6 []) 6 1000 60 = true := by decide +kernel
theorem ok18 : e18.ok Tryz.prog (knWith kb 6 [e17, e16]) 6 1000 60 = true := by decide +kernel
theorem ok19 : e19.ok Tryz.prog (knWith kb 6 [e13, e15, e18, e2, e6, e7]) 6 1000 60 = true := by decide +kernel
theorem ok20 : e20.ok Tryz.prog (knWith kb 6 []) 6 1000 60 = true := by decide +kernel
theorem ok2000000 : e2000000.ok Tryz.prog (knWith kb 6 [e20, e17, e19, e5, e4, e3, e1]) 6 1000 60 = true := by decide +kernel
theorem ok22 : e22.ok Tryz.prog (knWith kb 6 []) 6 1000 60 = true := by decide +kernel
theorem ok23 : e23.ok Tryz.prog (knWith kb 6 [e22, e0, eOpen]) 6 1000 60 = true := by decide +kernel
theorem ok24 : e24.ok Tryz.prog (knWith kb 6 []) 6 1000 60 = true := by decide +kernel
theorem ok25 : e25.ok Tryz.prog (knWith kb 6 []) 6 1000 60 = true := by decide +kernel
end Go.Proofs.YtjclnmkdkbmjlaaGreatDoor
