/-
  Calls that are known by a run each over a small memory, whatever the numbers are that it does not tell.
  Conditions: none.
-/
import Derived.Test.YtfipecdimnjckaaGreatLvY01
open Go Go.Ab
namespace Go.Proofs.YtfipecdimnjckaaGreat
theorem ok0 : e0.ok Tryz.prog (knWith kb 0 []) 0 1000 60 = true := by decide +kernel
theorem ok1 : e1.ok Tryz.prog (knWith kb 0 [e0]) 0 1000 60 = true := by decide +kernel
theorem ok2 : e2.ok Tryz.prog (knWith kb 0 []) 0 1000 60 = true := by decide +kernel
theorem ok3 : e3.ok Tryz.prog (knWith kb 0 [e2, e1, eOpen]) 0 1000 60 = true := by decide +kernel
theorem ok4 : e4.ok Tryz.prog (knWith kb 0 []) 0 1000 60 = true := by decide +kernel
theorem ok5 : e5.ok Tryz.prog (knWith kb 0 []) 0 1000 60 = true := by decide +kernel
theorem ok6 : e6.ok Tryz.prog (knWith kb 0 [e5]) 0 1000 60 = true := by decide +kernel
theorem ok7 : e7.ok Tryz.prog (knWith kb 0 [e2]) 0 1000 60 = true := by decide +kernel
theorem ok8 : e8.ok Tryz.prog (knWith kb 0 [e7, e2, e6]) 0 1000 60 = true := by decide +kernel
theorem ok9 : e9.ok Tryz.prog (knWith kb 0 [e8, e2]) 0 1000 60 = true := by decide +kernel
theorem ok10 : e10.ok Tryz.prog (knWith kb 0 [e9]) 0 1000 60 = true := by decide +kernel
theorem ok11 : e11.ok Tryz.prog (knWith kb 0 [e10, e4, e2]) 0 1000 60 = true := by decide +kernel
theorem ok2000000 : e2000000.ok Tryz.prog (knWith kb 0 [e11, e3]) 0 1000 60 = true := by decide +kernel
theorem ok13 : e13.ok Tryz.prog (knWith kb 0 []) 0 1000 60 = true := by decide +kernel
theorem ok14 : e14.ok Tryz.prog (knWith kb 0 [e13, e1, eOpen]) 0 1000 60 = true := by decide +kernel
theorem ok15 : e15.ok Tryz.prog (knWith kb 0 []) 0 1000 60 = true := by decide +kernel
theorem ok16 : e16.ok Tryz.prog (knWith kb 0 [e13]) 0 1000 60 = true := by decide +kernel
theorem ok17 : e17.ok Tryz.prog (knWith kb 0 [e16, e13, e6]) 0 1000 60 = true := by decide +kernel
theorem ok18 : e18.ok Tryz.prog (knWith kb 0 [e17, e13]) 0 1000 60 = true := by decide +kernel
theorem ok19 : e19.ok Tryz.prog (knWith kb 0 [e18]) 0 1000 60 = true := by decide +kernel
theorem ok20 : e20.ok Tryz.prog (knWith kb 0 [e13]) 0 1000 60 = true := by decide +kernel
theorem ok21 : e21.ok Tryz.prog (knWith kb 0 []) 0 1000 60 = true := by decide +kernel
theorem ok22 : e22.ok Tryz.prog (knWith kb 0 [e21]) 0 1000 60 = true := by decide +kernel
theorem ok23 : e23.ok Tryz.prog (knWith kb 0 [e22]) 0 1000 60 = true := by decide +kernel
theorem ok24 : e24.ok Tryz.prog (knWith kb 0 [e23, e13]) 0 1000 60 = true := by decide +kernel
theorem ok25 : e25.ok Tryz.prog (knWith kb 0 [e13]) 0 1000 60 = true := by decide +kernel
theorem ok26 : e26.ok Tryz.prog (knWith kb 0 [e13]) 0 1000 60 = true := by decide +kernel
theorem ok27 : e27.ok Tryz.prog (knWith kb 0 []) 0 1000 60 = true := by decide +kernel
theorem ok28 : e28.ok Tryz.prog (knWith kb 0 [e13]) 0 1000 60 = true := by decide +kernel
theorem ok29 : e29.ok Tryz.prog (knWith kb 0 [e28, e13, e6]) 0 1000 60 = true := by decide +kernel
theorem ok30 : e30.ok Tryz.prog (knWith kb 0 [e29, e13]) 0 1000 60 = true := by decide +kernel
theorem ok31 : e31.ok Tryz.prog (knWith kb 0 [e30]) 0 1000 60 = true := by decide +kernel
theorem ok32 : e32.ok Tryz.prog (knWith kb 0 [e23, e13]) 0 1000 60 = true := by decide +kernel
theorem ok33 : e33.ok Tryz.prog (knWith kb 0 [e13]) 0 1000 60 = true := by decide +kernel
theorem ok34 : e34.ok Tryz.prog (knWith kb 0 []) 0 1000 60 = true := by decide +kernel
theorem ok35 : e35.ok Tryz.prog (knWith kb 0 [e13]) 0 1000 60 = true := by decide +kernel
theorem ok36 : e36.ok Tryz.prog (knWith kb 0 [e35, e13, e6]) 0 1000 60 = true := by decide +kernel
theorem ok37 : e37.ok Tryz.prog (knWith kb 0 [e36, e13]) 0 1000 60 = true := by decide +kernel
theorem ok38 : e38.ok Tryz.prog (knWith kb 0 [e37]) 0 1000 60 = true := by decide +kernel
end Go.Proofs.YtfipecdimnjckaaGreat
