/-
  Calls that are known by a run each over a small memory, whatever the numbers are that it does not tell.
  Conditions: none.
-/
import Derived.Test.YtfipecdimnjckaaGreatKnY00
open Go Go.Ab
namespace Go.Proofs.YtfipecdimnjckaaGreat
theorem ok0 : e0.ok Tryz.prog (knOf 0 []) 0 1000 60 = true := by decide +kernel
theorem ok1 : e1.ok Tryz.prog (knOf 0 [e0, eOpen]) 0 1000 60 = true := by decide +kernel
theorem ok2 : e2.ok Tryz.prog (knOf 0 []) 0 1000 60 = true := by decide +kernel
theorem ok3 : e3.ok Tryz.prog (knOf 0 []) 0 1000 60 = true := by decide +kernel
theorem ok4 : e4.ok Tryz.prog (knOf 0 []) 0 1000 60 = true := by decide +kernel
theorem ok5 : e5.ok Tryz.prog (knOf 0 [e4]) 0 1000 60 = true := by decide +kernel
theorem ok6 : e6.ok Tryz.prog (knOf 0 [e2]) 0 1000 60 = true := by decide +kernel
theorem ok7 : e7.ok Tryz.prog (knOf 0 [e6, e2, e5]) 0 1000 60 = true := by decide +kernel
theorem ok8 : e8.ok Tryz.prog (knOf 0 [e7, e2]) 0 1000 60 = true := by decide +kernel
theorem ok9 : e9.ok Tryz.prog (knOf 0 [e8]) 0 1000 60 = true := by decide +kernel
theorem ok2000000 : e2000000.ok Tryz.prog (knOf 0 [e3, e9, e1, e2]) 0 1000 60 = true := by decide +kernel
theorem ok11 : e11.ok Tryz.prog (knOf 0 []) 0 1000 60 = true := by decide +kernel
theorem ok12 : e12.ok Tryz.prog (knOf 0 []) 0 1000 60 = true := by decide +kernel
theorem ok13 : e13.ok Tryz.prog (knOf 0 []) 0 1000 60 = true := by decide +kernel
theorem ok14 : e14.ok Tryz.prog (knOf 0 []) 0 1000 60 = true := by decide +kernel
theorem ok15 : e15.ok Tryz.prog (knOf 0 []) 0 1000 60 = true := by decide +kernel
theorem ok16 : e16.ok Tryz.prog (knOf 0 []) 0 1000 60 = true := by decide +kernel
theorem ok17 : e17.ok Tryz.prog (knOf 0 []) 0 1000 60 = true := by decide +kernel
theorem ok18 : e18.ok Tryz.prog (knOf 0 []) 0 1000 60 = true := by decide +kernel
theorem ok19 : e19.ok Tryz.prog (knOf 0 []) 0 1000 60 = true := by decide +kernel
theorem ok20 : e20.ok Tryz.prog (knOf 0 []) 0 1000 60 = true := by decide +kernel
theorem ok21 : e21.ok Tryz.prog (knOf 0 [e20, e1]) 0 1000 60 = true := by decide +kernel
theorem ok22 : e22.ok Tryz.prog (knOf 0 []) 0 1000 60 = true := by decide +kernel
theorem ok23 : e23.ok Tryz.prog (knOf 0 [e22, e1]) 0 1000 60 = true := by decide +kernel
theorem ok24 : e24.ok Tryz.prog (knOf 0 []) 0 1000 60 = true := by decide +kernel
theorem ok25 : e25.ok Tryz.prog (knOf 0 [e24, e1]) 0 1000 60 = true := by decide +kernel
theorem ok26 : e26.ok Tryz.prog (knOf 0 []) 0 1000 60 = true := by decide +kernel
theorem ok27 : e27.ok Tryz.prog (knOf 0 [e26, e1]) 0 1000 60 = true := by decide +kernel
end Go.Proofs.YtfipecdimnjckaaGreat
