/-
  The law's runs, by classes of its arguments.
  Conditions: none.
-/
import Derived.Test.YtfipecdimnjckaaGreatKnW
open Go Go.Ab
namespace Go.Proofs.YtfipecdimnjckaaGreat
theorem ran0 : yieldsTrueA Tryz.prog (knOf 0 [e12, e1, e11, e2000000]) 1000 60 3 a0 tb0 = true := by decide +kernel
theorem ran1 : yieldsTrueA Tryz.prog (knOf 0 [e12, e1, e13, e2000000]) 1000 60 3 a1 tb1 = true := by decide +kernel
theorem ran2 : yieldsTrueA Tryz.prog (knOf 0 [e12, e1, e14, e2000000]) 1000 60 3 a2 tb2 = true := by decide +kernel
theorem ran3 : yieldsTrueA Tryz.prog (knOf 0 [e12, e1, e15, e2000000]) 1000 60 3 a3 tb3 = true := by decide +kernel
theorem ran4 : yieldsTrueA Tryz.prog (knOf 0 [e12, e1, e16, e2000000]) 1000 60 3 a4 tb4 = true := by decide +kernel
theorem ran5 : yieldsTrueA Tryz.prog (knOf 0 [e12, e1, e16, e2000000]) 1000 60 3 a5 tb5 = true := by decide +kernel
theorem ran6 : yieldsTrueA Tryz.prog (knOf 0 [e12, e1, e17, e2000000]) 1000 60 3 a6 tb6 = true := by decide +kernel
theorem ran7 : yieldsTrueA Tryz.prog (knOf 0 [e12, e1, e17, e2000000]) 1000 60 3 a7 tb7 = true := by decide +kernel
theorem ran8 : yieldsTrueA Tryz.prog (knOf 0 [e12, e1, e18, e2000000]) 1000 60 3 a8 tb8 = true := by decide +kernel
theorem ran9 : yieldsTrueA Tryz.prog (knOf 0 [e12, e1, e18, e2000000]) 1000 60 3 a9 tb9 = true := by decide +kernel
theorem ran10 : yieldsTrueA Tryz.prog (knOf 0 [e12, e1, e19, e2000000]) 1000 60 3 a10 tb10 = true := by decide +kernel
theorem ran11 : yieldsTrueA Tryz.prog (knOf 0 [e12, e1, e19, e2000000]) 1000 60 3 a11 tb11 = true := by decide +kernel
theorem ran12 : yieldsTrueA Tryz.prog (knOf 0 [e20, e12, e21, e2000000]) 1000 60 3 a12 tb12 = true := by decide +kernel
theorem ran13 : yieldsTrueA Tryz.prog (knOf 0 [e20, e12, e21, e2000000]) 1000 60 3 a13 tb13 = true := by decide +kernel
theorem ran14 : yieldsTrueA Tryz.prog (knOf 0 [e22, e12, e23, e2000000]) 1000 60 3 a14 tb14 = true := by decide +kernel
theorem ran15 : yieldsTrueA Tryz.prog (knOf 0 [e22, e12, e23, e2000000]) 1000 60 3 a15 tb15 = true := by decide +kernel
end Go.Proofs.YtfipecdimnjckaaGreat
