/-
  The law's runs, by classes of its arguments.
  Conditions: none.
-/
import Derived.Test.YtfipecdimnjckaaGreatKnW
open Go Go.Ab
namespace Go.Proofs.YtfipecdimnjckaaGreat
theorem ran16 : yieldsTrueA Tryz.prog (knOf 0 [e24, e12, e25, e2000000]) 1000 60 3 a16 tb16 = true := by decide +kernel
theorem ran17 : yieldsTrueA Tryz.prog (knOf 0 [e24, e12, e25, e2000000]) 1000 60 3 a17 tb17 = true := by decide +kernel
theorem ran18 : yieldsTrueA Tryz.prog (knOf 0 [e26, e12, e27, e2000000]) 1000 60 3 a18 tb18 = true := by decide +kernel
theorem ran19 : yieldsTrueA Tryz.prog (knOf 0 [e26, e12, e27, e2000000]) 1000 60 3 a19 tb19 = true := by decide +kernel
theorem ran20 : yieldsTrueA Tryz.prog (knOf 0 [e12, e1, e28, e2000000]) 1000 60 3 a20 tb20 = true := by decide +kernel
theorem ran21 : yieldsTrueA Tryz.prog (knOf 0 [e35, e1, e28, e2000000]) 1000 60 3 a20 tb21 = true := by decide +kernel
theorem ran22 : yieldsTrueA Tryz.prog (knOf 0 [e12, e1, e36, e2000000]) 1000 60 3 a21 tb22 = true := by decide +kernel
theorem ran23 : yieldsTrueA Tryz.prog (knOf 0 [e41, e1, e36, e2000000]) 1000 60 3 a21 tb23 = true := by decide +kernel
theorem ran24 : yieldsTrueA Tryz.prog (knOf 0 [e12, e1, e42, e2000000]) 1000 60 3 a22 tb24 = true := by decide +kernel
theorem ran25 : yieldsTrueA Tryz.prog (knOf 0 [e47, e1, e42, e2000000]) 1000 60 3 a22 tb25 = true := by decide +kernel
theorem ran26 : yieldsTrueA Tryz.prog (knOf 0 [e12, e1, e48, e2000000]) 1000 60 3 a23 tb26 = true := by decide +kernel
theorem ran27 : yieldsTrueA Tryz.prog (knOf 0 [e53, e1, e48, e2000000]) 1000 60 3 a23 tb27 = true := by decide +kernel
theorem ran28 : yieldsTrueA Tryz.prog (knOf 0 [e12, e1, e54, e2000000]) 1000 60 3 a24 tb28 = true := by decide +kernel
theorem ran29 : yieldsTrueA Tryz.prog (knOf 0 [e59, e1, e54, e2000000]) 1000 60 3 a24 tb29 = true := by decide +kernel
theorem ran30 : yieldsTrueA Tryz.prog (knOf 0 [e12, e1, e54, e2000000]) 1000 60 3 a25 tb30 = true := by decide +kernel
end Go.Proofs.YtfipecdimnjckaaGreat
