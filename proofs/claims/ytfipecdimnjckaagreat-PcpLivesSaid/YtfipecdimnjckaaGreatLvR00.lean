/-
  The law's runs, by classes of its arguments.
  Conditions: none.
-/
import Derived.Test.YtfipecdimnjckaaGreatLvW
open Go Go.Ab
namespace Go.Proofs.YtfipecdimnjckaaGreat
theorem ran0 : yieldsTrueA Tryz.prog (knWith kb 0 [e24, e20, e13, e15, e19, e14, e2000000]) 1000 60 4 a0 tb0 = true := by decide +kernel
theorem ran1 : yieldsTrueA Tryz.prog (knWith kb 0 [e24, e25, e13, e15, e19, e14, e2000000]) 1000 60 4 a0 tb1 = true := by decide +kernel
theorem ran2 : yieldsTrueA Tryz.prog (knWith kb 0 [e24, e26, e13, e15, e19, e14, e2000000]) 1000 60 4 a1 tb2 = true := by decide +kernel
theorem ran3 : yieldsTrueA Tryz.prog (knWith kb 0 [e24, e25, e13, e15, e19, e14, e2000000]) 1000 60 4 a1 tb3 = true := by decide +kernel
theorem ran4 : yieldsTrueA Tryz.prog (knWith kb 0 [e32, e13, e27, e31, e14, e2000000]) 1000 60 4 a2 tb4 = true := by decide +kernel
theorem ran5 : yieldsTrueA Tryz.prog (knWith kb 0 [e32, e33, e13, e27, e31, e14, e2000000]) 1000 60 4 a2 tb5 = true := by decide +kernel
theorem ran6 : yieldsTrueA Tryz.prog (knWith kb 0 [e40, e39, e13, e34, e38, e14, e2000000]) 1000 60 4 a3 tb6 = true := by decide +kernel
theorem ran7 : yieldsTrueA Tryz.prog (knWith kb 0 [e40, e41, e13, e34, e38, e14, e2000000]) 1000 60 4 a3 tb7 = true := by decide +kernel
theorem ran8 : yieldsTrueA Tryz.prog (knWith kb 0 [e50, e48, e42, e15, e47, e43, e2000000]) 1000 60 4 a4 tb8 = true := by decide +kernel
theorem ran9 : yieldsTrueA Tryz.prog (knWith kb 0 [e50, e51, e42, e15, e47, e43, e2000000]) 1000 60 4 a4 tb9 = true := by decide +kernel
theorem ran10 : yieldsTrueA Tryz.prog (knWith kb 0 [e50, e52, e42, e15, e47, e43, e2000000]) 1000 60 4 a5 tb10 = true := by decide +kernel
theorem ran11 : yieldsTrueA Tryz.prog (knWith kb 0 [e50, e51, e42, e15, e47, e43, e2000000]) 1000 60 4 a5 tb11 = true := by decide +kernel
theorem ran12 : yieldsTrueA Tryz.prog (knWith kb 0 [e57, e42, e27, e56, e43, e2000000]) 1000 60 4 a6 tb12 = true := by decide +kernel
theorem ran13 : yieldsTrueA Tryz.prog (knWith kb 0 [e57, e58, e42, e27, e56, e43, e2000000]) 1000 60 4 a6 tb13 = true := by decide +kernel
theorem ran14 : yieldsTrueA Tryz.prog (knWith kb 0 [e64, e63, e42, e34, e62, e43, e2000000]) 1000 60 4 a7 tb14 = true := by decide +kernel
theorem ran15 : yieldsTrueA Tryz.prog (knWith kb 0 [e64, e65, e42, e34, e62, e43, e2000000]) 1000 60 4 a7 tb15 = true := by decide +kernel
theorem ran16 : yieldsTrueA Tryz.prog (knWith kb 0 [e74, e72, e66, e15, e71, e67, e2000000]) 1000 60 4 a8 tb16 = true := by decide +kernel
theorem ran17 : yieldsTrueA Tryz.prog (knWith kb 0 [e74, e75, e66, e15, e71, e67, e2000000]) 1000 60 4 a8 tb17 = true := by decide +kernel
theorem ran18 : yieldsTrueA Tryz.prog (knWith kb 0 [e74, e76, e66, e15, e71, e67, e2000000]) 1000 60 4 a9 tb18 = true := by decide +kernel
theorem ran19 : yieldsTrueA Tryz.prog (knWith kb 0 [e74, e75, e66, e15, e71, e67, e2000000]) 1000 60 4 a9 tb19 = true := by decide +kernel
theorem ran20 : yieldsTrueA Tryz.prog (knWith kb 0 [e81, e66, e27, e80, e67, e2000000]) 1000 60 4 a10 tb20 = true := by decide +kernel
theorem ran21 : yieldsTrueA Tryz.prog (knWith kb 0 [e81, e82, e66, e27, e80, e67, e2000000]) 1000 60 4 a10 tb21 = true := by decide +kernel
theorem ran22 : yieldsTrueA Tryz.prog (knWith kb 0 [e88, e87, e66, e34, e86, e67, e2000000]) 1000 60 4 a11 tb22 = true := by decide +kernel
end Go.Proofs.YtfipecdimnjckaaGreat
