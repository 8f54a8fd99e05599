/-
  The law's certificates, by classes of its arguments: they are good.
  Conditions: none.
-/
import Derived.Test.YtekgfgignkihmaaGreatKnY01
open Go Go.Ab
namespace Go.Proofs.YtekgfgignkihmaaGreat
theorem l2_0_1 : chkL Tryz.prog (knWith kb 0 [e24, e25, e28, e35, e36]) 1000 60 5 3 [] T2_0 k2_0_1 t2_0_1 = true := by decide +kernel
theorem l3_0_0 : chkL Tryz.prog (knWith kb 0 [e25, e36, e49, e50, e54]) 1000 60 5 3 [] T3_0 k3_0_0 t3_0_0 = true := by decide +kernel
theorem l3_0_1 : chkL Tryz.prog (knWith kb 0 [e25, e36, e49, e50, e54]) 1000 60 5 3 [] T3_0 k3_0_1 t3_0_1 = true := by decide +kernel
theorem l4_0_0 : chkL Tryz.prog (knWith kb 0 [e44, e50, e59]) 1000 60 5 3 [] T4_0 k4_0_0 t4_0_0 = true := by decide +kernel
end Go.Proofs.YtekgfgignkihmaaGreat
