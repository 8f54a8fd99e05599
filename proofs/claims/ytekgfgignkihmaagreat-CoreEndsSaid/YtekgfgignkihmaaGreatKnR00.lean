/-
  The law's certificates, by classes of its arguments: they are good.
  Conditions: none.
-/
import Derived.Test.YtekgfgignkihmaaGreatKnY01
open Go Go.Ab
namespace Go.Proofs.YtekgfgignkihmaaGreat
theorem l0_0_0 : chkL Tryz.prog (knWith kb 0 [e24, e25, e28, e35, e36]) 1000 60 5 3 [] T0_0 k0_0_0 t0_0_0 = true := by decide +kernel
theorem l0_0_1 : chkL Tryz.prog (knWith kb 0 [e24, e25, e28, e35, e36]) 1000 60 5 3 [] T0_0 k0_0_1 t0_0_1 = true := by decide +kernel
theorem l1_0_0 : chkL Tryz.prog (knWith kb 0 [e28, e43, e44]) 1000 60 5 3 [] T1_0 k1_0_0 t1_0_0 = true := by decide +kernel
theorem l2_0_0 : chkL Tryz.prog (knWith kb 0 [e24, e25, e28, e35, e36]) 1000 60 5 3 [] T2_0 k2_0_0 t2_0_0 = true := by decide +kernel
end Go.Proofs.YtekgfgignkihmaaGreat
