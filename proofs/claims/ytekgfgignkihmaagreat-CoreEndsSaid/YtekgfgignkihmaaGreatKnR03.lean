/-
  The law's certificates, by classes of its arguments: they are good.
  Conditions: none.
-/
import Derived.Test.YtekgfgignkihmaaGreatKnY01
open Go Go.Ab
namespace Go.Proofs.YtekgfgignkihmaaGreat
theorem l7_0_0 : chkL Tryz.prog (knWith kb 0 [e44, e65, e74]) 1000 60 5 3 [] T7_0 k7_0_0 t7_0_0 = true := by decide +kernel
theorem l8_0_0 : chkL Tryz.prog (knWith kb 0 [e25, e36, e64, e65, e69]) 1000 60 5 3 [] T8_0 k8_0_0 t8_0_0 = true := by decide +kernel
theorem l8_0_1 : chkL Tryz.prog (knWith kb 0 [e25, e36, e64, e65, e69]) 1000 60 5 3 [] T8_0 k8_0_1 t8_0_1 = true := by decide +kernel
theorem l9_0_0 : chkL Tryz.prog (knWith kb 0 [e25, e36, e79, e80, e84]) 1000 60 5 3 [] T9_0 k9_0_0 t9_0_0 = true := by decide +kernel
end Go.Proofs.YtekgfgignkihmaaGreat
