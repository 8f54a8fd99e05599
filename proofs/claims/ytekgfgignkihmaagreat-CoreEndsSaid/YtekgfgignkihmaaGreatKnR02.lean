/-
  The law's certificates, by classes of its arguments: they are good.
  Conditions: none.
-/
import Derived.Test.YtekgfgignkihmaaGreatKnY01
open Go Go.Ab
namespace Go.Proofs.YtekgfgignkihmaaGreat
theorem l5_0_0 : chkL Tryz.prog (knWith kb 0 [e25, e36, e49, e50, e54]) 1000 60 5 3 [] T5_0 k5_0_0 t5_0_0 = true := by decide +kernel
theorem l5_0_1 : chkL Tryz.prog (knWith kb 0 [e25, e36, e49, e50, e54]) 1000 60 5 3 [] T5_0 k5_0_1 t5_0_1 = true := by decide +kernel
theorem l6_0_0 : chkL Tryz.prog (knWith kb 0 [e25, e36, e64, e65, e69]) 1000 60 5 3 [] T6_0 k6_0_0 t6_0_0 = true := by decide +kernel
theorem l6_0_1 : chkL Tryz.prog (knWith kb 0 [e25, e36, e64, e65, e69]) 1000 60 5 3 [] T6_0 k6_0_1 t6_0_1 = true := by decide +kernel
end Go.Proofs.YtekgfgignkihmaaGreat
