/-
  The law's certificates, by classes of its arguments: they are good.
  Conditions: none.
-/
import Derived.Test.YtekgfgignkihmaaGreatKnY01
open Go Go.Ab
namespace Go.Proofs.YtekgfgignkihmaaGreat
theorem l31_0_0 : chkL Tryz.prog (knWith kb 0 [e188, e209, e218]) 1000 60 5 3 [] T31_0 k31_0_0 t31_0_0 = true := by decide +kernel
theorem l32_0_0 : chkL Tryz.prog (knWith kb 0 [e171, e180, e208, e209, e213]) 1000 60 5 3 [] T32_0 k32_0_0 t32_0_0 = true := by decide +kernel
theorem l32_0_1 : chkL Tryz.prog (knWith kb 0 [e171, e180, e208, e209, e213]) 1000 60 5 3 [] T32_0 k32_0_1 t32_0_1 = true := by decide +kernel
end Go.Proofs.YtekgfgignkihmaaGreat
