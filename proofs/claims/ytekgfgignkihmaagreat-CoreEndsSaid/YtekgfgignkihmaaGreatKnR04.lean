/-
  The law's certificates, by classes of its arguments: they are good.
  Conditions: none.
-/
import Derived.Test.YtekgfgignkihmaaGreatKnY01
open Go Go.Ab
namespace Go.Proofs.YtekgfgignkihmaaGreat
theorem l9_0_1 : chkL Tryz.prog (knWith kb 0 [e25, e36, e79, e80, e84]) 1000 60 5 3 [] T9_0 k9_0_1 t9_0_1 = true := by decide +kernel
theorem l10_0_0 : chkL Tryz.prog (knWith kb 0 [e44, e80, e89]) 1000 60 5 3 [] T10_0 k10_0_0 t10_0_0 = true := by decide +kernel
theorem l11_0_0 : chkL Tryz.prog (knWith kb 0 [e25, e36, e79, e80, e84]) 1000 60 5 3 [] T11_0 k11_0_0 t11_0_0 = true := by decide +kernel
theorem l11_0_1 : chkL Tryz.prog (knWith kb 0 [e25, e36, e79, e80, e84]) 1000 60 5 3 [] T11_0 k11_0_1 t11_0_1 = true := by decide +kernel
end Go.Proofs.YtekgfgignkihmaaGreat
