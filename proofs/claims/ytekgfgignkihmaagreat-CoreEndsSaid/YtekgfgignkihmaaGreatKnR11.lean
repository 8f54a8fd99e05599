/-
  The law's certificates, by classes of its arguments: they are good.
  Conditions: none.
-/
import Derived.Test.YtekgfgignkihmaaGreatKnY01
open Go Go.Ab
namespace Go.Proofs.YtekgfgignkihmaaGreat
theorem l24_0_0 : chkL Tryz.prog (knWith kb 0 [e170, e171, e172, e179, e180]) 1000 60 5 3 [] T24_0 k24_0_0 t24_0_0 = true := by decide +kernel
theorem l24_0_1 : chkL Tryz.prog (knWith kb 0 [e170, e171, e172, e179, e180]) 1000 60 5 3 [] T24_0 k24_0_1 t24_0_1 = true := by decide +kernel
theorem l25_0_0 : chkL Tryz.prog (knWith kb 0 [e172, e187, e188]) 1000 60 5 3 [] T25_0 k25_0_0 t25_0_0 = true := by decide +kernel
end Go.Proofs.YtekgfgignkihmaaGreat
