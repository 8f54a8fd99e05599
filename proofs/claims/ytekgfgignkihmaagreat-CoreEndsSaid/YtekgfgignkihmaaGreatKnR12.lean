/-
  The law's certificates, by classes of its arguments: they are good.
  Conditions: none.
-/
import Derived.Test.YtekgfgignkihmaaGreatKnY01
open Go Go.Ab
namespace Go.Proofs.YtekgfgignkihmaaGreat
theorem l26_0_0 : chkL Tryz.prog (knWith kb 0 [e170, e171, e172, e179, e180]) 1000 60 5 3 [] T26_0 k26_0_0 t26_0_0 = true := by decide +kernel
theorem l26_0_1 : chkL Tryz.prog (knWith kb 0 [e170, e171, e172, e179, e180]) 1000 60 5 3 [] T26_0 k26_0_1 t26_0_1 = true := by decide +kernel
theorem l27_0_0 : chkL Tryz.prog (knWith kb 0 [e171, e180, e193, e194, e198]) 1000 60 5 3 [] T27_0 k27_0_0 t27_0_0 = true := by decide +kernel
end Go.Proofs.YtekgfgignkihmaaGreat
