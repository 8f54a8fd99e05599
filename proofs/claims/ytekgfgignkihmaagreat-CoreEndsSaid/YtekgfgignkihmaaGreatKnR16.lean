/-
  The law's certificates, by classes of its arguments: they are good.
  Conditions: none.
-/
import Derived.Test.YtekgfgignkihmaaGreatKnY01
open Go Go.Ab
namespace Go.Proofs.YtekgfgignkihmaaGreat
theorem l33_0_0 : chkL Tryz.prog (knWith kb 0 [e171, e180, e224, e225, e226, e230]) 1000 60 5 3 [] T33_0 k33_0_0 t33_0_0 = true := by decide +kernel
theorem l33_0_1 : chkL Tryz.prog (knWith kb 0 [e171, e180, e224, e225, e226, e230]) 1000 60 5 3 [] T33_0 k33_0_1 t33_0_1 = true := by decide +kernel
theorem l34_0_0 : chkL Tryz.prog (knWith kb 0 [e188, e225, e226, e235]) 1000 60 5 3 [] T34_0 k34_0_0 t34_0_0 = true := by decide +kernel
end Go.Proofs.YtekgfgignkihmaaGreat
