/-
  The law's certificates, by classes of its arguments: they are good.
  Conditions: none.
-/
import Derived.Test.YtekgfgignkihmaaGreatKnY01
open Go Go.Ab
namespace Go.Proofs.YtekgfgignkihmaaGreat
theorem l12_0_0 : chkL Tryz.prog (knWith kb 0 [e98, e99, e100, e107, e108]) 1000 60 5 3 [] T12_0 k12_0_0 t12_0_0 = true := by decide +kernel
theorem l12_0_1 : chkL Tryz.prog (knWith kb 0 [e98, e99, e100, e107, e108]) 1000 60 5 3 [] T12_0 k12_0_1 t12_0_1 = true := by decide +kernel
theorem l13_0_0 : chkL Tryz.prog (knWith kb 0 [e100, e115, e116]) 1000 60 5 3 [] T13_0 k13_0_0 t13_0_0 = true := by decide +kernel
theorem l14_0_0 : chkL Tryz.prog (knWith kb 0 [e98, e99, e100, e107, e108]) 1000 60 5 3 [] T14_0 k14_0_0 t14_0_0 = true := by decide +kernel
end Go.Proofs.YtekgfgignkihmaaGreat
