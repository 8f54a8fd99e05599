/-
  The law's certificates, by classes of its arguments: they are good.
  Conditions: none.
-/
import Derived.Test.YtekgfgignkihmaaGreatKnY01
open Go Go.Ab
namespace Go.Proofs.YtekgfgignkihmaaGreat
theorem l14_0_1 : chkL Tryz.prog (knWith kb 0 [e98, e99, e100, e107, e108]) 1000 60 5 3 [] T14_0 k14_0_1 t14_0_1 = true := by decide +kernel
theorem l15_0_0 : chkL Tryz.prog (knWith kb 0 [e99, e108, e121, e122, e126]) 1000 60 5 3 [] T15_0 k15_0_0 t15_0_0 = true := by decide +kernel
theorem l15_0_1 : chkL Tryz.prog (knWith kb 0 [e99, e108, e121, e122, e126]) 1000 60 5 3 [] T15_0 k15_0_1 t15_0_1 = true := by decide +kernel
theorem l16_0_0 : chkL Tryz.prog (knWith kb 0 [e116, e122, e131]) 1000 60 5 3 [] T16_0 k16_0_0 t16_0_0 = true := by decide +kernel
end Go.Proofs.YtekgfgignkihmaaGreat
