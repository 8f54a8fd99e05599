/-
  The law's certificates, by classes of its arguments: they are good.
  Conditions: none.
-/
import Derived.Test.YtekgfgignkihmaaGreatKnY01
open Go Go.Ab
namespace Go.Proofs.YtekgfgignkihmaaGreat
theorem l17_0_0 : chkL Tryz.prog (knWith kb 0 [e99, e108, e121, e122, e126]) 1000 60 5 3 [] T17_0 k17_0_0 t17_0_0 = true := by decide +kernel
theorem l17_0_1 : chkL Tryz.prog (knWith kb 0 [e99, e108, e121, e122, e126]) 1000 60 5 3 [] T17_0 k17_0_1 t17_0_1 = true := by decide +kernel
theorem l18_0_0 : chkL Tryz.prog (knWith kb 0 [e99, e108, e136, e137, e141]) 1000 60 5 3 [] T18_0 k18_0_0 t18_0_0 = true := by decide +kernel
end Go.Proofs.YtekgfgignkihmaaGreat
