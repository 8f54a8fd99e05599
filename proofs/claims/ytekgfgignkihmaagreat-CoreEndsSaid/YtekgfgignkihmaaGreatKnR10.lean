/-
  The law's certificates, by classes of its arguments: they are good.
  Conditions: none.
-/
import Derived.Test.YtekgfgignkihmaaGreatKnY01
open Go Go.Ab
namespace Go.Proofs.YtekgfgignkihmaaGreat
theorem l22_0_0 : chkL Tryz.prog (knWith kb 0 [e116, e152, e161]) 1000 60 5 3 [] T22_0 k22_0_0 t22_0_0 = true := by decide +kernel
theorem l23_0_0 : chkL Tryz.prog (knWith kb 0 [e99, e108, e151, e152, e156]) 1000 60 5 3 [] T23_0 k23_0_0 t23_0_0 = true := by decide +kernel
theorem l23_0_1 : chkL Tryz.prog (knWith kb 0 [e99, e108, e151, e152, e156]) 1000 60 5 3 [] T23_0 k23_0_1 t23_0_1 = true := by decide +kernel
end Go.Proofs.YtekgfgignkihmaaGreat
