/-
  The law's certificates, by classes of its arguments: they are good.
  Conditions: none.
-/
import Derived.Test.YtekgfgignkihmaaGreatKnY01
open Go Go.Ab
namespace Go.Proofs.YtekgfgignkihmaaGreat
theorem l20_0_1 : chkL Tryz.prog (knWith kb 0 [e99, e108, e136, e137, e141]) 1000 60 5 3 [] T20_0 k20_0_1 t20_0_1 = true := by decide +kernel
theorem l21_0_0 : chkL Tryz.prog (knWith kb 0 [e99, e108, e151, e152, e156]) 1000 60 5 3 [] T21_0 k21_0_0 t21_0_0 = true := by decide +kernel
theorem l21_0_1 : chkL Tryz.prog (knWith kb 0 [e99, e108, e151, e152, e156]) 1000 60 5 3 [] T21_0 k21_0_1 t21_0_1 = true := by decide +kernel
end Go.Proofs.YtekgfgignkihmaaGreat
