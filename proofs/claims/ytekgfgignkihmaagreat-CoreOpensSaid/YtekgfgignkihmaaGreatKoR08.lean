/-
  The law's certificates, by classes of its arguments: they are good.
  Conditions: none.
-/
import Derived.Test.YtekgfgignkihmaaGreatKoY01
open Go Go.Ab
namespace Go.Proofs.YtekgfgignkihmaaGreat
theorem l5_0_1 : chkL Tryz.prog (knWith kb 0 [e61, e65, e70, e71, e72, e73, e74, e75]) 1000 60 4 3 [] T5_0 k5_0_1 t5_0_1 = true := by decide +kernel
theorem l5_0_2 : chkL Tryz.prog (knWith kb 0 [e61, e65, e70, e71, e72, e73, e74, e75]) 1000 60 4 3 [] T5_0 k5_0_2 t5_0_2 = true := by decide +kernel
end Go.Proofs.YtekgfgignkihmaaGreat
