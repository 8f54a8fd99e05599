/-
  The law's certificates, by classes of its arguments: they are good.
  Conditions: none.
-/
import Derived.Test.YtekgfgignkihmaaGreatKoY01
open Go Go.Ab
namespace Go.Proofs.YtekgfgignkihmaaGreat
theorem l4_0_2 : chkL Tryz.prog (knWith kb 0 [e59, e60, e61, e62, e63, e64, e65, e66]) 1000 60 4 3 [] T4_0 k4_0_2 t4_0_2 = true := by decide +kernel
theorem l5_0_0 : chkL Tryz.prog (knWith kb 0 [e61, e65, e70, e71, e72, e73, e74, e75]) 1000 60 4 3 [] T5_0 k5_0_0 t5_0_0 = true := by decide +kernel
end Go.Proofs.YtekgfgignkihmaaGreat
