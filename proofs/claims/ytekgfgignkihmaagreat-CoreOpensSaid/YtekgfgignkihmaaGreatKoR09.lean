/-
  The law's certificates, by classes of its arguments: they are good.
  Conditions: none.
-/
import Derived.Test.YtekgfgignkihmaaGreatKoY01
open Go Go.Ab
namespace Go.Proofs.YtekgfgignkihmaaGreat
theorem l6_0_0 : chkL Tryz.prog (knWith kb 0 [e61, e65, e78, e79, e80, e81, e82, e83]) 1000 60 4 3 [] T6_0 k6_0_0 t6_0_0 = true := by decide +kernel
theorem l6_0_1 : chkL Tryz.prog (knWith kb 0 [e61, e65, e78, e79, e80, e81, e82, e83]) 1000 60 4 3 [] T6_0 k6_0_1 t6_0_1 = true := by decide +kernel
end Go.Proofs.YtekgfgignkihmaaGreat
