/-
  The law's certificates, by classes of its arguments: they are good.
  Conditions: none.
-/
import Derived.Test.YtekgfgignkihmaaGreatKnY01
open Go Go.Ab
namespace Go.Proofs.YtekgfgignkihmaaGreat
theorem l29_0_1 : chkL Tryz.prog (knWith kb 0 [e171, e180, e193, e194, e198]) 1000 60 5 3 [] T29_0 k29_0_1 t29_0_1 = true := by decide +kernel
theorem l30_0_0 : chkL Tryz.prog (knWith kb 0 [e171, e180, e208, e209, e213]) 1000 60 5 3 [] T30_0 k30_0_0 t30_0_0 = true := by decide +kernel
theorem l30_0_1 : chkL Tryz.prog (knWith kb 0 [e171, e180, e208, e209, e213]) 1000 60 5 3 [] T30_0 k30_0_1 t30_0_1 = true := by decide +kernel
end Go.Proofs.YtekgfgignkihmaaGreat
