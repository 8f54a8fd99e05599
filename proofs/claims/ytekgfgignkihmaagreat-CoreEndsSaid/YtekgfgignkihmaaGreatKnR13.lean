/-
  The law's certificates, by classes of its arguments: they are good.
  Conditions: none.
-/
import Derived.Test.YtekgfgignkihmaaGreatKnY01
open Go Go.Ab
namespace Go.Proofs.YtekgfgignkihmaaGreat
theorem l27_0_1 : chkL Tryz.prog (knWith kb 0 [e171, e180, e193, e194, e198]) 1000 60 5 3 [] T27_0 k27_0_1 t27_0_1 = true := by decide +kernel
theorem l28_0_0 : chkL Tryz.prog (knWith kb 0 [e188, e194, e203]) 1000 60 5 3 [] T28_0 k28_0_0 t28_0_0 = true := by decide +kernel
theorem l29_0_0 : chkL Tryz.prog (knWith kb 0 [e171, e180, e193, e194, e198]) 1000 60 5 3 [] T29_0 k29_0_0 t29_0_0 = true := by decide +kernel
end Go.Proofs.YtekgfgignkihmaaGreat
