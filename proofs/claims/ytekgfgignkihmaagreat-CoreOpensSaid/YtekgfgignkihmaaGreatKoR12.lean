/-
  The law's certificates, by classes of its arguments: they are good.
  Conditions: none.
-/
import Derived.Test.YtekgfgignkihmaaGreatKoY01
open Go Go.Ab
namespace Go.Proofs.YtekgfgignkihmaaGreat
theorem l8_0_0 : chkL Tryz.prog (knWith kb 0 [e97, e98, e99, e100, e101, e102, e103, e104]) 1000 60 4 3 [] T8_0 k8_0_0 t8_0_0 = true := by decide +kernel
theorem l8_0_1 : chkL Tryz.prog (knWith kb 0 [e97, e98, e99, e100, e101, e102, e103, e104]) 1000 60 4 3 [] T8_0 k8_0_1 t8_0_1 = true := by decide +kernel
end Go.Proofs.YtekgfgignkihmaaGreat
