/-
  The law's certificates, by classes of its arguments: they are good.
  Conditions: none.
-/
import Derived.Test.YtekgfgignkihmaaGreatKoY01
open Go Go.Ab
namespace Go.Proofs.YtekgfgignkihmaaGreat
theorem l10_0_2 : chkL Tryz.prog (knWith kb 0 [e99, e103, e116, e117, e118, e119, e120, e121]) 1000 60 4 3 [] T10_0 k10_0_2 t10_0_2 = true := by decide +kernel
theorem l11_0_0 : chkL Tryz.prog (knWith kb 0 [e99, e103, e124, e125, e126, e127, e128, e129]) 1000 60 4 3 [] T11_0 k11_0_0 t11_0_0 = true := by decide +kernel
end Go.Proofs.YtekgfgignkihmaaGreat
