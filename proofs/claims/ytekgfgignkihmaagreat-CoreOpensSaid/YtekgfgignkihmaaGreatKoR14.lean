/-
  The law's certificates, by classes of its arguments: they are good.
  Conditions: none.
-/
import Derived.Test.YtekgfgignkihmaaGreatKoY01
open Go Go.Ab
namespace Go.Proofs.YtekgfgignkihmaaGreat
theorem l9_0_1 : chkL Tryz.prog (knWith kb 0 [e99, e103, e108, e109, e110, e111, e112, e113]) 1000 60 4 3 [] T9_0 k9_0_1 t9_0_1 = true := by decide +kernel
theorem l9_0_2 : chkL Tryz.prog (knWith kb 0 [e99, e103, e108, e109, e110, e111, e112, e113]) 1000 60 4 3 [] T9_0 k9_0_2 t9_0_2 = true := by decide +kernel
end Go.Proofs.YtekgfgignkihmaaGreat
