/-
  The law's certificates, by classes of its arguments: they are good.
  Conditions: none.
-/
import Derived.Test.YtekgfgignkihmaaGreatKoY01
open Go Go.Ab
namespace Go.Proofs.YtekgfgignkihmaaGreat
theorem l2_0_2 : chkL Tryz.prog (knWith kb 0 [e21, e27, e40, e41, e42, e43, e44, e45]) 1000 60 4 3 [] T2_0 k2_0_2 t2_0_2 = true := by decide +kernel
theorem l3_0_0 : chkL Tryz.prog (knWith kb 0 [e21, e27, e48, e49, e50, e51, e52, e53]) 1000 60 4 3 [] T3_0 k3_0_0 t3_0_0 = true := by decide +kernel
end Go.Proofs.YtekgfgignkihmaaGreat
