/-
  The law's certificates, by classes of its arguments: they are good.
  Conditions: none.
-/
import Derived.Test.YtekgfgignkihmaaGreatKoY01
open Go Go.Ab
namespace Go.Proofs.YtekgfgignkihmaaGreat
theorem l0_0_2 : chkL Tryz.prog (knWith kb 0 [e19, e20, e21, e24, e25, e26, e27, e28]) 1000 60 4 3 [] T0_0 k0_0_2 t0_0_2 = true := by decide +kernel
theorem l1_0_0 : chkL Tryz.prog (knWith kb 0 [e21, e27, e32, e33, e34, e35, e36, e37]) 1000 60 4 3 [] T1_0 k1_0_0 t1_0_0 = true := by decide +kernel
end Go.Proofs.YtekgfgignkihmaaGreat
