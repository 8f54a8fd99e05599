/-
  The law's certificates, by classes of its arguments: they are good.
  Conditions: none.
-/
import Derived.Test.YtekgfgignkihmaaGreatKoY01
open Go Go.Ab
namespace Go.Proofs.YtekgfgignkihmaaGreat
theorem l11_0_1 : chkL Tryz.prog (knWith kb 0 [e99, e103, e124, e125, e126, e127, e128, e129]) 1000 60 4 3 [] T11_0 k11_0_1 t11_0_1 = true := by decide +kernel
theorem l11_0_2 : chkL Tryz.prog (knWith kb 0 [e99, e103, e124, e125, e126, e127, e128, e129]) 1000 60 4 3 [] T11_0 k11_0_2 t11_0_2 = true := by decide +kernel
theorem s0 : chkAt Tryz.prog (knWith kb 0 [e1, e14, e17, e18, e29, e2000000]) 1000 60 4 3 T0 [] (.const 0) k0 [.code []] (enterS Tryz.prog 4 a0 (hIn2 0 [])) = true := by decide +kernel
theorem s1 : chkAt Tryz.prog (knWith kb 0 [e1, e14, e18, e29, e31, e2000000]) 1000 60 4 3 T1 [] (.const 0) k1 [.code []] (enterS Tryz.prog 4 a1 (hIn2 0 [])) = true := by decide +kernel
end Go.Proofs.YtekgfgignkihmaaGreat
