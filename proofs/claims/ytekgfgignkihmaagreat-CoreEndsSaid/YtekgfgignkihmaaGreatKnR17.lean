/-
  The law's certificates, by classes of its arguments: they are good.
  Conditions: none.
-/
import Derived.Test.YtekgfgignkihmaaGreatKnY01
open Go Go.Ab
namespace Go.Proofs.YtekgfgignkihmaaGreat
theorem l35_0_0 : chkL Tryz.prog (knWith kb 0 [e171, e180, e224, e225, e226, e230]) 1000 60 5 3 [] T35_0 k35_0_0 t35_0_0 = true := by decide +kernel
theorem l35_0_1 : chkL Tryz.prog (knWith kb 0 [e171, e180, e224, e225, e226, e230]) 1000 60 5 3 [] T35_0 k35_0_1 t35_0_1 = true := by decide +kernel
theorem s0 : chkAt Tryz.prog (knWith kb 0 [e1, e14, e17, e18, e31, e32, e2000000]) 1000 60 5 3 T0 [] (.const 0) k0 [.code []] (enterS Tryz.prog 5 a0 (hIn 0 false [])) = true := by decide +kernel
theorem s1 : chkAt Tryz.prog (knWith kb 0 [e1, e14, e39, e40, e2000000]) 1000 60 5 3 T1 [] (.const 0) k1 [.code []] (enterS Tryz.prog 5 a1 (hIn 0 false [])) = true := by decide +kernel
theorem s2 : chkAt Tryz.prog (knWith kb 0 [e1, e14, e17, e18, e31, e32, e2000000]) 1000 60 5 3 T2 [] (.const 0) k2 [.code []] (enterS Tryz.prog 5 a2 (hIn 0 false [])) = true := by decide +kernel
theorem s3 : chkAt Tryz.prog (knWith kb 0 [e1, e14, e18, e32, e46, e52, e2000000]) 1000 60 5 3 T3 [] (.const 0) k3 [.code []] (enterS Tryz.prog 5 a3 (hIn 0 false [])) = true := by decide +kernel
end Go.Proofs.YtekgfgignkihmaaGreat
