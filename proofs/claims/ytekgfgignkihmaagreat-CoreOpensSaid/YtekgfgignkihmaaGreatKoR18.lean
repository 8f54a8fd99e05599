/-
  The law's certificates, by classes of its arguments: they are good.
  Conditions: none.
-/
import Derived.Test.YtekgfgignkihmaaGreatKoY01
open Go Go.Ab
namespace Go.Proofs.YtekgfgignkihmaaGreat
theorem s2 : chkAt Tryz.prog (knWith kb 0 [e1, e14, e18, e29, e39, e2000000]) 1000 60 4 3 T2 [] (.const 0) k2 [.code []] (enterS Tryz.prog 4 a2 (hIn2 0 [])) = true := by decide +kernel
theorem s3 : chkAt Tryz.prog (knWith kb 0 [e1, e14, e18, e29, e47, e2000000]) 1000 60 4 3 T3 [] (.const 0) k3 [.code []] (enterS Tryz.prog 4 a3 (hIn2 0 [])) = true := by decide +kernel
theorem s4 : chkAt Tryz.prog (knWith kb 0 [e1, e54, e57, e58, e67, e2000000]) 1000 60 4 3 T4 [] (.const 0) k4 [.code []] (enterS Tryz.prog 4 a4 (hIn2 0 [])) = true := by decide +kernel
theorem s5 : chkAt Tryz.prog (knWith kb 0 [e1, e54, e58, e67, e69, e2000000]) 1000 60 4 3 T5 [] (.const 0) k5 [.code []] (enterS Tryz.prog 4 a5 (hIn2 0 [])) = true := by decide +kernel
theorem s6 : chkAt Tryz.prog (knWith kb 0 [e1, e54, e58, e67, e77, e2000000]) 1000 60 4 3 T6 [] (.const 0) k6 [.code []] (enterS Tryz.prog 4 a6 (hIn2 0 [])) = true := by decide +kernel
theorem s7 : chkAt Tryz.prog (knWith kb 0 [e1, e54, e58, e67, e85, e2000000]) 1000 60 4 3 T7 [] (.const 0) k7 [.code []] (enterS Tryz.prog 4 a7 (hIn2 0 [])) = true := by decide +kernel
theorem s8 : chkAt Tryz.prog (knWith kb 0 [e1, e92, e95, e96, e105, e2000000]) 1000 60 4 3 T8 [] (.const 0) k8 [.code []] (enterS Tryz.prog 4 a8 (hIn2 0 [])) = true := by decide +kernel
theorem s9 : chkAt Tryz.prog (knWith kb 0 [e1, e92, e96, e105, e107, e2000000]) 1000 60 4 3 T9 [] (.const 0) k9 [.code []] (enterS Tryz.prog 4 a9 (hIn2 0 [])) = true := by decide +kernel
theorem s10 : chkAt Tryz.prog (knWith kb 0 [e1, e92, e96, e105, e115, e2000000]) 1000 60 4 3 T10 [] (.const 0) k10 [.code []] (enterS Tryz.prog 4 a10 (hIn2 0 [])) = true := by decide +kernel
theorem s11 : chkAt Tryz.prog (knWith kb 0 [e1, e92, e96, e105, e123, e2000000]) 1000 60 4 3 T11 [] (.const 0) k11 [.code []] (enterS Tryz.prog 4 a11 (hIn2 0 [])) = true := by decide +kernel
theorem s12 : chkAt Tryz.prog (knWith kb 0 [e2000000]) 1000 60 4 3 T12 [] (.const 0) k12 [.code []] (enterS Tryz.prog 4 a12 (hIn2 0 [])) = true := by decide +kernel
theorem s13 : chkAt Tryz.prog (knWith kb 0 [e2000000]) 1000 60 4 3 T13 [] (.const 0) k13 [.code []] (enterS Tryz.prog 4 a13 (hIn2 0 [])) = true := by decide +kernel
end Go.Proofs.YtekgfgignkihmaaGreat
