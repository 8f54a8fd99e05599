/-
  The law's certificates, by classes of its arguments: they are good.
  Conditions: none.
-/
import Derived.Test.YtekgfgignkihmaaGreatKnY01
open Go Go.Ab
namespace Go.Proofs.YtekgfgignkihmaaGreat
theorem s4 : chkAt Tryz.prog (knWith kb 0 [e1, e14, e40, e57, e2000000]) 1000 60 5 3 T4 [] (.const 0) k4 [.code []] (enterS Tryz.prog 5 a4 (hIn 0 false [])) = true := by decide +kernel
theorem s5 : chkAt Tryz.prog (knWith kb 0 [e1, e14, e18, e32, e46, e52, e2000000]) 1000 60 5 3 T5 [] (.const 0) k5 [.code []] (enterS Tryz.prog 5 a5 (hIn 0 false [])) = true := by decide +kernel
theorem s6 : chkAt Tryz.prog (knWith kb 0 [e1, e14, e18, e32, e61, e67, e2000000]) 1000 60 5 3 T6 [] (.const 0) k6 [.code []] (enterS Tryz.prog 5 a6 (hIn 0 false [])) = true := by decide +kernel
theorem s7 : chkAt Tryz.prog (knWith kb 0 [e1, e14, e40, e72, e2000000]) 1000 60 5 3 T7 [] (.const 0) k7 [.code []] (enterS Tryz.prog 5 a7 (hIn 0 false [])) = true := by decide +kernel
theorem s8 : chkAt Tryz.prog (knWith kb 0 [e1, e14, e18, e32, e61, e67, e2000000]) 1000 60 5 3 T8 [] (.const 0) k8 [.code []] (enterS Tryz.prog 5 a8 (hIn 0 false [])) = true := by decide +kernel
theorem s9 : chkAt Tryz.prog (knWith kb 0 [e1, e14, e18, e32, e76, e82, e2000000]) 1000 60 5 3 T9 [] (.const 0) k9 [.code []] (enterS Tryz.prog 5 a9 (hIn 0 false [])) = true := by decide +kernel
theorem s10 : chkAt Tryz.prog (knWith kb 0 [e1, e14, e40, e87, e2000000]) 1000 60 5 3 T10 [] (.const 0) k10 [.code []] (enterS Tryz.prog 5 a10 (hIn 0 false [])) = true := by decide +kernel
theorem s11 : chkAt Tryz.prog (knWith kb 0 [e1, e14, e18, e32, e76, e82, e2000000]) 1000 60 5 3 T11 [] (.const 0) k11 [.code []] (enterS Tryz.prog 5 a11 (hIn 0 false [])) = true := by decide +kernel
theorem s12 : chkAt Tryz.prog (knWith kb 0 [e1, e90, e93, e94, e103, e104, e2000000]) 1000 60 5 3 T12 [] (.const 0) k12 [.code []] (enterS Tryz.prog 5 a12 (hIn 0 false [])) = true := by decide +kernel
theorem s13 : chkAt Tryz.prog (knWith kb 0 [e1, e90, e111, e112, e2000000]) 1000 60 5 3 T13 [] (.const 0) k13 [.code []] (enterS Tryz.prog 5 a13 (hIn 0 false [])) = true := by decide +kernel
end Go.Proofs.YtekgfgignkihmaaGreat
