/-
  The law's certificates, by classes of its arguments: they are good.
  Conditions: none.
-/
import Derived.Test.YtekgfgignkihmaaGreatKnY01
open Go Go.Ab
namespace Go.Proofs.YtekgfgignkihmaaGreat
theorem s32 : chkAt Tryz.prog (knWith kb 0 [e1, e162, e166, e176, e205, e211, e2000000]) 1000 60 5 3 T32 [] (.const 0) k32 [.code []] (enterS Tryz.prog 5 a32 (hIn 0 false [])) = true := by decide +kernel
theorem s33 : chkAt Tryz.prog (knWith kb 0 [e1, e162, e166, e176, e220, e228, e2000000]) 1000 60 5 3 T33 [] (.const 0) k33 [.code []] (enterS Tryz.prog 5 a33 (hIn 0 false [])) = true := by decide +kernel
theorem s34 : chkAt Tryz.prog (knWith kb 0 [e1, e162, e184, e233, e2000000]) 1000 60 5 3 T34 [] (.const 0) k34 [.code []] (enterS Tryz.prog 5 a34 (hIn 0 false [])) = true := by decide +kernel
theorem s35 : chkAt Tryz.prog (knWith kb 0 [e1, e162, e166, e176, e220, e228, e2000000]) 1000 60 5 3 T35 [] (.const 0) k35 [.code []] (enterS Tryz.prog 5 a35 (hIn 0 false [])) = true := by decide +kernel
theorem s36 : chkAt Tryz.prog (knWith kb 0 [e2000000]) 1000 60 5 3 T36 [] (.const 0) k36 [.code []] (enterS Tryz.prog 5 a36 (hIn 0 false [])) = true := by decide +kernel
end Go.Proofs.YtekgfgignkihmaaGreat
