/-
  The law's certificates, by classes of its arguments: they are good.
  Conditions: none.
-/
import Derived.Test.YtekgfgignkihmaaGreatKnY01
open Go Go.Ab
namespace Go.Proofs.YtekgfgignkihmaaGreat
theorem s23 : chkAt Tryz.prog (knWith kb 0 [e1, e90, e94, e104, e148, e154, e2000000]) 1000 60 5 3 T23 [] (.const 0) k23 [.code []] (enterS Tryz.prog 5 a23 (hIn 0 false [])) = true := by decide +kernel
theorem s24 : chkAt Tryz.prog (knWith kb 0 [e1, e162, e165, e166, e175, e176, e2000000]) 1000 60 5 3 T24 [] (.const 0) k24 [.code []] (enterS Tryz.prog 5 a24 (hIn 0 false [])) = true := by decide +kernel
theorem s25 : chkAt Tryz.prog (knWith kb 0 [e1, e162, e183, e184, e2000000]) 1000 60 5 3 T25 [] (.const 0) k25 [.code []] (enterS Tryz.prog 5 a25 (hIn 0 false [])) = true := by decide +kernel
theorem s26 : chkAt Tryz.prog (knWith kb 0 [e1, e162, e165, e166, e175, e176, e2000000]) 1000 60 5 3 T26 [] (.const 0) k26 [.code []] (enterS Tryz.prog 5 a26 (hIn 0 false [])) = true := by decide +kernel
theorem s27 : chkAt Tryz.prog (knWith kb 0 [e1, e162, e166, e176, e190, e196, e2000000]) 1000 60 5 3 T27 [] (.const 0) k27 [.code []] (enterS Tryz.prog 5 a27 (hIn 0 false [])) = true := by decide +kernel
theorem s28 : chkAt Tryz.prog (knWith kb 0 [e1, e162, e184, e201, e2000000]) 1000 60 5 3 T28 [] (.const 0) k28 [.code []] (enterS Tryz.prog 5 a28 (hIn 0 false [])) = true := by decide +kernel
theorem s29 : chkAt Tryz.prog (knWith kb 0 [e1, e162, e166, e176, e190, e196, e2000000]) 1000 60 5 3 T29 [] (.const 0) k29 [.code []] (enterS Tryz.prog 5 a29 (hIn 0 false [])) = true := by decide +kernel
theorem s30 : chkAt Tryz.prog (knWith kb 0 [e1, e162, e166, e176, e205, e211, e2000000]) 1000 60 5 3 T30 [] (.const 0) k30 [.code []] (enterS Tryz.prog 5 a30 (hIn 0 false [])) = true := by decide +kernel
theorem s31 : chkAt Tryz.prog (knWith kb 0 [e1, e162, e184, e216, e2000000]) 1000 60 5 3 T31 [] (.const 0) k31 [.code []] (enterS Tryz.prog 5 a31 (hIn 0 false [])) = true := by decide +kernel
end Go.Proofs.YtekgfgignkihmaaGreat
