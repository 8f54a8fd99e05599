/-
  The law's certificates, by classes of its arguments: they are good.
  Conditions: none.
-/
import Derived.Test.YtekgfgignkihmaaGreatKnY01
open Go Go.Ab
namespace Go.Proofs.YtekgfgignkihmaaGreat
theorem s14 : chkAt Tryz.prog (knWith kb 0 [e1, e90, e93, e94, e103, e104, e2000000]) 1000 60 5 3 T14 [] (.const 0) k14 [.code []] (enterS Tryz.prog 5 a14 (hIn 0 false [])) = true := by decide +kernel
theorem s15 : chkAt Tryz.prog (knWith kb 0 [e1, e90, e94, e104, e118, e124, e2000000]) 1000 60 5 3 T15 [] (.const 0) k15 [.code []] (enterS Tryz.prog 5 a15 (hIn 0 false [])) = true := by decide +kernel
theorem s16 : chkAt Tryz.prog (knWith kb 0 [e1, e90, e112, e129, e2000000]) 1000 60 5 3 T16 [] (.const 0) k16 [.code []] (enterS Tryz.prog 5 a16 (hIn 0 false [])) = true := by decide +kernel
theorem s17 : chkAt Tryz.prog (knWith kb 0 [e1, e90, e94, e104, e118, e124, e2000000]) 1000 60 5 3 T17 [] (.const 0) k17 [.code []] (enterS Tryz.prog 5 a17 (hIn 0 false [])) = true := by decide +kernel
theorem s18 : chkAt Tryz.prog (knWith kb 0 [e1, e90, e94, e104, e133, e139, e2000000]) 1000 60 5 3 T18 [] (.const 0) k18 [.code []] (enterS Tryz.prog 5 a18 (hIn 0 false [])) = true := by decide +kernel
theorem s19 : chkAt Tryz.prog (knWith kb 0 [e1, e90, e112, e144, e2000000]) 1000 60 5 3 T19 [] (.const 0) k19 [.code []] (enterS Tryz.prog 5 a19 (hIn 0 false [])) = true := by decide +kernel
theorem s20 : chkAt Tryz.prog (knWith kb 0 [e1, e90, e94, e104, e133, e139, e2000000]) 1000 60 5 3 T20 [] (.const 0) k20 [.code []] (enterS Tryz.prog 5 a20 (hIn 0 false [])) = true := by decide +kernel
theorem s21 : chkAt Tryz.prog (knWith kb 0 [e1, e90, e94, e104, e148, e154, e2000000]) 1000 60 5 3 T21 [] (.const 0) k21 [.code []] (enterS Tryz.prog 5 a21 (hIn 0 false [])) = true := by decide +kernel
theorem s22 : chkAt Tryz.prog (knWith kb 0 [e1, e90, e112, e159, e2000000]) 1000 60 5 3 T22 [] (.const 0) k22 [.code []] (enterS Tryz.prog 5 a22 (hIn 0 false [])) = true := by decide +kernel
end Go.Proofs.YtekgfgignkihmaaGreat
