/-
  The law's certificates, by classes of its arguments: they are good.
  Conditions: none.
-/
import Derived.Test.YtldkbgoipmeikaaGreatDoorKnY01
open Go Go.Ab
namespace Go.Proofs.YtldkbgoipmeikaaGreatDoor
theorem s2 : chkAt Tryz.prog (knWith kb 6 [e28, e29, e30, e31, e48, e49, e50, e51, e57, e70, e174, e175, e177, e2000000]) 1000 60 3 2 T2 [] (.const 0) k2 [.code []] (enterS Tryz.prog 3 a2 (hIn 6 false [])) = true := by decide +kernel
theorem s3 : chkAt Tryz.prog (knWith kb 6 [e28, e30, e31, e48, e49, e50, e51, e57, e70, e205, e209, e210, e212, e2000000]) 1000 60 3 2 T3 [] (.const 0) k3 [.code []] (enterS Tryz.prog 3 a3 (hIn 6 false [])) = true := by decide +kernel
theorem s4 : chkAt Tryz.prog (knWith kb 6 [e30, e31, e48, e49, e50, e51, e240, e241, e247, e248, e249, e253, e254, e2000000]) 1000 60 3 2 T4 [] (.const 0) k4 [.code []] (enterS Tryz.prog 3 a4 (hIn 6 false [])) = true := by decide +kernel
theorem s5 : chkAt Tryz.prog (knWith kb 6 [e30, e31, e48, e49, e50, e51, e240, e249, e253, e298, e302, e303, e305, e2000000]) 1000 60 3 2 T5 [] (.const 0) k5 [.code []] (enterS Tryz.prog 3 a5 (hIn 6 false [])) = true := by decide +kernel
theorem s6 : chkAt Tryz.prog (knWith kb 6 [e30, e31, e48, e49, e50, e51, e240, e249, e253, e333, e337, e338, e340, e2000000]) 1000 60 3 2 T6 [] (.const 0) k6 [.code []] (enterS Tryz.prog 3 a6 (hIn 6 false [])) = true := by decide +kernel
theorem s7 : chkAt Tryz.prog (knWith kb 6 [e30, e31, e48, e49, e50, e51, e240, e249, e253, e368, e372, e373, e375, e2000000]) 1000 60 3 2 T7 [] (.const 0) k7 [.code []] (enterS Tryz.prog 3 a7 (hIn 6 false [])) = true := by decide +kernel
theorem s8 : chkAt Tryz.prog (knWith kb 6 [e30, e31, e48, e49, e50, e51, e403, e404, e410, e411, e412, e416, e417, e2000000]) 1000 60 3 2 T8 [] (.const 0) k8 [.code []] (enterS Tryz.prog 3 a8 (hIn 6 false [])) = true := by decide +kernel
theorem s9 : chkAt Tryz.prog (knWith kb 6 [e30, e31, e48, e49, e50, e51, e403, e412, e416, e461, e465, e466, e468, e2000000]) 1000 60 3 2 T9 [] (.const 0) k9 [.code []] (enterS Tryz.prog 3 a9 (hIn 6 false [])) = true := by decide +kernel
theorem s10 : chkAt Tryz.prog (knWith kb 6 [e30, e31, e48, e49, e50, e51, e403, e412, e416, e496, e500, e501, e503, e2000000]) 1000 60 3 2 T10 [] (.const 0) k10 [.code []] (enterS Tryz.prog 3 a10 (hIn 6 false [])) = true := by decide +kernel
theorem s11 : chkAt Tryz.prog (knWith kb 6 [e30, e31, e48, e49, e50, e51, e403, e412, e416, e531, e535, e536, e538, e2000000]) 1000 60 3 2 T11 [] (.const 0) k11 [.code []] (enterS Tryz.prog 3 a11 (hIn 6 false [])) = true := by decide +kernel
theorem s12 : chkAt Tryz.prog (knWith kb 6 [e2000000]) 1000 60 3 2 T12 [] (.const 0) k12 [.code []] (enterS Tryz.prog 3 a12 (hIn 6 false [])) = true := by decide +kernel
end Go.Proofs.YtldkbgoipmeikaaGreatDoor
