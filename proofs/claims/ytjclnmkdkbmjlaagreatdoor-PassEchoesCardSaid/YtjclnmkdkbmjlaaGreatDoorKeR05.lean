/-
  The law's runs, by classes of its arguments.
  Conditions: none.
-/
import Derived.Test.YtjclnmkdkbmjlaaGreatDoorKeW
open Go Go.Ab
namespace Go.Proofs.YtjclnmkdkbmjlaaGreatDoor
theorem ran25 : yieldsTrueA Tryz.prog (knWith kb 6 [e213, e84, e58, e212, e77, e78, e43, e211, e72, e71, e210, e24, e197, e196, e2000000]) 1000 60 4 a12 tb25 = true := by decide +kernel
theorem ran26 : yieldsTrueA Tryz.prog (knWith kb 6 [e219, e107, e58, e106, e55, e105, e101, e102, e43, e100, e41, e98, e97, e96, e218, e24, e197, e196, e2000000]) 1000 60 4 a13 tb26 = true := by decide +kernel
theorem ran27 : yieldsTrueA Tryz.prog (knWith kb 6 [e205, e59, e58, e224, e44, e45, e43, e203, e36, e35, e223, e24, e197, e196, e2000000]) 1000 60 4 a14 tb27 = true := by decide +kernel
theorem ran28 : yieldsTrueA Tryz.prog (knWith kb 6 [e205, e59, e58, e225, e44, e45, e43, e203, e36, e35, e223, e24, e197, e196, e2000000]) 1000 60 4 a14 tb28 = true := by decide +kernel
theorem ran29 : yieldsTrueA Tryz.prog (knWith kb 6 [e213, e84, e58, e230, e77, e78, e43, e211, e72, e71, e229, e24, e197, e196, e2000000]) 1000 60 4 a14 tb29 = true := by decide +kernel
end Go.Proofs.YtjclnmkdkbmjlaaGreatDoor
