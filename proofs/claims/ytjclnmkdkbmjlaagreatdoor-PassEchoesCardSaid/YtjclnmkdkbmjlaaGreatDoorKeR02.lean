/-
  The law's runs, by classes of its arguments.
  Conditions: none.
-/
import Derived.Test.YtjclnmkdkbmjlaaGreatDoorKeW
open Go Go.Ab
namespace Go.Proofs.YtjclnmkdkbmjlaaGreatDoor
theorem ran10 : yieldsTrueA Tryz.prog (knWith kb 6 [e61, e59, e58, e117, e44, e45, e43, e42, e36, e35, e143, e24, e124, e22, e2000000]) 1000 60 4 a5 tb10 = true := by decide +kernel
theorem ran11 : yieldsTrueA Tryz.prog (knWith kb 6 [e86, e84, e58, e123, e77, e78, e43, e76, e72, e71, e147, e24, e124, e22, e2000000]) 1000 60 4 a5 tb11 = true := by decide +kernel
theorem ran12 : yieldsTrueA Tryz.prog (knWith kb 6 [e61, e59, e58, e153, e44, e45, e43, e42, e36, e35, e152, e24, e148, e22, e2000000]) 1000 60 4 a6 tb12 = true := by decide +kernel
theorem ran13 : yieldsTrueA Tryz.prog (knWith kb 6 [e86, e84, e58, e158, e77, e78, e43, e76, e72, e71, e157, e24, e148, e22, e2000000]) 1000 60 4 a6 tb13 = true := by decide +kernel
theorem ran14 : yieldsTrueA Tryz.prog (knWith kb 6 [e109, e107, e58, e106, e55, e105, e101, e102, e43, e100, e41, e98, e97, e96, e163, e24, e148, e22, e2000000]) 1000 60 4 a7 tb14 = true := by decide +kernel
end Go.Proofs.YtjclnmkdkbmjlaaGreatDoor
