/-
  The law's runs, by classes of its arguments.
  Conditions: none.
-/
import Derived.Test.YtjclnmkdkbmjlaaGreatDoorKeW
open Go Go.Ab
namespace Go.Proofs.YtjclnmkdkbmjlaaGreatDoor
theorem ran0 : yieldsTrueA Tryz.prog (knWith kb 6 [e61, e59, e58, e56, e44, e45, e43, e42, e36, e35, e34, e24, e23, e22, e2000000]) 1000 60 4 a0 tb0 = true := by decide +kernel
theorem ran1 : yieldsTrueA Tryz.prog (knWith kb 6 [e86, e84, e58, e83, e77, e78, e43, e76, e72, e71, e70, e24, e23, e22, e2000000]) 1000 60 4 a0 tb1 = true := by decide +kernel
theorem ran2 : yieldsTrueA Tryz.prog (knWith kb 6 [e109, e107, e58, e106, e55, e105, e101, e102, e43, e100, e41, e98, e97, e96, e95, e24, e23, e22, e2000000]) 1000 60 4 a1 tb2 = true := by decide +kernel
theorem ran3 : yieldsTrueA Tryz.prog (knWith kb 6 [e61, e59, e58, e115, e44, e45, e43, e42, e36, e35, e113, e24, e23, e22, e2000000]) 1000 60 4 a2 tb3 = true := by decide +kernel
theorem ran4 : yieldsTrueA Tryz.prog (knWith kb 6 [e61, e59, e58, e117, e44, e45, e43, e42, e36, e35, e113, e24, e23, e22, e2000000]) 1000 60 4 a2 tb4 = true := by decide +kernel
end Go.Proofs.YtjclnmkdkbmjlaaGreatDoor
