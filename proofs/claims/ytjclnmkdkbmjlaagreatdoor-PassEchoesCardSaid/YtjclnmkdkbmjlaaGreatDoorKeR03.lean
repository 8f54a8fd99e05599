/-
  The law's runs, by classes of its arguments.
  Conditions: none.
-/
import Derived.Test.YtjclnmkdkbmjlaaGreatDoorKeW
open Go Go.Ab
namespace Go.Proofs.YtjclnmkdkbmjlaaGreatDoor
theorem ran15 : yieldsTrueA Tryz.prog (knWith kb 6 [e61, e59, e58, e115, e44, e45, e43, e42, e36, e35, e167, e24, e148, e22, e2000000]) 1000 60 4 a8 tb15 = true := by decide +kernel
theorem ran16 : yieldsTrueA Tryz.prog (knWith kb 6 [e61, e59, e58, e117, e44, e45, e43, e42, e36, e35, e167, e24, e148, e22, e2000000]) 1000 60 4 a8 tb16 = true := by decide +kernel
theorem ran17 : yieldsTrueA Tryz.prog (knWith kb 6 [e86, e84, e58, e123, e77, e78, e43, e76, e72, e71, e171, e24, e148, e22, e2000000]) 1000 60 4 a8 tb17 = true := by decide +kernel
theorem ran18 : yieldsTrueA Tryz.prog (knWith kb 6 [e61, e59, e58, e177, e44, e45, e43, e42, e36, e35, e176, e24, e172, e22, e2000000]) 1000 60 4 a9 tb18 = true := by decide +kernel
theorem ran19 : yieldsTrueA Tryz.prog (knWith kb 6 [e86, e84, e58, e182, e77, e78, e43, e76, e72, e71, e181, e24, e172, e22, e2000000]) 1000 60 4 a9 tb19 = true := by decide +kernel
end Go.Proofs.YtjclnmkdkbmjlaaGreatDoor
