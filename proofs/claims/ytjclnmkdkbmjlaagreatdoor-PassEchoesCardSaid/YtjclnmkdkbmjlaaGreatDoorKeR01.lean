/-
  The law's runs, by classes of its arguments.
  Conditions: none.
-/
import Derived.Test.YtjclnmkdkbmjlaaGreatDoorKeW
open Go Go.Ab
namespace Go.Proofs.YtjclnmkdkbmjlaaGreatDoor
theorem ran5 : yieldsTrueA Tryz.prog (knWith kb 6 [e86, e84, e58, e123, e77, e78, e43, e76, e72, e71, e121, e24, e23, e22, e2000000]) 1000 60 4 a2 tb5 = true := by decide +kernel
theorem ran6 : yieldsTrueA Tryz.prog (knWith kb 6 [e61, e59, e58, e129, e44, e45, e43, e42, e36, e35, e128, e24, e124, e22, e2000000]) 1000 60 4 a3 tb6 = true := by decide +kernel
theorem ran7 : yieldsTrueA Tryz.prog (knWith kb 6 [e86, e84, e58, e134, e77, e78, e43, e76, e72, e71, e133, e24, e124, e22, e2000000]) 1000 60 4 a3 tb7 = true := by decide +kernel
theorem ran8 : yieldsTrueA Tryz.prog (knWith kb 6 [e109, e107, e58, e106, e55, e105, e101, e102, e43, e100, e41, e98, e97, e96, e139, e24, e124, e22, e2000000]) 1000 60 4 a4 tb8 = true := by decide +kernel
theorem ran9 : yieldsTrueA Tryz.prog (knWith kb 6 [e61, e59, e58, e115, e44, e45, e43, e42, e36, e35, e143, e24, e124, e22, e2000000]) 1000 60 4 a5 tb9 = true := by decide +kernel
end Go.Proofs.YtjclnmkdkbmjlaaGreatDoor
