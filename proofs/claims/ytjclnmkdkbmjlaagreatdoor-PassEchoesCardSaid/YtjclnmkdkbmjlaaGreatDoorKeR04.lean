/-
  The law's runs, by classes of its arguments.
  Conditions: none.
-/
import Derived.Test.YtjclnmkdkbmjlaaGreatDoorKeW
open Go Go.Ab
namespace Go.Proofs.YtjclnmkdkbmjlaaGreatDoor
theorem ran20 : yieldsTrueA Tryz.prog (knWith kb 6 [e109, e107, e58, e106, e55, e105, e101, e102, e43, e100, e41, e98, e97, e96, e187, e24, e172, e22, e2000000]) 1000 60 4 a10 tb20 = true := by decide +kernel
theorem ran21 : yieldsTrueA Tryz.prog (knWith kb 6 [e61, e59, e58, e115, e44, e45, e43, e42, e36, e35, e191, e24, e172, e22, e2000000]) 1000 60 4 a11 tb21 = true := by decide +kernel
theorem ran22 : yieldsTrueA Tryz.prog (knWith kb 6 [e61, e59, e58, e117, e44, e45, e43, e42, e36, e35, e191, e24, e172, e22, e2000000]) 1000 60 4 a11 tb22 = true := by decide +kernel
theorem ran23 : yieldsTrueA Tryz.prog (knWith kb 6 [e86, e84, e58, e123, e77, e78, e43, e76, e72, e71, e195, e24, e172, e22, e2000000]) 1000 60 4 a11 tb23 = true := by decide +kernel
theorem ran24 : yieldsTrueA Tryz.prog (knWith kb 6 [e205, e59, e58, e204, e44, e45, e43, e203, e36, e35, e202, e24, e197, e196, e2000000]) 1000 60 4 a12 tb24 = true := by decide +kernel
end Go.Proofs.YtjclnmkdkbmjlaaGreatDoor
