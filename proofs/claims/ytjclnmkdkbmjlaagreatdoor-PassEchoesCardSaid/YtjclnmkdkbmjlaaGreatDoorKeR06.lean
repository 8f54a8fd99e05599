/-
  The law's runs, by classes of its arguments.
  Conditions: none.
-/
import Derived.Test.YtjclnmkdkbmjlaaGreatDoorKeW
open Go Go.Ab
namespace Go.Proofs.YtjclnmkdkbmjlaaGreatDoor
theorem ran30 : yieldsTrueA Tryz.prog (knWith kb 6 [e205, e59, e58, e236, e44, e45, e43, e203, e36, e35, e235, e24, e231, e196, e2000000]) 1000 60 4 a15 tb30 = true := by decide +kernel
theorem ran31 : yieldsTrueA Tryz.prog (knWith kb 6 [e213, e84, e58, e241, e77, e78, e43, e211, e72, e71, e240, e24, e231, e196, e2000000]) 1000 60 4 a15 tb31 = true := by decide +kernel
theorem ran32 : yieldsTrueA Tryz.prog (knWith kb 6 [e219, e107, e58, e106, e55, e105, e101, e102, e43, e100, e41, e98, e97, e96, e246, e24, e231, e196, e2000000]) 1000 60 4 a16 tb32 = true := by decide +kernel
theorem ran33 : yieldsTrueA Tryz.prog (knWith kb 6 [e205, e59, e58, e224, e44, e45, e43, e203, e36, e35, e250, e24, e231, e196, e2000000]) 1000 60 4 a17 tb33 = true := by decide +kernel
theorem ran34 : yieldsTrueA Tryz.prog (knWith kb 6 [e205, e59, e58, e225, e44, e45, e43, e203, e36, e35, e250, e24, e231, e196, e2000000]) 1000 60 4 a17 tb34 = true := by decide +kernel
end Go.Proofs.YtjclnmkdkbmjlaaGreatDoor
