/-
  The law's runs, by classes of its arguments.
  Conditions: none.
-/
import Derived.Test.YtjclnmkdkbmjlaaGreatDoorKeW
open Go Go.Ab
namespace Go.Proofs.YtjclnmkdkbmjlaaGreatDoor
theorem ran35 : yieldsTrueA Tryz.prog (knWith kb 6 [e213, e84, e58, e230, e77, e78, e43, e211, e72, e71, e254, e24, e231, e196, e2000000]) 1000 60 4 a17 tb35 = true := by decide +kernel
theorem ran36 : yieldsTrueA Tryz.prog (knWith kb 6 [e205, e59, e58, e260, e44, e45, e43, e203, e36, e35, e259, e24, e255, e196, e2000000]) 1000 60 4 a18 tb36 = true := by decide +kernel
theorem ran37 : yieldsTrueA Tryz.prog (knWith kb 6 [e213, e84, e58, e265, e77, e78, e43, e211, e72, e71, e264, e24, e255, e196, e2000000]) 1000 60 4 a18 tb37 = true := by decide +kernel
theorem ran38 : yieldsTrueA Tryz.prog (knWith kb 6 [e219, e107, e58, e106, e55, e105, e101, e102, e43, e100, e41, e98, e97, e96, e270, e24, e255, e196, e2000000]) 1000 60 4 a19 tb38 = true := by decide +kernel
theorem ran39 : yieldsTrueA Tryz.prog (knWith kb 6 [e205, e59, e58, e224, e44, e45, e43, e203, e36, e35, e274, e24, e255, e196, e2000000]) 1000 60 4 a20 tb39 = true := by decide +kernel
end Go.Proofs.YtjclnmkdkbmjlaaGreatDoor
