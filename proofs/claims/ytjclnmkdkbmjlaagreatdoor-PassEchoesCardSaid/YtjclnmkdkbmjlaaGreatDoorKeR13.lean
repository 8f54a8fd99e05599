/-
  The law's runs, by classes of its arguments.
  Conditions: none.
-/
import Derived.Test.YtjclnmkdkbmjlaaGreatDoorKeW
open Go Go.Ab
namespace Go.Proofs.YtjclnmkdkbmjlaaGreatDoor
theorem ran65 : yieldsTrueA Tryz.prog (knWith kb 6 [e320, e84, e58, e337, e77, e78, e43, e318, e72, e71, e385, e24, e362, e303, e2000000]) 1000 60 4 a32 tb65 = true := by decide +kernel
theorem ran66 : yieldsTrueA Tryz.prog (knWith kb 6 [e312, e59, e58, e391, e44, e45, e43, e310, e36, e35, e390, e24, e386, e303, e2000000]) 1000 60 4 a33 tb66 = true := by decide +kernel
theorem ran67 : yieldsTrueA Tryz.prog (knWith kb 6 [e320, e84, e58, e396, e77, e78, e43, e318, e72, e71, e395, e24, e386, e303, e2000000]) 1000 60 4 a33 tb67 = true := by decide +kernel
theorem ran68 : yieldsTrueA Tryz.prog (knWith kb 6 [e326, e107, e58, e106, e55, e105, e101, e102, e43, e100, e41, e98, e97, e96, e401, e24, e386, e303, e2000000]) 1000 60 4 a34 tb68 = true := by decide +kernel
theorem ran69 : yieldsTrueA Tryz.prog (knWith kb 6 [e312, e59, e58, e331, e44, e45, e43, e310, e36, e35, e405, e24, e386, e303, e2000000]) 1000 60 4 a35 tb69 = true := by decide +kernel
end Go.Proofs.YtjclnmkdkbmjlaaGreatDoor
