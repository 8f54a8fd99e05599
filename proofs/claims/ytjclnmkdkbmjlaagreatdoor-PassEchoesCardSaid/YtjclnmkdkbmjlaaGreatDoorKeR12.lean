/-
  The law's runs, by classes of its arguments.
  Conditions: none.
-/
import Derived.Test.YtjclnmkdkbmjlaaGreatDoorKeW
open Go Go.Ab
namespace Go.Proofs.YtjclnmkdkbmjlaaGreatDoor
theorem ran60 : yieldsTrueA Tryz.prog (knWith kb 6 [e312, e59, e58, e367, e44, e45, e43, e310, e36, e35, e366, e24, e362, e303, e2000000]) 1000 60 4 a30 tb60 = true := by decide +kernel
theorem ran61 : yieldsTrueA Tryz.prog (knWith kb 6 [e320, e84, e58, e372, e77, e78, e43, e318, e72, e71, e371, e24, e362, e303, e2000000]) 1000 60 4 a30 tb61 = true := by decide +kernel
theorem ran62 : yieldsTrueA Tryz.prog (knWith kb 6 [e326, e107, e58, e106, e55, e105, e101, e102, e43, e100, e41, e98, e97, e96, e377, e24, e362, e303, e2000000]) 1000 60 4 a31 tb62 = true := by decide +kernel
theorem ran63 : yieldsTrueA Tryz.prog (knWith kb 6 [e312, e59, e58, e331, e44, e45, e43, e310, e36, e35, e381, e24, e362, e303, e2000000]) 1000 60 4 a32 tb63 = true := by decide +kernel
theorem ran64 : yieldsTrueA Tryz.prog (knWith kb 6 [e312, e59, e58, e332, e44, e45, e43, e310, e36, e35, e381, e24, e362, e303, e2000000]) 1000 60 4 a32 tb64 = true := by decide +kernel
end Go.Proofs.YtjclnmkdkbmjlaaGreatDoor
