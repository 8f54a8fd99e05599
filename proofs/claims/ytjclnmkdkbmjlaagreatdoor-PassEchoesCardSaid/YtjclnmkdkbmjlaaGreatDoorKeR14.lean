/-
  The law's runs, by classes of its arguments.
  Conditions: none.
-/
import Derived.Test.YtjclnmkdkbmjlaaGreatDoorKeW
open Go Go.Ab
namespace Go.Proofs.YtjclnmkdkbmjlaaGreatDoor
theorem ran70 : yieldsTrueA Tryz.prog (knWith kb 6 [e312, e59, e58, e332, e44, e45, e43, e310, e36, e35, e405, e24, e386, e303, e2000000]) 1000 60 4 a35 tb70 = true := by decide +kernel
theorem ran71 : yieldsTrueA Tryz.prog (knWith kb 6 [e320, e84, e58, e337, e77, e78, e43, e318, e72, e71, e409, e24, e386, e303, e2000000]) 1000 60 4 a35 tb71 = true := by decide +kernel
end Go.Proofs.YtjclnmkdkbmjlaaGreatDoor
