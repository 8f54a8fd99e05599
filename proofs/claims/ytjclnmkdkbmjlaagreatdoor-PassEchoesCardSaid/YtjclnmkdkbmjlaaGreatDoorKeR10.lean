/-
  The law's runs, by classes of its arguments.
  Conditions: none.
-/
import Derived.Test.YtjclnmkdkbmjlaaGreatDoorKeW
open Go Go.Ab
namespace Go.Proofs.YtjclnmkdkbmjlaaGreatDoor
theorem ran50 : yieldsTrueA Tryz.prog (knWith kb 6 [e326, e107, e58, e106, e55, e105, e101, e102, e43, e100, e41, e98, e97, e96, e325, e24, e304, e303, e2000000]) 1000 60 4 a25 tb50 = true := by decide +kernel
theorem ran51 : yieldsTrueA Tryz.prog (knWith kb 6 [e312, e59, e58, e331, e44, e45, e43, e310, e36, e35, e330, e24, e304, e303, e2000000]) 1000 60 4 a26 tb51 = true := by decide +kernel
theorem ran52 : yieldsTrueA Tryz.prog (knWith kb 6 [e312, e59, e58, e332, e44, e45, e43, e310, e36, e35, e330, e24, e304, e303, e2000000]) 1000 60 4 a26 tb52 = true := by decide +kernel
theorem ran53 : yieldsTrueA Tryz.prog (knWith kb 6 [e320, e84, e58, e337, e77, e78, e43, e318, e72, e71, e336, e24, e304, e303, e2000000]) 1000 60 4 a26 tb53 = true := by decide +kernel
theorem ran54 : yieldsTrueA Tryz.prog (knWith kb 6 [e312, e59, e58, e343, e44, e45, e43, e310, e36, e35, e342, e24, e338, e303, e2000000]) 1000 60 4 a27 tb54 = true := by decide +kernel
end Go.Proofs.YtjclnmkdkbmjlaaGreatDoor
