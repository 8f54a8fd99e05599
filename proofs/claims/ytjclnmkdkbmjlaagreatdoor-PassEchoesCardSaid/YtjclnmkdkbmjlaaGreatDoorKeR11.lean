/-
  The law's runs, by classes of its arguments.
  Conditions: none.
-/
import Derived.Test.YtjclnmkdkbmjlaaGreatDoorKeW
open Go Go.Ab
namespace Go.Proofs.YtjclnmkdkbmjlaaGreatDoor
theorem ran55 : yieldsTrueA Tryz.prog (knWith kb 6 [e320, e84, e58, e348, e77, e78, e43, e318, e72, e71, e347, e24, e338, e303, e2000000]) 1000 60 4 a27 tb55 = true := by decide +kernel
theorem ran56 : yieldsTrueA Tryz.prog (knWith kb 6 [e326, e107, e58, e106, e55, e105, e101, e102, e43, e100, e41, e98, e97, e96, e353, e24, e338, e303, e2000000]) 1000 60 4 a28 tb56 = true := by decide +kernel
theorem ran57 : yieldsTrueA Tryz.prog (knWith kb 6 [e312, e59, e58, e331, e44, e45, e43, e310, e36, e35, e357, e24, e338, e303, e2000000]) 1000 60 4 a29 tb57 = true := by decide +kernel
theorem ran58 : yieldsTrueA Tryz.prog (knWith kb 6 [e312, e59, e58, e332, e44, e45, e43, e310, e36, e35, e357, e24, e338, e303, e2000000]) 1000 60 4 a29 tb58 = true := by decide +kernel
theorem ran59 : yieldsTrueA Tryz.prog (knWith kb 6 [e320, e84, e58, e337, e77, e78, e43, e318, e72, e71, e361, e24, e338, e303, e2000000]) 1000 60 4 a29 tb59 = true := by decide +kernel
end Go.Proofs.YtjclnmkdkbmjlaaGreatDoor
