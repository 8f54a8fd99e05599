/-
  The law's runs, by classes of its arguments.
  Conditions: none.
-/
import Derived.Test.YtjclnmkdkbmjlaaGreatDoorKeW
open Go Go.Ab
namespace Go.Proofs.YtjclnmkdkbmjlaaGreatDoor
theorem ran45 : yieldsTrueA Tryz.prog (knWith kb 6 [e205, e59, e58, e224, e44, e45, e43, e203, e36, e35, e298, e24, e279, e196, e2000000]) 1000 60 4 a23 tb45 = true := by decide +kernel
theorem ran46 : yieldsTrueA Tryz.prog (knWith kb 6 [e205, e59, e58, e225, e44, e45, e43, e203, e36, e35, e298, e24, e279, e196, e2000000]) 1000 60 4 a23 tb46 = true := by decide +kernel
theorem ran47 : yieldsTrueA Tryz.prog (knWith kb 6 [e213, e84, e58, e230, e77, e78, e43, e211, e72, e71, e302, e24, e279, e196, e2000000]) 1000 60 4 a23 tb47 = true := by decide +kernel
theorem ran48 : yieldsTrueA Tryz.prog (knWith kb 6 [e312, e59, e58, e311, e44, e45, e43, e310, e36, e35, e309, e24, e304, e303, e2000000]) 1000 60 4 a24 tb48 = true := by decide +kernel
theorem ran49 : yieldsTrueA Tryz.prog (knWith kb 6 [e320, e84, e58, e319, e77, e78, e43, e318, e72, e71, e317, e24, e304, e303, e2000000]) 1000 60 4 a24 tb49 = true := by decide +kernel
end Go.Proofs.YtjclnmkdkbmjlaaGreatDoor
