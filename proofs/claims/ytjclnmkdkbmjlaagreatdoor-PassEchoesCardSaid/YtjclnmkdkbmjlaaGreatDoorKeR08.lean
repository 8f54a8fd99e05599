/-
  The law's runs, by classes of its arguments.
  Conditions: none.
-/
import Derived.Test.YtjclnmkdkbmjlaaGreatDoorKeW
open Go Go.Ab
namespace Go.Proofs.YtjclnmkdkbmjlaaGreatDoor
theorem ran40 : yieldsTrueA Tryz.prog (knWith kb 6 [e205, e59, e58, e225, e44, e45, e43, e203, e36, e35, e274, e24, e255, e196, e2000000]) 1000 60 4 a20 tb40 = true := by decide +kernel
theorem ran41 : yieldsTrueA Tryz.prog (knWith kb 6 [e213, e84, e58, e230, e77, e78, e43, e211, e72, e71, e278, e24, e255, e196, e2000000]) 1000 60 4 a20 tb41 = true := by decide +kernel
theorem ran42 : yieldsTrueA Tryz.prog (knWith kb 6 [e205, e59, e58, e284, e44, e45, e43, e203, e36, e35, e283, e24, e279, e196, e2000000]) 1000 60 4 a21 tb42 = true := by decide +kernel
theorem ran43 : yieldsTrueA Tryz.prog (knWith kb 6 [e213, e84, e58, e289, e77, e78, e43, e211, e72, e71, e288, e24, e279, e196, e2000000]) 1000 60 4 a21 tb43 = true := by decide +kernel
theorem ran44 : yieldsTrueA Tryz.prog (knWith kb 6 [e219, e107, e58, e106, e55, e105, e101, e102, e43, e100, e41, e98, e97, e96, e294, e24, e279, e196, e2000000]) 1000 60 4 a22 tb44 = true := by decide +kernel
end Go.Proofs.YtjclnmkdkbmjlaaGreatDoor
