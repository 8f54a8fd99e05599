/-
  Calls that are known by a run each over a small memory, whatever the numbers are that it does not tell.
  Conditions: none.
-/
import Derived.Test.YtjclnmkdkbmjlaaGreatDoorKeY00
open Go Go.Ab
namespace Go.Proofs.YtjclnmkdkbmjlaaGreatDoor
theorem ok26 : e26.ok Tryz.prog (knWith kb 6 [e22]) 6 1000 60 = true := by decide +kernel
theorem ok27 : e27.ok Tryz.prog (knWith kb 6 [e26, e22, e9]) 6 1000 60 = true := by decide +kernel
theorem ok28 : e28.ok Tryz.prog (knWith kb 6 [e27, e22]) 6 1000 60 = true := by decide +kernel
theorem ok29 : e29.ok Tryz.prog (knWith kb 6 [e22, e28]) 6 1000 60 = true := by decide +kernel
theorem ok30 : e30.ok Tryz.prog (knWith kb 6 []) 6 1000 60 = true := by decide +kernel
theorem ok31 : e31.ok Tryz.prog (knWith kb 6 [e30, e25]) 6 1000 60 = true := by decide +kernel
theorem ok32 : e32.ok Tryz.prog (knWith kb 6 []) 6 1000 60 = true := by decide +kernel
theorem ok33 : e33.ok Tryz.prog (knWith kb 6 [e32]) 6 1000 60 = true := by decide +kernel
theorem ok34 : e34.ok Tryz.prog (knWith kb 6 [e29, e31, e33, e22, e25]) 6 1000 60 = true := by decide +kernel
theorem ok35 : e35.ok Tryz.prog (knWith kb 6 []) 6 1000 60 = true := by decide +kernel
theorem ok36 : e36.ok Tryz.prog (knWith kb 6 []) 6 1000 60 = true := by decide +kernel
theorem ok37 : e37.ok Tryz.prog (knWith kb 6 []) 6 1000 60 = true := by decide +kernel
theorem ok38 : e38.ok Tryz.prog (knWith kb 6 []) 6 1000 60 = true := by decide +kernel
theorem ok39 : e39.ok Tryz.prog (knWith kb 6 [e38, e37]) 6 1000 60 = true := by decide +kernel
theorem ok40 : e40.ok Tryz.prog (knWith kb 6 []) 6 1000 60 = true := by decide +kernel
theorem ok41 : e41.ok Tryz.prog (knWith kb 6 [e40]) 6 1000 60 = true := by decide +kernel
theorem ok42 : e42.ok Tryz.prog (knWith kb 6 [e39, e41, e22, e37]) 6 1000 60 = true := by decide +kernel
theorem ok43 : e43.ok Tryz.prog (knWith kb 6 []) 6 1000 60 = true := by decide +kernel
theorem ok44 : e44.ok Tryz.prog (knWith kb 6 []) 6 1000 60 = true := by decide +kernel
theorem ok45 : e45.ok Tryz.prog (knWith kb 6 []) 6 1000 60 = true := by decide +kernel
theorem ok46 : e46.ok Tryz.prog (knWith kb 6 []) 6 1000 60 = true := by decide +kernel
theorem ok47 : e47.ok Tryz.prog (knWith kb 6 []) 6 1000 60 = true := by decide +kernel
end Go.Proofs.YtjclnmkdkbmjlaaGreatDoor
