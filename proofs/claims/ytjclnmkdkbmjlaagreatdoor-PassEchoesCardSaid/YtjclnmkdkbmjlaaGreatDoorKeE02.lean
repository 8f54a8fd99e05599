/-
  Calls that are known by a run each over a small memory, whatever the numbers are that it does not tell.
  Conditions: none.
-/
import Derived.Test.YtjclnmkdkbmjlaaGreatDoorKeY00
open Go Go.Ab
namespace Go.Proofs.YtjclnmkdkbmjlaaGreatDoor
theorem ok48 : e48.ok Tryz.prog (knWith kb 6 [e47, e46]) 6 1000 60 = true := by decide +kernel
theorem ok49 : e49.ok Tryz.prog (knWith kb 6 []) 6 1000 60 = true := by decide +kernel
theorem ok50 : e50.ok Tryz.prog (knWith kb 6 []) 6 1000 60 = true := by decide +kernel
theorem ok51 : e51.ok Tryz.prog (knWith kb 6 []) 6 1000 60 = true := by decide +kernel
theorem ok52 : e52.ok Tryz.prog (knWith kb 6 []) 6 1000 60 = true := by decide +kernel
theorem ok53 : e53.ok Tryz.prog (knWith kb 6 []) 6 1000 60 = true := by decide +kernel
theorem ok54 : e54.ok Tryz.prog (knWith kb 6 [e53, e52]) 6 1000 60 = true := by decide +kernel
theorem ok55 : e55.ok Tryz.prog (knWith kb 6 [e54]) 6 1000 60 = true := by decide +kernel
theorem ok56 : e56.ok Tryz.prog (knWith kb 6 [e51, e50, e49, e47, e55, e22, e48]) 6 1000 60 = true := by decide +kernel
theorem ok57 : e57.ok Tryz.prog (knWith kb 6 []) 6 1000 60 = true := by decide +kernel
theorem ok58 : e58.ok Tryz.prog (knWith kb 6 [e53, e57]) 6 1000 60 = true := by decide +kernel
theorem ok59 : e59.ok Tryz.prog (knWith kb 6 []) 6 1000 60 = true := by decide +kernel
theorem ok60 : e60.ok Tryz.prog (knWith kb 6 []) 6 1000 60 = true := by decide +kernel
theorem ok61 : e61.ok Tryz.prog (knWith kb 6 [e22, e60]) 6 1000 60 = true := by decide +kernel
theorem ok62 : e62.ok Tryz.prog (knWith kb 6 [e22]) 6 1000 60 = true := by decide +kernel
theorem ok63 : e63.ok Tryz.prog (knWith kb 6 [e62, e22, e9]) 6 1000 60 = true := by decide +kernel
theorem ok64 : e64.ok Tryz.prog (knWith kb 6 [e63, e22]) 6 1000 60 = true := by decide +kernel
theorem ok65 : e65.ok Tryz.prog (knWith kb 6 [e22, e64]) 6 1000 60 = true := by decide +kernel
theorem ok66 : e66.ok Tryz.prog (knWith kb 6 []) 6 1000 60 = true := by decide +kernel
theorem ok67 : e67.ok Tryz.prog (knWith kb 6 [e66, e25]) 6 1000 60 = true := by decide +kernel
theorem ok68 : e68.ok Tryz.prog (knWith kb 6 []) 6 1000 60 = true := by decide +kernel
theorem ok69 : e69.ok Tryz.prog (knWith kb 6 [e68]) 6 1000 60 = true := by decide +kernel
theorem ok70 : e70.ok Tryz.prog (knWith kb 6 [e65, e67, e69, e22, e25]) 6 1000 60 = true := by decide +kernel
theorem ok71 : e71.ok Tryz.prog (knWith kb 6 []) 6 1000 60 = true := by decide +kernel
end Go.Proofs.YtjclnmkdkbmjlaaGreatDoor
