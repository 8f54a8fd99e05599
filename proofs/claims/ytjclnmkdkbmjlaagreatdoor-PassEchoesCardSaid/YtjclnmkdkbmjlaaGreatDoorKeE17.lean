/-
  Calls that are known by a run each over a small memory, whatever the numbers are that it does not tell.
  Conditions: none.
-/
import Derived.Test.YtjclnmkdkbmjlaaGreatDoorKeY00
open Go Go.Ab
namespace Go.Proofs.YtjclnmkdkbmjlaaGreatDoor
theorem ok394 : e394.ok Tryz.prog (knWith kb 6 [e303, e393]) 6 1000 60 = true := by decide +kernel
theorem ok395 : e395.ok Tryz.prog (knWith kb 6 [e394, e67, e69, e303, e25]) 6 1000 60 = true := by decide +kernel
theorem ok396 : e396.ok Tryz.prog (knWith kb 6 [e51, e50, e82, e80, e55, e303, e81]) 6 1000 60 = true := by decide +kernel
theorem ok397 : e397.ok Tryz.prog (knWith kb 6 [e303]) 6 1000 60 = true := by decide +kernel
theorem ok398 : e398.ok Tryz.prog (knWith kb 6 [e397, e303, e9]) 6 1000 60 = true := by decide +kernel
theorem ok399 : e399.ok Tryz.prog (knWith kb 6 [e398, e303]) 6 1000 60 = true := by decide +kernel
theorem ok400 : e400.ok Tryz.prog (knWith kb 6 [e303, e399]) 6 1000 60 = true := by decide +kernel
theorem ok401 : e401.ok Tryz.prog (knWith kb 6 [e400, e92, e94, e303, e25]) 6 1000 60 = true := by decide +kernel
theorem ok405 : e405.ok Tryz.prog (knWith kb 6 [e305, e9, e31, e33, e303, e25]) 6 1000 60 = true := by decide +kernel
theorem ok409 : e409.ok Tryz.prog (knWith kb 6 [e313, e9, e67, e69, e303, e25]) 6 1000 60 = true := by decide +kernel
end Go.Proofs.YtjclnmkdkbmjlaaGreatDoor
