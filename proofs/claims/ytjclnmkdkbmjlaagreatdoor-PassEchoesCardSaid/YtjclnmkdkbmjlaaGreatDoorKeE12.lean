/-
  Calls that are known by a run each over a small memory, whatever the numbers are that it does not tell.
  Conditions: none.
-/
import Derived.Test.YtjclnmkdkbmjlaaGreatDoorKeY00
open Go Go.Ab
namespace Go.Proofs.YtjclnmkdkbmjlaaGreatDoor
theorem ok281 : e281.ok Tryz.prog (knWith kb 6 [e280, e196]) 6 1000 60 = true := by decide +kernel
theorem ok282 : e282.ok Tryz.prog (knWith kb 6 [e196, e281]) 6 1000 60 = true := by decide +kernel
theorem ok283 : e283.ok Tryz.prog (knWith kb 6 [e282, e31, e33, e196, e25]) 6 1000 60 = true := by decide +kernel
theorem ok284 : e284.ok Tryz.prog (knWith kb 6 [e51, e50, e49, e47, e55, e196, e48]) 6 1000 60 = true := by decide +kernel
theorem ok285 : e285.ok Tryz.prog (knWith kb 6 [e206, e196, e9]) 6 1000 60 = true := by decide +kernel
theorem ok286 : e286.ok Tryz.prog (knWith kb 6 [e285, e196]) 6 1000 60 = true := by decide +kernel
theorem ok287 : e287.ok Tryz.prog (knWith kb 6 [e196, e286]) 6 1000 60 = true := by decide +kernel
theorem ok288 : e288.ok Tryz.prog (knWith kb 6 [e287, e67, e69, e196, e25]) 6 1000 60 = true := by decide +kernel
theorem ok289 : e289.ok Tryz.prog (knWith kb 6 [e51, e50, e82, e80, e55, e196, e81]) 6 1000 60 = true := by decide +kernel
theorem ok290 : e290.ok Tryz.prog (knWith kb 6 [e196]) 6 1000 60 = true := by decide +kernel
theorem ok291 : e291.ok Tryz.prog (knWith kb 6 [e290, e196, e9]) 6 1000 60 = true := by decide +kernel
theorem ok292 : e292.ok Tryz.prog (knWith kb 6 [e291, e196]) 6 1000 60 = true := by decide +kernel
theorem ok293 : e293.ok Tryz.prog (knWith kb 6 [e196, e292]) 6 1000 60 = true := by decide +kernel
theorem ok294 : e294.ok Tryz.prog (knWith kb 6 [e293, e92, e94, e196, e25]) 6 1000 60 = true := by decide +kernel
theorem ok298 : e298.ok Tryz.prog (knWith kb 6 [e198, e9, e31, e33, e196, e25]) 6 1000 60 = true := by decide +kernel
theorem ok302 : e302.ok Tryz.prog (knWith kb 6 [e206, e9, e67, e69, e196, e25]) 6 1000 60 = true := by decide +kernel
theorem ok303 : e303.ok Tryz.prog (knWith kb 6 []) 6 1000 60 = true := by decide +kernel
end Go.Proofs.YtjclnmkdkbmjlaaGreatDoor
