/-
  Calls that are known by a run each over a small memory, whatever the numbers are that it does not tell.
  Conditions: none.
-/
import Derived.Test.YtjclnmkdkbmjlaaGreatDoorKeY00
open Go Go.Ab
namespace Go.Proofs.YtjclnmkdkbmjlaaGreatDoor
theorem ok350 : e350.ok Tryz.prog (knWith kb 6 [e349, e303, e9]) 6 1000 60 = true := by decide +kernel
theorem ok351 : e351.ok Tryz.prog (knWith kb 6 [e350, e303]) 6 1000 60 = true := by decide +kernel
theorem ok352 : e352.ok Tryz.prog (knWith kb 6 [e303, e351]) 6 1000 60 = true := by decide +kernel
theorem ok353 : e353.ok Tryz.prog (knWith kb 6 [e352, e92, e94, e303, e25]) 6 1000 60 = true := by decide +kernel
theorem ok357 : e357.ok Tryz.prog (knWith kb 6 [e305, e9, e31, e33, e303, e25]) 6 1000 60 = true := by decide +kernel
theorem ok361 : e361.ok Tryz.prog (knWith kb 6 [e313, e9, e67, e69, e303, e25]) 6 1000 60 = true := by decide +kernel
theorem ok362 : e362.ok Tryz.prog (knWith kb 6 [e303, e0, eOpen]) 6 1000 60 = true := by decide +kernel
theorem ok363 : e363.ok Tryz.prog (knWith kb 6 [e305, e303, e9]) 6 1000 60 = true := by decide +kernel
theorem ok364 : e364.ok Tryz.prog (knWith kb 6 [e363, e303]) 6 1000 60 = true := by decide +kernel
theorem ok365 : e365.ok Tryz.prog (knWith kb 6 [e303, e364]) 6 1000 60 = true := by decide +kernel
theorem ok366 : e366.ok Tryz.prog (knWith kb 6 [e365, e31, e33, e303, e25]) 6 1000 60 = true := by decide +kernel
theorem ok367 : e367.ok Tryz.prog (knWith kb 6 [e51, e50, e49, e47, e55, e303, e48]) 6 1000 60 = true := by decide +kernel
theorem ok368 : e368.ok Tryz.prog (knWith kb 6 [e313, e303, e9]) 6 1000 60 = true := by decide +kernel
theorem ok369 : e369.ok Tryz.prog (knWith kb 6 [e368, e303]) 6 1000 60 = true := by decide +kernel
theorem ok370 : e370.ok Tryz.prog (knWith kb 6 [e303, e369]) 6 1000 60 = true := by decide +kernel
theorem ok371 : e371.ok Tryz.prog (knWith kb 6 [e370, e67, e69, e303, e25]) 6 1000 60 = true := by decide +kernel
end Go.Proofs.YtjclnmkdkbmjlaaGreatDoor
