/-
  Calls that are known by a run each over a small memory, whatever the numbers are that it does not tell.
  Conditions: none.
-/
import Derived.Test.YtjclnmkdkbmjlaaGreatDoorKeY00
open Go Go.Ab
namespace Go.Proofs.YtjclnmkdkbmjlaaGreatDoor
theorem ok372 : e372.ok Tryz.prog (knWith kb 6 [e51, e50, e82, e80, e55, e303, e81]) 6 1000 60 = true := by decide +kernel
theorem ok373 : e373.ok Tryz.prog (knWith kb 6 [e303]) 6 1000 60 = true := by decide +kernel
theorem ok374 : e374.ok Tryz.prog (knWith kb 6 [e373, e303, e9]) 6 1000 60 = true := by decide +kernel
theorem ok375 : e375.ok Tryz.prog (knWith kb 6 [e374, e303]) 6 1000 60 = true := by decide +kernel
theorem ok376 : e376.ok Tryz.prog (knWith kb 6 [e303, e375]) 6 1000 60 = true := by decide +kernel
theorem ok377 : e377.ok Tryz.prog (knWith kb 6 [e376, e92, e94, e303, e25]) 6 1000 60 = true := by decide +kernel
theorem ok381 : e381.ok Tryz.prog (knWith kb 6 [e305, e9, e31, e33, e303, e25]) 6 1000 60 = true := by decide +kernel
theorem ok385 : e385.ok Tryz.prog (knWith kb 6 [e313, e9, e67, e69, e303, e25]) 6 1000 60 = true := by decide +kernel
theorem ok386 : e386.ok Tryz.prog (knWith kb 6 [e303, e0, eOpen]) 6 1000 60 = true := by decide +kernel
theorem ok387 : e387.ok Tryz.prog (knWith kb 6 [e305, e303, e9]) 6 1000 60 = true := by decide +kernel
theorem ok388 : e388.ok Tryz.prog (knWith kb 6 [e387, e303]) 6 1000 60 = true := by decide +kernel
theorem ok389 : e389.ok Tryz.prog (knWith kb 6 [e303, e388]) 6 1000 60 = true := by decide +kernel
theorem ok390 : e390.ok Tryz.prog (knWith kb 6 [e389, e31, e33, e303, e25]) 6 1000 60 = true := by decide +kernel
theorem ok391 : e391.ok Tryz.prog (knWith kb 6 [e51, e50, e49, e47, e55, e303, e48]) 6 1000 60 = true := by decide +kernel
theorem ok392 : e392.ok Tryz.prog (knWith kb 6 [e313, e303, e9]) 6 1000 60 = true := by decide +kernel
theorem ok393 : e393.ok Tryz.prog (knWith kb 6 [e392, e303]) 6 1000 60 = true := by decide +kernel
end Go.Proofs.YtjclnmkdkbmjlaaGreatDoor
