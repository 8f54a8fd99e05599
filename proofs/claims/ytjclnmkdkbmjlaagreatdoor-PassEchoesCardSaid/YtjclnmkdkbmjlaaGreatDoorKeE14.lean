/-
  Calls that are known by a run each over a small memory, whatever the numbers are that it does not tell.
  Conditions: none.
-/
import Derived.Test.YtjclnmkdkbmjlaaGreatDoorKeY00
open Go Go.Ab
namespace Go.Proofs.YtjclnmkdkbmjlaaGreatDoor
theorem ok330 : e330.ok Tryz.prog (knWith kb 6 [e305, e9, e31, e33, e303, e25]) 6 1000 60 = true := by decide +kernel
theorem ok331 : e331.ok Tryz.prog (knWith kb 6 [e51, e50, e114, e47, e55, e303, e48]) 6 1000 60 = true := by decide +kernel
theorem ok332 : e332.ok Tryz.prog (knWith kb 6 [e51, e50, e116, e47, e55, e303, e48]) 6 1000 60 = true := by decide +kernel
theorem ok336 : e336.ok Tryz.prog (knWith kb 6 [e313, e9, e67, e69, e303, e25]) 6 1000 60 = true := by decide +kernel
theorem ok337 : e337.ok Tryz.prog (knWith kb 6 [e51, e50, e122, e80, e55, e303, e81]) 6 1000 60 = true := by decide +kernel
theorem ok338 : e338.ok Tryz.prog (knWith kb 6 [e303, e0, eOpen]) 6 1000 60 = true := by decide +kernel
theorem ok339 : e339.ok Tryz.prog (knWith kb 6 [e305, e303, e9]) 6 1000 60 = true := by decide +kernel
theorem ok340 : e340.ok Tryz.prog (knWith kb 6 [e339, e303]) 6 1000 60 = true := by decide +kernel
theorem ok341 : e341.ok Tryz.prog (knWith kb 6 [e303, e340]) 6 1000 60 = true := by decide +kernel
theorem ok342 : e342.ok Tryz.prog (knWith kb 6 [e341, e31, e33, e303, e25]) 6 1000 60 = true := by decide +kernel
theorem ok343 : e343.ok Tryz.prog (knWith kb 6 [e51, e50, e49, e47, e55, e303, e48]) 6 1000 60 = true := by decide +kernel
theorem ok344 : e344.ok Tryz.prog (knWith kb 6 [e313, e303, e9]) 6 1000 60 = true := by decide +kernel
theorem ok345 : e345.ok Tryz.prog (knWith kb 6 [e344, e303]) 6 1000 60 = true := by decide +kernel
theorem ok346 : e346.ok Tryz.prog (knWith kb 6 [e303, e345]) 6 1000 60 = true := by decide +kernel
theorem ok347 : e347.ok Tryz.prog (knWith kb 6 [e346, e67, e69, e303, e25]) 6 1000 60 = true := by decide +kernel
theorem ok348 : e348.ok Tryz.prog (knWith kb 6 [e51, e50, e82, e80, e55, e303, e81]) 6 1000 60 = true := by decide +kernel
theorem ok349 : e349.ok Tryz.prog (knWith kb 6 [e303]) 6 1000 60 = true := by decide +kernel
end Go.Proofs.YtjclnmkdkbmjlaaGreatDoor
