/-
  Calls that are known by a run each over a small memory, whatever the numbers are that it does not tell.
  Conditions: none.
-/
import Derived.Test.YtjclnmkdkbmjlaaGreatDoorKeY00
open Go Go.Ab
namespace Go.Proofs.YtjclnmkdkbmjlaaGreatDoor
theorem ok304 : e304.ok Tryz.prog (knWith kb 6 [e303, e0, eOpen]) 6 1000 60 = true := by decide +kernel
theorem ok305 : e305.ok Tryz.prog (knWith kb 6 [e303]) 6 1000 60 = true := by decide +kernel
theorem ok306 : e306.ok Tryz.prog (knWith kb 6 [e305, e303, e9]) 6 1000 60 = true := by decide +kernel
theorem ok307 : e307.ok Tryz.prog (knWith kb 6 [e306, e303]) 6 1000 60 = true := by decide +kernel
theorem ok308 : e308.ok Tryz.prog (knWith kb 6 [e303, e307]) 6 1000 60 = true := by decide +kernel
theorem ok309 : e309.ok Tryz.prog (knWith kb 6 [e308, e31, e33, e303, e25]) 6 1000 60 = true := by decide +kernel
theorem ok310 : e310.ok Tryz.prog (knWith kb 6 [e39, e41, e303, e37]) 6 1000 60 = true := by decide +kernel
theorem ok311 : e311.ok Tryz.prog (knWith kb 6 [e51, e50, e49, e47, e55, e303, e48]) 6 1000 60 = true := by decide +kernel
theorem ok312 : e312.ok Tryz.prog (knWith kb 6 [e303, e60]) 6 1000 60 = true := by decide +kernel
theorem ok313 : e313.ok Tryz.prog (knWith kb 6 [e303]) 6 1000 60 = true := by decide +kernel
theorem ok314 : e314.ok Tryz.prog (knWith kb 6 [e313, e303, e9]) 6 1000 60 = true := by decide +kernel
theorem ok315 : e315.ok Tryz.prog (knWith kb 6 [e314, e303]) 6 1000 60 = true := by decide +kernel
theorem ok316 : e316.ok Tryz.prog (knWith kb 6 [e303, e315]) 6 1000 60 = true := by decide +kernel
theorem ok317 : e317.ok Tryz.prog (knWith kb 6 [e316, e67, e69, e303, e25]) 6 1000 60 = true := by decide +kernel
theorem ok318 : e318.ok Tryz.prog (knWith kb 6 [e75, e41, e303, e73]) 6 1000 60 = true := by decide +kernel
theorem ok319 : e319.ok Tryz.prog (knWith kb 6 [e51, e50, e82, e80, e55, e303, e81]) 6 1000 60 = true := by decide +kernel
theorem ok320 : e320.ok Tryz.prog (knWith kb 6 [e303, e85]) 6 1000 60 = true := by decide +kernel
theorem ok321 : e321.ok Tryz.prog (knWith kb 6 [e303]) 6 1000 60 = true := by decide +kernel
theorem ok322 : e322.ok Tryz.prog (knWith kb 6 [e321, e303, e9]) 6 1000 60 = true := by decide +kernel
theorem ok323 : e323.ok Tryz.prog (knWith kb 6 [e322, e303]) 6 1000 60 = true := by decide +kernel
theorem ok324 : e324.ok Tryz.prog (knWith kb 6 [e303, e323]) 6 1000 60 = true := by decide +kernel
theorem ok325 : e325.ok Tryz.prog (knWith kb 6 [e324, e92, e94, e303, e25]) 6 1000 60 = true := by decide +kernel
theorem ok326 : e326.ok Tryz.prog (knWith kb 6 [e303, e108]) 6 1000 60 = true := by decide +kernel
end Go.Proofs.YtjclnmkdkbmjlaaGreatDoor
