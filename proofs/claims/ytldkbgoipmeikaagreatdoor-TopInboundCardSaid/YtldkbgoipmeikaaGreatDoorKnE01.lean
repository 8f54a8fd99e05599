/-
  Calls that are known by a run each over a small memory, whatever the numbers are that it does not tell.
  Conditions: none.
-/
import Derived.Test.YtldkbgoipmeikaaGreatDoorKnY00
open Go Go.Ab
namespace Go.Proofs.YtldkbgoipmeikaaGreatDoor
theorem ok35 : e35.ok Tryz.prog (knWith kb 6 [e34]) 6 1000 60 = true := by decide +kernel
theorem ok36 : e36.ok Tryz.prog (knWith kb 6 [e28]) 6 1000 60 = true := by decide +kernel
theorem ok37 : e37.ok Tryz.prog (knWith kb 6 [e28, e35, e36]) 6 1000 60 = true := by decide +kernel
theorem ok38 : e38.ok Tryz.prog (knWith kb 6 [e28, e37]) 6 1000 60 = true := by decide +kernel
theorem ok39 : e39.ok Tryz.prog (knWith kb 6 [e28]) 6 1000 60 = true := by decide +kernel
theorem ok40 : e40.ok Tryz.prog (knWith kb 6 []) 6 1000 60 = true := by decide +kernel
theorem ok41 : e41.ok Tryz.prog (knWith kb 6 []) 6 1000 60 = true := by decide +kernel
theorem ok42 : e42.ok Tryz.prog (knWith kb 6 []) 6 1000 60 = true := by decide +kernel
theorem ok43 : e43.ok Tryz.prog (knWith kb 6 []) 6 1000 60 = true := by decide +kernel
theorem ok44 : e44.ok Tryz.prog (knWith kb 6 []) 6 1000 60 = true := by decide +kernel
theorem ok45 : e45.ok Tryz.prog (knWith kb 6 [e32, e33, e38, e39, e40, e41, e42, e43, e44]) 6 1000 60 = true := by decide +kernel
theorem ok46 : e46.ok Tryz.prog (knWith kb 6 [e28, e32, e33, e45]) 6 1000 60 = true := by decide +kernel
theorem ok47 : e47.ok Tryz.prog (knWith kb 6 [e28]) 6 1000 60 = true := by decide +kernel
theorem ok48 : e48.ok Tryz.prog (knWith kb 6 []) 6 1000 60 = true := by decide +kernel
theorem ok49 : e49.ok Tryz.prog (knWith kb 6 []) 6 1000 60 = true := by decide +kernel
theorem ok50 : e50.ok Tryz.prog (knWith kb 6 []) 6 1000 60 = true := by decide +kernel
theorem ok51 : e51.ok Tryz.prog (knWith kb 6 []) 6 1000 60 = true := by decide +kernel
theorem ok52 : e52.ok Tryz.prog (knWith kb 6 []) 6 1000 60 = true := by decide +kernel
theorem ok53 : e53.ok Tryz.prog (knWith kb 6 []) 6 1000 60 = true := by decide +kernel
theorem ok54 : e54.ok Tryz.prog (knWith kb 6 []) 6 1000 60 = true := by decide +kernel
theorem ok55 : e55.ok Tryz.prog (knWith kb 6 []) 6 1000 60 = true := by decide +kernel
theorem ok56 : e56.ok Tryz.prog (knWith kb 6 []) 6 1000 60 = true := by decide +kernel
theorem ok57 : e57.ok Tryz.prog (knWith kb 6 [e50, e51, e52, e53, e54, e55, e56]) 6 1000 60 = true := by decide +kernel
theorem ok59 : e59.ok Tryz.prog (knWith kb 6 []) 6 1000 60 = true := by decide +kernel
theorem ok60 : e60.ok Tryz.prog (knWith kb 6 []) 6 1000 60 = true := by decide +kernel
theorem ok61 : e61.ok Tryz.prog (knWith kb 6 []) 6 1000 60 = true := by decide +kernel
theorem ok62 : e62.ok Tryz.prog (knWith kb 6 []) 6 1000 60 = true := by decide +kernel
theorem ok63 : e63.ok Tryz.prog (knWith kb 6 []) 6 1000 60 = true := by decide +kernel
theorem ok64 : e64.ok Tryz.prog (knWith kb 6 []) 6 1000 60 = true := by decide +kernel
theorem ok65 : e65.ok Tryz.prog (knWith kb 6 []) 6 1000 60 = true := by decide +kernel
theorem ok66 : e66.ok Tryz.prog (knWith kb 6 []) 6 1000 60 = true := by decide +kernel
theorem ok67 : e67.ok Tryz.prog (knWith kb 6 []) 6 1000 60 = true := by decide +kernel
theorem ok70 : e70.ok Tryz.prog (knWith kb 6 [e28]) 6 1000 60 = true := by decide +kernel
theorem ok71 : e71.ok Tryz.prog (knWith kb 6 []) 6 1000 60 = true := by decide +kernel
theorem ok72 : e72.ok Tryz.prog (knWith kb 6 [e71]) 6 1000 60 = true := by decide +kernel
theorem ok73 : e73.ok Tryz.prog (knWith kb 6 [e72]) 6 1000 60 = true := by decide +kernel
theorem ok74 : e74.ok Tryz.prog (knWith kb 6 [e28]) 6 1000 60 = true := by decide +kernel
end Go.Proofs.YtldkbgoipmeikaaGreatDoor
