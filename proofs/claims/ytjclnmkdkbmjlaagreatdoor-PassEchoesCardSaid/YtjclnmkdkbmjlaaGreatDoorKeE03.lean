/-
  Calls that are known by a run each over a small memory, whatever the numbers are that it does not tell.
  Conditions: none.
-/
import Derived.Test.YtjclnmkdkbmjlaaGreatDoorKeY00
open Go Go.Ab
namespace Go.Proofs.YtjclnmkdkbmjlaaGreatDoor
theorem ok72 : e72.ok Tryz.prog (knWith kb 6 []) 6 1000 60 = true := by decide +kernel
theorem ok73 : e73.ok Tryz.prog (knWith kb 6 []) 6 1000 60 = true := by decide +kernel
theorem ok74 : e74.ok Tryz.prog (knWith kb 6 []) 6 1000 60 = true := by decide +kernel
theorem ok75 : e75.ok Tryz.prog (knWith kb 6 [e74, e73]) 6 1000 60 = true := by decide +kernel
theorem ok76 : e76.ok Tryz.prog (knWith kb 6 [e75, e41, e22, e73]) 6 1000 60 = true := by decide +kernel
theorem ok77 : e77.ok Tryz.prog (knWith kb 6 []) 6 1000 60 = true := by decide +kernel
theorem ok78 : e78.ok Tryz.prog (knWith kb 6 []) 6 1000 60 = true := by decide +kernel
theorem ok79 : e79.ok Tryz.prog (knWith kb 6 []) 6 1000 60 = true := by decide +kernel
theorem ok80 : e80.ok Tryz.prog (knWith kb 6 []) 6 1000 60 = true := by decide +kernel
theorem ok81 : e81.ok Tryz.prog (knWith kb 6 [e80, e79]) 6 1000 60 = true := by decide +kernel
theorem ok82 : e82.ok Tryz.prog (knWith kb 6 []) 6 1000 60 = true := by decide +kernel
theorem ok83 : e83.ok Tryz.prog (knWith kb 6 [e51, e50, e82, e80, e55, e22, e81]) 6 1000 60 = true := by decide +kernel
theorem ok84 : e84.ok Tryz.prog (knWith kb 6 []) 6 1000 60 = true := by decide +kernel
theorem ok85 : e85.ok Tryz.prog (knWith kb 6 []) 6 1000 60 = true := by decide +kernel
theorem ok86 : e86.ok Tryz.prog (knWith kb 6 [e22, e85]) 6 1000 60 = true := by decide +kernel
theorem ok87 : e87.ok Tryz.prog (knWith kb 6 [e22]) 6 1000 60 = true := by decide +kernel
theorem ok88 : e88.ok Tryz.prog (knWith kb 6 [e87, e22, e9]) 6 1000 60 = true := by decide +kernel
theorem ok89 : e89.ok Tryz.prog (knWith kb 6 [e88, e22]) 6 1000 60 = true := by decide +kernel
theorem ok90 : e90.ok Tryz.prog (knWith kb 6 [e22, e89]) 6 1000 60 = true := by decide +kernel
theorem ok92 : e92.ok Tryz.prog (knWith kb 6 [e25]) 6 1000 60 = true := by decide +kernel
theorem ok93 : e93.ok Tryz.prog (knWith kb 6 []) 6 1000 60 = true := by decide +kernel
theorem ok94 : e94.ok Tryz.prog (knWith kb 6 [e93]) 6 1000 60 = true := by decide +kernel
theorem ok95 : e95.ok Tryz.prog (knWith kb 6 [e90, e92, e94, e22, e25]) 6 1000 60 = true := by decide +kernel
end Go.Proofs.YtjclnmkdkbmjlaaGreatDoor
