/-
  Calls that are known by a run each over a small memory, whatever the numbers are that it does not tell.
  Conditions: none.
-/
import Derived.Test.YtldkbgoipmeikaaGreatDoorKnY00
open Go Go.Ab
namespace Go.Proofs.YtldkbgoipmeikaaGreatDoor
theorem ok75 : e75.ok Tryz.prog (knWith kb 6 [e28, e61, e62, e63, e64, e65, e66, e67]) 6 1000 60 = true := by decide +kernel
theorem ok76 : e76.okF Tryz.prog (knWith kb 6 []) 6 1000 60 (.go 15 (.pick 2 (sel [(.go 47 .fin), (.go 47 .fin)]))) = true := by decide +kernel
theorem ok78 : e78.ok Tryz.prog (knWith kb 6 []) 6 1000 60 = true := by decide +kernel
theorem ok79 : e79.ok Tryz.prog (knWith kb 6 []) 6 1000 60 = true := by decide +kernel
theorem ok80 : e80.ok Tryz.prog (knWith kb 6 []) 6 1000 60 = true := by decide +kernel
theorem ok81 : e81.ok Tryz.prog (knWith kb 6 []) 6 1000 60 = true := by decide +kernel
theorem ok82 : e82.ok Tryz.prog (knWith kb 6 []) 6 1000 60 = true := by decide +kernel
theorem ok83 : e83.ok Tryz.prog (knWith kb 6 []) 6 1000 60 = true := by decide +kernel
theorem ok84 : e84.ok Tryz.prog (knWith kb 6 []) 6 1000 60 = true := by decide +kernel
theorem ok85 : e85.ok Tryz.prog (knWith kb 6 []) 6 1000 60 = true := by decide +kernel
theorem ok86 : e86.ok Tryz.prog (knWith kb 6 []) 6 1000 60 = true := by decide +kernel
theorem ok88 : e88.ok Tryz.prog (knWith kb 6 [e28, e80, e81]) 6 1000 60 = true := by decide +kernel
theorem ok89 : e89.okF Tryz.prog (knWith kb 6 []) 6 1000 60 (.go 15 (.pick 2 (sel [(.go 60 .fin), (.go 60 .fin)]))) = true := by decide +kernel
theorem ok90 : e90.ok Tryz.prog (knWith kb 6 [e28, e89]) 6 1000 60 = true := by decide +kernel
theorem ok92 : e92.ok Tryz.prog (knWith kb 6 []) 6 1000 60 = true := by decide +kernel
theorem ok93 : e93.ok Tryz.prog (knWith kb 6 [e92]) 6 1000 60 = true := by decide +kernel
theorem ok94 : e94.okF Tryz.prog (knWith kb 6 []) 6 1000 60 (.go 15 (.pick 2 (sel [(.go 73 .fin), (.go 73 .fin)]))) = true := by decide +kernel
theorem ok95 : e95.ok Tryz.prog (knWith kb 6 [e28, e94]) 6 1000 60 = true := by decide +kernel
theorem ok96 : e96.ok Tryz.prog (knWith kb 6 [e28, e76]) 6 1000 60 = true := by decide +kernel
theorem ok97 : e97.ok Tryz.prog (knWith kb 6 [e28, e80, e81, e82, e83, e84, e85, e86]) 6 1000 60 = true := by decide +kernel
theorem ok98 : e98.okF Tryz.prog (knWith kb 6 []) 6 1000 60 (.go 15 (.pick 3 (sel [(.go 13 (.pick 2 (sel [(.go 47 .fin), (.go 47 .fin)]))), (.go 13 (.pick 2 (sel [(.go 47 .fin), (.go 47 .fin)]))), (.go 13 (.pick 2 (sel [(.go 47 .fin), (.go 47 .fin)])))]))) = true := by decide +kernel
theorem ok100 : e100.ok Tryz.prog (knWith kb 6 [e50, e51, e52, e53, e54, e55, e56]) 6 1000 60 = true := by decide +kernel
theorem ok101 : e101.okF Tryz.prog (knWith kb 6 []) 6 1000 60 (.go 15 (.pick 3 (sel [(.go 13 (.pick 2 (sel [(.go 60 .fin), (.go 60 .fin)]))), (.go 13 (.pick 2 (sel [(.go 60 .fin), (.go 60 .fin)]))), (.go 13 (.pick 2 (sel [(.go 60 .fin), (.go 60 .fin)])))]))) = true := by decide +kernel
theorem ok102 : e102.okF Tryz.prog (knWith kb 6 []) 6 1000 60 (.go 15 (.pick 2 (sel [(.go 73 .fin), (.go 73 .fin)]))) = true := by decide +kernel
theorem ok103 : e103.ok Tryz.prog (knWith kb 6 [e28, e102]) 6 1000 60 = true := by decide +kernel
theorem ok104 : e104.ok Tryz.prog (knWith kb 6 [e92]) 6 1000 60 = true := by decide +kernel
theorem ok106 : e106.ok Tryz.prog (knWith kb 6 [e28, e98]) 6 1000 60 = true := by decide +kernel
theorem ok108 : e108.ok Tryz.prog (knWith kb 6 [e61, e62, e63, e64, e65, e66, e67]) 6 1000 60 = true := by decide +kernel
theorem ok110 : e110.okF Tryz.prog (knWith kb 6 []) 6 1000 60 (.go 15 (.pick 3 (sel [(.go 13 (.pick 2 (sel [(.go 73 .fin), (.go 73 .fin)]))), (.go 13 (.pick 2 (sel [(.go 73 .fin), (.go 73 .fin)]))), (.go 13 (.pick 2 (sel [(.go 73 .fin), (.go 73 .fin)])))]))) = true := by decide +kernel
theorem ok111 : e111.ok Tryz.prog (knWith kb 6 [e28, e110]) 6 1000 60 = true := by decide +kernel
theorem ok112 : e112.ok Tryz.prog (knWith kb 6 [e28, e98]) 6 1000 60 = true := by decide +kernel
theorem ok114 : e114.ok Tryz.prog (knWith kb 6 [e80, e81, e82, e83, e84, e85, e86]) 6 1000 60 = true := by decide +kernel
theorem ok116 : e116.ok Tryz.prog (knWith kb 6 [e28, e98]) 6 1000 60 = true := by decide +kernel
theorem ok117 : e117.ok Tryz.prog (knWith kb 6 [e28, e101, e103, e104]) 6 1000 60 = true := by decide +kernel
theorem ok118 : e118.okF Tryz.prog (knWith kb 6 []) 6 1000 60 (.go 15 (.pick 3 (sel [(.go 13 (.pick 2 (sel [(.go 73 .fin), (.go 73 .fin)]))), (.go 13 (.pick 2 (sel [(.go 73 .fin), (.go 73 .fin)]))), (.go 13 (.pick 2 (sel [(.go 73 .fin), (.go 73 .fin)])))]))) = true := by decide +kernel
theorem ok119 : e119.ok Tryz.prog (knWith kb 6 [e28, e118]) 6 1000 60 = true := by decide +kernel
end Go.Proofs.YtldkbgoipmeikaaGreatDoor
