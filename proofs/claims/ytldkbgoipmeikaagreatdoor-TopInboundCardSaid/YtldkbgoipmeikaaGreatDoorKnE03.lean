/-
  Calls that are known by a run each over a small memory, whatever the numbers are that it does not tell.
  Conditions: none.
-/
import Derived.Test.YtldkbgoipmeikaaGreatDoorKnY00
open Go Go.Ab
namespace Go.Proofs.YtldkbgoipmeikaaGreatDoor
theorem ok120 : e120.okF Tryz.prog (knWith kb 6 []) 6 1000 60 (.go 15 (.pick 3 (sel [(.go 13 (.pick 2 (sel [(.go 86 .fin), (.go 86 (.ren [(36, 39)]))]))), (.go 13 (.pick 2 (sel [(.go 86 .fin), (.go 86 (.ren [(36, 39)]))]))), (.go 13 (.pick 2 (sel [(.go 86 (.ren [(36, 39)])), (.go 86 (.ren [(36, 39)]))])))]))) = true := by decide +kernel
theorem ok121 : e121.ok Tryz.prog (knWith kb 6 [e28, e120]) 6 1000 60 = true := by decide +kernel
theorem ok123 : e123.ok Tryz.prog (knWith kb 6 [e50, e51, e52, e53, e54, e55, e56]) 6 1000 60 = true := by decide +kernel
theorem ok124 : e124.ok Tryz.prog (knWith kb 6 [e28, e76]) 6 1000 60 = true := by decide +kernel
theorem ok126 : e126.ok Tryz.prog (knWith kb 6 [e61, e62, e63, e64, e65, e66, e67]) 6 1000 60 = true := by decide +kernel
theorem ok127 : e127.ok Tryz.prog (knWith kb 6 [e28, e76]) 6 1000 60 = true := by decide +kernel
theorem ok128 : e128.ok Tryz.prog (knWith kb 6 [e28, e61, e62]) 6 1000 60 = true := by decide +kernel
theorem ok130 : e130.ok Tryz.prog (knWith kb 6 [e28, e80, e81]) 6 1000 60 = true := by decide +kernel
theorem ok131 : e131.ok Tryz.prog (knWith kb 6 [e28]) 6 1000 60 = true := by decide +kernel
theorem ok132 : e132.ok Tryz.prog (knWith kb 6 [e92]) 6 1000 60 = true := by decide +kernel
theorem ok133 : e133.ok Tryz.prog (knWith kb 6 [e28]) 6 1000 60 = true := by decide +kernel
theorem ok135 : e135.ok Tryz.prog (knWith kb 6 [e50, e51, e52, e53, e54, e55, e56]) 6 1000 60 = true := by decide +kernel
theorem ok136 : e136.ok Tryz.prog (knWith kb 6 [e28]) 6 1000 60 = true := by decide +kernel
theorem ok137 : e137.ok Tryz.prog (knWith kb 6 [e28, e35, e36]) 6 1000 60 = true := by decide +kernel
theorem ok138 : e138.ok Tryz.prog (knWith kb 6 [e28, e137]) 6 1000 60 = true := by decide +kernel
theorem ok139 : e139.ok Tryz.prog (knWith kb 6 [e32, e33, e39, e40, e41, e42, e43, e44, e138]) 6 1000 60 = true := by decide +kernel
theorem ok140 : e140.ok Tryz.prog (knWith kb 6 [e28, e32, e33, e139]) 6 1000 60 = true := by decide +kernel
theorem ok141 : e141.ok Tryz.prog (knWith kb 6 [e28]) 6 1000 60 = true := by decide +kernel
theorem ok143 : e143.ok Tryz.prog (knWith kb 6 [e72]) 6 1000 60 = true := by decide +kernel
theorem ok144 : e144.ok Tryz.prog (knWith kb 6 [e28]) 6 1000 60 = true := by decide +kernel
theorem ok145 : e145.ok Tryz.prog (knWith kb 6 [e28, e61, e62, e63, e64, e65, e66, e67]) 6 1000 60 = true := by decide +kernel
theorem ok148 : e148.ok Tryz.prog (knWith kb 6 [e92]) 6 1000 60 = true := by decide +kernel
theorem ok149 : e149.ok Tryz.prog (knWith kb 6 [e28, e76]) 6 1000 60 = true := by decide +kernel
theorem ok150 : e150.ok Tryz.prog (knWith kb 6 [e28, e80, e81, e82, e83, e84, e85, e86]) 6 1000 60 = true := by decide +kernel
theorem ok152 : e152.ok Tryz.prog (knWith kb 6 [e92]) 6 1000 60 = true := by decide +kernel
theorem ok154 : e154.ok Tryz.prog (knWith kb 6 [e28, e98]) 6 1000 60 = true := by decide +kernel
theorem ok157 : e157.ok Tryz.prog (knWith kb 6 [e28, e98]) 6 1000 60 = true := by decide +kernel
theorem ok160 : e160.ok Tryz.prog (knWith kb 6 [e28, e98]) 6 1000 60 = true := by decide +kernel
theorem ok161 : e161.ok Tryz.prog (knWith kb 6 [e28, e101, e103, e152]) 6 1000 60 = true := by decide +kernel
theorem ok163 : e163.ok Tryz.prog (knWith kb 6 [e28, e76]) 6 1000 60 = true := by decide +kernel
theorem ok165 : e165.ok Tryz.prog (knWith kb 6 [e28, e76]) 6 1000 60 = true := by decide +kernel
theorem ok167 : e167.ok Tryz.prog (knWith kb 6 [e92]) 6 1000 60 = true := by decide +kernel
theorem ok168 : e168.ok Tryz.prog (knWith kb 6 [e28]) 6 1000 60 = true := by decide +kernel
theorem ok170 : e170.ok Tryz.prog (knWith kb 6 [e28]) 6 1000 60 = true := by decide +kernel
theorem ok171 : e171.ok Tryz.prog (knWith kb 6 [e28, e35, e36]) 6 1000 60 = true := by decide +kernel
end Go.Proofs.YtldkbgoipmeikaaGreatDoor
