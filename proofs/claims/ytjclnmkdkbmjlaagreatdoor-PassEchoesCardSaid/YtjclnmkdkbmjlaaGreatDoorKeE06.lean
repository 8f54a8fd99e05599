/-
  Calls that are known by a run each over a small memory, whatever the numbers are that it does not tell.
  Conditions: none.
-/
import Derived.Test.YtjclnmkdkbmjlaaGreatDoorKeY00
open Go Go.Ab
namespace Go.Proofs.YtjclnmkdkbmjlaaGreatDoor
theorem ok143 : e143.ok Tryz.prog (knWith kb 6 [e26, e9, e31, e33, e22, e25]) 6 1000 60 = true := by decide +kernel
theorem ok147 : e147.ok Tryz.prog (knWith kb 6 [e62, e9, e67, e69, e22, e25]) 6 1000 60 = true := by decide +kernel
theorem ok148 : e148.ok Tryz.prog (knWith kb 6 [e22, e0, eOpen]) 6 1000 60 = true := by decide +kernel
theorem ok149 : e149.ok Tryz.prog (knWith kb 6 [e26, e22, e9]) 6 1000 60 = true := by decide +kernel
theorem ok150 : e150.ok Tryz.prog (knWith kb 6 [e149, e22]) 6 1000 60 = true := by decide +kernel
theorem ok151 : e151.ok Tryz.prog (knWith kb 6 [e22, e150]) 6 1000 60 = true := by decide +kernel
theorem ok152 : e152.ok Tryz.prog (knWith kb 6 [e151, e31, e33, e22, e25]) 6 1000 60 = true := by decide +kernel
theorem ok153 : e153.ok Tryz.prog (knWith kb 6 [e51, e50, e49, e47, e55, e22, e48]) 6 1000 60 = true := by decide +kernel
theorem ok154 : e154.ok Tryz.prog (knWith kb 6 [e62, e22, e9]) 6 1000 60 = true := by decide +kernel
theorem ok155 : e155.ok Tryz.prog (knWith kb 6 [e154, e22]) 6 1000 60 = true := by decide +kernel
theorem ok156 : e156.ok Tryz.prog (knWith kb 6 [e22, e155]) 6 1000 60 = true := by decide +kernel
theorem ok157 : e157.ok Tryz.prog (knWith kb 6 [e156, e67, e69, e22, e25]) 6 1000 60 = true := by decide +kernel
theorem ok158 : e158.ok Tryz.prog (knWith kb 6 [e51, e50, e82, e80, e55, e22, e81]) 6 1000 60 = true := by decide +kernel
theorem ok159 : e159.ok Tryz.prog (knWith kb 6 [e22]) 6 1000 60 = true := by decide +kernel
theorem ok160 : e160.ok Tryz.prog (knWith kb 6 [e159, e22, e9]) 6 1000 60 = true := by decide +kernel
theorem ok161 : e161.ok Tryz.prog (knWith kb 6 [e160, e22]) 6 1000 60 = true := by decide +kernel
theorem ok162 : e162.ok Tryz.prog (knWith kb 6 [e22, e161]) 6 1000 60 = true := by decide +kernel
theorem ok163 : e163.ok Tryz.prog (knWith kb 6 [e162, e92, e94, e22, e25]) 6 1000 60 = true := by decide +kernel
end Go.Proofs.YtjclnmkdkbmjlaaGreatDoor
