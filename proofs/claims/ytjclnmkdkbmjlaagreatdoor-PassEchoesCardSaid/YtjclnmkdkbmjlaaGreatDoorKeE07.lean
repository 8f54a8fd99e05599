/-
  Calls that are known by a run each over a small memory, whatever the numbers are that it does not tell.
  Conditions: none.
-/
import Derived.Test.YtjclnmkdkbmjlaaGreatDoorKeY00
open Go Go.Ab
namespace Go.Proofs.YtjclnmkdkbmjlaaGreatDoor
theorem ok167 : e167.ok Tryz.prog (knWith kb 6 [e26, e9, e31, e33, e22, e25]) 6 1000 60 = true := by decide +kernel
theorem ok171 : e171.ok Tryz.prog (knWith kb 6 [e62, e9, e67, e69, e22, e25]) 6 1000 60 = true := by decide +kernel
theorem ok172 : e172.ok Tryz.prog (knWith kb 6 [e22, e0, eOpen]) 6 1000 60 = true := by decide +kernel
theorem ok173 : e173.ok Tryz.prog (knWith kb 6 [e26, e22, e9]) 6 1000 60 = true := by decide +kernel
theorem ok174 : e174.ok Tryz.prog (knWith kb 6 [e173, e22]) 6 1000 60 = true := by decide +kernel
theorem ok175 : e175.ok Tryz.prog (knWith kb 6 [e22, e174]) 6 1000 60 = true := by decide +kernel
theorem ok176 : e176.ok Tryz.prog (knWith kb 6 [e175, e31, e33, e22, e25]) 6 1000 60 = true := by decide +kernel
theorem ok177 : e177.ok Tryz.prog (knWith kb 6 [e51, e50, e49, e47, e55, e22, e48]) 6 1000 60 = true := by decide +kernel
theorem ok178 : e178.ok Tryz.prog (knWith kb 6 [e62, e22, e9]) 6 1000 60 = true := by decide +kernel
theorem ok179 : e179.ok Tryz.prog (knWith kb 6 [e178, e22]) 6 1000 60 = true := by decide +kernel
theorem ok180 : e180.ok Tryz.prog (knWith kb 6 [e22, e179]) 6 1000 60 = true := by decide +kernel
theorem ok181 : e181.ok Tryz.prog (knWith kb 6 [e180, e67, e69, e22, e25]) 6 1000 60 = true := by decide +kernel
theorem ok182 : e182.ok Tryz.prog (knWith kb 6 [e51, e50, e82, e80, e55, e22, e81]) 6 1000 60 = true := by decide +kernel
theorem ok183 : e183.ok Tryz.prog (knWith kb 6 [e22]) 6 1000 60 = true := by decide +kernel
theorem ok184 : e184.ok Tryz.prog (knWith kb 6 [e183, e22, e9]) 6 1000 60 = true := by decide +kernel
theorem ok185 : e185.ok Tryz.prog (knWith kb 6 [e184, e22]) 6 1000 60 = true := by decide +kernel
theorem ok186 : e186.ok Tryz.prog (knWith kb 6 [e22, e185]) 6 1000 60 = true := by decide +kernel
theorem ok187 : e187.ok Tryz.prog (knWith kb 6 [e186, e92, e94, e22, e25]) 6 1000 60 = true := by decide +kernel
end Go.Proofs.YtjclnmkdkbmjlaaGreatDoor
