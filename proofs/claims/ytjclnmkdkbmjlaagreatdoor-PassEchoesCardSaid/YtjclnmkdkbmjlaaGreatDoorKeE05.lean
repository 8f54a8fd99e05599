/-
  Calls that are known by a run each over a small memory, whatever the numbers are that it does not tell.
  Conditions: none.
-/
import Derived.Test.YtjclnmkdkbmjlaaGreatDoorKeY00
open Go Go.Ab
namespace Go.Proofs.YtjclnmkdkbmjlaaGreatDoor
theorem ok121 : e121.ok Tryz.prog (knWith kb 6 [e62, e9, e67, e69, e22, e25]) 6 1000 60 = true := by decide +kernel
theorem ok122 : e122.ok Tryz.prog (knWith kb 6 []) 6 1000 60 = true := by decide +kernel
theorem ok123 : e123.ok Tryz.prog (knWith kb 6 [e51, e50, e122, e80, e55, e22, e81]) 6 1000 60 = true := by decide +kernel
theorem ok124 : e124.ok Tryz.prog (knWith kb 6 [e22, e0, eOpen]) 6 1000 60 = true := by decide +kernel
theorem ok125 : e125.ok Tryz.prog (knWith kb 6 [e26, e22, e9]) 6 1000 60 = true := by decide +kernel
theorem ok126 : e126.ok Tryz.prog (knWith kb 6 [e125, e22]) 6 1000 60 = true := by decide +kernel
theorem ok127 : e127.ok Tryz.prog (knWith kb 6 [e22, e126]) 6 1000 60 = true := by decide +kernel
theorem ok128 : e128.ok Tryz.prog (knWith kb 6 [e127, e31, e33, e22, e25]) 6 1000 60 = true := by decide +kernel
theorem ok129 : e129.ok Tryz.prog (knWith kb 6 [e51, e50, e49, e47, e55, e22, e48]) 6 1000 60 = true := by decide +kernel
theorem ok130 : e130.ok Tryz.prog (knWith kb 6 [e62, e22, e9]) 6 1000 60 = true := by decide +kernel
theorem ok131 : e131.ok Tryz.prog (knWith kb 6 [e130, e22]) 6 1000 60 = true := by decide +kernel
theorem ok132 : e132.ok Tryz.prog (knWith kb 6 [e22, e131]) 6 1000 60 = true := by decide +kernel
theorem ok133 : e133.ok Tryz.prog (knWith kb 6 [e132, e67, e69, e22, e25]) 6 1000 60 = true := by decide +kernel
theorem ok134 : e134.ok Tryz.prog (knWith kb 6 [e51, e50, e82, e80, e55, e22, e81]) 6 1000 60 = true := by decide +kernel
theorem ok135 : e135.ok Tryz.prog (knWith kb 6 [e22]) 6 1000 60 = true := by decide +kernel
theorem ok136 : e136.ok Tryz.prog (knWith kb 6 [e135, e22, e9]) 6 1000 60 = true := by decide +kernel
theorem ok137 : e137.ok Tryz.prog (knWith kb 6 [e136, e22]) 6 1000 60 = true := by decide +kernel
theorem ok138 : e138.ok Tryz.prog (knWith kb 6 [e22, e137]) 6 1000 60 = true := by decide +kernel
theorem ok139 : e139.ok Tryz.prog (knWith kb 6 [e138, e92, e94, e22, e25]) 6 1000 60 = true := by decide +kernel
end Go.Proofs.YtjclnmkdkbmjlaaGreatDoor
