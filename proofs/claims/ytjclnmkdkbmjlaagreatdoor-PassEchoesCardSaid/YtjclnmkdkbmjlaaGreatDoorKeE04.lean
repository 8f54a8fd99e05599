/-
  Calls that are known by a run each over a small memory, whatever the numbers are that it does not tell.
  Conditions: none.
-/
import Derived.Test.YtjclnmkdkbmjlaaGreatDoorKeY00
open Go Go.Ab
namespace Go.Proofs.YtjclnmkdkbmjlaaGreatDoor
theorem ok96 : e96.ok Tryz.prog (knWith kb 6 []) 6 1000 60 = true := by decide +kernel
theorem ok97 : e97.ok Tryz.prog (knWith kb 6 []) 6 1000 60 = true := by decide +kernel
theorem ok98 : e98.ok Tryz.prog (knWith kb 6 []) 6 1000 60 = true := by decide +kernel
theorem ok100 : e100.ok Tryz.prog (knWith kb 6 [e98]) 6 1000 60 = true := by decide +kernel
theorem ok101 : e101.ok Tryz.prog (knWith kb 6 []) 6 1000 60 = true := by decide +kernel
theorem ok102 : e102.ok Tryz.prog (knWith kb 6 []) 6 1000 60 = true := by decide +kernel
theorem ok103 : e103.ok Tryz.prog (knWith kb 6 []) 6 1000 60 = true := by decide +kernel
theorem ok104 : e104.ok Tryz.prog (knWith kb 6 []) 6 1000 60 = true := by decide +kernel
theorem ok105 : e105.ok Tryz.prog (knWith kb 6 [e104, e103]) 6 1000 60 = true := by decide +kernel
theorem ok106 : e106.ok Tryz.prog (knWith kb 6 [e50, e104, e105]) 6 1000 60 = true := by decide +kernel
theorem ok107 : e107.ok Tryz.prog (knWith kb 6 []) 6 1000 60 = true := by decide +kernel
theorem ok108 : e108.ok Tryz.prog (knWith kb 6 []) 6 1000 60 = true := by decide +kernel
theorem ok109 : e109.ok Tryz.prog (knWith kb 6 [e22, e108]) 6 1000 60 = true := by decide +kernel
theorem ok113 : e113.ok Tryz.prog (knWith kb 6 [e26, e9, e31, e33, e22, e25]) 6 1000 60 = true := by decide +kernel
theorem ok114 : e114.ok Tryz.prog (knWith kb 6 []) 6 1000 60 = true := by decide +kernel
theorem ok115 : e115.ok Tryz.prog (knWith kb 6 [e51, e50, e114, e47, e55, e22, e48]) 6 1000 60 = true := by decide +kernel
theorem ok116 : e116.ok Tryz.prog (knWith kb 6 []) 6 1000 60 = true := by decide +kernel
theorem ok117 : e117.ok Tryz.prog (knWith kb 6 [e51, e50, e116, e47, e55, e22, e48]) 6 1000 60 = true := by decide +kernel
end Go.Proofs.YtjclnmkdkbmjlaaGreatDoor
