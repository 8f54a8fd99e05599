/-
  Calls that are known by a run each over a small memory, whatever the numbers are that it does not tell.
  Conditions: none.
-/
import Derived.Test.YtjclnmkdkbmjlaaGreatDoorKeY00
open Go Go.Ab
namespace Go.Proofs.YtjclnmkdkbmjlaaGreatDoor
theorem ok211 : e211.ok Tryz.prog (knWith kb 6 [e75, e41, e196, e73]) 6 1000 60 = true := by decide +kernel
theorem ok212 : e212.ok Tryz.prog (knWith kb 6 [e51, e50, e82, e80, e55, e196, e81]) 6 1000 60 = true := by decide +kernel
theorem ok213 : e213.ok Tryz.prog (knWith kb 6 [e196, e85]) 6 1000 60 = true := by decide +kernel
theorem ok214 : e214.ok Tryz.prog (knWith kb 6 [e196]) 6 1000 60 = true := by decide +kernel
theorem ok215 : e215.ok Tryz.prog (knWith kb 6 [e214, e196, e9]) 6 1000 60 = true := by decide +kernel
theorem ok216 : e216.ok Tryz.prog (knWith kb 6 [e215, e196]) 6 1000 60 = true := by decide +kernel
theorem ok217 : e217.ok Tryz.prog (knWith kb 6 [e196, e216]) 6 1000 60 = true := by decide +kernel
theorem ok218 : e218.ok Tryz.prog (knWith kb 6 [e217, e92, e94, e196, e25]) 6 1000 60 = true := by decide +kernel
theorem ok219 : e219.ok Tryz.prog (knWith kb 6 [e196, e108]) 6 1000 60 = true := by decide +kernel
theorem ok223 : e223.ok Tryz.prog (knWith kb 6 [e198, e9, e31, e33, e196, e25]) 6 1000 60 = true := by decide +kernel
theorem ok224 : e224.ok Tryz.prog (knWith kb 6 [e51, e50, e114, e47, e55, e196, e48]) 6 1000 60 = true := by decide +kernel
theorem ok225 : e225.ok Tryz.prog (knWith kb 6 [e51, e50, e116, e47, e55, e196, e48]) 6 1000 60 = true := by decide +kernel
theorem ok229 : e229.ok Tryz.prog (knWith kb 6 [e206, e9, e67, e69, e196, e25]) 6 1000 60 = true := by decide +kernel
theorem ok230 : e230.ok Tryz.prog (knWith kb 6 [e51, e50, e122, e80, e55, e196, e81]) 6 1000 60 = true := by decide +kernel
theorem ok231 : e231.ok Tryz.prog (knWith kb 6 [e196, e0, eOpen]) 6 1000 60 = true := by decide +kernel
theorem ok232 : e232.ok Tryz.prog (knWith kb 6 [e198, e196, e9]) 6 1000 60 = true := by decide +kernel
theorem ok233 : e233.ok Tryz.prog (knWith kb 6 [e232, e196]) 6 1000 60 = true := by decide +kernel
theorem ok234 : e234.ok Tryz.prog (knWith kb 6 [e196, e233]) 6 1000 60 = true := by decide +kernel
end Go.Proofs.YtjclnmkdkbmjlaaGreatDoor
