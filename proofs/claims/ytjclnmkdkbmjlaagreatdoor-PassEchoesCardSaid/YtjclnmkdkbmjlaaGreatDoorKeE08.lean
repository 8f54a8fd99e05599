/-
  Calls that are known by a run each over a small memory, whatever the numbers are that it does not tell.
  Conditions: none.
-/
import Derived.Test.YtjclnmkdkbmjlaaGreatDoorKeY00
open Go Go.Ab
namespace Go.Proofs.YtjclnmkdkbmjlaaGreatDoor
theorem ok191 : e191.ok Tryz.prog (knWith kb 6 [e26, e9, e31, e33, e22, e25]) 6 1000 60 = true := by decide +kernel
theorem ok195 : e195.ok Tryz.prog (knWith kb 6 [e62, e9, e67, e69, e22, e25]) 6 1000 60 = true := by decide +kernel
theorem ok196 : e196.ok Tryz.prog (knWith kb 6 []) 6 1000 60 = true := by decide +kernel
theorem ok197 : e197.ok Tryz.prog (knWith kb 6 [e196, e0, eOpen]) 6 1000 60 = true := by decide +kernel
theorem ok198 : e198.ok Tryz.prog (knWith kb 6 [e196]) 6 1000 60 = true := by decide +kernel
theorem ok199 : e199.ok Tryz.prog (knWith kb 6 [e198, e196, e9]) 6 1000 60 = true := by decide +kernel
theorem ok200 : e200.ok Tryz.prog (knWith kb 6 [e199, e196]) 6 1000 60 = true := by decide +kernel
theorem ok201 : e201.ok Tryz.prog (knWith kb 6 [e196, e200]) 6 1000 60 = true := by decide +kernel
theorem ok202 : e202.ok Tryz.prog (knWith kb 6 [e201, e31, e33, e196, e25]) 6 1000 60 = true := by decide +kernel
theorem ok203 : e203.ok Tryz.prog (knWith kb 6 [e39, e41, e196, e37]) 6 1000 60 = true := by decide +kernel
theorem ok204 : e204.ok Tryz.prog (knWith kb 6 [e51, e50, e49, e47, e55, e196, e48]) 6 1000 60 = true := by decide +kernel
theorem ok205 : e205.ok Tryz.prog (knWith kb 6 [e196, e60]) 6 1000 60 = true := by decide +kernel
theorem ok206 : e206.ok Tryz.prog (knWith kb 6 [e196]) 6 1000 60 = true := by decide +kernel
theorem ok207 : e207.ok Tryz.prog (knWith kb 6 [e206, e196, e9]) 6 1000 60 = true := by decide +kernel
theorem ok208 : e208.ok Tryz.prog (knWith kb 6 [e207, e196]) 6 1000 60 = true := by decide +kernel
theorem ok209 : e209.ok Tryz.prog (knWith kb 6 [e196, e208]) 6 1000 60 = true := by decide +kernel
theorem ok210 : e210.ok Tryz.prog (knWith kb 6 [e209, e67, e69, e196, e25]) 6 1000 60 = true := by decide +kernel
end Go.Proofs.YtjclnmkdkbmjlaaGreatDoor
