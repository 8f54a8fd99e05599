/-
  Calls that are known by a run each over a small memory, whatever the numbers are that it does not tell.
  Conditions: none.
-/
import Derived.Test.YtjclnmkdkbmjlaaGreatDoorKeY00
open Go Go.Ab
namespace Go.Proofs.YtjclnmkdkbmjlaaGreatDoor
theorem ok235 : e235.ok Tryz.prog (knWith kb 6 [e234, e31, e33, e196, e25]) 6 1000 60 = true := by decide +kernel
theorem ok236 : e236.ok Tryz.prog (knWith kb 6 [e51, e50, e49, e47, e55, e196, e48]) 6 1000 60 = true := by decide +kernel
theorem ok237 : e237.ok Tryz.prog (knWith kb 6 [e206, e196, e9]) 6 1000 60 = true := by decide +kernel
theorem ok238 : e238.ok Tryz.prog (knWith kb 6 [e237, e196]) 6 1000 60 = true := by decide +kernel
theorem ok239 : e239.ok Tryz.prog (knWith kb 6 [e196, e238]) 6 1000 60 = true := by decide +kernel
theorem ok240 : e240.ok Tryz.prog (knWith kb 6 [e239, e67, e69, e196, e25]) 6 1000 60 = true := by decide +kernel
theorem ok241 : e241.ok Tryz.prog (knWith kb 6 [e51, e50, e82, e80, e55, e196, e81]) 6 1000 60 = true := by decide +kernel
theorem ok242 : e242.ok Tryz.prog (knWith kb 6 [e196]) 6 1000 60 = true := by decide +kernel
theorem ok243 : e243.ok Tryz.prog (knWith kb 6 [e242, e196, e9]) 6 1000 60 = true := by decide +kernel
theorem ok244 : e244.ok Tryz.prog (knWith kb 6 [e243, e196]) 6 1000 60 = true := by decide +kernel
theorem ok245 : e245.ok Tryz.prog (knWith kb 6 [e196, e244]) 6 1000 60 = true := by decide +kernel
theorem ok246 : e246.ok Tryz.prog (knWith kb 6 [e245, e92, e94, e196, e25]) 6 1000 60 = true := by decide +kernel
theorem ok250 : e250.ok Tryz.prog (knWith kb 6 [e198, e9, e31, e33, e196, e25]) 6 1000 60 = true := by decide +kernel
theorem ok254 : e254.ok Tryz.prog (knWith kb 6 [e206, e9, e67, e69, e196, e25]) 6 1000 60 = true := by decide +kernel
theorem ok255 : e255.ok Tryz.prog (knWith kb 6 [e196, e0, eOpen]) 6 1000 60 = true := by decide +kernel
theorem ok256 : e256.ok Tryz.prog (knWith kb 6 [e198, e196, e9]) 6 1000 60 = true := by decide +kernel
theorem ok257 : e257.ok Tryz.prog (knWith kb 6 [e256, e196]) 6 1000 60 = true := by decide +kernel
end Go.Proofs.YtjclnmkdkbmjlaaGreatDoor
