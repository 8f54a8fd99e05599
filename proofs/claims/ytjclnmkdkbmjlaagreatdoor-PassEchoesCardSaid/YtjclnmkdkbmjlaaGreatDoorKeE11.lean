/-
  Calls that are known by a run each over a small memory, whatever the numbers are that it does not tell.
  Conditions: none.
-/
import Derived.Test.YtjclnmkdkbmjlaaGreatDoorKeY00
open Go Go.Ab
namespace Go.Proofs.YtjclnmkdkbmjlaaGreatDoor
theorem ok258 : e258.ok Tryz.prog (knWith kb 6 [e196, e257]) 6 1000 60 = true := by decide +kernel
theorem ok259 : e259.ok Tryz.prog (knWith kb 6 [e258, e31, e33, e196, e25]) 6 1000 60 = true := by decide +kernel
theorem ok260 : e260.ok Tryz.prog (knWith kb 6 [e51, e50, e49, e47, e55, e196, e48]) 6 1000 60 = true := by decide +kernel
theorem ok261 : e261.ok Tryz.prog (knWith kb 6 [e206, e196, e9]) 6 1000 60 = true := by decide +kernel
theorem ok262 : e262.ok Tryz.prog (knWith kb 6 [e261, e196]) 6 1000 60 = true := by decide +kernel
theorem ok263 : e263.ok Tryz.prog (knWith kb 6 [e196, e262]) 6 1000 60 = true := by decide +kernel
theorem ok264 : e264.ok Tryz.prog (knWith kb 6 [e263, e67, e69, e196, e25]) 6 1000 60 = true := by decide +kernel
theorem ok265 : e265.ok Tryz.prog (knWith kb 6 [e51, e50, e82, e80, e55, e196, e81]) 6 1000 60 = true := by decide +kernel
theorem ok266 : e266.ok Tryz.prog (knWith kb 6 [e196]) 6 1000 60 = true := by decide +kernel
theorem ok267 : e267.ok Tryz.prog (knWith kb 6 [e266, e196, e9]) 6 1000 60 = true := by decide +kernel
theorem ok268 : e268.ok Tryz.prog (knWith kb 6 [e267, e196]) 6 1000 60 = true := by decide +kernel
theorem ok269 : e269.ok Tryz.prog (knWith kb 6 [e196, e268]) 6 1000 60 = true := by decide +kernel
theorem ok270 : e270.ok Tryz.prog (knWith kb 6 [e269, e92, e94, e196, e25]) 6 1000 60 = true := by decide +kernel
theorem ok274 : e274.ok Tryz.prog (knWith kb 6 [e198, e9, e31, e33, e196, e25]) 6 1000 60 = true := by decide +kernel
theorem ok278 : e278.ok Tryz.prog (knWith kb 6 [e206, e9, e67, e69, e196, e25]) 6 1000 60 = true := by decide +kernel
theorem ok279 : e279.ok Tryz.prog (knWith kb 6 [e196, e0, eOpen]) 6 1000 60 = true := by decide +kernel
theorem ok280 : e280.ok Tryz.prog (knWith kb 6 [e198, e196, e9]) 6 1000 60 = true := by decide +kernel
end Go.Proofs.YtjclnmkdkbmjlaaGreatDoor
