/-
  Calls that are known by a run each over a small memory, whatever the numbers are that it does not tell.
  Conditions: none.
-/
import Derived.Test.YtldkbgoipmeikaaGreatDoorKnY00
open Go Go.Ab
namespace Go.Proofs.YtldkbgoipmeikaaGreatDoor
theorem ok236 : e236.ok Tryz.prog (knWith kb 6 [e92]) 6 1000 60 = true := by decide +kernel
theorem ok237 : e237.ok Tryz.prog (knWith kb 6 [e28]) 6 1000 60 = true := by decide +kernel
theorem ok239 : e239.ok Tryz.prog (knWith kb 6 [e28]) 6 1000 60 = true := by decide +kernel
theorem ok240 : e240.ok Tryz.prog (knWith kb 6 []) 6 1000 60 = true := by decide +kernel
theorem ok241 : e241.ok Tryz.prog (knWith kb 6 [e29, e240]) 6 1000 60 = true := by decide +kernel
theorem ok242 : e242.ok Tryz.prog (knWith kb 6 [e240]) 6 1000 60 = true := by decide +kernel
theorem ok243 : e243.ok Tryz.prog (knWith kb 6 [e35, e240, e242]) 6 1000 60 = true := by decide +kernel
theorem ok244 : e244.ok Tryz.prog (knWith kb 6 [e240, e243]) 6 1000 60 = true := by decide +kernel
theorem ok245 : e245.ok Tryz.prog (knWith kb 6 [e240]) 6 1000 60 = true := by decide +kernel
theorem ok246 : e246.ok Tryz.prog (knWith kb 6 [e32, e33, e40, e41, e42, e43, e44, e244, e245]) 6 1000 60 = true := by decide +kernel
theorem ok247 : e247.ok Tryz.prog (knWith kb 6 [e32, e33, e240, e246]) 6 1000 60 = true := by decide +kernel
theorem ok248 : e248.ok Tryz.prog (knWith kb 6 [e240]) 6 1000 60 = true := by decide +kernel
theorem ok249 : e249.ok Tryz.prog (knWith kb 6 [e50, e51, e52, e53, e54, e55, e56]) 6 1000 60 = true := by decide +kernel
theorem ok253 : e253.ok Tryz.prog (knWith kb 6 [e240]) 6 1000 60 = true := by decide +kernel
theorem ok254 : e254.ok Tryz.prog (knWith kb 6 [e72]) 6 1000 60 = true := by decide +kernel
theorem ok255 : e255.ok Tryz.prog (knWith kb 6 [e240]) 6 1000 60 = true := by decide +kernel
theorem ok256 : e256.ok Tryz.prog (knWith kb 6 [e61, e62, e63, e64, e65, e66, e67, e240]) 6 1000 60 = true := by decide +kernel
theorem ok259 : e259.ok Tryz.prog (knWith kb 6 [e80, e81, e240]) 6 1000 60 = true := by decide +kernel
theorem ok260 : e260.ok Tryz.prog (knWith kb 6 [e89, e240]) 6 1000 60 = true := by decide +kernel
theorem ok261 : e261.ok Tryz.prog (knWith kb 6 [e92]) 6 1000 60 = true := by decide +kernel
theorem ok262 : e262.ok Tryz.prog (knWith kb 6 [e94, e240]) 6 1000 60 = true := by decide +kernel
theorem ok263 : e263.ok Tryz.prog (knWith kb 6 [e76, e240]) 6 1000 60 = true := by decide +kernel
theorem ok264 : e264.ok Tryz.prog (knWith kb 6 [e80, e81, e82, e83, e84, e85, e86, e240]) 6 1000 60 = true := by decide +kernel
theorem ok266 : e266.ok Tryz.prog (knWith kb 6 [e50, e51, e52, e53, e54, e55, e56]) 6 1000 60 = true := by decide +kernel
theorem ok267 : e267.ok Tryz.prog (knWith kb 6 [e102, e240]) 6 1000 60 = true := by decide +kernel
theorem ok268 : e268.ok Tryz.prog (knWith kb 6 [e92]) 6 1000 60 = true := by decide +kernel
theorem ok270 : e270.ok Tryz.prog (knWith kb 6 [e110, e240]) 6 1000 60 = true := by decide +kernel
theorem ok271 : e271.ok Tryz.prog (knWith kb 6 [e98, e240]) 6 1000 60 = true := by decide +kernel
theorem ok273 : e273.ok Tryz.prog (knWith kb 6 [e61, e62, e63, e64, e65, e66, e67]) 6 1000 60 = true := by decide +kernel
theorem ok275 : e275.ok Tryz.prog (knWith kb 6 [e98, e240]) 6 1000 60 = true := by decide +kernel
theorem ok277 : e277.ok Tryz.prog (knWith kb 6 [e80, e81, e82, e83, e84, e85, e86]) 6 1000 60 = true := by decide +kernel
theorem ok279 : e279.ok Tryz.prog (knWith kb 6 [e98, e240]) 6 1000 60 = true := by decide +kernel
theorem ok280 : e280.ok Tryz.prog (knWith kb 6 [e101, e240, e267, e268]) 6 1000 60 = true := by decide +kernel
theorem ok281 : e281.ok Tryz.prog (knWith kb 6 [e118, e240]) 6 1000 60 = true := by decide +kernel
theorem ok282 : e282.ok Tryz.prog (knWith kb 6 [e120, e240]) 6 1000 60 = true := by decide +kernel
theorem ok284 : e284.ok Tryz.prog (knWith kb 6 [e50, e51, e52, e53, e54, e55, e56]) 6 1000 60 = true := by decide +kernel
theorem ok285 : e285.ok Tryz.prog (knWith kb 6 [e76, e240]) 6 1000 60 = true := by decide +kernel
theorem ok287 : e287.ok Tryz.prog (knWith kb 6 [e61, e62, e63, e64, e65, e66, e67]) 6 1000 60 = true := by decide +kernel
end Go.Proofs.YtldkbgoipmeikaaGreatDoor
