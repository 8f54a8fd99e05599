/-
  Calls that are known by a run each over a small memory, whatever the numbers are that it does not tell.
  Conditions: none.
-/
import Derived.Test.YtldkbgoipmeikaaGreatDoorKnY00
open Go Go.Ab
namespace Go.Proofs.YtldkbgoipmeikaaGreatDoor
theorem ok288 : e288.ok Tryz.prog (knWith kb 6 [e76, e240]) 6 1000 60 = true := by decide +kernel
theorem ok289 : e289.ok Tryz.prog (knWith kb 6 [e61, e62, e240]) 6 1000 60 = true := by decide +kernel
theorem ok291 : e291.ok Tryz.prog (knWith kb 6 [e80, e81, e240]) 6 1000 60 = true := by decide +kernel
theorem ok292 : e292.ok Tryz.prog (knWith kb 6 [e240]) 6 1000 60 = true := by decide +kernel
theorem ok293 : e293.ok Tryz.prog (knWith kb 6 [e92]) 6 1000 60 = true := by decide +kernel
theorem ok294 : e294.ok Tryz.prog (knWith kb 6 [e240]) 6 1000 60 = true := by decide +kernel
theorem ok296 : e296.ok Tryz.prog (knWith kb 6 [e50, e51, e52, e53, e54, e55, e56]) 6 1000 60 = true := by decide +kernel
theorem ok297 : e297.ok Tryz.prog (knWith kb 6 [e240]) 6 1000 60 = true := by decide +kernel
theorem ok298 : e298.ok Tryz.prog (knWith kb 6 [e29, e240]) 6 1000 60 = true := by decide +kernel
theorem ok299 : e299.ok Tryz.prog (knWith kb 6 [e35, e240, e242]) 6 1000 60 = true := by decide +kernel
theorem ok300 : e300.ok Tryz.prog (knWith kb 6 [e240, e299]) 6 1000 60 = true := by decide +kernel
theorem ok301 : e301.ok Tryz.prog (knWith kb 6 [e32, e33, e40, e41, e42, e43, e44, e245, e300]) 6 1000 60 = true := by decide +kernel
theorem ok302 : e302.ok Tryz.prog (knWith kb 6 [e32, e33, e240, e301]) 6 1000 60 = true := by decide +kernel
theorem ok303 : e303.ok Tryz.prog (knWith kb 6 [e240]) 6 1000 60 = true := by decide +kernel
theorem ok305 : e305.ok Tryz.prog (knWith kb 6 [e72]) 6 1000 60 = true := by decide +kernel
theorem ok306 : e306.ok Tryz.prog (knWith kb 6 [e240]) 6 1000 60 = true := by decide +kernel
theorem ok307 : e307.ok Tryz.prog (knWith kb 6 [e61, e62, e63, e64, e65, e66, e67, e240]) 6 1000 60 = true := by decide +kernel
theorem ok310 : e310.ok Tryz.prog (knWith kb 6 [e92]) 6 1000 60 = true := by decide +kernel
theorem ok311 : e311.ok Tryz.prog (knWith kb 6 [e76, e240]) 6 1000 60 = true := by decide +kernel
theorem ok312 : e312.ok Tryz.prog (knWith kb 6 [e80, e81, e82, e83, e84, e85, e86, e240]) 6 1000 60 = true := by decide +kernel
theorem ok314 : e314.ok Tryz.prog (knWith kb 6 [e92]) 6 1000 60 = true := by decide +kernel
theorem ok316 : e316.ok Tryz.prog (knWith kb 6 [e98, e240]) 6 1000 60 = true := by decide +kernel
theorem ok319 : e319.ok Tryz.prog (knWith kb 6 [e98, e240]) 6 1000 60 = true := by decide +kernel
theorem ok322 : e322.ok Tryz.prog (knWith kb 6 [e98, e240]) 6 1000 60 = true := by decide +kernel
theorem ok323 : e323.ok Tryz.prog (knWith kb 6 [e101, e240, e267, e314]) 6 1000 60 = true := by decide +kernel
theorem ok325 : e325.ok Tryz.prog (knWith kb 6 [e76, e240]) 6 1000 60 = true := by decide +kernel
theorem ok327 : e327.ok Tryz.prog (knWith kb 6 [e76, e240]) 6 1000 60 = true := by decide +kernel
theorem ok329 : e329.ok Tryz.prog (knWith kb 6 [e92]) 6 1000 60 = true := by decide +kernel
theorem ok330 : e330.ok Tryz.prog (knWith kb 6 [e240]) 6 1000 60 = true := by decide +kernel
theorem ok332 : e332.ok Tryz.prog (knWith kb 6 [e240]) 6 1000 60 = true := by decide +kernel
theorem ok333 : e333.ok Tryz.prog (knWith kb 6 [e29, e240]) 6 1000 60 = true := by decide +kernel
theorem ok334 : e334.ok Tryz.prog (knWith kb 6 [e35, e240, e242]) 6 1000 60 = true := by decide +kernel
theorem ok335 : e335.ok Tryz.prog (knWith kb 6 [e240, e334]) 6 1000 60 = true := by decide +kernel
theorem ok336 : e336.ok Tryz.prog (knWith kb 6 [e32, e33, e40, e41, e42, e43, e44, e245, e335]) 6 1000 60 = true := by decide +kernel
theorem ok337 : e337.ok Tryz.prog (knWith kb 6 [e32, e33, e240, e336]) 6 1000 60 = true := by decide +kernel
theorem ok338 : e338.ok Tryz.prog (knWith kb 6 [e240]) 6 1000 60 = true := by decide +kernel
theorem ok340 : e340.ok Tryz.prog (knWith kb 6 [e72]) 6 1000 60 = true := by decide +kernel
theorem ok341 : e341.ok Tryz.prog (knWith kb 6 [e240]) 6 1000 60 = true := by decide +kernel
end Go.Proofs.YtldkbgoipmeikaaGreatDoor
