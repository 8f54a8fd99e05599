/-
  Calls that are known by a run each over a small memory, whatever the numbers are that it does not tell.
  Conditions: none.
-/
import Derived.Test.YtfipecdimnjckaaGreatLvY01
open Go Go.Ab
namespace Go.Proofs.YtfipecdimnjckaaGreat
theorem ok269 : e269.ok Tryz.prog (knWith kb 0 [e268, e249, e6]) 0 1000 60 = true := by decide +kernel
theorem ok270 : e270.ok Tryz.prog (knWith kb 0 [e269, e249]) 0 1000 60 = true := by decide +kernel
theorem ok271 : e271.ok Tryz.prog (knWith kb 0 [e270]) 0 1000 60 = true := by decide +kernel
theorem ok272 : e272.ok Tryz.prog (knWith kb 0 [e271, e34, e249]) 0 1000 60 = true := by decide +kernel
theorem ok273 : e273.ok Tryz.prog (knWith kb 0 [e249]) 0 1000 60 = true := by decide +kernel
theorem ok274 : e274.ok Tryz.prog (knWith kb 0 [e257, e249]) 0 1000 60 = true := by decide +kernel
theorem ok275 : e275.ok Tryz.prog (knWith kb 0 [e249]) 0 1000 60 = true := by decide +kernel
theorem ok276 : e276.ok Tryz.prog (knWith kb 0 []) 0 1000 60 = true := by decide +kernel
theorem ok277 : e277.ok Tryz.prog (knWith kb 0 [e276, e1, eOpen]) 0 1000 60 = true := by decide +kernel
theorem ok278 : e278.ok Tryz.prog (knWith kb 0 []) 0 1000 60 = true := by decide +kernel
theorem ok279 : e279.ok Tryz.prog (knWith kb 0 [e276]) 0 1000 60 = true := by decide +kernel
theorem ok280 : e280.ok Tryz.prog (knWith kb 0 [e279, e276, e6, e278]) 0 1000 60 = true := by decide +kernel
theorem ok281 : e281.ok Tryz.prog (knWith kb 0 [e280, e276]) 0 1000 60 = true := by decide +kernel
theorem ok282 : e282.ok Tryz.prog (knWith kb 0 [e281]) 0 1000 60 = true := by decide +kernel
theorem ok283 : e283.ok Tryz.prog (knWith kb 0 [e282, e15, e276]) 0 1000 60 = true := by decide +kernel
theorem ok284 : e284.ok Tryz.prog (knWith kb 0 [e276]) 0 1000 60 = true := by decide +kernel
theorem ok285 : e285.ok Tryz.prog (knWith kb 0 [e22]) 0 1000 60 = true := by decide +kernel
theorem ok286 : e286.ok Tryz.prog (knWith kb 0 [e285, e276]) 0 1000 60 = true := by decide +kernel
theorem ok287 : e287.ok Tryz.prog (knWith kb 0 [e276]) 0 1000 60 = true := by decide +kernel
theorem ok288 : e288.ok Tryz.prog (knWith kb 0 [e276]) 0 1000 60 = true := by decide +kernel
theorem ok289 : e289.ok Tryz.prog (knWith kb 0 [e276]) 0 1000 60 = true := by decide +kernel
theorem ok290 : e290.ok Tryz.prog (knWith kb 0 [e289, e276, e6, e278]) 0 1000 60 = true := by decide +kernel
theorem ok291 : e291.ok Tryz.prog (knWith kb 0 [e290, e276]) 0 1000 60 = true := by decide +kernel
theorem ok292 : e292.ok Tryz.prog (knWith kb 0 [e291]) 0 1000 60 = true := by decide +kernel
theorem ok293 : e293.ok Tryz.prog (knWith kb 0 [e292, e27, e276]) 0 1000 60 = true := by decide +kernel
theorem ok294 : e294.ok Tryz.prog (knWith kb 0 [e285, e276]) 0 1000 60 = true := by decide +kernel
theorem ok295 : e295.ok Tryz.prog (knWith kb 0 [e276]) 0 1000 60 = true := by decide +kernel
theorem ok296 : e296.ok Tryz.prog (knWith kb 0 [e276]) 0 1000 60 = true := by decide +kernel
theorem ok297 : e297.ok Tryz.prog (knWith kb 0 [e296, e276, e6, e278]) 0 1000 60 = true := by decide +kernel
theorem ok298 : e298.ok Tryz.prog (knWith kb 0 [e297, e276]) 0 1000 60 = true := by decide +kernel
theorem ok299 : e299.ok Tryz.prog (knWith kb 0 [e298]) 0 1000 60 = true := by decide +kernel
theorem ok300 : e300.ok Tryz.prog (knWith kb 0 [e299, e34, e276]) 0 1000 60 = true := by decide +kernel
theorem ok301 : e301.ok Tryz.prog (knWith kb 0 [e276]) 0 1000 60 = true := by decide +kernel
theorem ok302 : e302.ok Tryz.prog (knWith kb 0 [e285, e276]) 0 1000 60 = true := by decide +kernel
theorem ok303 : e303.ok Tryz.prog (knWith kb 0 [e276]) 0 1000 60 = true := by decide +kernel
theorem ok304 : e304.ok Tryz.prog (knWith kb 0 []) 0 1000 60 = true := by decide +kernel
theorem ok305 : e305.ok Tryz.prog (knWith kb 0 [e304, e1, eOpen]) 0 1000 60 = true := by decide +kernel
theorem ok306 : e306.ok Tryz.prog (knWith kb 0 []) 0 1000 60 = true := by decide +kernel
theorem ok307 : e307.ok Tryz.prog (knWith kb 0 [e304]) 0 1000 60 = true := by decide +kernel
end Go.Proofs.YtfipecdimnjckaaGreat
