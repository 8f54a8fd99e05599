/-
  Calls that are known by a run each over a small memory, whatever the numbers are that it does not tell.
  Conditions: none.
-/
import Derived.Test.YtfipecdimnjckaaGreatLvY01
open Go Go.Ab
namespace Go.Proofs.YtfipecdimnjckaaGreat
theorem ok231 : e231.ok Tryz.prog (knWith kb 0 [e230, e222]) 0 1000 60 = true := by decide +kernel
theorem ok232 : e232.ok Tryz.prog (knWith kb 0 [e222]) 0 1000 60 = true := by decide +kernel
theorem ok233 : e233.ok Tryz.prog (knWith kb 0 [e222]) 0 1000 60 = true := by decide +kernel
theorem ok234 : e234.ok Tryz.prog (knWith kb 0 [e222]) 0 1000 60 = true := by decide +kernel
theorem ok235 : e235.ok Tryz.prog (knWith kb 0 [e234, e222, e6]) 0 1000 60 = true := by decide +kernel
theorem ok236 : e236.ok Tryz.prog (knWith kb 0 [e235, e222]) 0 1000 60 = true := by decide +kernel
theorem ok237 : e237.ok Tryz.prog (knWith kb 0 [e236]) 0 1000 60 = true := by decide +kernel
theorem ok238 : e238.ok Tryz.prog (knWith kb 0 [e237, e27, e222]) 0 1000 60 = true := by decide +kernel
theorem ok239 : e239.ok Tryz.prog (knWith kb 0 [e230, e222]) 0 1000 60 = true := by decide +kernel
theorem ok240 : e240.ok Tryz.prog (knWith kb 0 [e222]) 0 1000 60 = true := by decide +kernel
theorem ok241 : e241.ok Tryz.prog (knWith kb 0 [e222]) 0 1000 60 = true := by decide +kernel
theorem ok242 : e242.ok Tryz.prog (knWith kb 0 [e241, e222, e6]) 0 1000 60 = true := by decide +kernel
theorem ok243 : e243.ok Tryz.prog (knWith kb 0 [e242, e222]) 0 1000 60 = true := by decide +kernel
theorem ok244 : e244.ok Tryz.prog (knWith kb 0 [e243]) 0 1000 60 = true := by decide +kernel
theorem ok245 : e245.ok Tryz.prog (knWith kb 0 [e244, e34, e222]) 0 1000 60 = true := by decide +kernel
theorem ok246 : e246.ok Tryz.prog (knWith kb 0 [e222]) 0 1000 60 = true := by decide +kernel
theorem ok247 : e247.ok Tryz.prog (knWith kb 0 [e230, e222]) 0 1000 60 = true := by decide +kernel
theorem ok248 : e248.ok Tryz.prog (knWith kb 0 [e222]) 0 1000 60 = true := by decide +kernel
theorem ok249 : e249.ok Tryz.prog (knWith kb 0 []) 0 1000 60 = true := by decide +kernel
theorem ok250 : e250.ok Tryz.prog (knWith kb 0 [e249, e1, eOpen]) 0 1000 60 = true := by decide +kernel
theorem ok251 : e251.ok Tryz.prog (knWith kb 0 [e249]) 0 1000 60 = true := by decide +kernel
theorem ok252 : e252.ok Tryz.prog (knWith kb 0 [e251, e249, e6]) 0 1000 60 = true := by decide +kernel
theorem ok253 : e253.ok Tryz.prog (knWith kb 0 [e252, e249]) 0 1000 60 = true := by decide +kernel
theorem ok254 : e254.ok Tryz.prog (knWith kb 0 [e253]) 0 1000 60 = true := by decide +kernel
theorem ok255 : e255.ok Tryz.prog (knWith kb 0 [e254, e15, e249]) 0 1000 60 = true := by decide +kernel
theorem ok256 : e256.ok Tryz.prog (knWith kb 0 [e249]) 0 1000 60 = true := by decide +kernel
theorem ok257 : e257.ok Tryz.prog (knWith kb 0 [e22]) 0 1000 60 = true := by decide +kernel
theorem ok258 : e258.ok Tryz.prog (knWith kb 0 [e257, e249]) 0 1000 60 = true := by decide +kernel
theorem ok259 : e259.ok Tryz.prog (knWith kb 0 [e249]) 0 1000 60 = true := by decide +kernel
theorem ok260 : e260.ok Tryz.prog (knWith kb 0 [e249]) 0 1000 60 = true := by decide +kernel
theorem ok261 : e261.ok Tryz.prog (knWith kb 0 [e249]) 0 1000 60 = true := by decide +kernel
theorem ok262 : e262.ok Tryz.prog (knWith kb 0 [e261, e249, e6]) 0 1000 60 = true := by decide +kernel
theorem ok263 : e263.ok Tryz.prog (knWith kb 0 [e262, e249]) 0 1000 60 = true := by decide +kernel
theorem ok264 : e264.ok Tryz.prog (knWith kb 0 [e263]) 0 1000 60 = true := by decide +kernel
theorem ok265 : e265.ok Tryz.prog (knWith kb 0 [e264, e27, e249]) 0 1000 60 = true := by decide +kernel
theorem ok266 : e266.ok Tryz.prog (knWith kb 0 [e257, e249]) 0 1000 60 = true := by decide +kernel
theorem ok267 : e267.ok Tryz.prog (knWith kb 0 [e249]) 0 1000 60 = true := by decide +kernel
theorem ok268 : e268.ok Tryz.prog (knWith kb 0 [e249]) 0 1000 60 = true := by decide +kernel
end Go.Proofs.YtfipecdimnjckaaGreat
