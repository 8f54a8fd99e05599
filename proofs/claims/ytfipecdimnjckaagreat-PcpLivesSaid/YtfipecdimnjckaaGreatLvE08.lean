/-
  Calls that are known by a run each over a small memory, whatever the numbers are that it does not tell.
  Conditions: none.
-/
import Derived.Test.YtfipecdimnjckaaGreatLvY01
open Go Go.Ab
namespace Go.Proofs.YtfipecdimnjckaaGreat
theorem ok308 : e308.ok Tryz.prog (knWith kb 0 [e307, e304, e6, e306]) 0 1000 60 = true := by decide +kernel
theorem ok309 : e309.ok Tryz.prog (knWith kb 0 [e308, e304]) 0 1000 60 = true := by decide +kernel
theorem ok310 : e310.ok Tryz.prog (knWith kb 0 [e309]) 0 1000 60 = true := by decide +kernel
theorem ok311 : e311.ok Tryz.prog (knWith kb 0 [e310, e15, e304]) 0 1000 60 = true := by decide +kernel
theorem ok312 : e312.ok Tryz.prog (knWith kb 0 [e304]) 0 1000 60 = true := by decide +kernel
theorem ok313 : e313.ok Tryz.prog (knWith kb 0 [e22]) 0 1000 60 = true := by decide +kernel
theorem ok314 : e314.ok Tryz.prog (knWith kb 0 [e313, e304]) 0 1000 60 = true := by decide +kernel
theorem ok315 : e315.ok Tryz.prog (knWith kb 0 [e304]) 0 1000 60 = true := by decide +kernel
theorem ok316 : e316.ok Tryz.prog (knWith kb 0 [e304]) 0 1000 60 = true := by decide +kernel
theorem ok317 : e317.ok Tryz.prog (knWith kb 0 [e304]) 0 1000 60 = true := by decide +kernel
theorem ok318 : e318.ok Tryz.prog (knWith kb 0 [e317, e304, e6, e306]) 0 1000 60 = true := by decide +kernel
theorem ok319 : e319.ok Tryz.prog (knWith kb 0 [e318, e304]) 0 1000 60 = true := by decide +kernel
theorem ok320 : e320.ok Tryz.prog (knWith kb 0 [e319]) 0 1000 60 = true := by decide +kernel
theorem ok321 : e321.ok Tryz.prog (knWith kb 0 [e320, e27, e304]) 0 1000 60 = true := by decide +kernel
theorem ok322 : e322.ok Tryz.prog (knWith kb 0 [e313, e304]) 0 1000 60 = true := by decide +kernel
theorem ok323 : e323.ok Tryz.prog (knWith kb 0 [e304]) 0 1000 60 = true := by decide +kernel
theorem ok324 : e324.ok Tryz.prog (knWith kb 0 [e304]) 0 1000 60 = true := by decide +kernel
theorem ok325 : e325.ok Tryz.prog (knWith kb 0 [e324, e304, e6, e306]) 0 1000 60 = true := by decide +kernel
theorem ok326 : e326.ok Tryz.prog (knWith kb 0 [e325, e304]) 0 1000 60 = true := by decide +kernel
theorem ok327 : e327.ok Tryz.prog (knWith kb 0 [e326]) 0 1000 60 = true := by decide +kernel
theorem ok328 : e328.ok Tryz.prog (knWith kb 0 [e327, e34, e304]) 0 1000 60 = true := by decide +kernel
theorem ok329 : e329.ok Tryz.prog (knWith kb 0 [e304]) 0 1000 60 = true := by decide +kernel
theorem ok330 : e330.ok Tryz.prog (knWith kb 0 [e313, e304]) 0 1000 60 = true := by decide +kernel
theorem ok331 : e331.ok Tryz.prog (knWith kb 0 [e304]) 0 1000 60 = true := by decide +kernel
end Go.Proofs.YtfipecdimnjckaaGreat
