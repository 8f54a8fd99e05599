/-
  Calls that are known by a run each over a small memory, whatever the numbers are that it does not tell.
  Conditions: none.
-/
import Derived.Test.YtfipecdimnjckaaGreatKnY00
open Go Go.Ab
namespace Go.Proofs.YtfipecdimnjckaaGreat
theorem ok28 : e28.ok Tryz.prog (knOf 0 []) 0 1000 60 = true := by decide +kernel
theorem ok29 : e29.ok Tryz.prog (knOf 0 []) 0 1000 60 = true := by decide +kernel
theorem ok30 : e30.ok Tryz.prog (knOf 0 [e29]) 0 1000 60 = true := by decide +kernel
theorem ok31 : e31.ok Tryz.prog (knOf 0 [e28]) 0 1000 60 = true := by decide +kernel
theorem ok32 : e32.ok Tryz.prog (knOf 0 [e31, e28, e30]) 0 1000 60 = true := by decide +kernel
theorem ok33 : e33.ok Tryz.prog (knOf 0 [e32, e28]) 0 1000 60 = true := by decide +kernel
theorem ok34 : e34.ok Tryz.prog (knOf 0 [e33]) 0 1000 60 = true := by decide +kernel
theorem ok35 : e35.ok Tryz.prog (knOf 0 [e34, e12, e28]) 0 1000 60 = true := by decide +kernel
theorem ok36 : e36.ok Tryz.prog (knOf 0 []) 0 1000 60 = true := by decide +kernel
theorem ok37 : e37.ok Tryz.prog (knOf 0 [e36]) 0 1000 60 = true := by decide +kernel
theorem ok38 : e38.ok Tryz.prog (knOf 0 [e37, e36, e30]) 0 1000 60 = true := by decide +kernel
theorem ok39 : e39.ok Tryz.prog (knOf 0 [e38, e36]) 0 1000 60 = true := by decide +kernel
theorem ok40 : e40.ok Tryz.prog (knOf 0 [e39]) 0 1000 60 = true := by decide +kernel
theorem ok41 : e41.ok Tryz.prog (knOf 0 [e40, e12, e36]) 0 1000 60 = true := by decide +kernel
theorem ok42 : e42.ok Tryz.prog (knOf 0 []) 0 1000 60 = true := by decide +kernel
theorem ok43 : e43.ok Tryz.prog (knOf 0 [e42]) 0 1000 60 = true := by decide +kernel
theorem ok44 : e44.ok Tryz.prog (knOf 0 [e43, e42, e30]) 0 1000 60 = true := by decide +kernel
theorem ok45 : e45.ok Tryz.prog (knOf 0 [e44, e42]) 0 1000 60 = true := by decide +kernel
theorem ok46 : e46.ok Tryz.prog (knOf 0 [e45]) 0 1000 60 = true := by decide +kernel
theorem ok47 : e47.ok Tryz.prog (knOf 0 [e46, e12, e42]) 0 1000 60 = true := by decide +kernel
theorem ok48 : e48.ok Tryz.prog (knOf 0 []) 0 1000 60 = true := by decide +kernel
theorem ok49 : e49.ok Tryz.prog (knOf 0 [e48]) 0 1000 60 = true := by decide +kernel
theorem ok50 : e50.ok Tryz.prog (knOf 0 [e49, e48, e30]) 0 1000 60 = true := by decide +kernel
end Go.Proofs.YtfipecdimnjckaaGreat
