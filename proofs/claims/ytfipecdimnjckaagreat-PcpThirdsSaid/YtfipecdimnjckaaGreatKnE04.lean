/-
  Calls that are known by a run each over a small memory, whatever the numbers are that it does not tell.
  Conditions: none.
-/
import Derived.Test.YtfipecdimnjckaaGreatKnY00
open Go Go.Ab
namespace Go.Proofs.YtfipecdimnjckaaGreat
theorem ok96 : e96.ok Tryz.prog (knOf 0 [e95, e92]) 0 1000 60 = true := by decide +kernel
theorem ok97 : e97.ok Tryz.prog (knOf 0 [e96]) 0 1000 60 = true := by decide +kernel
theorem ok98 : e98.ok Tryz.prog (knOf 0 [e97, e12, e92]) 0 1000 60 = true := by decide +kernel
theorem ok99 : e99.ok Tryz.prog (knOf 0 []) 0 1000 60 = true := by decide +kernel
theorem ok100 : e100.ok Tryz.prog (knOf 0 [e99, e1]) 0 1000 60 = true := by decide +kernel
theorem ok101 : e101.ok Tryz.prog (knOf 0 []) 0 1000 60 = true := by decide +kernel
theorem ok102 : e102.ok Tryz.prog (knOf 0 [e99]) 0 1000 60 = true := by decide +kernel
theorem ok103 : e103.ok Tryz.prog (knOf 0 [e102, e99, e30, e101]) 0 1000 60 = true := by decide +kernel
theorem ok104 : e104.ok Tryz.prog (knOf 0 [e103, e99]) 0 1000 60 = true := by decide +kernel
theorem ok105 : e105.ok Tryz.prog (knOf 0 [e104]) 0 1000 60 = true := by decide +kernel
theorem ok106 : e106.ok Tryz.prog (knOf 0 [e105, e12, e99]) 0 1000 60 = true := by decide +kernel
end Go.Proofs.YtfipecdimnjckaaGreat
