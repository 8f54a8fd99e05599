/-
  Calls that are known by a run each over a small memory, whatever the numbers are that it does not tell.
  Conditions: none.
-/
import Derived.Test.YtfipecdimnjckaaGreatLvY01
open Go Go.Ab
namespace Go.Proofs.YtfipecdimnjckaaGreat
theorem ok78 : e78.ok Tryz.prog (knWith kb 0 [e77, e66, e6]) 0 1000 60 = true := by decide +kernel
theorem ok79 : e79.ok Tryz.prog (knWith kb 0 [e78, e66]) 0 1000 60 = true := by decide +kernel
theorem ok80 : e80.ok Tryz.prog (knWith kb 0 [e79]) 0 1000 60 = true := by decide +kernel
theorem ok81 : e81.ok Tryz.prog (knWith kb 0 [e73, e66]) 0 1000 60 = true := by decide +kernel
theorem ok82 : e82.ok Tryz.prog (knWith kb 0 [e66]) 0 1000 60 = true := by decide +kernel
theorem ok83 : e83.ok Tryz.prog (knWith kb 0 [e66]) 0 1000 60 = true := by decide +kernel
theorem ok84 : e84.ok Tryz.prog (knWith kb 0 [e83, e66, e6]) 0 1000 60 = true := by decide +kernel
theorem ok85 : e85.ok Tryz.prog (knWith kb 0 [e84, e66]) 0 1000 60 = true := by decide +kernel
theorem ok86 : e86.ok Tryz.prog (knWith kb 0 [e85]) 0 1000 60 = true := by decide +kernel
theorem ok87 : e87.ok Tryz.prog (knWith kb 0 [e66]) 0 1000 60 = true := by decide +kernel
theorem ok88 : e88.ok Tryz.prog (knWith kb 0 [e73, e66]) 0 1000 60 = true := by decide +kernel
theorem ok89 : e89.ok Tryz.prog (knWith kb 0 [e66]) 0 1000 60 = true := by decide +kernel
theorem ok90 : e90.ok Tryz.prog (knWith kb 0 []) 0 1000 60 = true := by decide +kernel
theorem ok91 : e91.ok Tryz.prog (knWith kb 0 [e90, e1, eOpen]) 0 1000 60 = true := by decide +kernel
theorem ok92 : e92.ok Tryz.prog (knWith kb 0 [e90]) 0 1000 60 = true := by decide +kernel
theorem ok93 : e93.ok Tryz.prog (knWith kb 0 [e92, e90, e6]) 0 1000 60 = true := by decide +kernel
theorem ok94 : e94.ok Tryz.prog (knWith kb 0 [e93, e90]) 0 1000 60 = true := by decide +kernel
theorem ok95 : e95.ok Tryz.prog (knWith kb 0 [e94]) 0 1000 60 = true := by decide +kernel
theorem ok96 : e96.ok Tryz.prog (knWith kb 0 [e90]) 0 1000 60 = true := by decide +kernel
theorem ok97 : e97.ok Tryz.prog (knWith kb 0 [e22]) 0 1000 60 = true := by decide +kernel
theorem ok98 : e98.ok Tryz.prog (knWith kb 0 [e97, e90]) 0 1000 60 = true := by decide +kernel
theorem ok99 : e99.ok Tryz.prog (knWith kb 0 [e90]) 0 1000 60 = true := by decide +kernel
theorem ok100 : e100.ok Tryz.prog (knWith kb 0 [e90]) 0 1000 60 = true := by decide +kernel
theorem ok101 : e101.ok Tryz.prog (knWith kb 0 [e90]) 0 1000 60 = true := by decide +kernel
theorem ok102 : e102.ok Tryz.prog (knWith kb 0 [e101, e90, e6]) 0 1000 60 = true := by decide +kernel
theorem ok103 : e103.ok Tryz.prog (knWith kb 0 [e102, e90]) 0 1000 60 = true := by decide +kernel
theorem ok104 : e104.ok Tryz.prog (knWith kb 0 [e103]) 0 1000 60 = true := by decide +kernel
theorem ok105 : e105.ok Tryz.prog (knWith kb 0 [e97, e90]) 0 1000 60 = true := by decide +kernel
theorem ok106 : e106.ok Tryz.prog (knWith kb 0 [e90]) 0 1000 60 = true := by decide +kernel
theorem ok107 : e107.ok Tryz.prog (knWith kb 0 [e90]) 0 1000 60 = true := by decide +kernel
theorem ok108 : e108.ok Tryz.prog (knWith kb 0 [e107, e90, e6]) 0 1000 60 = true := by decide +kernel
theorem ok109 : e109.ok Tryz.prog (knWith kb 0 [e108, e90]) 0 1000 60 = true := by decide +kernel
theorem ok110 : e110.ok Tryz.prog (knWith kb 0 [e109]) 0 1000 60 = true := by decide +kernel
theorem ok111 : e111.ok Tryz.prog (knWith kb 0 [e90]) 0 1000 60 = true := by decide +kernel
theorem ok112 : e112.ok Tryz.prog (knWith kb 0 [e97, e90]) 0 1000 60 = true := by decide +kernel
theorem ok113 : e113.ok Tryz.prog (knWith kb 0 [e90]) 0 1000 60 = true := by decide +kernel
theorem ok114 : e114.ok Tryz.prog (knWith kb 0 []) 0 1000 60 = true := by decide +kernel
theorem ok115 : e115.ok Tryz.prog (knWith kb 0 [e114, e1, eOpen]) 0 1000 60 = true := by decide +kernel
end Go.Proofs.YtfipecdimnjckaaGreat
