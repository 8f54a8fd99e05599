/-
  Calls that are known by a run each over a small memory, whatever the numbers are that it does not tell.
  Conditions: none.
-/
import Derived.Test.YtfipecdimnjckaaGreatLvY01
open Go Go.Ab
namespace Go.Proofs.YtfipecdimnjckaaGreat
theorem ok116 : e116.ok Tryz.prog (knWith kb 0 [e114]) 0 1000 60 = true := by decide +kernel
theorem ok117 : e117.ok Tryz.prog (knWith kb 0 [e116, e114, e6]) 0 1000 60 = true := by decide +kernel
theorem ok118 : e118.ok Tryz.prog (knWith kb 0 [e117, e114]) 0 1000 60 = true := by decide +kernel
theorem ok119 : e119.ok Tryz.prog (knWith kb 0 [e118]) 0 1000 60 = true := by decide +kernel
theorem ok120 : e120.ok Tryz.prog (knWith kb 0 [e119, e15, e114]) 0 1000 60 = true := by decide +kernel
theorem ok121 : e121.ok Tryz.prog (knWith kb 0 [e114]) 0 1000 60 = true := by decide +kernel
theorem ok122 : e122.ok Tryz.prog (knWith kb 0 [e22]) 0 1000 60 = true := by decide +kernel
theorem ok123 : e123.ok Tryz.prog (knWith kb 0 [e122, e114]) 0 1000 60 = true := by decide +kernel
theorem ok124 : e124.ok Tryz.prog (knWith kb 0 [e114]) 0 1000 60 = true := by decide +kernel
theorem ok125 : e125.ok Tryz.prog (knWith kb 0 [e114]) 0 1000 60 = true := by decide +kernel
theorem ok126 : e126.ok Tryz.prog (knWith kb 0 [e114]) 0 1000 60 = true := by decide +kernel
theorem ok127 : e127.ok Tryz.prog (knWith kb 0 [e126, e114, e6]) 0 1000 60 = true := by decide +kernel
theorem ok128 : e128.ok Tryz.prog (knWith kb 0 [e127, e114]) 0 1000 60 = true := by decide +kernel
theorem ok129 : e129.ok Tryz.prog (knWith kb 0 [e128]) 0 1000 60 = true := by decide +kernel
theorem ok130 : e130.ok Tryz.prog (knWith kb 0 [e129, e27, e114]) 0 1000 60 = true := by decide +kernel
theorem ok131 : e131.ok Tryz.prog (knWith kb 0 [e122, e114]) 0 1000 60 = true := by decide +kernel
theorem ok132 : e132.ok Tryz.prog (knWith kb 0 [e114]) 0 1000 60 = true := by decide +kernel
theorem ok133 : e133.ok Tryz.prog (knWith kb 0 [e114]) 0 1000 60 = true := by decide +kernel
theorem ok134 : e134.ok Tryz.prog (knWith kb 0 [e133, e114, e6]) 0 1000 60 = true := by decide +kernel
theorem ok135 : e135.ok Tryz.prog (knWith kb 0 [e134, e114]) 0 1000 60 = true := by decide +kernel
theorem ok136 : e136.ok Tryz.prog (knWith kb 0 [e135]) 0 1000 60 = true := by decide +kernel
theorem ok137 : e137.ok Tryz.prog (knWith kb 0 [e136, e34, e114]) 0 1000 60 = true := by decide +kernel
theorem ok138 : e138.ok Tryz.prog (knWith kb 0 [e114]) 0 1000 60 = true := by decide +kernel
theorem ok139 : e139.ok Tryz.prog (knWith kb 0 [e122, e114]) 0 1000 60 = true := by decide +kernel
theorem ok140 : e140.ok Tryz.prog (knWith kb 0 [e114]) 0 1000 60 = true := by decide +kernel
theorem ok141 : e141.ok Tryz.prog (knWith kb 0 []) 0 1000 60 = true := by decide +kernel
theorem ok142 : e142.ok Tryz.prog (knWith kb 0 [e141, e1, eOpen]) 0 1000 60 = true := by decide +kernel
theorem ok143 : e143.ok Tryz.prog (knWith kb 0 [e141]) 0 1000 60 = true := by decide +kernel
theorem ok144 : e144.ok Tryz.prog (knWith kb 0 [e143, e141, e6]) 0 1000 60 = true := by decide +kernel
theorem ok145 : e145.ok Tryz.prog (knWith kb 0 [e144, e141]) 0 1000 60 = true := by decide +kernel
theorem ok146 : e146.ok Tryz.prog (knWith kb 0 [e145]) 0 1000 60 = true := by decide +kernel
theorem ok147 : e147.ok Tryz.prog (knWith kb 0 [e146, e15, e141]) 0 1000 60 = true := by decide +kernel
theorem ok148 : e148.ok Tryz.prog (knWith kb 0 [e141]) 0 1000 60 = true := by decide +kernel
theorem ok149 : e149.ok Tryz.prog (knWith kb 0 [e22]) 0 1000 60 = true := by decide +kernel
theorem ok150 : e150.ok Tryz.prog (knWith kb 0 [e149, e141]) 0 1000 60 = true := by decide +kernel
theorem ok151 : e151.ok Tryz.prog (knWith kb 0 [e141]) 0 1000 60 = true := by decide +kernel
theorem ok152 : e152.ok Tryz.prog (knWith kb 0 [e141]) 0 1000 60 = true := by decide +kernel
theorem ok153 : e153.ok Tryz.prog (knWith kb 0 [e141]) 0 1000 60 = true := by decide +kernel
theorem ok154 : e154.ok Tryz.prog (knWith kb 0 [e153, e141, e6]) 0 1000 60 = true := by decide +kernel
end Go.Proofs.YtfipecdimnjckaaGreat
