/-
  Calls that are known by a run each over a small memory, whatever the numbers are that it does not tell.
  Conditions: none.
-/
import Derived.Test.YtekgfgignkihmaaGreatKnY00
open Go Go.Ab
namespace Go.Proofs.YtekgfgignkihmaaGreat
theorem ok111 : e111.ok Tryz.prog (knWith kb 0 [e90, e110]) 0 1000 60 = true := by decide +kernel
theorem ok112 : e112.ok Tryz.prog (knWith kb 0 [e90]) 0 1000 60 = true := by decide +kernel
theorem ok115 : e115.ok Tryz.prog (knWith kb 0 [e90]) 0 1000 60 = true := by decide +kernel
theorem ok116 : e116.ok Tryz.prog (knWith kb 0 [e90]) 0 1000 60 = true := by decide +kernel
theorem ok118 : e118.ok Tryz.prog (knWith kb 0 [e5, e90, e91]) 0 1000 60 = true := by decide +kernel
theorem ok121 : e121.ok Tryz.prog (knWith kb 0 [e90]) 0 1000 60 = true := by decide +kernel
theorem ok122 : e122.ok Tryz.prog (knWith kb 0 [e27]) 0 1000 60 = true := by decide +kernel
theorem ok124 : e124.ok Tryz.prog (knWith kb 0 [e5, e90, e101]) 0 1000 60 = true := by decide +kernel
end Go.Proofs.YtekgfgignkihmaaGreat
