/-
  Calls that are known by a run each over a small memory, whatever the numbers are that it does not tell.
  Conditions: none.
-/
import Derived.Test.YtekgfgignkihmaaGreatKnY00
open Go Go.Ab
namespace Go.Proofs.YtekgfgignkihmaaGreat
theorem ok139 : e139.ok Tryz.prog (knWith kb 0 [e5, e90, e101]) 0 1000 60 = true := by decide +kernel
theorem ok141 : e141.ok Tryz.prog (knWith kb 0 [e90]) 0 1000 60 = true := by decide +kernel
theorem ok142 : e142.ok Tryz.prog (knWith kb 0 [e90]) 0 1000 60 = true := by decide +kernel
theorem ok143 : e143.ok Tryz.prog (knWith kb 0 [e5, e90, e142]) 0 1000 60 = true := by decide +kernel
theorem ok144 : e144.ok Tryz.prog (knWith kb 0 [e90, e143]) 0 1000 60 = true := by decide +kernel
theorem ok146 : e146.ok Tryz.prog (knWith kb 0 [e90]) 0 1000 60 = true := by decide +kernel
theorem ok148 : e148.ok Tryz.prog (knWith kb 0 [e5, e90, e91]) 0 1000 60 = true := by decide +kernel
end Go.Proofs.YtekgfgignkihmaaGreat
