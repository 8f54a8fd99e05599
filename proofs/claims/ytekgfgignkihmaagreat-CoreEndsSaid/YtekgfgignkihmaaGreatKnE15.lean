/-
  Calls that are known by a run each over a small memory, whatever the numbers are that it does not tell.
  Conditions: none.
-/
import Derived.Test.YtekgfgignkihmaaGreatKnY00
open Go Go.Ab
namespace Go.Proofs.YtekgfgignkihmaaGreat
theorem ok201 : e201.ok Tryz.prog (knWith kb 0 [e162, e200]) 0 1000 60 = true := by decide +kernel
theorem ok203 : e203.ok Tryz.prog (knWith kb 0 [e162]) 0 1000 60 = true := by decide +kernel
theorem ok205 : e205.ok Tryz.prog (knWith kb 0 [e5, e162, e163]) 0 1000 60 = true := by decide +kernel
theorem ok208 : e208.ok Tryz.prog (knWith kb 0 [e162]) 0 1000 60 = true := by decide +kernel
theorem ok209 : e209.ok Tryz.prog (knWith kb 0 [e27]) 0 1000 60 = true := by decide +kernel
theorem ok211 : e211.ok Tryz.prog (knWith kb 0 [e5, e162, e173]) 0 1000 60 = true := by decide +kernel
theorem ok213 : e213.ok Tryz.prog (knWith kb 0 [e162]) 0 1000 60 = true := by decide +kernel
end Go.Proofs.YtekgfgignkihmaaGreat
