/-
  Calls that are known by a run each over a small memory, whatever the numbers are that it does not tell.
  Conditions: none.
-/
import Derived.Test.YtekgfgignkihmaaGreatKnY00
open Go Go.Ab
namespace Go.Proofs.YtekgfgignkihmaaGreat
theorem ok228 : e228.ok Tryz.prog (knWith kb 0 [e5, e162, e173]) 0 1000 60 = true := by decide +kernel
theorem ok230 : e230.ok Tryz.prog (knWith kb 0 [e162]) 0 1000 60 = true := by decide +kernel
theorem ok231 : e231.ok Tryz.prog (knWith kb 0 [e162]) 0 1000 60 = true := by decide +kernel
theorem ok232 : e232.ok Tryz.prog (knWith kb 0 [e5, e162, e231]) 0 1000 60 = true := by decide +kernel
theorem ok233 : e233.ok Tryz.prog (knWith kb 0 [e162, e232]) 0 1000 60 = true := by decide +kernel
theorem ok235 : e235.ok Tryz.prog (knWith kb 0 [e162]) 0 1000 60 = true := by decide +kernel
end Go.Proofs.YtekgfgignkihmaaGreat
