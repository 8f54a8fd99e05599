/-
  Calls that are known by a run each over a small memory, whatever the numbers are that it does not tell.
  Conditions: none.
-/
import Derived.Test.YtekgfgignkihmaaGreatKnY00
open Go Go.Ab
namespace Go.Proofs.YtekgfgignkihmaaGreat
theorem ok190 : e190.ok Tryz.prog (knWith kb 0 [e5, e162, e163]) 0 1000 60 = true := by decide +kernel
theorem ok193 : e193.ok Tryz.prog (knWith kb 0 [e162]) 0 1000 60 = true := by decide +kernel
theorem ok194 : e194.ok Tryz.prog (knWith kb 0 [e27]) 0 1000 60 = true := by decide +kernel
theorem ok196 : e196.ok Tryz.prog (knWith kb 0 [e5, e162, e173]) 0 1000 60 = true := by decide +kernel
theorem ok198 : e198.ok Tryz.prog (knWith kb 0 [e162]) 0 1000 60 = true := by decide +kernel
theorem ok199 : e199.ok Tryz.prog (knWith kb 0 [e162]) 0 1000 60 = true := by decide +kernel
theorem ok200 : e200.ok Tryz.prog (knWith kb 0 [e5, e162, e199]) 0 1000 60 = true := by decide +kernel
end Go.Proofs.YtekgfgignkihmaaGreat
