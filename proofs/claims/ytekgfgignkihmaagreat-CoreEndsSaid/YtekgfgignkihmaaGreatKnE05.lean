/-
  Calls that are known by a run each over a small memory, whatever the numbers are that it does not tell.
  Conditions: none.
-/
import Derived.Test.YtekgfgignkihmaaGreatKnY00
open Go Go.Ab
namespace Go.Proofs.YtekgfgignkihmaaGreat
theorem ok70 : e70.ok Tryz.prog (knWith kb 0 [e14]) 0 1000 60 = true := by decide +kernel
theorem ok71 : e71.ok Tryz.prog (knWith kb 0 [e5, e14, e70]) 0 1000 60 = true := by decide +kernel
theorem ok72 : e72.ok Tryz.prog (knWith kb 0 [e14, e71]) 0 1000 60 = true := by decide +kernel
theorem ok74 : e74.ok Tryz.prog (knWith kb 0 [e14]) 0 1000 60 = true := by decide +kernel
theorem ok76 : e76.ok Tryz.prog (knWith kb 0 [e5, e14, e15]) 0 1000 60 = true := by decide +kernel
theorem ok79 : e79.ok Tryz.prog (knWith kb 0 [e14]) 0 1000 60 = true := by decide +kernel
theorem ok80 : e80.ok Tryz.prog (knWith kb 0 [e27]) 0 1000 60 = true := by decide +kernel
theorem ok82 : e82.ok Tryz.prog (knWith kb 0 [e5, e14, e29]) 0 1000 60 = true := by decide +kernel
end Go.Proofs.YtekgfgignkihmaaGreat
