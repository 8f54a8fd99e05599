/-
  Calls that are known by a run each over a small memory, whatever the numbers are that it does not tell.
  Conditions: none.
-/
import Derived.Test.YtekgfgignkihmaaGreatKnY00
open Go Go.Ab
namespace Go.Proofs.YtekgfgignkihmaaGreat
theorem ok56 : e56.ok Tryz.prog (knWith kb 0 [e5, e14, e55]) 0 1000 60 = true := by decide +kernel
theorem ok57 : e57.ok Tryz.prog (knWith kb 0 [e14, e56]) 0 1000 60 = true := by decide +kernel
theorem ok59 : e59.ok Tryz.prog (knWith kb 0 [e14]) 0 1000 60 = true := by decide +kernel
theorem ok61 : e61.ok Tryz.prog (knWith kb 0 [e5, e14, e15]) 0 1000 60 = true := by decide +kernel
theorem ok64 : e64.ok Tryz.prog (knWith kb 0 [e14]) 0 1000 60 = true := by decide +kernel
theorem ok65 : e65.ok Tryz.prog (knWith kb 0 [e27]) 0 1000 60 = true := by decide +kernel
theorem ok67 : e67.ok Tryz.prog (knWith kb 0 [e5, e14, e29]) 0 1000 60 = true := by decide +kernel
theorem ok69 : e69.ok Tryz.prog (knWith kb 0 [e14]) 0 1000 60 = true := by decide +kernel
end Go.Proofs.YtekgfgignkihmaaGreat
