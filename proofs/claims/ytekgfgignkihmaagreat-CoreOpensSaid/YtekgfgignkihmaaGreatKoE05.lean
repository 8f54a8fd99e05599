/-
  Calls that are known by a run each over a small memory, whatever the numbers are that it does not tell.
  Conditions: none.
-/
import Derived.Test.YtekgfgignkihmaaGreatKoY00
open Go Go.Ab
namespace Go.Proofs.YtekgfgignkihmaaGreat
theorem ok55 : e55.ok Tryz.prog (knWith kb 0 [e54]) 0 1000 60 = true := by decide +kernel
theorem ok56 : e56.ok Tryz.prog (knWith kb 0 [e5, e54, e55]) 0 1000 60 = true := by decide +kernel
theorem ok57 : e57.ok Tryz.prog (knWith kb 0 [e54, e56]) 0 1000 60 = true := by decide +kernel
theorem ok58 : e58.ok Tryz.prog (knWith kb 0 [e54]) 0 1000 60 = true := by decide +kernel
theorem ok59 : e59.ok Tryz.prog (knWith kb 0 [e54]) 0 1000 60 = true := by decide +kernel
theorem ok60 : e60.ok Tryz.prog (knWith kb 0 [e54]) 0 1000 60 = true := by decide +kernel
theorem ok61 : e61.ok Tryz.prog (knWith kb 0 [e54]) 0 1000 60 = true := by decide +kernel
theorem ok62 : e62.ok Tryz.prog (knWith kb 0 [e23]) 0 1000 60 = true := by decide +kernel
theorem ok63 : e63.ok Tryz.prog (knWith kb 0 [e54]) 0 1000 60 = true := by decide +kernel
theorem ok64 : e64.ok Tryz.prog (knWith kb 0 [e54]) 0 1000 60 = true := by decide +kernel
theorem ok65 : e65.ok Tryz.prog (knWith kb 0 [e54]) 0 1000 60 = true := by decide +kernel
end Go.Proofs.YtekgfgignkihmaaGreat
