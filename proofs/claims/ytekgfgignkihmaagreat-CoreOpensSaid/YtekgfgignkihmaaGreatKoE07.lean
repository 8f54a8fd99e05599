/-
  Calls that are known by a run each over a small memory, whatever the numbers are that it does not tell.
  Conditions: none.
-/
import Derived.Test.YtekgfgignkihmaaGreatKoY00
open Go Go.Ab
namespace Go.Proofs.YtekgfgignkihmaaGreat
theorem ok76 : e76.ok Tryz.prog (knWith kb 0 [e5, e54, e55]) 0 1000 60 = true := by decide +kernel
theorem ok77 : e77.ok Tryz.prog (knWith kb 0 [e54, e76]) 0 1000 60 = true := by decide +kernel
theorem ok78 : e78.ok Tryz.prog (knWith kb 0 [e54]) 0 1000 60 = true := by decide +kernel
theorem ok79 : e79.ok Tryz.prog (knWith kb 0 [e54]) 0 1000 60 = true := by decide +kernel
theorem ok80 : e80.ok Tryz.prog (knWith kb 0 [e23]) 0 1000 60 = true := by decide +kernel
theorem ok81 : e81.ok Tryz.prog (knWith kb 0 [e54]) 0 1000 60 = true := by decide +kernel
theorem ok82 : e82.ok Tryz.prog (knWith kb 0 [e54]) 0 1000 60 = true := by decide +kernel
theorem ok83 : e83.ok Tryz.prog (knWith kb 0 [e23]) 0 1000 60 = true := by decide +kernel
theorem ok84 : e84.ok Tryz.prog (knWith kb 0 [e5, e54, e55]) 0 1000 60 = true := by decide +kernel
end Go.Proofs.YtekgfgignkihmaaGreat
