/-
  Calls that are known by a run each over a small memory, whatever the numbers are that it does not tell.
  Conditions: none.
-/
import Derived.Test.YtekgfgignkihmaaGreatKnY00
open Go Go.Ab
namespace Go.Proofs.YtekgfgignkihmaaGreat
theorem ok214 : e214.ok Tryz.prog (knWith kb 0 [e162]) 0 1000 60 = true := by decide +kernel
theorem ok215 : e215.ok Tryz.prog (knWith kb 0 [e5, e162, e214]) 0 1000 60 = true := by decide +kernel
theorem ok216 : e216.ok Tryz.prog (knWith kb 0 [e162, e215]) 0 1000 60 = true := by decide +kernel
theorem ok218 : e218.ok Tryz.prog (knWith kb 0 [e162]) 0 1000 60 = true := by decide +kernel
theorem ok220 : e220.ok Tryz.prog (knWith kb 0 [e5, e162, e163]) 0 1000 60 = true := by decide +kernel
theorem ok224 : e224.ok Tryz.prog (knWith kb 0 [e162]) 0 1000 60 = true := by decide +kernel
theorem ok225 : e225.ok Tryz.prog (knWith kb 0 [e27]) 0 1000 60 = true := by decide +kernel
theorem ok226 : e226.ok Tryz.prog (knWith kb 0 []) 0 1000 60 = true := by decide +kernel
end Go.Proofs.YtekgfgignkihmaaGreat
