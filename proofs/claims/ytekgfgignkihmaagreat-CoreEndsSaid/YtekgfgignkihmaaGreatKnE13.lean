/-
  Calls that are known by a run each over a small memory, whatever the numbers are that it does not tell.
  Conditions: none.
-/
import Derived.Test.YtekgfgignkihmaaGreatKnY00
open Go Go.Ab
namespace Go.Proofs.YtekgfgignkihmaaGreat
theorem ok175 : e175.ok Tryz.prog (knWith kb 0 [e5, e162, e173]) 0 1000 60 = true := by decide +kernel
theorem ok176 : e176.ok Tryz.prog (knWith kb 0 [e162]) 0 1000 60 = true := by decide +kernel
theorem ok179 : e179.ok Tryz.prog (knWith kb 0 [e162]) 0 1000 60 = true := by decide +kernel
theorem ok180 : e180.ok Tryz.prog (knWith kb 0 [e162]) 0 1000 60 = true := by decide +kernel
theorem ok181 : e181.ok Tryz.prog (knWith kb 0 [e162]) 0 1000 60 = true := by decide +kernel
theorem ok182 : e182.ok Tryz.prog (knWith kb 0 [e5, e162, e181]) 0 1000 60 = true := by decide +kernel
theorem ok183 : e183.ok Tryz.prog (knWith kb 0 [e162, e182]) 0 1000 60 = true := by decide +kernel
theorem ok184 : e184.ok Tryz.prog (knWith kb 0 [e162]) 0 1000 60 = true := by decide +kernel
theorem ok187 : e187.ok Tryz.prog (knWith kb 0 [e162]) 0 1000 60 = true := by decide +kernel
theorem ok188 : e188.ok Tryz.prog (knWith kb 0 [e162]) 0 1000 60 = true := by decide +kernel
end Go.Proofs.YtekgfgignkihmaaGreat
