/-
  Calls that are known by a run each over a small memory, whatever the numbers are that it does not tell.
  Conditions: none.
-/
import Derived.Test.YtekgfgignkihmaaGreatKnY00
open Go Go.Ab
namespace Go.Proofs.YtekgfgignkihmaaGreat
theorem ok126 : e126.ok Tryz.prog (knWith kb 0 [e90]) 0 1000 60 = true := by decide +kernel
theorem ok127 : e127.ok Tryz.prog (knWith kb 0 [e90]) 0 1000 60 = true := by decide +kernel
theorem ok128 : e128.ok Tryz.prog (knWith kb 0 [e5, e90, e127]) 0 1000 60 = true := by decide +kernel
theorem ok129 : e129.ok Tryz.prog (knWith kb 0 [e90, e128]) 0 1000 60 = true := by decide +kernel
theorem ok131 : e131.ok Tryz.prog (knWith kb 0 [e90]) 0 1000 60 = true := by decide +kernel
theorem ok133 : e133.ok Tryz.prog (knWith kb 0 [e5, e90, e91]) 0 1000 60 = true := by decide +kernel
theorem ok136 : e136.ok Tryz.prog (knWith kb 0 [e90]) 0 1000 60 = true := by decide +kernel
theorem ok137 : e137.ok Tryz.prog (knWith kb 0 [e27]) 0 1000 60 = true := by decide +kernel
end Go.Proofs.YtekgfgignkihmaaGreat
