/-
  Calls that are known by a run each over a small memory, whatever the numbers are that it does not tell.
  Conditions: none.
-/
import Derived.Test.YtekgfgignkihmaaGreatKnY00
open Go Go.Ab
namespace Go.Proofs.YtekgfgignkihmaaGreat
theorem ok27 : e27.ok Tryz.prog (knWith kb 0 [e26]) 0 1000 60 = true := by decide +kernel
theorem ok28 : e28.ok Tryz.prog (knWith kb 0 [e27]) 0 1000 60 = true := by decide +kernel
theorem ok29 : e29.ok Tryz.prog (knWith kb 0 [e14]) 0 1000 60 = true := by decide +kernel
theorem ok31 : e31.ok Tryz.prog (knWith kb 0 [e5, e14, e29]) 0 1000 60 = true := by decide +kernel
theorem ok32 : e32.ok Tryz.prog (knWith kb 0 [e14]) 0 1000 60 = true := by decide +kernel
theorem ok35 : e35.ok Tryz.prog (knWith kb 0 [e14]) 0 1000 60 = true := by decide +kernel
theorem ok36 : e36.ok Tryz.prog (knWith kb 0 [e14]) 0 1000 60 = true := by decide +kernel
theorem ok37 : e37.ok Tryz.prog (knWith kb 0 [e14]) 0 1000 60 = true := by decide +kernel
theorem ok38 : e38.ok Tryz.prog (knWith kb 0 [e5, e14, e37]) 0 1000 60 = true := by decide +kernel
theorem ok39 : e39.ok Tryz.prog (knWith kb 0 [e14, e38]) 0 1000 60 = true := by decide +kernel
end Go.Proofs.YtekgfgignkihmaaGreat
