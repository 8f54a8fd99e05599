/-
  Calls that are known by a run each over a small memory, whatever the numbers are that it does not tell.
  Conditions: none.
-/
import Derived.Test.YtekgfgignkihmaaGreatKnY00
open Go Go.Ab
namespace Go.Proofs.YtekgfgignkihmaaGreat
theorem ok40 : e40.ok Tryz.prog (knWith kb 0 [e14]) 0 1000 60 = true := by decide +kernel
theorem ok43 : e43.ok Tryz.prog (knWith kb 0 [e14]) 0 1000 60 = true := by decide +kernel
theorem ok44 : e44.ok Tryz.prog (knWith kb 0 [e14]) 0 1000 60 = true := by decide +kernel
theorem ok46 : e46.ok Tryz.prog (knWith kb 0 [e5, e14, e15]) 0 1000 60 = true := by decide +kernel
theorem ok49 : e49.ok Tryz.prog (knWith kb 0 [e14]) 0 1000 60 = true := by decide +kernel
theorem ok50 : e50.ok Tryz.prog (knWith kb 0 [e27]) 0 1000 60 = true := by decide +kernel
theorem ok52 : e52.ok Tryz.prog (knWith kb 0 [e5, e14, e29]) 0 1000 60 = true := by decide +kernel
theorem ok54 : e54.ok Tryz.prog (knWith kb 0 [e14]) 0 1000 60 = true := by decide +kernel
theorem ok55 : e55.ok Tryz.prog (knWith kb 0 [e14]) 0 1000 60 = true := by decide +kernel
end Go.Proofs.YtekgfgignkihmaaGreat
