/-
  Calls that are known by a run each over a small memory, whatever the numbers are that it does not tell.
  Conditions: none.
-/
import Derived.Test.YtekgfgignkihmaaGreatKoY00
open Go Go.Ab
namespace Go.Proofs.YtekgfgignkihmaaGreat
theorem ok44 : e44.ok Tryz.prog (knWith kb 0 [e14]) 0 1000 60 = true := by decide +kernel
theorem ok45 : e45.ok Tryz.prog (knWith kb 0 [e23]) 0 1000 60 = true := by decide +kernel
theorem ok46 : e46.ok Tryz.prog (knWith kb 0 [e5, e14, e15]) 0 1000 60 = true := by decide +kernel
theorem ok47 : e47.ok Tryz.prog (knWith kb 0 [e14, e46]) 0 1000 60 = true := by decide +kernel
theorem ok48 : e48.ok Tryz.prog (knWith kb 0 [e14]) 0 1000 60 = true := by decide +kernel
theorem ok49 : e49.ok Tryz.prog (knWith kb 0 [e14]) 0 1000 60 = true := by decide +kernel
theorem ok50 : e50.ok Tryz.prog (knWith kb 0 [e23]) 0 1000 60 = true := by decide +kernel
theorem ok51 : e51.ok Tryz.prog (knWith kb 0 [e14]) 0 1000 60 = true := by decide +kernel
theorem ok52 : e52.ok Tryz.prog (knWith kb 0 [e14]) 0 1000 60 = true := by decide +kernel
theorem ok53 : e53.ok Tryz.prog (knWith kb 0 [e23]) 0 1000 60 = true := by decide +kernel
theorem ok54 : e54.ok Tryz.prog (knWith kb 0 []) 0 1000 60 = true := by decide +kernel
end Go.Proofs.YtekgfgignkihmaaGreat
