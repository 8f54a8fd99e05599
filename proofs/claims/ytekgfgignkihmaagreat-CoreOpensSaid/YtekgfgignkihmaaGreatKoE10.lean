/-
  Calls that are known by a run each over a small memory, whatever the numbers are that it does not tell.
  Conditions: none.
-/
import Derived.Test.YtekgfgignkihmaaGreatKoY00
open Go Go.Ab
namespace Go.Proofs.YtekgfgignkihmaaGreat
theorem ok106 : e106.ok Tryz.prog (knWith kb 0 [e5, e92, e93]) 0 1000 60 = true := by decide +kernel
theorem ok107 : e107.ok Tryz.prog (knWith kb 0 [e92, e106]) 0 1000 60 = true := by decide +kernel
theorem ok108 : e108.ok Tryz.prog (knWith kb 0 [e92]) 0 1000 60 = true := by decide +kernel
theorem ok109 : e109.ok Tryz.prog (knWith kb 0 [e92]) 0 1000 60 = true := by decide +kernel
theorem ok110 : e110.ok Tryz.prog (knWith kb 0 [e23]) 0 1000 60 = true := by decide +kernel
theorem ok111 : e111.ok Tryz.prog (knWith kb 0 [e92]) 0 1000 60 = true := by decide +kernel
theorem ok112 : e112.ok Tryz.prog (knWith kb 0 [e92]) 0 1000 60 = true := by decide +kernel
theorem ok113 : e113.ok Tryz.prog (knWith kb 0 [e23]) 0 1000 60 = true := by decide +kernel
theorem ok114 : e114.ok Tryz.prog (knWith kb 0 [e5, e92, e93]) 0 1000 60 = true := by decide +kernel
end Go.Proofs.YtekgfgignkihmaaGreat
