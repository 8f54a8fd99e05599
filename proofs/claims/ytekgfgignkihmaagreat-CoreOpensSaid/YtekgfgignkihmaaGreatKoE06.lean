/-
  Calls that are known by a run each over a small memory, whatever the numbers are that it does not tell.
  Conditions: none.
-/
import Derived.Test.YtekgfgignkihmaaGreatKoY00
open Go Go.Ab
namespace Go.Proofs.YtekgfgignkihmaaGreat
theorem ok66 : e66.ok Tryz.prog (knWith kb 0 [e23]) 0 1000 60 = true := by decide +kernel
theorem ok67 : e67.ok Tryz.prog (knWith kb 0 [e54]) 0 1000 60 = true := by decide +kernel
theorem ok68 : e68.ok Tryz.prog (knWith kb 0 [e5, e54, e55]) 0 1000 60 = true := by decide +kernel
theorem ok69 : e69.ok Tryz.prog (knWith kb 0 [e54, e68]) 0 1000 60 = true := by decide +kernel
theorem ok70 : e70.ok Tryz.prog (knWith kb 0 [e54]) 0 1000 60 = true := by decide +kernel
theorem ok71 : e71.ok Tryz.prog (knWith kb 0 [e54]) 0 1000 60 = true := by decide +kernel
theorem ok72 : e72.ok Tryz.prog (knWith kb 0 [e23]) 0 1000 60 = true := by decide +kernel
theorem ok73 : e73.ok Tryz.prog (knWith kb 0 [e54]) 0 1000 60 = true := by decide +kernel
theorem ok74 : e74.ok Tryz.prog (knWith kb 0 [e54]) 0 1000 60 = true := by decide +kernel
theorem ok75 : e75.ok Tryz.prog (knWith kb 0 [e23]) 0 1000 60 = true := by decide +kernel
end Go.Proofs.YtekgfgignkihmaaGreat
