/-
  Calls that are known by a run each over a small memory, whatever the numbers are that it does not tell.
  Conditions: none.
-/
import Derived.Test.YtekgfgignkihmaaGreatKoY00
open Go Go.Ab
namespace Go.Proofs.YtekgfgignkihmaaGreat
theorem ok115 : e115.ok Tryz.prog (knWith kb 0 [e92, e114]) 0 1000 60 = true := by decide +kernel
theorem ok116 : e116.ok Tryz.prog (knWith kb 0 [e92]) 0 1000 60 = true := by decide +kernel
theorem ok117 : e117.ok Tryz.prog (knWith kb 0 [e92]) 0 1000 60 = true := by decide +kernel
theorem ok118 : e118.ok Tryz.prog (knWith kb 0 [e23]) 0 1000 60 = true := by decide +kernel
theorem ok119 : e119.ok Tryz.prog (knWith kb 0 [e92]) 0 1000 60 = true := by decide +kernel
theorem ok120 : e120.ok Tryz.prog (knWith kb 0 [e92]) 0 1000 60 = true := by decide +kernel
theorem ok121 : e121.ok Tryz.prog (knWith kb 0 [e23]) 0 1000 60 = true := by decide +kernel
theorem ok122 : e122.ok Tryz.prog (knWith kb 0 [e5, e92, e93]) 0 1000 60 = true := by decide +kernel
theorem ok123 : e123.ok Tryz.prog (knWith kb 0 [e92, e122]) 0 1000 60 = true := by decide +kernel
end Go.Proofs.YtekgfgignkihmaaGreat
