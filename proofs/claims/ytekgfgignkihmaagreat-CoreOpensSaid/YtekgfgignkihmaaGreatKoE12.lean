/-
  Calls that are known by a run each over a small memory, whatever the numbers are that it does not tell.
  Conditions: none.
-/
import Derived.Test.YtekgfgignkihmaaGreatKoY00
open Go Go.Ab
namespace Go.Proofs.YtekgfgignkihmaaGreat
theorem ok124 : e124.ok Tryz.prog (knWith kb 0 [e92]) 0 1000 60 = true := by decide +kernel
theorem ok125 : e125.ok Tryz.prog (knWith kb 0 [e92]) 0 1000 60 = true := by decide +kernel
theorem ok126 : e126.ok Tryz.prog (knWith kb 0 [e23]) 0 1000 60 = true := by decide +kernel
theorem ok127 : e127.ok Tryz.prog (knWith kb 0 [e92]) 0 1000 60 = true := by decide +kernel
theorem ok128 : e128.ok Tryz.prog (knWith kb 0 [e92]) 0 1000 60 = true := by decide +kernel
theorem ok129 : e129.ok Tryz.prog (knWith kb 0 [e23]) 0 1000 60 = true := by decide +kernel
end Go.Proofs.YtekgfgignkihmaaGreat
