/-
  Calls that are known by a run each over a small memory, whatever the numbers are that it does not tell.
  Conditions: none.
-/
import Derived.Test.YtekgfgignkihmaaGreatKoY00
open Go Go.Ab
namespace Go.Proofs.YtekgfgignkihmaaGreat
theorem ok95 : e95.ok Tryz.prog (knWith kb 0 [e92, e94]) 0 1000 60 = true := by decide +kernel
theorem ok96 : e96.ok Tryz.prog (knWith kb 0 [e92]) 0 1000 60 = true := by decide +kernel
theorem ok97 : e97.ok Tryz.prog (knWith kb 0 [e92]) 0 1000 60 = true := by decide +kernel
theorem ok98 : e98.ok Tryz.prog (knWith kb 0 [e92]) 0 1000 60 = true := by decide +kernel
theorem ok99 : e99.ok Tryz.prog (knWith kb 0 [e92]) 0 1000 60 = true := by decide +kernel
theorem ok100 : e100.ok Tryz.prog (knWith kb 0 [e23]) 0 1000 60 = true := by decide +kernel
theorem ok101 : e101.ok Tryz.prog (knWith kb 0 [e92]) 0 1000 60 = true := by decide +kernel
theorem ok102 : e102.ok Tryz.prog (knWith kb 0 [e92]) 0 1000 60 = true := by decide +kernel
theorem ok103 : e103.ok Tryz.prog (knWith kb 0 [e92]) 0 1000 60 = true := by decide +kernel
theorem ok104 : e104.ok Tryz.prog (knWith kb 0 [e23]) 0 1000 60 = true := by decide +kernel
theorem ok105 : e105.ok Tryz.prog (knWith kb 0 [e92]) 0 1000 60 = true := by decide +kernel
end Go.Proofs.YtekgfgignkihmaaGreat
