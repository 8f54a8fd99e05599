/-
  Calls that are known by a run each over a small memory, whatever the numbers are that it does not tell.
  Conditions: none.
-/
import Derived.Test.YtekgfgignkihmaaGreatKoY00
open Go Go.Ab
namespace Go.Proofs.YtekgfgignkihmaaGreat
theorem ok85 : e85.ok Tryz.prog (knWith kb 0 [e54, e84]) 0 1000 60 = true := by decide +kernel
theorem ok86 : e86.ok Tryz.prog (knWith kb 0 [e54]) 0 1000 60 = true := by decide +kernel
theorem ok87 : e87.ok Tryz.prog (knWith kb 0 [e54]) 0 1000 60 = true := by decide +kernel
theorem ok88 : e88.ok Tryz.prog (knWith kb 0 [e23]) 0 1000 60 = true := by decide +kernel
theorem ok89 : e89.ok Tryz.prog (knWith kb 0 [e54]) 0 1000 60 = true := by decide +kernel
theorem ok90 : e90.ok Tryz.prog (knWith kb 0 [e54]) 0 1000 60 = true := by decide +kernel
theorem ok91 : e91.ok Tryz.prog (knWith kb 0 [e23]) 0 1000 60 = true := by decide +kernel
theorem ok92 : e92.ok Tryz.prog (knWith kb 0 []) 0 1000 60 = true := by decide +kernel
theorem ok93 : e93.ok Tryz.prog (knWith kb 0 [e92]) 0 1000 60 = true := by decide +kernel
theorem ok94 : e94.ok Tryz.prog (knWith kb 0 [e5, e92, e93]) 0 1000 60 = true := by decide +kernel
end Go.Proofs.YtekgfgignkihmaaGreat
