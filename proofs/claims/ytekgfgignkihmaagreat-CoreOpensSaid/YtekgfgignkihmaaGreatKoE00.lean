/-
  Calls that are known by a run each over a small memory, whatever the numbers are that it does not tell.
  Conditions: none.
-/
import Derived.Test.YtekgfgignkihmaaGreatKoY00
open Go Go.Ab
namespace Go.Proofs.YtekgfgignkihmaaGreat
theorem ok0 : e0.ok Tryz.prog (knWith kb 0 []) 0 1000 60 = true := by decide +kernel
theorem ok1 : e1.ok Tryz.prog (knWith kb 0 [e0, eOpen]) 0 1000 60 = true := by decide +kernel
theorem ok2 : e2.ok Tryz.prog (knWith kb 0 []) 0 1000 60 = true := by decide +kernel
theorem ok3 : e3.ok Tryz.prog (knWith kb 0 []) 0 1000 60 = true := by decide +kernel
theorem ok4 : e4.ok Tryz.prog (knWith kb 0 []) 0 1000 60 = true := by decide +kernel
theorem ok5 : e5.ok Tryz.prog (knWith kb 0 [e4]) 0 1000 60 = true := by decide +kernel
theorem ok6 : e6.ok Tryz.prog (knWith kb 0 [e3]) 0 1000 60 = true := by decide +kernel
theorem ok7 : e7.ok Tryz.prog (knWith kb 0 [e3, e5, e6]) 0 1000 60 = true := by decide +kernel
theorem ok8 : e8.ok Tryz.prog (knWith kb 0 [e3, e7]) 0 1000 60 = true := by decide +kernel
theorem ok9 : e9.ok Tryz.prog (knWith kb 0 []) 0 1000 60 = true := by decide +kernel
theorem ok10 : e10.ok Tryz.prog (knWith kb 0 [e9]) 0 1000 60 = true := by decide +kernel
end Go.Proofs.YtekgfgignkihmaaGreat
