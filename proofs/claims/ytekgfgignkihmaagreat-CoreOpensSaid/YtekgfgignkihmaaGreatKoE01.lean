/-
  Calls that are known by a run each over a small memory, whatever the numbers are that it does not tell.
  Conditions: none.
-/
import Derived.Test.YtekgfgignkihmaaGreatKoY00
open Go Go.Ab
namespace Go.Proofs.YtekgfgignkihmaaGreat
theorem ok11 : e11.ok Tryz.prog (knWith kb 0 [e10]) 0 1000 60 = true := by decide +kernel
theorem ok12 : e12.ok Tryz.prog (knWith kb 0 [e3, e11]) 0 1000 60 = true := by decide +kernel
theorem ok2000000 : e2000000.ok Tryz.prog (knWith kb 0 [e1, e2, e3, e8, e12]) 0 1000 60 = true := by decide +kernel
theorem ok14 : e14.ok Tryz.prog (knWith kb 0 []) 0 1000 60 = true := by decide +kernel
theorem ok15 : e15.ok Tryz.prog (knWith kb 0 [e14]) 0 1000 60 = true := by decide +kernel
theorem ok16 : e16.ok Tryz.prog (knWith kb 0 [e5, e14, e15]) 0 1000 60 = true := by decide +kernel
theorem ok17 : e17.ok Tryz.prog (knWith kb 0 [e14, e16]) 0 1000 60 = true := by decide +kernel
theorem ok18 : e18.ok Tryz.prog (knWith kb 0 [e14]) 0 1000 60 = true := by decide +kernel
theorem ok19 : e19.ok Tryz.prog (knWith kb 0 [e14]) 0 1000 60 = true := by decide +kernel
theorem ok20 : e20.ok Tryz.prog (knWith kb 0 [e14]) 0 1000 60 = true := by decide +kernel
theorem ok21 : e21.ok Tryz.prog (knWith kb 0 [e14]) 0 1000 60 = true := by decide +kernel
end Go.Proofs.YtekgfgignkihmaaGreat
