/-
  Calls that are known by a run each over a small memory, whatever the numbers are that it does not tell.
  Conditions: none.
-/
import Derived.Test.YtekgfgignkihmaaGreatKoY00
open Go Go.Ab
namespace Go.Proofs.YtekgfgignkihmaaGreat
theorem ok22 : e22.ok Tryz.prog (knWith kb 0 []) 0 1000 60 = true := by decide +kernel
theorem ok23 : e23.ok Tryz.prog (knWith kb 0 [e22]) 0 1000 60 = true := by decide +kernel
theorem ok24 : e24.ok Tryz.prog (knWith kb 0 [e23]) 0 1000 60 = true := by decide +kernel
theorem ok25 : e25.ok Tryz.prog (knWith kb 0 [e14]) 0 1000 60 = true := by decide +kernel
theorem ok26 : e26.ok Tryz.prog (knWith kb 0 [e14]) 0 1000 60 = true := by decide +kernel
theorem ok27 : e27.ok Tryz.prog (knWith kb 0 [e14]) 0 1000 60 = true := by decide +kernel
theorem ok28 : e28.ok Tryz.prog (knWith kb 0 [e23]) 0 1000 60 = true := by decide +kernel
theorem ok29 : e29.ok Tryz.prog (knWith kb 0 [e14]) 0 1000 60 = true := by decide +kernel
theorem ok30 : e30.ok Tryz.prog (knWith kb 0 [e5, e14, e15]) 0 1000 60 = true := by decide +kernel
theorem ok31 : e31.ok Tryz.prog (knWith kb 0 [e14, e30]) 0 1000 60 = true := by decide +kernel
theorem ok32 : e32.ok Tryz.prog (knWith kb 0 [e14]) 0 1000 60 = true := by decide +kernel
end Go.Proofs.YtekgfgignkihmaaGreat
