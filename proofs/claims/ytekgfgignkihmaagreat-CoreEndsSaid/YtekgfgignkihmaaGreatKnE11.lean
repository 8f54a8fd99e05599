/-
  Calls that are known by a run each over a small memory, whatever the numbers are that it does not tell.
  Conditions: none.
-/
import Derived.Test.YtekgfgignkihmaaGreatKnY00
open Go Go.Ab
namespace Go.Proofs.YtekgfgignkihmaaGreat
theorem ok151 : e151.ok Tryz.prog (knWith kb 0 [e90]) 0 1000 60 = true := by decide +kernel
theorem ok152 : e152.ok Tryz.prog (knWith kb 0 [e27]) 0 1000 60 = true := by decide +kernel
theorem ok154 : e154.ok Tryz.prog (knWith kb 0 [e5, e90, e101]) 0 1000 60 = true := by decide +kernel
theorem ok156 : e156.ok Tryz.prog (knWith kb 0 [e90]) 0 1000 60 = true := by decide +kernel
theorem ok157 : e157.ok Tryz.prog (knWith kb 0 [e90]) 0 1000 60 = true := by decide +kernel
theorem ok158 : e158.ok Tryz.prog (knWith kb 0 [e5, e90, e157]) 0 1000 60 = true := by decide +kernel
theorem ok159 : e159.ok Tryz.prog (knWith kb 0 [e90, e158]) 0 1000 60 = true := by decide +kernel
theorem ok161 : e161.ok Tryz.prog (knWith kb 0 [e90]) 0 1000 60 = true := by decide +kernel
end Go.Proofs.YtekgfgignkihmaaGreat
