/-
  The opening of a fresh disk, known by one run.
  Conditions: none.
-/
import Derived.Test.YtbdpjpldnimojaaGreatKnA
open Go Go.Ab
namespace Go.Proofs.YtbdpjpldnimojaaGreat
theorem okOpen : eOpen.ok Tryz.prog (knOf 0 [eEmpty, eScan]) 0 1000 10 = true := by decide +kernel
theorem good2 : AllGood Tryz.prog [eEmpty, eScan, eOpen] :=
  .cons (.cons (.cons .nil good1 (fuel := 1000) (n := 10) (by rw [g0]; exact okOpen)) .nil (fuel := 1000) (n := 10) (by rw [g0]; exact okScan)) .nil (fuel := 1000) (n := 10) (by rw [g0]; exact okEmpty)
end Go.Proofs.YtbdpjpldnimojaaGreat
