/-
  The layer's 'awake', known by one run.
  Conditions: none.
-/
import Derived.Test.YtbdpjpldnimojaaGreatKnB
open Go Go.Ab
namespace Go.Proofs.YtbdpjpldnimojaaGreat
noncomputable section
def eAwake : Ent := { f := 7, args := [], nx := 0, objs := [], ways := [], ret := .bool true, news := [] }
theorem okAwake : eAwake.ok Tryz.prog (knOf 0 [eEmpty, eScan, eOpen]) 0 1000 60 = true := by decide +kernel
theorem good3 : AllGood Tryz.prog [eAwake, eEmpty, eScan, eOpen] :=
  .cons good2 good2 (fuel := 1000) (n := 60) (by rw [g0]; exact okAwake)
end
end Go.Proofs.YtbdpjpldnimojaaGreat
