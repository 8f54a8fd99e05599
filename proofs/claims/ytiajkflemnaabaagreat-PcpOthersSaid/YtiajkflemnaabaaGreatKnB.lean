/-
  The opening of a fresh disk, known by one run.
  Conditions: none.
-/
import Derived.Test.YtiajkflemnaabaaGreatKnA
open Go Go.Ab
namespace Go.Proofs.YtiajkflemnaabaaGreat
noncomputable section
def eOpen : Ent := { f := 79, args := [.ptr 2 0], nx := 3, objs := [(0, zb), (1, zb), (2, obj 6 3 [.slice 0 0 600 600 true 64, .slice 1 0 600 600 false 64, .nils, .nils, .int .i64 0, .fn (.func 76) [.ptr 2 0] []])], ways := [(2, .arg 0 0), (0, .cell 2 0 0), (1, .cell 2 1 0)], ret := .tup [.ptr 3 0, .int .i64 0], news := [(3, obj 4 2 [.ptr 2 0, .int .i64 0, .nils, .nils])], outs := [] }
theorem okOpen : eOpen.ok Tryz.prog (knWith kb 0 [eEmpty, eScan]) 0 1000 10 = true := by decide +kernel
theorem gdOpen : AllGoodW Tryz.prog kb [eOpen] := .one (gdEmpty.app (gdScan.app .nil)) (fuel := 1000) (n := 10) (by rw [g0]; exact okOpen)
end
end Go.Proofs.YtiajkflemnaabaaGreat
