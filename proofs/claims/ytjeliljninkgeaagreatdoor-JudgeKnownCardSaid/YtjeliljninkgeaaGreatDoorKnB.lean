/-
  The opening of a fresh disk, known by one run.
  Conditions: none.
-/
import Derived.Test.YtjeliljninkgeaaGreatDoorKnA
open Go Go.Ab
namespace Go.Proofs.YtjeliljninkgeaaGreatDoor
noncomputable section
def eOpen : Ent := { f := 217, args := [.ptr 8 0], nx := 9, objs := [(6, zb), (7, zb), (8, obj 6 3 [.slice 6 0 600 600 true 64, .slice 7 0 600 600 false 64, .nils, .nils, .int .i64 0, .fn (.func 101) [.ptr 8 0] []])], ways := [(8, .arg 0 0), (6, .cell 8 0 0), (7, .cell 8 1 0)], ret := .tup [.ptr 9 0, .int .i64 0], news := [(9, obj 4 2 [.ptr 8 0, .int .i64 0, .nils, .nils])], outs := [] }
theorem okOpen : eOpen.ok Tryz.prog (knWith kb 6 [eEmpty, eScan]) 6 1000 10 = true := by decide +kernel
theorem gdOpen : AllGoodW Tryz.prog kb [eOpen] := .one (gdEmpty.app (gdScan.app .nil)) (fuel := 1000) (n := 10) (by rw [g0]; exact okOpen)
end
end Go.Proofs.YtjeliljninkgeaaGreatDoor
