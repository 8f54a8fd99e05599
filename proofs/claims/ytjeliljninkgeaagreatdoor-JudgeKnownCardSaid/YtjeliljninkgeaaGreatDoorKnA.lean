/-
  Calls of this program that read a sector of noughts: what is known of them by a run each over a small memory.
  Conditions: none.
-/
import Derived.Test.YtjeliljninkgeaaGreatDoorProg
import Derived.Test.YtjeliljninkgeaaGreatDoorAfD
open Go Go.Ab
namespace Go.Proofs.YtjeliljninkgeaaGreatDoor
noncomputable section
def zs : AObj := .cells 64 6 (.int .u8 0) .e
def zb : AObj := .cells 38400 16 (.int .u8 0) .e
def obj (n dep : Nat) (l : List AV) : AObj := .cells n dep .junk (setFrom dep .e 0 l)
/-- Calls known from elsewhere: a sort of at most one element. -/
def kb : Known := knTiny 40 60
def eEmpty : Ent := { f := 314, args := [.slice 6 0 64 64 true 1], nx := 7, objs := [(6, zs)], ways := [(6, .arg 0 0)], ret := .bool true, news := [], outs := [] }
def eScan : Ent := { f := 50, args := [.slice 6 0 64 64 true 1], nx := 7, objs := [(6, zs)], ways := [(6, .arg 0 0)], ret := .nils, news := [], outs := [] }
theorem g0 : Tryz.prog.globals.size = 6 := by decide +kernel
theorem okEmpty : eEmpty.ok Tryz.prog (knWith kb 6 []) 6 1000 10 = true := by decide +kernel
theorem okScan : eScan.ok Tryz.prog (knWith kb 6 []) 6 1000 10 = true := by decide +kernel
theorem gdEmpty : AllGoodW Tryz.prog kb [eEmpty] := .one .nil (fuel := 1000) (n := 10) (by rw [g0]; exact okEmpty)
theorem gdScan : AllGoodW Tryz.prog kb [eScan] := .one .nil (fuel := 1000) (n := 10) (by rw [g0]; exact okScan)
end
end Go.Proofs.YtjeliljninkgeaaGreatDoor
