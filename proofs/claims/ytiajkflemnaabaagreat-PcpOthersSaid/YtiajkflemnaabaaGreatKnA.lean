/-
  Calls of this program that read a sector of noughts: what is known of them by a run each over a small memory.
  Conditions: none.
-/
import Derived.Test.YtiajkflemnaabaaGreatProg
import Derived.Test.YtiajkflemnaabaaGreatBfE
open Go Go.Ab
namespace Go.Proofs.YtiajkflemnaabaaGreat
noncomputable section
def zs : AObj := .cells 64 6 (.int .u8 0) .e
def zb : AObj := .cells 38400 16 (.int .u8 0) .e
def obj (n dep : Nat) (l : List AV) : AObj := .cells n dep .junk (setFrom dep .e 0 l)
/-- Calls known from elsewhere: a search among known numbers. -/
def kb : Known := knIn 145
def eEmpty : Ent := { f := 130, args := [.slice 0 0 64 64 true 1], nx := 1, objs := [(0, zs)], ways := [(0, .arg 0 0)], ret := .bool true, news := [], outs := [] }
def eScan : Ent := { f := 129, args := [.slice 0 0 64 64 true 1], nx := 1, objs := [(0, zs)], ways := [(0, .arg 0 0)], ret := .nils, news := [], outs := [] }
theorem g0 : Tryz.prog.globals.size = 0 := by decide +kernel
theorem okEmpty : eEmpty.ok Tryz.prog (knWith kb 0 []) 0 1000 10 = true := by decide +kernel
theorem okScan : eScan.ok Tryz.prog (knWith kb 0 []) 0 1000 10 = true := by decide +kernel
theorem gdEmpty : AllGoodW Tryz.prog kb [eEmpty] := .one .nil (fuel := 1000) (n := 10) (by rw [g0]; exact okEmpty)
theorem gdScan : AllGoodW Tryz.prog kb [eScan] := .one .nil (fuel := 1000) (n := 10) (by rw [g0]; exact okScan)
end
end Go.Proofs.YtiajkflemnaabaaGreat
