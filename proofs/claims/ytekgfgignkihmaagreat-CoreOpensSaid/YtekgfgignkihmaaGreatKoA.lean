/-
  Calls of this program that read a sector of noughts, and the opening of a fresh disk: what is known of them by a run each over a small memory.
  Conditions: none.
-/
import Derived.Test.YtekgfgignkihmaaGreatProg
import Derived.Test.YtekgfgignkihmaaGreatDyE
open Go Go.Ab
namespace Go.Proofs.YtekgfgignkihmaaGreat
noncomputable section
def zs : AObj := .cells 64 6 (.int .u8 0) .e
def zb : AObj := .cells 38400 16 (.int .u8 0) .e
def obj (n dep : Nat) (l : List AV) : AObj := .cells n dep .junk (setFrom dep .e 0 l)
/-- Calls known from elsewhere, beside those that are known by a run. -/
def kb : Known := knStep 56 36893488147419103232 VB VB2 0 2 true 8
def eEmpty : Ent := { f := 174, args := [.slice 0 0 64 64 true 1], nx := 1, objs := [(0, zs)], ways := [(0, .arg 0 0)], ret := .bool true, news := [], outs := [] }
def eScan : Ent := { f := 173, args := [.slice 0 0 64 64 true 1], nx := 1, objs := [(0, zs)], ways := [(0, .arg 0 0)], ret := .nils, news := [], outs := [] }
def eOpen : Ent := { f := 129, args := [.ptr 2 0], nx := 3, objs := [(0, zb), (1, zb), (2, obj 6 3 [.slice 0 0 600 600 true 64, .slice 1 0 600 600 false 64, .nils, .nils, .int .i64 0, .fn (.func 126) [.ptr 2 0] []])], ways := [(2, .arg 0 0), (0, .cell 2 0 0), (1, .cell 2 1 0)], ret := .tup [.ptr 3 0, .int .i64 0], news := [(3, obj 4 2 [.ptr 2 0, .int .i64 0, .nils, .nils])], outs := [] }
theorem g0 : Tryz.prog.globals.size = 0 := by decide +kernel
theorem okEmpty : eEmpty.ok Tryz.prog (knWith kb 0 []) 0 1000 10 = true := by decide +kernel
theorem okScan : eScan.ok Tryz.prog (knWith kb 0 []) 0 1000 10 = true := by decide +kernel
theorem gdEmpty : AllGoodW Tryz.prog kb [eEmpty] := .one .nil (fuel := 1000) (n := 10) (by rw [g0]; exact okEmpty)
theorem gdScan : AllGoodW Tryz.prog kb [eScan] := .one .nil (fuel := 1000) (n := 10) (by rw [g0]; exact okScan)
theorem okOpen : eOpen.ok Tryz.prog (knWith kb 0 [eEmpty, eScan]) 0 1000 10 = true := by decide +kernel
theorem gdOpen : AllGoodW Tryz.prog kb [eOpen] := .one (gdEmpty.app (gdScan.app .nil)) (fuel := 1000) (n := 10) (by rw [g0]; exact okOpen)
end
end Go.Proofs.YtekgfgignkihmaaGreat
