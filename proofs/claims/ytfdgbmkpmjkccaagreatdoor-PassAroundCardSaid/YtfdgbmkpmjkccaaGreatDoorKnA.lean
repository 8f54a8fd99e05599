/-
  Calls of this program that read a sector of noughts, and the opening of a fresh disk: what is known of them by a run each over a small memory.
  Conditions: none.
-/
import Derived.Test.YtfdgbmkpmjkccaaGreatDoorProg
import Derived.Test.YtfdgbmkpmjkccaaGreatDoorDxE
open Go Go.Ab
namespace Go.Proofs.YtfdgbmkpmjkccaaGreatDoor
noncomputable section
def zs : AObj := .cells 64 6 (.int .u8 0) .e
def zb : AObj := .cells 38400 16 (.int .u8 0) .e
def obj (n dep : Nat) (l : List AV) : AObj := .cells n dep .junk (setFrom dep .e 0 l)
/-- Calls known from elsewhere, beside those that are known by a run. -/
noncomputable def kb : Known := knOr (knFold 123 119) (knOr (knOut 284) (knIn 284))
def eEmpty : Ent := { f := 197, args := [.slice 6 0 64 64 true 1], nx := 7, objs := [(6, zs)], ways := [(6, .arg 0 0)], ret := .bool true, news := [], outs := [] }
def eScan : Ent := { f := 196, args := [.slice 6 0 64 64 true 1], nx := 7, objs := [(6, zs)], ways := [(6, .arg 0 0)], ret := .nils, news := [], outs := [] }
def eOpen : Ent := { f := 132, args := [.ptr 8 0], nx := 9, objs := [(6, zb), (7, zb), (8, obj 6 3 [.slice 6 0 600 600 true 64, .slice 7 0 600 600 false 64, .nils, .nils, .int .i64 0, .fn (.func 129) [.ptr 8 0] []])], ways := [(8, .arg 0 0), (6, .cell 8 0 0), (7, .cell 8 1 0)], ret := .tup [.ptr 9 0, .int .i64 0], news := [(9, obj 4 2 [.ptr 8 0, .int .i64 0, .nils, .nils])], outs := [] }
theorem g0 : Tryz.prog.globals.size = 6 := by decide +kernel
abbrev Ok (e : Ent) (u : List Ent) : Prop := e.ok Tryz.prog (knWith kb 6 u) 6 1000 60 = true
abbrev OkF (e : Ent) (u : List Ent) (x : FCert) : Prop := e.okF Tryz.prog (knWith kb 6 u) 6 1000 60 x = true
abbrev Ck (u : List Ent) (T : List Tgt) (k : Cert) (a : List AV) (h : H) : Prop := chkAt Tryz.prog (knWith kb 6 u) 1000 60 3 3 T [] (.const 0) k [.code []] (enterS Tryz.prog 3 a h) = true
theorem okEmpty : eEmpty.ok Tryz.prog (knWith kb 6 []) 6 1000 10 = true := by decide +kernel
theorem okScan : eScan.ok Tryz.prog (knWith kb 6 []) 6 1000 10 = true := by decide +kernel
theorem gdEmpty : AllGoodF Tryz.prog kb [eEmpty] := .one .nil (fuel := 1000) (n := 10) (by rw [g0]; exact okEmpty)
theorem gdScan : AllGoodF Tryz.prog kb [eScan] := .one .nil (fuel := 1000) (n := 10) (by rw [g0]; exact okScan)
theorem okOpen : eOpen.ok Tryz.prog (knWith kb 6 [eEmpty, eScan]) 6 1000 10 = true := by decide +kernel
theorem gdOpen : AllGoodF Tryz.prog kb [eOpen] := .one (gdEmpty.app (gdScan.app .nil)) (fuel := 1000) (n := 10) (by rw [g0]; exact okOpen)
end
end Go.Proofs.YtfdgbmkpmjkccaaGreatDoor
