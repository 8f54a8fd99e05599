/-
  A world that holds the listed variables, for the row's witness.
  Conditions: none.
-/
import Derived.Test.YtfdgbmkpmjkccaaGreatDoorKnF
namespace Go.Proofs.YtfdgbmkpmjkccaaGreatDoor.passAround
open Go.ChangeShapes Go.WideShapes Go.ChangeAt Go.RowKit
set_option linter.unusedVariables false
/-- The cells that a listed datum lays. -/
def flat : Nat → DataW Unit → List Value
  | 0, _ => []
  | n + 1, d =>
    match d with
    | .lit (.int k z) => [.int k z]
    | .agg parts => parts.flatMap (flat n)
    | _ => []

/-- A world for the witness: the settled one, the listed variables laid. -/
noncomputable def laidHeap (P : Program) (l : List (String × DataW Unit)) (heap : Array Obj) : Array Obj :=
  l.foldl (fun heap x => match P.globalNamed x.1 with
    | some g => heap.modify g fun
      | .cells _ t frozen => .cells (flat 8 x.2).toArray t frozen
      | o => o
    | none => heap) heap
def wargs : Array Value := #[.agg #[.int .u8 0, .int .u8 0, .int .u8 0, .int .u8 0, .int .u8 0, .int .u8 0, .int .u8 0, .int .u8 0, .int .u8 0, .int .u8 0, .int .u8 0, .int .u8 0, .bool false], .int .u16 0, .int .u16 0]
noncomputable def laidWorld (os : Os) : World :=
  { World.holding Tryz.prog os ⟨#[], wargs, []⟩ with heap := laidHeap Tryz.prog Rows.passAroundRow.laid (World.holding Tryz.prog os ⟨#[], wargs, []⟩).heap }
theorem laid_met (os : Os) : laidMet Tryz.prog Rows.passAroundRow.laid ((laidWorld os).forCall (fun _ _ => 0) ⟨#[], wargs, []⟩).memory :=
  laidMet_of_run' 8 (by kernel_rfl) (by kernel_rfl)
theorem reads (os : Os) {H : Type} (enc : TypeId × Value → H) : ∃ places, DataW.whole enc Tryz.prog ((laidWorld os).forCall (fun _ _ => 0) ⟨#[], wargs, []⟩).memory Tryz.f3.params.toList Rows.passAroundSpec.vars false (wargs : Array Value).toList 8 = some ([.agg [.lit (.int .u8 0), .lit (.int .u8 0), .lit (.int .u8 0), .lit (.int .u8 0), .lit (.int .u8 0), .lit (.int .u8 0), .lit (.int .u8 0), .lit (.int .u8 0), .lit (.int .u8 0), .lit (.int .u8 0), .lit (.int .u8 0), .lit (.int .u8 0), .lit (.bool false)], .lit (.int .u16 0), .lit (.int .u16 0)], [], places) :=
  ⟨[], by kernel_rfl⟩

end Go.Proofs.YtfdgbmkpmjkccaaGreatDoor.passAround
