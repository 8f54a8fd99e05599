/-
  A world that holds the listed variables, for the row's witness.
  Conditions: none.
-/
import Derived.Test.YtjeliljninkgeaaGreatDoorKnF
namespace Go.Proofs.YtjeliljninkgeaaGreatDoor.judgeKnown
open Go.ChangeShapes Go.WideShapes Go.ChangeAt Go.RowKit
set_option linter.unusedVariables false

/-- A world for the witness: the settled one, the listed variables laid. -/
noncomputable def laidHeap (P : Program) (l : List (String × DataW Unit)) (heap : Array Obj) : Array Obj :=
  l.foldl (fun heap x => match P.globalNamed x.1 with
    | some g => heap.modify g fun
      | .cells _ t frozen => .cells (flat 8 x.2).toArray t frozen
      | o => o
    | none => heap) heap
noncomputable def laidWorld (os : Os) : World :=
  { World.holding Tryz.prog os ⟨#[], #[], []⟩ with heap := laidHeap Tryz.prog Rows.judgeKnownRow.laid (World.holding Tryz.prog os ⟨#[], #[], []⟩).heap }
theorem laid_met (os : Os) : laidMet Tryz.prog Rows.judgeKnownRow.laid ((laidWorld os).forCall (fun _ _ => 0) ⟨#[], #[], []⟩).memory :=
  laidMet_of_run' 8 (by kernel_rfl) (by kernel_rfl)
theorem reads (os : Os) {H : Type} (enc : TypeId × Value → H) : ∃ places, DataW.whole enc Tryz.prog ((laidWorld os).forCall (fun _ _ => 0) ⟨#[], #[], []⟩).memory Tryz.f3.params.toList Rows.judgeKnownSpec.vars false (#[] : Array Value).toList 8 = some ([], [], places) :=
  ⟨[], by kernel_rfl⟩

end Go.Proofs.YtjeliljninkgeaaGreatDoor.judgeKnown
