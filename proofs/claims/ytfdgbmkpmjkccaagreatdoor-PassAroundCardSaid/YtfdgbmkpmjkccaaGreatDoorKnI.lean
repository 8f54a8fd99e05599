/-
  The row.
  Conditions: none.
-/
import Derived.Test.YtfdgbmkpmjkccaaGreatDoorKnH
namespace Go.Proofs.YtfdgbmkpmjkccaaGreatDoor.passAround
open Go.ChangeShapes Go.WideShapes Go.ChangeAt Go.RowKit
set_option linter.unusedVariables false

theorem ja : (Rows.passAroundRow.inPlace == Tryz.pinned.checked.prog.inPlace 3) = true := by kernel_rfl
theorem jb : (Rows.passAroundRow.unfollowed == Tryz.pinned.checked.prog.unfollowed 3) = true := by kernel_rfl
theorem jc : (Rows.passAroundRow.recurses == Tryz.pinned.checked.prog.recurses 3) = true := by kernel_rfl
theorem jd : (Rows.passAroundRow.named == Tryz.pinned.checked.prog.varsNamed 3) = true := by kernel_rfl
theorem je : (Rows.passAroundRow.wf (OpenSpec.ofChange (OpenSpec.ofChange Rows.passAroundSpec).bare) && laidOutB Tryz.pinned.checked.prog && mapsRowed Tryz.pinned.checked.prog) = true := by kernel_rfl
theorem closed : joinedFacts Tryz.pinned.checked.prog 3 Tryz.f3 (OpenSpec.ofChange Rows.passAroundSpec).bare Rows.passAroundRow = true := by
  unfold joinedFacts
  rw [ja, jb, jc, jd, je]
  kernel_rfl

set_option maxRecDepth 100000 in
theorem said : Rows.PassAroundSaid :=
  OpenClaim.holds_of_cond 3 Tryz.f3 rfl rfl rfl rfl rfl rfl rfl ⟨rfl, rfl, rfl, rfl, rfl⟩ rfl rfl rfl rfl rfl (by kernel_rfl) Tryz.func3 closed
    (of_decide_eq_true (by kernel_rfl)) (by unfold Func.isWrapper; first | (rw [if_pos (by decide +kernel)]; kernel_rfl) | (rw [if_neg (by decide +kernel)]; exact ⟨rfl, rfl⟩))
    (fun os started H enc _ F => by rw [OpenClaim.pre_eq_preRow]; exact lifted os started H enc F)

end Go.Proofs.YtfdgbmkpmjkccaaGreatDoor.passAround
