/-
  The row.
  Conditions: none.
-/
import Derived.Test.YtjclnmkdkbmjlaaGreatDoorKeH
namespace Go.Proofs.YtjclnmkdkbmjlaaGreatDoor.passEchoes
open Go.ChangeShapes Go.WideShapes Go.ChangeAt Go.RowKit
set_option linter.unusedVariables false

theorem ja : (Rows.passEchoesRow.inPlace == Tryz.pinned.checked.prog.inPlace 4) = true := by kernel_rfl
theorem jb : (Rows.passEchoesRow.unfollowed == Tryz.pinned.checked.prog.unfollowed 4) = true := by kernel_rfl
theorem jc : (Rows.passEchoesRow.recurses == Tryz.pinned.checked.prog.recurses 4) = true := by kernel_rfl
theorem jd : (Rows.passEchoesRow.named == Tryz.pinned.checked.prog.varsNamed 4) = true := by kernel_rfl
theorem je : (Rows.passEchoesRow.wf (OpenSpec.ofChange (OpenSpec.ofChange Rows.passEchoesSpec).bare) && laidOutB Tryz.pinned.checked.prog && mapsRowed Tryz.pinned.checked.prog) = true := by kernel_rfl
theorem closed : joinedFacts Tryz.pinned.checked.prog 4 Tryz.f4 (OpenSpec.ofChange Rows.passEchoesSpec).bare Rows.passEchoesRow = true := by
  unfold joinedFacts
  rw [ja, jb, jc, jd, je]
  kernel_rfl

set_option maxRecDepth 100000 in
theorem said : Rows.PassEchoesSaid :=
  OpenClaim.holds_of_cond 4 Tryz.f4 rfl rfl rfl rfl rfl rfl rfl ⟨rfl, rfl, rfl, rfl, rfl⟩ rfl rfl rfl rfl rfl (by kernel_rfl) Tryz.func4 closed
    (of_decide_eq_true (by kernel_rfl)) (by unfold Func.isWrapper; first | (rw [if_pos (by decide +kernel)]; kernel_rfl) | (rw [if_neg (by decide +kernel)]; exact ⟨rfl, rfl⟩))
    (fun os started H enc _ F => by rw [OpenClaim.pre_eq_preRow]; exact lifted os started H enc F)

end Go.Proofs.YtjclnmkdkbmjlaaGreatDoor.passEchoes
