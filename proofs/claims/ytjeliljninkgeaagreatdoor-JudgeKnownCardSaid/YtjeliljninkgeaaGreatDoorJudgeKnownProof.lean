/-
  The closed law JudgeKnown: the given function answers true, and leaves all that was there as it was. No condition: the function takes no input.
  Conditions: none.
-/
import Derived.Test.YtjeliljninkgeaaGreatDoorKnI
namespace Go.Proofs.YtjeliljninkgeaaGreatDoor.judgeKnown
open Go.ChangeShapes Go.WideShapes Go.ChangeAt Go.RowKit
set_option linter.unusedVariables false

theorem plain (f : FuncId) (fn : Func) (hf : Tryz.pinned.checked.prog.funcNamed "bailiwick/bailiwicklaw30.JudgeKnown" = some f) (hfn : Tryz.pinned.checked.prog.funcs[f]? = some fn) :
    true = Tryz.pinned.checked.prog.looks [] ∧ ∀ (j : Nat) t, fn.params[j]? = some t → Tryz.pinned.checked.prog.wantsStandIn t = false := by
  obtain rfl : f = 3 := Option.some.inj ((show Tryz.prog.funcNamed "bailiwick/bailiwicklaw30.JudgeKnown" = some 3 by kernel_rfl).symm.trans hf) |>.symm
  obtain rfl : fn = Tryz.f3 := (Option.some.inj (Tryz.func3.symm.trans hfn)).symm
  refine ⟨by kernel_rfl, fun j t ht => ?_⟩
  rw [Tryz.params3] at ht
  simp at ht

theorem wft : Rows.judgeKnownRow.wfByText (OpenSpec.ofChange Rows.judgeKnownSpec) = true := by kernel_rfl
theorem mains : Tryz.pinned.checked.prog.mainIs = some ((Rows.judgeKnownCard.stood.harness).1, (Rows.judgeKnownCard.stood.harness).2.toList) := by kernel_rfl
/-- Where no text of the program starts a goroutine no row's call does. -/
theorem goesBy_of {P : Program} {c : OpenClaim} (hs : c.start = .entering) (h : P.funcs.any Func.goes = false) : false = c.goesBy P := by
  have hp : ∀ f, P.goes f = false := by
    intro f
    unfold Program.goes
    rw [h, Bool.and_false, Bool.or_false, List.any_eq_false]
    intro g _ hg
    cases e : P.funcs[g]? with
    | none => rw [e] at hg; simp at hg
    | some fn =>
      rw [e] at hg
      simp only [Option.any_some] at hg
      rw [Array.any_eq_false'] at h
      exact h fn (Array.mem_of_getElem? e) hg
  unfold OpenClaim.goesBy Program.goesAt Program.goesFrom
  rw [hs]
  cases P.funcNamed c.func with
  | none => rfl
  | some f => simp [hp f]
theorem nogo : Tryz.pinned.checked.prog.funcs.any Func.goes = false := by kernel_rfl
theorem goes : false = Rows.judgeKnownRow.goesBy Tryz.pinned.checked.prog := goesBy_of rfl nogo

/-- The statement. -/
theorem proved : Rows.JudgeKnownCardSaid :=
  Claim7.holds_tied_plain_at .later [] _ _ _ _ said (fun _ h => by cases h) wft (fun _ h => by cases h) judgeKnown_row_tie rfl ⟨rfl, rfl⟩ mains rfl plain goes
#print axioms proved
end Go.Proofs.YtjeliljninkgeaaGreatDoor.judgeKnown
