/-
  The law PassAround: the given function answers true for every input, and leaves all that was there as it was.
  Conditions: none.
-/
import Derived.Test.YtfdgbmkpmjkccaaGreatDoorKnI
namespace Go.Proofs.YtfdgbmkpmjkccaaGreatDoor.passAround
open Go.ChangeShapes Go.WideShapes Go.ChangeAt Go.RowKit
set_option linter.unusedVariables false

theorem plain (f : FuncId) (fn : Func) (hf : Tryz.pinned.checked.prog.funcNamed "bailiwick/bailiwicklaw27.PassAround" = some f) (hfn : Tryz.pinned.checked.prog.funcs[f]? = some fn) :
    true = Tryz.pinned.checked.prog.looks [] ∧ ∀ (j : Nat) t, fn.params[j]? = some t → Tryz.pinned.checked.prog.wantsStandIn t = false := by
  obtain rfl : f = 3 := Option.some.inj ((show Tryz.prog.funcNamed "bailiwick/bailiwicklaw27.PassAround" = some 3 by kernel_rfl).symm.trans hf) |>.symm
  obtain rfl : fn = Tryz.f3 := (Option.some.inj (Tryz.func3.symm.trans hfn)).symm
  refine ⟨by kernel_rfl, fun j t ht => ?_⟩
  have hall : Tryz.f3.params.all (fun t => Tryz.pinned.checked.prog.wantsStandIn t == false) = true := by kernel_rfl
  have hmem := Array.mem_of_getElem? ht
  have := Array.all_eq_true'.mp hall t hmem
  simpa using this

theorem wft : Rows.passAroundRow.wfByText (OpenSpec.ofChange Rows.passAroundSpec) = true := by kernel_rfl
theorem mains : Tryz.pinned.checked.prog.mainIs = some ((Rows.passAroundCard.stood.harness).1, (Rows.passAroundCard.stood.harness).2.toList) := by kernel_rfl
/-- Where no text of the program starts a goroutine no row's call does. -/
theorem goesBy_of {P : Program} {c : OpenClaim} (hs : c.start = .entering) (h : P.funcs.any Func.goes = false) : false = c.goesBy P := by
  have hp : ∀ f, P.goes f = false := by
    intro f
    unfold Program.goes
    rw [h, Bool.and_false, Bool.or_false, List.any_eq_false]
    intro g _ hg
    cases e : P.funcs[g]? with
    | none => rw [e] at hg; simp at hg
    | some fn =>
      rw [e] at hg
      simp only [Option.any_some] at hg
      rw [Array.any_eq_false'] at h
      exact h fn (Array.mem_of_getElem? e) hg
  unfold OpenClaim.goesBy Program.goesAt Program.goesFrom
  rw [hs]
  cases P.funcNamed c.func with
  | none => rfl
  | some f => simp [hp f]
theorem nogo : Tryz.pinned.checked.prog.funcs.any Func.goes = false := by kernel_rfl
theorem goes : false = Rows.passAroundRow.goesBy Tryz.pinned.checked.prog := goesBy_of rfl nogo

/-- The statement. -/
theorem proved : Rows.PassAroundCardSaid :=
  Claim7.holds_tied_plain_at .later [] _ _ _ _ said (fun _ h => by cases h) wft (fun _ h => by cases h) passAround_row_tie rfl ⟨rfl, rfl⟩ mains rfl plain goes
#print axioms proved
end Go.Proofs.YtfdgbmkpmjkccaaGreatDoor.passAround
