/-
  The law ShiftPlays: the given function answers true for every input, and leaves all that was there as it was.
  Conditions: those that each theorem names.
-/
import Derived.Test.YthonhnjdbnkfpaaTE
import Derived.Test.YthonhnjdbnkfpaaSM
import Derived.Test.YthonhnjdbnkfpaaRows
namespace Go.Proofs.Ythonhnjdbnkfpaa.shiftPlays
open Go.ChangeShapes Go.WideShapes Go.ChangeAt Go.RowKit
set_option linter.unusedVariables false

theorem laidOut : laidOutB Try.prog = true := by kernel_rfl
theorem own : ownKnob Try.prog.godebug = none := by kernel_rfl
set_option maxRecDepth 100000 in
theorem lifted (os : Os) (started : os.Started) (H : Type) (enc : TypeId × Value → H) :
    ReturnsInHanded {} Try.checked os 7 .any (Rows.shiftPlaysSpec.pre6 enc Try.prog Try.f7 Rows.shiftPlaysRow.domain false) (Rows.shiftPlaysSpec.post enc Try.prog Try.f7 false true false false) := by
  refine returnsInHanded_of_change (C := Try.checked) own started (by kernel_rfl) Try.func7
    (ChangeSpec.witness6 (enc := enc) (C := Try.checked) false ⟨#[], #[.slice none 0 0], []⟩ 8 (by kernel_rfl) (by kernel_rfl) (by kernel_rfl) (by kernel_rfl)) ?_
  intro W base args ds gs before hval0 hW hcnd _
  have hval : ∀ (j : Nat) t v, Try.f7.params[j]? = some t → args[j]? = some v → Value.okWide Try.prog W .any base t v := hval0
  have hW' := hW
  obtain ⟨p, q, hA0, hV, rfl, hfz, hnd⟩ := hW
  have hA : DataW.TrodAll enc Try.prog W 0 (fun _ => true) true Try.f7.params.toList args.toList ds p := hA0
  rw [Try.params7] at hA hval
  obtain ⟨v1, vs1, d1, ds1, p1, q1, hargs, rfl, rfl, h1, r1⟩ := trodAll_cons hA
  obtain ⟨rfl, rfl, rfl⟩ := trodAll_nil r1
  obtain rfl : args = #[v1] := by cases args; simp_all
  obtain ⟨rfl, rfl⟩ := trodVars_none hV
  obtain ⟨ao, len, cap, rfl⟩ := okWide_slice Try.underlying29 (hval 0 29 v1 rfl rfl)
  have h1k := h1
  obtain ⟨fuel, hf⟩ := h1
  obtain ⟨hz, hlen, Q, hQ⟩ := deeds_view hf
  clear hA0 hval0
  simp only [List.append_nil] at hW'
  have hlt : ∀ x ∈ p1, x.block < W.heap.size := fun x hx => by simpa using hW'.lt x (by simpa using hx)
  refine (plays_law W ao len cap (fun j => (Q j).1) (fun j => (Q j).2.1) (fun j => (Q j).2.2.1) (fun j => (Q j).2.2.2) hz (by unfold maxLen at hlen; omega)
    (fun j hj => by
      obtain ⟨lb, lo, e⟩ := hz.resolve_left (by omega)
      have := bounds_u32 (hQ lb lo e j hj).2.2.2.2
      omega)
    (fun lb lo e j hj => (hQ lb lo e j hj).1)).mono fun e W' ⟨he, hg⟩ => ?_
  subst he
  have hargs' := trodAll_cons_mk (Below.trod laidOut (by kernel_rfl) (of_decide_eq_true (by kernel_rfl)) h1k hg hlt) (trodAll_mk0 (enc := enc) (w := W') (base := 0) (spare := fun b => decide (b < W.heap.size)) (held := true))
  simp only [List.append_nil, List.nil_append] at hargs'
  exact ⟨_, rfl, post_old hW' (trodAll_cons_mk (shut_bool Try.underlying4 _) trodAll_mk0) hargs' rfl hg⟩

theorem over : Rows.shiftPlaysRow.holds Try.pinned (OpenSpec.ofChange Rows.shiftPlaysSpec) :=
  OpenClaim.holds_of_wide 7 Try.f7 rfl rfl rfl rfl rfl rfl rfl ⟨rfl, rfl, rfl, rfl, rfl⟩ rfl rfl rfl rfl rfl (by kernel_rfl) Try.func7 (by kernel_rfl)
    (of_decide_eq_true (by kernel_rfl)) (by unfold Func.isWrapper; first | (rw [if_pos (by decide +kernel)]; kernel_rfl) | (rw [if_neg (by decide +kernel)]; exact ⟨rfl, rfl⟩))
    (fun os started H enc _ => lifted os started H enc)

/-- The statement. -/
theorem proved : Rows.ShiftPlaysSaid :=
  over
#print axioms proved
end Go.Proofs.Ythonhnjdbnkfpaa.shiftPlays
