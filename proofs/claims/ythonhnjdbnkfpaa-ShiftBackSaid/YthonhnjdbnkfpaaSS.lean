/-
  The law ShiftBack: the given function answers true for every input, and leaves all that was there as it was.
  Conditions: those that each theorem names.
-/
import Derived.Test.YthonhnjdbnkfpaaSR
import Derived.Test.YthonhnjdbnkfpaaSM
import Derived.Test.YthonhnjdbnkfpaaRows
namespace Go.Proofs.Ythonhnjdbnkfpaa.shiftBack
open Go.ChangeShapes Go.WideShapes Go.ChangeAt Go.RowKit
set_option linter.unusedVariables false

theorem laidOut : laidOutB Try.prog = true := by kernel_rfl
theorem own : ownKnob Try.prog.godebug = none := by kernel_rfl
set_option maxRecDepth 100000 in
theorem lifted (os : Os) (started : os.Started) (H : Type) (enc : TypeId × Value → H) :
    ReturnsInHanded {} Try.checked os 4 .any (Rows.shiftBackSpec.pre6 enc Try.prog Try.f4 Rows.shiftBackRow.domain false) (Rows.shiftBackSpec.post enc Try.prog Try.f4 false true false false) := by
  refine returnsInHanded_of_change (C := Try.checked) own started (by kernel_rfl) Try.func4
    (ChangeSpec.witness6 (enc := enc) (C := Try.checked) false ⟨#[], #[.int .u32 0, .slice none 0 0, .int .u32 0], []⟩ 8 (by kernel_rfl) (by kernel_rfl) (by kernel_rfl) (by kernel_rfl)) ?_
  intro W base args ds gs before hval0 hW hcnd _
  have hval : ∀ (j : Nat) t v, Try.f4.params[j]? = some t → args[j]? = some v → Value.okWide Try.prog W .any base t v := hval0
  have hW' := hW
  obtain ⟨p, q, hA0, hV, rfl, hfz, hnd⟩ := hW
  have hA : DataW.TrodAll enc Try.prog W 0 (fun _ => true) true Try.f4.params.toList args.toList ds p := hA0
  rw [Try.params4] at hA hval
  obtain ⟨v0, vs0, d0, ds0, p0, q0, hargs, rfl, rfl, h0, r0⟩ := trodAll_cons hA
  obtain ⟨v1, vs1, d1, ds1, p1, q1, rfl, rfl, rfl, h1, r1⟩ := trodAll_cons r0
  obtain ⟨v2, vs2, d2, ds2, p2, q2, rfl, rfl, rfl, h2, r2⟩ := trodAll_cons r1
  obtain ⟨rfl, rfl, rfl⟩ := trodAll_nil r2
  obtain rfl : args = #[v0, v1, v2] := by cases args; simp_all
  obtain ⟨rfl, rfl⟩ := trodVars_none hV
  obtain ⟨a0, rfl, rfl, rfl, w0⟩ := open_int Try.underlying27 (hval 0 27 v0 rfl rfl) h0
  obtain ⟨a2, rfl, rfl, rfl, w2⟩ := open_int Try.underlying27 (hval 2 27 v2 rfl rfl) h2
  obtain ⟨ao, len, cap, rfl⟩ := okWide_slice Try.underlying29 (hval 1 29 v1 rfl rfl)
  have h1k := h1
  obtain ⟨fuel, hf⟩ := h1
  obtain ⟨hz, hlen, Q, hQ⟩ := deeds_view hf
  clear hA0 hval0
  simp only [List.append_nil] at hW'
  have hlt : ∀ x ∈ p1, x.block < W.heap.size := fun x hx => by simpa using hW'.lt x (by simpa using hx)
  refine (back_law W a0 a2 ao len cap (fun j => (Q j).1) (fun j => (Q j).2.1) (fun j => (Q j).2.2.1) w0 w2 hz hlen
    (fun lb lo e j hj => ⟨(hQ lb lo e j hj).1.1, by have := bounds_u32 (hQ lb lo e j hj).2.1; omega⟩)
    (fun lb lo e j hj => ⟨(hQ lb lo e j hj).1.2.1, by have := bounds_u32 (hQ lb lo e j hj).2.2.1; omega⟩)
    (fun lb lo e j hj => ⟨(hQ lb lo e j hj).1.2.2.1, bounds_i64 (hQ lb lo e j hj).2.2.2.1⟩)).mono fun e W' ⟨he, hg⟩ => ?_
  subst he
  have hargs' := trodAll_cons_mk (shut_int (enc := enc) (w := W') (base := 0) (spare := fun b => decide (b < W.heap.size)) (held := true) Try.underlying27 w0)
    (trodAll_cons_mk (Below.trod laidOut (by kernel_rfl) (of_decide_eq_true (by kernel_rfl)) h1k hg hlt) (trodAll_cons_mk (shut_int Try.underlying27 w2) trodAll_mk0))
  simp only [List.append_nil, List.nil_append] at hargs'
  exact ⟨_, rfl, post_old hW' (trodAll_cons_mk (shut_bool Try.underlying4 _) trodAll_mk0) hargs' rfl hg⟩

theorem over : Rows.shiftBackRow.holds Try.pinned (OpenSpec.ofChange Rows.shiftBackSpec) :=
  OpenClaim.holds_of_wide 4 Try.f4 rfl rfl rfl rfl rfl rfl rfl ⟨rfl, rfl, rfl, rfl, rfl⟩ rfl rfl rfl rfl rfl (by kernel_rfl) Try.func4 (by kernel_rfl)
    (of_decide_eq_true (by kernel_rfl)) (by unfold Func.isWrapper; first | (rw [if_pos (by decide +kernel)]; kernel_rfl) | (rw [if_neg (by decide +kernel)]; exact ⟨rfl, rfl⟩))
    (fun os started H enc _ => lifted os started H enc)

/-- The statement. -/
theorem proved : Rows.ShiftBackSaid :=
  over
#print axioms proved
end Go.Proofs.Ythonhnjdbnkfpaa.shiftBack
