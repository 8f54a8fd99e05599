/-
  The closed law JudgeKnown: the given function answers true, and leaves all that was there as it was. No condition: the function takes no input.
  The call is run by a machine of ours, whose answers are proved to be the model's, and which the kernel runs here.
  The frame is turned from the seed's page on a law over a package-level table.
-/
import Derived.Test.YtjeliljninkgeaaGreatDoorKnZ
import Derived.Test.YtjeliljninkgeaaGreatDoorCards
import Derived.Test.YtjeliljninkgeaaGreatDoorTie
import Derived.WalkKit
import Derived.ProofKit
import Derived.OpenShut
import Derived.Deep.DeepHandedRow
import Derived.Lib.LaidTab
namespace Go.Proofs.YtjeliljninkgeaaGreatDoor.judgeKnown
open Go.ChangeShapes Go.WideShapes Go.ChangeAt Go.RowKit
set_option linter.unusedVariables false

theorem own : ownKnob Tryz.prog.godebug = none := by kernel_rfl

/-- The cells that a listed datum lays. -/
def flat : Nat → DataW Unit → List Value
  | 0, _ => []
  | n + 1, d =>
    match d with
    | .lit (.int k z) => [.int k z]
    | .agg parts => parts.flatMap (flat n)
    | _ => []

/-- A listed variable has its block. -/
theorem has_block {P : Program} {W : World} {name : String} {g : Nat} (hg : P.globalNamed name = some g) : ∀ {l : List (String × DataW Unit)} {ps : List MemPlace}, DataW.LaidVars P W l ps → name ∈ l.map (·.1) → g < W.heap.size := by
  intro l
  induction l with
  | nil => intro ps _ h; simp at h
  | cons x l ih =>
    intro ps h hm
    obtain ⟨n, d⟩ := x
    obtain ⟨g', t, cs, fuel, p, q, e1, _, hv, _, hr, _⟩ := h
    rw [List.map_cons, List.mem_cons] at hm
    rcases hm with rfl | hm
    · obtain rfl := Option.some.inj (hg.symm.trans e1)
      unfold World.var? at hv
      rw [hg] at hv
      simp only [Option.bind_some] at hv
      split at hv
      · rename_i hb
        exact (Array.getElem?_eq_some_iff.mp hb).1
      · simp at hv
    · exact ih hr hm

theorem room {W : World} (h : laidMetH Tryz.prog Rows.judgeKnownRow.laid W) : Tryz.prog.globals.size ≤ W.heap.size := by
  have h' : laidMet Tryz.prog Rows.judgeKnownRow.laid W := h
  obtain ⟨ps, hl, _⟩ := h'
  have := has_block (P := Tryz.prog) (name := "math/bits.deBruijn64tab") (g := 5) (by kernel_rfl) hl (by decide)
  rw [g0]
  exact this

set_option maxRecDepth 100000 in
theorem contract (H : Type) (enc : TypeId × Value → H) (W : World) (base : Nat) (args : Array Value) (ds gs : List (DataW H)) (before : List MemPlace)
    (hval : ∀ (j : Nat) t v, Tryz.f3.params[j]? = some t → args[j]? = some v → Value.okWide Tryz.prog W .any base t v)
    (hW : DataW.Whole enc Tryz.prog Tryz.f3.params.toList Rows.judgeKnownSpec.vars false W args.toList ds gs before) (hL : laidMetH Tryz.prog Rows.judgeKnownRow.laid W) :
    Calls Tryz.prog 3 args W fun e W' => ∃ v, e = .returned v ∧ Rows.judgeKnownSpec.post enc Tryz.prog Tryz.f3 false true false false W args v W' := by
  have hW' := hW
  obtain ⟨p, q, hA0, hV, rfl, hfz, hnd⟩ := hW
  have hA : DataW.TrodAll enc Tryz.prog W 0 (fun _ => true) true Tryz.f3.params.toList args.toList ds p := hA0
  rw [Tryz.params3] at hA hval
  obtain ⟨rfl, rfl, rfl⟩ := trodAll_none hA
  obtain ⟨rfl, rfl⟩ := trodVars_none hV
  clear hA0
  simp only [List.append_nil] at hW'
  refine (walk0 W (room hL)).mono fun e W' ⟨he, hg⟩ => ?_
  subst he
  exact ⟨_, rfl, Go.Ab.post_of_below (pa := []) (pv := []) hW' (fun _ _ _ => (trodAll_cons_mk (shut_bool Tryz.underlying4 _) trodAll_mk0)) (fun sp _ => rfl) (fun _ _ => rfl) rfl hg (ok_one (by kernel_rfl) rfl (okWide_bool_mk Tryz.underlying4 _))⟩

end Go.Proofs.YtjeliljninkgeaaGreatDoor.judgeKnown
