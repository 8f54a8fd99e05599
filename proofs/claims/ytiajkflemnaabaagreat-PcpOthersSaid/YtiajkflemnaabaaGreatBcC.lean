/-
  What the abstract machine answers, the model answers: a call that needs nothing.
  Conditions: those that each lemma names.
-/
import Derived.Test.YtiajkflemnaabaaGreatBcB
namespace Go.Ab
variable [Val]
section
variable {P : Program}

/-- Only the globals' blocks, and what is in them unknown. -/
def phi0 (G : Nat) : Phi := fun g => if g < G then some (g, 0, 0) else none

theorem hr0 {G : Nat} {w : World} (hG : G ≤ 2 ^ HD) (hw : G ≤ w.heap.size) : HR G (phi0 G) ⟨G, .e⟩ w := by
  have hget : ∀ i, (⟨G, .e⟩ : H).get i = none := fun i => Tr.get_e _ _
  refine ⟨fun id p hp => ?_, fun id _ _ => hget id, hG, fun g hg => ⟨0, by simp [phi0, hg]⟩, fun i j oi oj p q hi => ?_, fun id o p hg => ?_⟩
  · unfold phi0 at hp
    split at hp
    · rename_i h
      obtain rfl := Option.some.inj hp
      exact ⟨h, Nat.lt_of_lt_of_le h hw⟩
    · simp at hp
  · rw [hget] at hi; simp at hi
  · rw [hget] at hg; simp at hg

omit [Val] in
theorem own0 {G : Nat} {b : Nat} : ¬ Owned (phi0 G) ⟨G, .e⟩ b := by
  rintro ⟨id, o, p, hg, _⟩
  rw [show (⟨G, .e⟩ : H).get id = none from Tr.get_e _ _] at hg
  simp at hg

theorem all_sim {kn : Known} (hkn : KnownSim P kn) (fuel n : Nat) :
    CallSim P P.globals.size (fns P kn fuel n).cl ∧ RoundSim P P.globals.size (fns P kn fuel n).rn ∧ DeferSim P P.globals.size (fns P kn fuel n).dc :=
  fns_sim hkn (fun _ _ h1 h2 => draw_sim h1 h2) fuel n

def noKnown : Known := fun _ _ _ => none
theorem noKnown_sim : KnownSim P noKnown := fun _ _ _ _ _ h => by simp [noKnown] at h

/-- A body's run, over any memory. -/
theorem calls_any {kn : Known} (hkn : KnownSim P kn) {fuel n : Nat} {f : FuncId} {args : List AV} {u : AMode} {h h' : H} {v : AV}
    (hrun : bodyA P (fns P kn fuel n).cl (fns P kn fuel n).rn (fns P kn fuel n).dc fuel f args .normal h = some (.ret v, u, h')) {φ : Phi} {w : World} {args' : Array Value}
    (hr : HR P.globals.size φ h w) (ha : LR φ args args') :
    Calls P f args' w fun e w' => ∃ φ' v', e = .returned v' ∧ VR φ' v v' ∧ HR P.globals.size φ' h' w' ∧ Post φ h w φ' h' w' := by
  obtain ⟨h1, h2, h3⟩ := all_sim hkn fuel n
  intro cs
  obtain ⟨φ', w', fr, a1, a2, a3, a4, v', a5, a6⟩ := body_calls (cs := cs) h1 h2 (draw_sim h1 h2) h3 hrun hr ha
  exact ⟨.returned v', w', fr, ⟨φ', v', rfl, a5, a1, a2⟩, a3, a4, a6⟩

/-- A call without arguments that yields true and leaves all that was there. -/
theorem calls_true {kn : Known} (hkn : KnownSim P kn) {fuel n : Nat} {f : FuncId} {u : AMode} {h' : H} (hG : P.globals.size ≤ 2 ^ HD)
    (hrun : bodyA P (fns P kn fuel n).cl (fns P kn fuel n).rn (fns P kn fuel n).dc fuel f [] .normal ⟨P.globals.size, .e⟩ = some (.ret (.bool true), u, h')) {w : World} (hw : P.globals.size ≤ w.heap.size) :
    Calls P f #[] w fun e w' => e = .returned (.bool true) ∧ w.heap.size ≤ w'.heap.size ∧ (∀ b, b < w.heap.size → w'.heap[b]? = w.heap[b]?) ∧ w'.os = w.os ∧ w'.tape = w.tape ∧ w'.output = w.output :=
  (calls_any hkn hrun (hr0 hG hw) (LR.nil _)).mono fun e w' h => by
    obtain ⟨φ', v', rfl, hv, _, hp⟩ := h
    exact ⟨by rw [hv.bool_inv], hp.size, fun b hb => (hp.keep b hb own0).1, hp.os, hp.tape, hp.out⟩

/-- What is asked of a kernel's run. -/
noncomputable def yieldsTrue (P : Program) (kn : Known) (fuel n : Nat) (f : FuncId) : Bool :=
  match bodyA P (fns P kn fuel n).cl (fns P kn fuel n).rn (fns P kn fuel n).dc fuel f [] .normal ⟨P.globals.size, .e⟩ with
  | some (.ret (.bool true), _, _) => true
  | _ => false

theorem calls_of_yields {kn : Known} (hkn : KnownSim P kn) {fuel n : Nat} {f : FuncId} (hG : P.globals.size ≤ 2 ^ HD) (h : yieldsTrue P kn fuel n f = true) {w : World} (hw : P.globals.size ≤ w.heap.size) :
    Calls P f #[] w fun e w' => e = .returned (.bool true) ∧ w.heap.size ≤ w'.heap.size ∧ (∀ b, b < w.heap.size → w'.heap[b]? = w.heap[b]?) ∧ w'.os = w.os ∧ w'.tape = w.tape ∧ w'.output = w.output := by
  unfold yieldsTrue at h
  split at h
  · rename_i u h' hrun
    exact calls_true hkn hG hrun hw
  · simp at h
end
end Go.Ab
