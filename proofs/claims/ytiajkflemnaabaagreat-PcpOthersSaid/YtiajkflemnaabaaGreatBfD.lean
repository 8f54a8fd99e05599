/-
  Calls known from elsewhere, beside those that are known by a run: what both serve together.
  Conditions: those that each lemma names.
-/
import Derived.Test.YtiajkflemnaabaaGreatBfC
import Derived.Laws.AppendOwn
noncomputable section
namespace Go.Ab
variable [Val]

theorem HR.grown {G : Nat} {φ : Phi} {h : H} {w w' : World} (hr : HR G φ h w) (hg : w.grownBy w' none) : HR G φ h w' ∧ Post φ h w φ h w' := by
  refine ⟨⟨fun id p hp => ⟨(hr.dom id p hp).1, Nat.lt_of_lt_of_le (hr.dom id p hp).2 hg.size⟩, hr.lt, hr.nx, hr.glob, hr.inj, fun id o p ho hp => ?_⟩,
    ⟨φ.le_refl, hg.size, hg.os, hg.tape, hg.output, Nat.le_refl _, fun b hb hn => ⟨hg.block b hb (by simp), hn⟩, fun _ _ hi => ⟨rfl, hi⟩⟩⟩
  rw [hg.block _ (hr.dom id p hp).2 (by simp)]
  exact hr.obj id o p ho hp

/-- A call that answers nothing and leaves memory as it was, but for new blocks. -/
theorem quiet_end {P : Program} {G : Nat} {f : FuncId} {args' : Array Value} {w : World} {c : Frame} {cs : List Frame} {φ : Phi} {h : H}
    (hc : Calls P f args' w fun e w' => e = .returned (.tuple #[]) ∧ w.grownBy w' none) (hr : HR G φ h w) :
    EndR P G (lone (Frame.enter P f args' .normal) (c :: cs) w) c cs φ h w h (.ret (.tup [])) := by
  obtain ⟨e, w', fr, ⟨rfl, hg⟩, hco, hf, hl⟩ := hc (c :: cs)
  obtain ⟨h1, h2⟩ := hr.grown hg
  exact ⟨φ, _, w', .tup rfl (fun i hi => absurd hi (by simp)), h1, h2, Steps.trans hco (Steps.one (step_leave_returned hl))⟩

/-- Calls known from elsewhere first, then those that are known by a run. -/
def knWith (kb : Known) (G : Nat) (l : List Ent) : Known := fun f args h => match kb f args h with
  | some r => some r
  | none => knOf G l f args h

/-- Each entry was run over calls that were known before it. -/
inductive AllGoodW (P : Program) (kb : Known) : List Ent → Prop
  | nil : AllGoodW P kb []
  | cons {e : Ent} {l m : List Ent} {fuel n : Nat} (h : AllGoodW P kb l) (hm : AllGoodW P kb m) (he : e.ok P (knWith kb P.globals.size m) P.globals.size fuel n = true) : AllGoodW P kb (e :: l)

omit [Val] in
theorem AllGoodW.one {P : Program} {kb : Known} {e : Ent} {m : List Ent} {fuel n : Nat} (hm : AllGoodW P kb m) (he : e.ok P (knWith kb P.globals.size m) P.globals.size fuel n = true) : AllGoodW P kb [e] := .cons .nil hm he
omit [Val] in
theorem AllGoodW.app {P : Program} {kb : Known} {e : Ent} {l : List Ent} (he : AllGoodW P kb [e]) (hl : AllGoodW P kb l) : AllGoodW P kb (e :: l) := by
  cases he with
  | cons _ hm h => exact .cons hl hm h

theorem with_sim {P : Program} {kb : Known} {l : List Ent} (hb : KnownSim P kb) (hl : KnownSim P (knOf P.globals.size l)) : KnownSim P (knWith kb P.globals.size l) := by
  intro f args h h' r hk hex φ w args' c cs hr ha
  unfold knWith at hk
  split at hk
  · rename_i q hq
    obtain rfl := Option.some.inj hk
    exact hb f args h h' r hq hex φ w args' c cs hr ha
  · exact hl f args h h' r hk hex φ w args' c cs hr ha

theorem knWith_sim {P : Program} {kb : Known} {l : List Ent} (hb : KnownSim P kb) (h : AllGoodW P kb l) : KnownSim P (knWith kb P.globals.size l) := by
  refine with_sim hb ?_
  induction h with
  | nil => intro f args h h' r hk; simp [knOf] at hk
  | @cons e l m fuel n _ _ he ih ihm =>
    intro f args h h' r hk hex φ w args' c cs hr ha
    unfold knOf at hk
    cases hf : Nat.beq e.f f with
    | false => rw [hf] at hk; exact ih f args h h' r hk hex φ w args' c cs hr ha
    | true =>
      rw [hf] at hk
      obtain rfl := Nat.eq_of_beq_eq_true hf
      simp only [cond_true] at hk
      split at hk
      · rename_i q hq
        obtain rfl := Option.some.inj hk
        exact Ent.serve_sim (with_sim hb ihm) (Ent.good he) hq hex hr ha
      · exact ih e.f args h h' r hk hex φ w args' c cs hr ha

/-- A sort of at most one element, of a slice of one type, by a given function. -/
def knTiny (f T : Nat) : Known := fun g args h => bif Nat.beq g f then
  match args with
  | [.iface t (.slice _ _ len _ _ _), .fn (.func _) _ _] => bif Nat.beq t T && Nat.ble len 1 then some (.ret (.tup []), h) else none
  | _ => none
  else none

theorem knTiny_sim {P : Program} {f T : Nat} (hc : ∀ (p : Option Addr) (n c g : Nat) (la lb : Array Value) (w : World), n ≤ 1 →
    Calls P f #[.iface T (.slice p n c), .func (.func g) la lb] w fun e w' => e = .returned (.tuple #[]) ∧ w.grownBy w' none) : KnownSim P (knTiny f T) := by
  intro g args h h' r hk hex φ w args' c cs hr ha
  unfold knTiny at hk
  cases hg : Nat.beq g f with
  | false => rw [hg] at hk; simp at hk
  | true =>
    rw [hg] at hk
    obtain rfl := Nat.eq_of_beq_eq_true hg
    simp only [cond_true] at hk
    split at hk
    · rename_i t id off len cap ex esz k l m
      cases ht : (Nat.beq t T && Nat.ble len 1) with
      | false => rw [ht] at hk; simp at hk
      | true =>
        rw [ht] at hk
        simp only [cond_true, Option.some.injEq, Prod.mk.injEq] at hk
        obtain ⟨rfl, rfl⟩ := hk
        simp only [Bool.and_eq_true] at ht
        have e1 := Nat.eq_of_beq_eq_true ht.1
        subst e1
        have e2 := Nat.le_of_ble_eq_true ht.2
        have hs := ha.size
        have h0 := ha.get 0 (by simp)
        have h1 := ha.get 1 (by simp)
        simp only [List.getD_cons_zero, List.getD_cons_succ] at h0 h1
        obtain ⟨v', hv, e0⟩ := h0.iface_inv
        obtain ⟨b, base, cs', o, cc, _, _, _, _, _, _, _, rfl⟩ := hv.slice_inv
        obtain ⟨f', a₁, a₂, hf, _, _, e1⟩ := h1.fn_inv
        cases hf
        have ea : args' = #[.iface t (.slice (some ⟨b, o, none⟩) len cc), .func (.func k) a₁ a₂] := by
          apply Array.ext
          · simpa using hs
          · intro i hi hi'
            have hi2 : i < 2 := by simpa using hi'
            rw [Array.getD_eq_getD_getElem?] at e0 e1
            match i, hi2 with
            | 0, _ => rw [Array.getElem?_eq_getElem hi] at e0; simpa using e0
            | 1, _ => rw [Array.getElem?_eq_getElem hi] at e1; simpa using e1
        rw [ea]
        exact quiet_end (hc _ _ _ _ _ _ _ e2) hr
    · simp at hk
end Go.Ab
