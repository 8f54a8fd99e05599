/-
  One operation of a region, carried out by both machines; a region whose order is the text's.
  Conditions: those that each lemma names.
-/
import Derived.Test.YtiajkflemnaabaaGreatBbN
namespace Go.Ab
variable [Val]

def putT (dst : Option Tmp) (v : Value) (tmps : Array Value) : Array Value :=
  match dst with
  | some d => tmps.setIfInBounds d v
  | none => tmps

omit [Val] in
theorem mkF_finish' {b : Frame} {tmps : Array Value} {df : List Deferred} {ops : Array Oper} {i : Nat} {rest : List Nat} {k : List Item} {o : Oper} (ho : ops[i]? = some o) (v : Value) :
    (mkF b tmps df (.inRegion ops (i :: rest) :: k)).finish v = mkF b (putT o.dst v tmps) df (.inRegion ops rest :: k) := by
  rw [mkF_finish, ho]; rfl

omit [Val] in
theorem mkF_raise (b : Frame) (tmps : Array Value) (df : List Deferred) (todo : List Item) (l : List PanicEntry) :
    (mkF b tmps df todo).raise l = { mkF b tmps df todo with mode := .panicking l } := rfl

/-- What a step of a region comes to. -/
def StepOut (P : Program) (G : Nat) (fi : FI) (o : Oper) (s : S) (b : Frame) (tmps : Array Value) (df : List Deferred) (ops : Array Oper) (i : Nat) (rest : List Nat) (k : List Item)
    (cs0 cs : List Frame) (φ : Phi) (w : World) : Sum S Res → Prop
  | .inl s' => ∃ v, s'.regs = putReg fi s.regs o.dst v ∧ ∃ φ' v' df' cs' w', VR φ' v v' ∧ HR G φ' s'.h w' ∧ Post φ s.h w φ' s'.h w' ∧ DFs φ' s'.df df' ∧ URel φ' b cs0 s'.u cs' ∧
      Steps P (lone (mkF b tmps df (.inRegion ops (i :: rest) :: k)) cs w) (lone (mkF b (putT o.dst v' tmps) df' (.inRegion ops rest :: k)) cs' w')
  | .inr (.pan chain s') => s'.regs = s.regs ∧ s'.df = s.df ∧ s'.u = s.u ∧ ∃ φ' chain' w', ChainR φ' chain chain' ∧ HR G φ' s'.h w' ∧ Post φ s.h w φ' s'.h w' ∧
      Steps P (lone (mkF b tmps df (.inRegion ops (i :: rest) :: k)) cs w) (lone { mkF b tmps df (.inRegion ops (i :: rest) :: k) with mode := .panicking chain' } cs w')
  | .inr _ => False

section
variable {P : Program} {G : Nat} {cl : CallFn} {rn : RoundFn}

omit [Val] in
theorem op_defer {o : Oper} {ρ : Operand → AV} {h : H} (h' : ∀ d h₂, opR P ρ o h ≠ some (.defer d h₂)) (hsome : (opR P ρ o h).isSome = true) : ∀ c, o.op ≠ .defer c := by
  intro c hc
  unfold opR at h' hsome
  rw [hc] at h' hsome
  dsimp only at h' hsome
  split at hsome
  · rename_i f hf
    rw [hf] at h'
    cases hd : resolveA ρ c with
    | none => rw [hd] at hsome; simp at hsome
    | some d =>
      rw [hd] at h'
      exact h' d h rfl
  · simp at hsome

theorem step_core (hcl : CallSim P G cl) (hrn : RoundSim P G rn) {fi : FI} {o : Oper} {s : S} {r : Sum S Res} (hs : stepA P cl rn fi o s = some r)
    {b : Frame} {tmps : Array Value} {df : List Deferred} {ops : Array Oper} {i : Nat} {rest : List Nat} {k : List Item} {cs0 cs : List Frame} {φ : Phi} {w : World}
    {ρ : Operand → AV} (hcong : opA P fi s.regs o s.h = opR P ρ o s.h)
    (hρ : ∀ x, VR φ (ρ x) ((mkF b tmps df (.inRegion ops (i :: rest) :: k)).eval x)) (ho : ops[i]? = some o) (hw : Region.wanted o (yielded ops tmps) = true)
    (hr : HR G φ s.h w) (hd : DFs φ s.df df) (hu : URel φ b cs0 s.u cs) : StepOut P G fi o s b tmps df ops i rest k cs0 cs φ w r := by
  obtain ⟨regs, sdf, h, u⟩ := s
  dsimp only at hcong hr hd hu
  unfold stepA at hs
  dsimp only at hs
  rw [hcong] at hs
  have hne : b.kind ≠ .early := by
    cases hu with
    | normal hk _ => rw [hk]; simp
    | round hk _ => rw [hk]; simp
    | deferred hk _ _ _ => rw [hk]; simp
  generalize hop : opR P ρ o h = oar at hs
  cases oar with
  | none => simp at hs
  | some ar =>
    have hok := opR_ok hr hρ hop
    have nd : (∀ d h₂, ar ≠ .defer d h₂) → ∀ c, o.op ≠ .defer c := fun hn =>
      op_defer (P := P) (ρ := ρ) (h := h) (fun d h₂ he => hn d h₂ (by rw [hop] at he; exact Option.some.inj he)) (by rw [hop]; rfl)
    cases ar with
    | val v h' =>
      simp only [Option.some.injEq] at hs
      subst hs
      obtain ⟨φ', nx, v', w', hrun, hnx, hv, hhr, hp⟩ := hok
      refine ⟨v, rfl, φ', v', df, cs, w', hv, hhr, hp, hd.mono hp.le, hu.mono hp.le, .one (step_lone_go ?_)⟩
      rw [stepG_op' ho hw (.inr (nd (by simp)))]
      rcases hnx with rfl | ⟨rfl, rfl⟩
      · rw [← mkF_finish' ho]
        simp [stepG.apply, hrun]
      · rw [← mkF_finish' ho]
        simp [stepG.apply, hrun]
    | enter f args h' =>
      obtain ⟨args', hrun, hargs, rfl, hfn⟩ := hok
      have henter : step P (lone (mkF b tmps df (.inRegion ops (i :: rest) :: k)) cs w) =
          .next (lone (Frame.enter P f args' .normal) (mkF b tmps df (.inRegion ops (i :: rest) :: k) :: cs) w) :=
        step_lone_go (by rw [stepG_op' ho hw (.inr (nd (by simp)))]; simp [stepG.apply, hrun]; simp [mkF])
      dsimp only at hs
      generalize hc : cl f args h' = oc at hs
      cases oc with
      | none => simp at hs
      | some p =>
        obtain ⟨e, h2⟩ := p
        have hend := hcl f args h' h2 e hc hfn φ w args' (mkF b tmps df (.inRegion ops (i :: rest) :: k)) cs hr hargs
        cases e with
        | ret v =>
          simp only [Option.some.injEq] at hs
          subst hs
          obtain ⟨φ', v', w', hv, hhr, hp, hst⟩ := hend
          rw [mkF_finish' ho] at hst
          exact ⟨v, rfl, φ', v', df, cs, w', hv, hhr, hp, hd.mono hp.le, hu.mono hp.le, .head henter hst⟩
        | pan chain =>
          simp only [Option.some.injEq] at hs
          subst hs
          obtain ⟨φ', chain', w', hv, hhr, hp, hst⟩ := hend
          exact ⟨rfl, rfl, rfl, φ', chain', w', hv, hhr, hp, .head henter hst⟩
    | round l args h' =>
      obtain ⟨args', p, hφ, hrun, hargs, rfl⟩ := hok
      dsimp only at hs
      generalize hc : rn l args h' = oc at hs
      cases oc with
      | none => simp at hs
      | some pp =>
        obtain ⟨e, h2⟩ := pp
        obtain ⟨fn, tm, asg, body, hy, hend⟩ := hrn l args h' h2 e hc φ w args' p (mkF b tmps df (.inRegion ops (i :: rest) :: k)) cs hr hargs hφ
        have henter : step P (lone (mkF b tmps df (.inRegion ops (i :: rest) :: k)) cs w) =
            .next (lone (Frame.round p.1 fn tm asg body .normal) (mkF b tmps df (.inRegion ops (i :: rest) :: k) :: cs) w) :=
          step_lone_go (by rw [stepG_op' ho hw (.inr (nd (by simp)))]; simp [stepG.apply, hrun, hy])
        cases e with
        | ret v =>
          simp only [Option.some.injEq] at hs
          subst hs
          obtain ⟨φ', v', w', hv, hhr, hp, hst⟩ := hend
          rw [mkF_finish' ho] at hst
          exact ⟨v, rfl, φ', v', df, cs, w', hv, hhr, hp, hd.mono hp.le, hu.mono hp.le, .head henter hst⟩
        | pan chain =>
          simp only [Option.some.injEq] at hs
          subst hs
          obtain ⟨φ', chain', w', hv, hhr, hp, hst⟩ := hend
          exact ⟨rfl, rfl, rfl, φ', chain', w', hv, hhr, hp, .head henter hst⟩
    | defer d h' =>
      obtain ⟨d', hrun, hdr, rfl⟩ := hok
      dsimp only at hs
      cases hin : u.inRound with
      | true => rw [hin] at hs; simp at hs
      | false =>
        rw [hin] at hs
        simp only [cond_false, Option.some.injEq] at hs
        subst hs
        have hro : b.roundOf = none := by
          cases hu with
          | normal _ h => exact h
          | round _ _ => simp [AMode.inRound] at hin
          | deferred _ h _ _ => exact h
        refine ⟨.tup [], rfl, φ, undef, d' :: df, cs, w, .tup (by simp) (fun i hi => absurd hi (by simp)), hr, Post.refl _ _ _, .call hdr hd, hu, .one (step_lone_go ?_)⟩
        rw [stepG_op' ho hw (.inl hro)]
        have := mkF_finish' (b := b) (tmps := tmps) (df := d' :: df) (rest := rest) (k := k) ho undef
        rw [← this]
        simp [stepG.apply, hrun]
        rfl
    | recover h' =>
      obtain ⟨hrun, rfl⟩ := hok
      dsimp only at hs
      have hkind : (mkF b tmps df (.inRegion ops (i :: rest) :: k)).kind = b.kind := rfl
      have hround : (mkF b tmps df (.inRegion ops (i :: rest) :: k)).roundOf = b.roundOf := rfl
      cases hu with
      | round _ _ => simp [recoverA] at hs
      | normal hk hro =>
        simp only [recoverA, Option.some.injEq] at hs
        subst hs
        refine ⟨.nili, rfl, φ, .nilIface, df, _, w, .nili, hr, Post.refl _ _ _, hd, .normal hk hro, .one (step_lone_go ?_)⟩
        rw [stepG_op' ho hw (.inr (nd (by simp))), ← mkF_finish' ho]
        have htr : ∀ cs, tryRecover (mkF b tmps df (.inRegion ops (i :: rest) :: k)) cs = none := by
          intro cs
          unfold tryRecover
          rw [hkind, hk]
        simp [stepG.apply, hrun, htr, hround, hro]
      | deferred hk hro hc hm =>
        have htr := fun cs => tryRecover_deferred (fr := mkF b tmps df (.inRegion ops (i :: rest) :: k)) (hkind.trans hk) cs
        cases hm with
        | returning =>
          simp only [recoverA, Option.some.injEq] at hs
          subst hs
          refine ⟨.nili, rfl, φ, .nilIface, df, _, w, .nili, hr, Post.refl _ _ _, hd, .deferred hk hro hc .returning, .one (step_lone_go ?_)⟩
          rw [stepG_op' ho hw (.inr (nd (by simp))), ← mkF_finish' ho]
          simp [stepG.apply, hrun, htr, hround, hro, recoverD]
        | panicking hch =>
          cases hch with
          | nil =>
            simp only [recoverA, Option.some.injEq] at hs
            subst hs
            refine ⟨.nili, rfl, φ, .nilIface, df, _, w, .nili, hr, Post.refl _ _ _, hd, .deferred hk hro hc (.panicking .nil), .one (step_lone_go ?_)⟩
            rw [stepG_op' ho hw (.inr (nd (by simp))), ← mkF_finish' ho]
            simp [stepG.apply, hrun, htr, hround, hro, recoverD]
          | @cons v v' rec l l' hv ht =>
            cases rec with
            | true =>
              simp only [recoverA, Option.some.injEq] at hs
              subst hs
              refine ⟨.nili, rfl, φ, .nilIface, df, _, w, .nili, hr, Post.refl _ _ _, hd, .deferred hk hro hc (.panicking (.cons hv ht)), .one (step_lone_go ?_)⟩
              rw [stepG_op' ho hw (.inr (nd (by simp))), ← mkF_finish' ho]
              simp [stepG.apply, hrun, htr, hround, hro, recoverD]
            | false =>
              simp only [recoverA, Option.some.injEq] at hs
              subst hs
              refine ⟨v, rfl, φ, v', df, _, w, hv, hr, Post.refl _ _ _, hd, .deferred hk hro hc (.panicking (.cons (r := true) hv ht)), .one (step_lone_go ?_)⟩
              rw [stepG_op' ho hw (.inr (nd (by simp))), ← mkF_finish' ho]
              simp [stepG.apply, hrun, htr, hround, hro, recoverD]
    | panic v h' =>
      obtain ⟨v', hrun, hv, rfl⟩ := hok
      simp only [Option.some.injEq] at hs
      subst hs
      refine ⟨rfl, rfl, rfl, φ, [{ v := v', recovered := false }], w, .cons hv .nil, hr, Post.refl _ _ _, .one (step_lone_go ?_)⟩
      rw [stepG_op' ho hw (.inr (nd (by simp))), ← mkF_raise]
      simp [stepG.apply, hrun]
end
end Go.Ab
