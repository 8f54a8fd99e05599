/-
  A text, carried out by both machines.
  Conditions: those that each lemma names.
-/
import Derived.Test.YtiajkflemnaabaaGreatBbP
import Derived.RangeFuncNested
namespace Go.Ab
variable [Val]

def AroundR (φ : Phi) (around : Option Nat) (b : Frame) : Prop :=
  match around with
  | none => b.roundOf = none
  | some l => ∃ p, φ l = some p ∧ b.roundOf = some p.1

omit [Val] in
theorem AroundR.mono {φ φ' : Phi} (hle : φ.le φ') {around : Option Nat} {b : Frame} (h : AroundR φ around b) : AroundR φ' around b := by
  cases around with
  | none => exact h
  | some l => obtain ⟨p, hp, e⟩ := h; exact ⟨p, hle _ _ hp, e⟩

section
variable {P : Program} {G : Nat} {cl : CallFn} {rn : RoundFn}

theorem enter_ok {φ : Phi} {h h1 h2 : H} {w : World} (hr : HR G φ h w) {around : Option Nat} {b : Frame} (har : AroundR φ around b) {fi : FI} {regs : Tr AV} {tmps : Array Value}
    (hrr : RR φ fi regs tmps) {dfid l : Nat} {mark : List ADefer} (hmk : mkRange around h = some (dfid, mark, h1)) {fid : FuncId} {params : Array Tmp} {asg body : Code}
    (hn : h1.new (.loop .ready none fid fi regs params.toList asg body dfid) = some (l, h2)) :
    ∃ φ2 p mark' w2, (Instr.enterLoop fid tmps params asg body b.roundOf).run P w = .ok (p.1, mark') w2 ∧ HR G φ2 h2 w2 ∧ Post φ h w φ2 h2 w2 ∧ φ2 l = some p ∧
      ∀ sdf df, DFs φ sdf df → DFs φ2 (mark ++ sdf) (mark' ++ df) := by
  cases around with
  | none =>
    have har' : b.roundOf = none := har
    simp only [mkRange] at hmk
    cases hd : h.new (.dfr false) with
    | none => rw [hd] at hmk; simp at hmk
    | some q =>
      obtain ⟨r, h1'⟩ := q
      rw [hd] at hmk
      simp only [Option.map_some, Option.some.injEq, Prod.mk.injEq] at hmk
      obtain ⟨rfl, rfl, rfl⟩ := hmk
      obtain ⟨a1, b1⟩ := alloc_ok hr hd (ob := .deferred (some [])) (cs := 0) rfl
      have hsz : (w.alloc (.deferred (some []))).heap.size = w.heap.size + 1 := by simp
      have hrid : (φ.set r (w.heap.size, 0, 0)) r = some (w.heap.size, 0, 0) := Phi.set_same _ _ _
      obtain ⟨a2, b2⟩ := alloc_ok a1 hn (ob := .loop { state := .ready, pending := none, fn := fid, tmps := tmps, params := params, assign := asg, body := body, defers := w.heap.size }) (cs := 0)
        (by
          have hnone : (φ.set r (w.heap.size, 0, 0)) l = none := by
            obtain ⟨rfl, _, _, _⟩ := H.new_spec hn
            cases e : (φ.set r (w.heap.size, 0, 0)) h1'.nx with
            | none => rfl
            | some p => exact absurd (a1.dom _ _ e).1 (by omega)
          have hle := Phi.le_set (φ := φ.set r (w.heap.size, 0, 0)) (id := l) ((w.alloc (.deferred (some []))).heap.size, 0, 0) hnone
          exact ⟨tmps, (w.heap.size, 0, 0), (hrr.mono b1.le).mono hle, hle _ _ hrid, by simp⟩)
      refine ⟨_, _, [{ target := .collected w.heap.size, args := #[] }], _, ?_, a2, b1.trans b2, Phi.set_same _ _ _, fun sdf df hdf => ?_⟩
      · rw [har', run_enterLoop_outer, hsz]
      · exact .mark (b2.le _ _ hrid) (hdf.mono (b1.trans b2).le)
  | some l0 =>
    obtain ⟨p0, hp0, hro⟩ := har
    simp only [mkRange] at hmk
    split at hmk
    · rename_i st pend fn0 fi0 regs0 params0 asg0 body0 df0 hg
      simp only [Option.some.injEq, Prod.mk.injEq] at hmk
      obtain ⟨rfl, rfl, rfl⟩ := hmk
      obtain ⟨tm0, q0, hrr0, hq0, hob⟩ := hr.obj l0 _ p0 hg hp0
      obtain ⟨a2, b2⟩ := alloc_ok hr hn (ob := .loop { state := .ready, pending := none, fn := fid, tmps := tmps, params := params, assign := asg, body := body, defers := q0.1 }) (cs := 0)
        (by
          have hnone : φ l = none := by
            obtain ⟨rfl, _, _, _⟩ := H.new_spec hn
            cases e : φ h.nx with
            | none => rfl
            | some p => exact absurd (hr.dom _ _ e).1 (by omega)
          have hle := Phi.le_set (φ := φ) (id := l) (w.heap.size, 0, 0) hnone
          exact ⟨tmps, q0, hrr.mono hle, hle _ _ hq0, by simp⟩)
      refine ⟨_, _, [], _, ?_, a2, b2, Phi.set_same _ _ _, fun sdf df hdf => hdf.mono b2.le⟩
      rw [hro, run_enterLoop_inner hob]
    · simp at hmk

omit [Val] in
theorem mkF_todo (b : Frame) (tmps : Array Value) (df : List Deferred) (t t' : List Item) : { mkF b tmps df t with todo := t' } = mkF b tmps df t' := rfl

/-- A range over a function: from its text to where its body's last jump stands. -/
theorem range_sim (hcl : CallSim P G cl) {fid : FuncId} {fi : FI} {around : Option Nat} {f : Operand} {params : Array Tmp} {asg body : Code} {s : S} {r : Sum Res (Option Code × S)}
    (hrun : runRange P cl fid fi around f params asg body s = some r) {b : Frame} (hb : b.fn = fid) {k : List Item} {cs0 cs : List Frame} {φ : Phi} {tmps : Array Value} {df : List Deferred} {w : World}
    (hs : SR G φ fi s b tmps df cs0 cs w) (har : AroundR φ around b) :
    match r with
    | .inl q => Arr P G (lone (mkF b tmps df (.code (.rangeFunc f params asg body) :: k)) cs w) fi b k cs0 φ s.h w q
    | .inr (j, s') => ∃ φ' tmps' df' cs' w', SR G φ' fi s' b tmps' df' cs0 cs' w' ∧ Post φ s.h w φ' s'.h w' ∧
        Steps P (lone (mkF b tmps df (.code (.rangeFunc f params asg body) :: k)) cs w) (lone (mkF b tmps' df' ((j.map Item.code).toList ++ k)) cs' w') := by
  have hf := hs.eval df (.code (.rangeFunc f params asg body) :: k) f
  unfold runRange at hrun
  cases hmk : mkRange around s.h with
  | none => rw [hmk] at hrun; simp at hrun
  | some q =>
    obtain ⟨dfid, mark, h1⟩ := q
    rw [hmk] at hrun
    dsimp only at hrun
    cases hn : h1.new (.loop .ready none fid fi s.regs params.toList asg body dfid) with
    | none => rw [hn] at hrun; simp at hrun
    | some q =>
      obtain ⟨l, h2⟩ := q
      rw [hn] at hrun
      dsimp only at hrun
      obtain ⟨φ2, p, mark', w2, hent, hr2, hp2, hl2, hdf2⟩ := enter_ok (P := P) hs.hr har hs.rr hmk hn
      split at hrun
      · rename_i g first cap heq
        rw [heq] at hf
        obtain ⟨f', a1, a2, hfr, hl1, hl3, hv⟩ := hf.fn_inv
        cases hfr
        split at hrun
        · rename_i fn hfn
          split at hrun
          · simp at hrun
          · rename_i hname
            have hname1 : ¬ (fn.name == "runtime.NumGoroutine") = true := fun h => hname (.inl h)
            have hname2 : fn.body.isNone = false := by
              cases h : fn.body.isNone with
              | false => rfl
              | true => exact absurd (.inr h) hname
            have hbody : fn.body.isSome = true := by
              cases hh : fn.body with
              | none => rw [hh] at hname2; simp at hname2
              | some _ => rfl
            -- the call
            let args' : Array Value := a1 ++ #[.func (.yield p.1) #[] #[]] ++ a2
            have hargs : LR φ2 (first ++ [.fn (.yield l) [] []] ++ cap) args' :=
              ((hl1.mono hp2.le).append (LR.one (.fn (.yield hl2) rfl (fun i hi => absurd hi (by simp)) rfl (fun i hi => absurd hi (by simp))))).append (hl3.mono hp2.le)
            let fr : Frame := mkF b tmps (mark' ++ df) (.inRangeFunc p.1 :: k)
            have henter : step P (lone (mkF b tmps df (.code (.rangeFunc f params asg body) :: k)) cs w) = .next (lone (Frame.enter P g args' .normal) (fr :: cs) w2) := by
              refine step_lone_go ?_
              have hev : (mkF b tmps (mark' ++ df) (.inRangeFunc p.1 :: k)).eval f = .func (.func g) a1 a2 := by rw [← hv]; cases f <;> rfl
              have hres : (do let d ← resolve (mkF b tmps (mark' ++ df) (.inRangeFunc p.1 :: k)).eval { callee := .value f, args := #[.const (.func (.yield p.1) #[] #[])], argTypes := #[] } 0; invoke d.target d.args : Sem Next).run P w2 =
                  .ok (.enter g args') w2 := by
                simp only [resolve, hev, Deferred.ofValue, invoke, callFunc, Sem.run_bind, Sem.run_pure, run_program, Result.andThen_ok, hfn, hname1, hname2, Bool.false_eq_true, if_false]
                simp [args', Frame.eval]
              have hent' : (Instr.enterLoop b.fn tmps params asg body b.roundOf).run P w = .ok (p.1, mark') w2 := by rw [hb]; exact hent
              have hro : (mkF b tmps df (.code (.rangeFunc f params asg body) :: k)).roundOf = b.roundOf := rfl
              simp only [mkF] at hres ⊢
              simp [stepG, stepG.exec, hent', stepG.apply, hres]
              rfl
            cases hc : cl g (first ++ [.fn (.yield l) [] []] ++ cap) h2 with
            | none => rw [hc] at hrun; simp at hrun
            | some q =>
              obtain ⟨e, h3⟩ := q
              rw [hc] at hrun
              have hend := hcl g _ h2 h3 e hc ⟨fn, hfn, hbody⟩ φ2 w2 args' fr cs hr2 hargs
              cases e with
              | pan chain =>
                simp only [Option.some.injEq] at hrun
                subst hrun
                obtain ⟨φ3, chain', w3, hch, hr3, hp3, hst⟩ := hend
                exact ⟨φ3, tmps, mark' ++ df, cs, w3, _, chain', ⟨hr3, hs.rr.mono (hp2.trans hp3).le, (hdf2 _ _ hs.dr).mono hp3.le, hs.ur.mono (hp2.trans hp3).le, hs.fG⟩, hp2.trans hp3, hch, .head henter hst⟩
              | ret v =>
                dsimp only at hrun
                obtain ⟨φ3, v', w3, hv3, hr3, hp3, hst⟩ := hend
                split at hrun
                · rename_i st pend fid4 fi4 regs4 params4 asg4 body4 df4 hg
                  split at hrun
                  · simp at hrun
                  · rename_i hnb
                    simp only [Option.some.injEq] at hrun
                    subst hrun
                    have hl3' := hp3.le _ _ hl2
                    obtain ⟨tm4, q4, hrr4, hq4, hob⟩ := hr3.obj l _ p hg hl3'
                    obtain ⟨a5, b5⟩ := set_ok hr3 hg rfl hl3' (o₂ := .loop .exhausted pend fid4 fi4 regs4 params4 asg4 body4 df4)
                      (ob := .loop { state := .exhausted, pending := pend, fn := fid4, tmps := tm4, params := params4.toArray, assign := asg4, body := body4, defers := q4.1 }) ⟨tm4, q4, hrr4, hq4, rfl⟩
                    have hstep : step P (lone (mkF b tmps (mark' ++ df) (.endRangeFunc p.1 :: k)) cs w3) = .next (lone (mkF b tmps (mark' ++ df) ((pend.map Item.code).toList ++ k)) cs
                        (setBlk w3 p.1 (.loop { state := .exhausted, pending := pend, fn := fid4, tmps := tm4, params := params4.toArray, assign := asg4, body := body4, defers := q4.1 }))) := by
                      refine step_lone_go ?_
                      have := run_endLoop (P := P) hob hnb
                      simp [stepG, stepG.exec, mkF, this]
                      rfl
                    have hfin : fr.finish v' = mkF b tmps (mark' ++ df) (.endRangeFunc p.1 :: k) := rfl
                    rw [hfin] at hst
                    refine ⟨φ3, tmps, mark' ++ df, cs, _, ⟨a5, hs.rr.mono (hp2.trans hp3).le, (hdf2 _ _ hs.dr).mono hp3.le, hs.ur.mono (hp2.trans hp3).le, hs.fG⟩, (hp2.trans hp3).trans b5, ?_⟩
                    exact .head henter (hst.trans (.one hstep))
                · simp at hrun
        · simp at hrun
      · simp at hrun
end
end Go.Ab
