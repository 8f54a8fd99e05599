/-
  Calls, deferred calls, rounds: all levels.
  Conditions: those that each lemma names.
-/
import Derived.Test.YtiajkflemnaabaaGreatBbT
namespace Go.Ab
variable [Val]
section
variable {P : Program} {G : Nat} {cl : CallFn} {rn : RoundFn} {dc : DeferFn}

omit [Val] in
theorem argRegs_get {fi : FI} (hd : fi.sz ≤ 2 ^ fi.rd) : ∀ (l : List AV) (i : Nat) (t : Tr AV) (j : Nat), i + l.length ≤ fi.sz → j < fi.sz →
    (argRegs fi i l t).get fi.rd j = if i ≤ j ∧ j < i + l.length then some (l.getD (j - i) .junk) else t.get fi.rd j := by
  intro l
  induction l with
  | nil =>
    intro i t j _ _
    simp only [argRegs, List.length_nil, Nat.add_zero]
    rw [if_neg (by omega)]
  | cons v l ih =>
    intro i t j hi hj
    simp only [List.length_cons] at hi ⊢
    unfold argRegs
    rw [ih (i + 1) _ j (by omega) hj]
    have hlt : Nat.blt i fi.sz = true := by unfold Nat.blt; exact Nat.ble_eq_true_of_le (by omega)
    simp only [putReg, hlt, cond_true]
    by_cases h1 : i + 1 ≤ j ∧ j < i + 1 + l.length
    · rw [if_pos h1, if_pos (by omega)]
      have : j - i = (j - (i + 1)) + 1 := by omega
      rw [this, List.getD_cons_succ]
    · rw [if_neg h1, Tr.get_set_lt v t (by omega) (by omega)]
      by_cases h2 : i = j
      · subst h2
        rw [if_pos rfl, if_pos (by omega)]
        simp
      · rw [if_neg h2, if_neg (by omega)]

theorem argRegs_ok {φ : Phi} {args : List AV} {args' : Array Value} (ha : LR φ args args') (ntmps G : Nat) :
    RR φ ⟨depFor (Nat.max ntmps args.length), Nat.max ntmps args.length, G⟩ (argRegs ⟨depFor (Nat.max ntmps args.length), Nat.max ntmps args.length, G⟩ 0 args .e)
      (args' ++ Array.replicate (ntmps - args'.size) undef) := by
  have hsz := ha.size
  have hmax : Nat.max ntmps args.length = args'.size + (ntmps - args'.size) := by
    rw [hsz]
    show max ntmps args.length = _
    omega
  refine ⟨by simpa using hmax.symm, le_depFor _, fun t ht => ?_⟩
  rw [argRegs_get (le_depFor _) args 0 .e t (by simp only [Nat.zero_add]; exact Nat.le_max_right _ _) ht]
  by_cases h1 : t < args.length
  · rw [if_pos (by omega)]
    have : (args' ++ Array.replicate (ntmps - args'.size) undef).getD t undef = args'.getD t undef := by
      rw [Array.getD_eq_getD_getElem?, Array.getD_eq_getD_getElem?, Array.getElem?_append_left (by omega)]
    rw [this]
    exact ha.get t h1
  · rw [if_neg (by omega)]
    rw [Tr.get_e]
    exact .junk _

omit [Val] in
theorem stp_end {b : Frame} (hro : b.roundOf = none) {tmps : Array Value} {df : List Deferred} {cs : List Frame} {w : World} :
    step P (lone (mkF b tmps df []) cs w) = .next (lone { mkF b tmps df [] with mode := .returning } cs w) := step_lone_go (by simp [stepG, stepG.exec, mkF, hro])
omit [Val] in
theorem stp_ret {b : Frame} (hro : b.roundOf = none) {tmps : Array Value} {df : List Deferred} {k : List Item} {cs : List Frame} {w : World} :
    step P (lone (mkF b tmps df (.code .ret :: k)) cs w) = .next (lone { mkF b tmps df (.code .ret :: k) with mode := .returning } cs w) := step_lone_go (by simp [stepG, stepG.exec, mkF, hro])

theorem body_core (hcl : CallSim P P.globals.size cl) (hrn : RoundSim P P.globals.size rn) (hdr : DrawSim P P.globals.size cl rn) (hdc : DeferSim P P.globals.size dc) {fuel : Nat} {f : FuncId} {args : List AV}
    {u u' : AMode} {h h' : H} {e : AEnd} (hb : bodyA P cl rn dc fuel f args u h = some (e, u', h')) {kind : CallKind} {φ : Phi} {w : World} {args' : Array Value} {cs0 cs : List Frame}
    (hr : HR P.globals.size φ h w) (ha : LR φ args args') (hu : URel φ { (default : Frame) with fn := f, kind := kind } cs0 u cs) :
    ∃ fn φ1 h1 w1 tmps todo cs1, P.funcs[f]? = some fn ∧ URel φ1 { (default : Frame) with fn := f, kind := kind } cs0 u' cs1 ∧ Post φ h w φ1 h1 w1 ∧
      Left P P.globals.size (lone (Frame.enter P f args' kind) cs w) { (default : Frame) with fn := f, kind := kind } tmps todo fn cs1 φ1 h1 w1 h' e := by
  unfold bodyA at hb
  split at hb
  · simp at hb
  · rename_i fn hf
    split at hb
    · simp at hb
    · rename_i c hbody
      dsimp only at hb
      generalize hfi : (⟨depFor (Nat.max fn.ntmps args.length), Nat.max fn.ntmps args.length, P.globals.size⟩ : FI) = fi at hb
      have hG : fi.G = P.globals.size := by subst hfi; rfl
      have henter : Frame.enter P f args' kind = mkF { (default : Frame) with fn := f, kind := kind } (args' ++ Array.replicate (fn.ntmps - args'.size) undef) [] [.code c] := by
        simp [Frame.enter, mkF, hf, hbody]; rfl
      cases hex : exec P cl rn f fi none fuel c { regs := argRegs fi 0 args .e, df := [], h := h, u := u } with
      | none => rw [hex] at hb; simp at hb
      | some r =>
        rw [hex] at hb
        have hs : SR P.globals.size φ fi { regs := argRegs fi 0 args .e, df := [], h := h, u := u } { (default : Frame) with fn := f, kind := kind } (args' ++ Array.replicate (fn.ntmps - args'.size) undef) [] cs0 cs w :=
          ⟨hr, by subst hfi; exact argRegs_ok ha fn.ntmps P.globals.size, .nil, hu, hG⟩
        have harr := exec_sim (b := { (default : Frame) with fn := f, kind := kind }) hcl hrn hdr rfl fuel c _ r hex φ _ [] cs w [] _ (.inl rfl) hs rfl
        rw [henter]
        cases r with
        | ext id s => simp at hb
        | nor s =>
          dsimp only at hb
          obtain ⟨φ1, t1, d1, c1, w1, hs1, hp1, hst1⟩ := harr
          cases hl : leaveA P dc fi fn s.df .returning s with
          | none => rw [hl] at hb; simp at hb
          | some q =>
            rw [hl] at hb
            simp only [Option.map_some, Option.some.injEq, Prod.mk.injEq] at hb
            obtain ⟨rfl, rfl, rfl⟩ := hb
            have := leave_sim (P := P) (todo := []) (cs := c1) (b := { (default : Frame) with fn := f, kind := kind }) hdc hG s.df .returning s q.1 q.2 hl φ1 d1 .returning w1 hs1.hr hs1.rr hs1.dr .returning
            exact ⟨fn, φ1, s.h, w1, t1, [], c1, hf, hs1.ur, hp1, this.pre (hst1.trans (.one (stp_end rfl))) (Post.refl _ _ _)⟩
        | ret s =>
          dsimp only at hb
          obtain ⟨φ1, t1, d1, c1, w1, k0, hs1, hp1, hst1⟩ := harr
          cases hl : leaveA P dc fi fn s.df .returning s with
          | none => rw [hl] at hb; simp at hb
          | some q =>
            rw [hl] at hb
            simp only [Option.map_some, Option.some.injEq, Prod.mk.injEq] at hb
            obtain ⟨rfl, rfl, rfl⟩ := hb
            have := leave_sim (P := P) (todo := .code .ret :: k0) (cs := c1) (b := { (default : Frame) with fn := f, kind := kind }) hdc hG s.df .returning s q.1 q.2 hl φ1 d1 .returning w1 hs1.hr hs1.rr hs1.dr .returning
            exact ⟨fn, φ1, s.h, w1, t1, _, c1, hf, hs1.ur, hp1, this.pre (hst1.trans (.one (stp_ret rfl))) (Post.refl _ _ _)⟩
        | pan chain s =>
          dsimp only at hb
          obtain ⟨φ1, t1, d1, c1, w1, td, chain', hs1, hp1, hch, hst1⟩ := harr
          cases hl : leaveA P dc fi fn s.df (.panicking chain) s with
          | none => rw [hl] at hb; simp at hb
          | some q =>
            rw [hl] at hb
            simp only [Option.map_some, Option.some.injEq, Prod.mk.injEq] at hb
            obtain ⟨rfl, rfl, rfl⟩ := hb
            have := leave_sim (P := P) (todo := td) (cs := c1) (b := { (default : Frame) with fn := f, kind := kind }) hdc hG s.df (.panicking chain) s q.1 q.2 hl φ1 d1 (.panicking chain') w1 hs1.hr hs1.rr hs1.dr (.panicking hch)
            exact ⟨fn, φ1, s.h, w1, t1, td, c1, hf, hs1.ur, hp1, this.pre hst1 (Post.refl _ _ _)⟩

/-- A call, up to where its frame stands, leaving. -/
theorem body_calls (hcl : CallSim P P.globals.size cl) (hrn : RoundSim P P.globals.size rn) (hdr : DrawSim P P.globals.size cl rn) (hdc : DeferSim P P.globals.size dc) {fuel : Nat} {f : FuncId} {args : List AV}
    {u' : AMode} {h h' : H} {e : AEnd} (hb : bodyA P cl rn dc fuel f args .normal h = some (e, u', h')) {φ : Phi} {w : World} {args' : Array Value} {cs : List Frame}
    (hr : HR P.globals.size φ h w) (ha : LR φ args args') :
    ∃ φ' w' fr, HR P.globals.size φ' h' w' ∧ Post φ h w φ' h' w' ∧ Steps P (lone (Frame.enter P f args' .normal) cs w) (lone fr cs w') ∧ fr.fn = f ∧
      (match e with
       | .ret v => ∃ v', VR φ' v v' ∧ fr.leaving P w' (.returned v')
       | .pan chain => ∃ chain', ChainR φ' chain chain' ∧ fr.leaving P w' (.panicked chain')) := by
  obtain ⟨fn, φ1, h1, w1, tmps, todo, cs1, hf, hu1, hp1, hleft⟩ := body_core (kind := .normal) hcl hrn hdr hdc hb hr ha (.normal rfl rfl (cs0 := cs))
  cases e with
  | ret v =>
    obtain ⟨φ', v', w', hv, hr', hp', hst, hres⟩ := hleft
    cases hu1 with
    | normal _ _ => exact ⟨φ', w', _, hr', hp1.trans hp', hst, rfl, v', hv, rfl, rfl, rfl, fn, hf, hres⟩
    | round _ hro => simp at hro; exact absurd hro (by intro h; cases h)
    | deferred hk _ _ _ => simp at hk
  | pan chain =>
    obtain ⟨φ', chain', w', hv, hr', hp', hst⟩ := hleft
    cases hu1 with
    | normal _ _ => exact ⟨φ', w', _, hr', hp1.trans hp', hst, rfl, chain', hv, rfl, rfl, fn, hf⟩
    | round _ hro => simp at hro; exact absurd hro (by intro h; cases h)
    | deferred hk _ _ _ => simp at hk

theorem body_callSim (hcl : CallSim P P.globals.size cl) (hrn : RoundSim P P.globals.size rn) (hdr : DrawSim P P.globals.size cl rn) (hdc : DeferSim P P.globals.size dc) {fuel : Nat} :
    CallSim P P.globals.size fun f args h => (bodyA P cl rn dc fuel f args .normal h).map fun (e, _, h) => (e, h) := by
  intro f args h h' e hb _ φ w args' c cs hr ha
  dsimp only at hb
  cases hbody : bodyA P cl rn dc fuel f args .normal h with
  | none => rw [hbody] at hb; simp at hb
  | some q =>
    obtain ⟨e2, u2, h2⟩ := q
    rw [hbody] at hb
    simp only [Option.map_some, Option.some.injEq, Prod.mk.injEq] at hb
    obtain ⟨rfl, rfl⟩ := hb
    obtain ⟨φ', w', fr, hr', hp', hst, hfn, hend⟩ := body_calls (cs := c :: cs) hcl hrn hdr hdc hbody hr ha
    cases e2 with
    | ret v =>
      obtain ⟨v', hv, hl⟩ := hend
      exact ⟨φ', v', w', hv, hr', hp', hst.trans (.one (step_leave_returned hl))⟩
    | pan chain =>
      obtain ⟨chain', hv, hl⟩ := hend
      exact ⟨φ', chain', w', hv, hr', hp', hst.trans (.one (step_leave_panicked hl))⟩

theorem body_deferSim (hcl : CallSim P P.globals.size cl) (hrn : RoundSim P P.globals.size rn) (hdr : DrawSim P P.globals.size cl rn) (hdc : DeferSim P P.globals.size dc) {fuel : Nat} :
    DeferSim P P.globals.size fun f args u h => bodyA P cl rn dc fuel f args u h := by
  intro f args u u' h h' e hb _ φ w args' c cs m hr ha hm
  dsimp only at hb
  obtain ⟨fn, φ1, h1, w1, tmps, todo, cs1, hf, hu1, hp1, hleft⟩ := body_core (kind := .deferred) hcl hrn hdr hdc hb hr ha (.deferred rfl rfl (cs0 := c :: cs) rfl hm)
  cases hu1 with
  | normal hk _ => simp at hk
  | round hk _ => simp at hk
  | @deferred _ m' c2 rest _ _ hc hm' =>
    simp only [List.cons.injEq] at hc
    obtain ⟨rfl, rfl⟩ := hc
    cases e with
    | ret v =>
      obtain ⟨φ', v', w', hv, hr', hp', hst, hres⟩ := hleft
      refine ⟨φ', w', m', hr', hp1.trans hp', hm'.mono hp'.le, ?_⟩
      exact hst.trans (.one (step_going_returned (c := { c with mode := m' }) rfl ⟨rfl, rfl, fn, hf, hres⟩))
    | pan chain =>
      obtain ⟨φ', chain', w', hv, hr', hp', hst⟩ := hleft
      refine ⟨φ', w', m', hr', hp1.trans hp', hm'.mono hp'.le, chain', hv, ?_⟩
      exact hst.trans (.one (step_going_panicked (c := { c with mode := m' }) ⟨rfl, rfl, fn, hf⟩))
end
end Go.Ab
