/-
  Rounds of a range over a function; all levels.
  Conditions: those that each lemma names.
-/
import Derived.Test.YtiajkflemnaabaaGreatBbU
namespace Go.Ab
variable [Val]
section
variable {P : Program} {G : Nat} {cl : CallFn} {rn : RoundFn} {dc : DeferFn}

theorem foldl_regs {φ : Phi} {fi : FI} : ∀ (ps : List Tmp) (args : List AV) (args' : List Value) (regs : Tr AV) (tmps : Array Value), args'.length = args.length →
    (∀ i, i < args.length → VR φ (args.getD i .junk) (args'.getD i undef)) → RR φ fi regs tmps →
    RR φ fi ((ps.zip args).foldl (fun r x => putReg fi r (some x.1) x.2) regs) ((ps.zip args').foldl (fun tmps (x : Tmp × Value) => tmps.setIfInBounds x.1 x.2) tmps) := by
  intro ps
  induction ps with
  | nil => intro args args' regs tmps _ _ h; exact h
  | cons p ps ih =>
    intro args args' regs tmps hlen hv h
    cases args with
    | nil =>
      cases args' with
      | nil => exact h
      | cons _ _ => simp at hlen
    | cons a args =>
      cases args' with
      | nil => simp at hlen
      | cons a' args' =>
        simp only [List.zip_cons_cons, List.foldl_cons]
        refine ih args args' _ _ (by simpa using hlen) (fun i hi => ?_) ?_
        · have := hv (i + 1) (by simpa using hi)
          simpa using this
        · have h0 := hv 0 (by simp)
          simp only [List.getD_cons_zero] at h0
          exact putReg_rel h (some p) h0

omit [Val] in
theorem zip_foldl_arr (ps : Array Tmp) (args : Array Value) (tmps : Array Value) :
    (ps.zip args).foldl (fun tmps (t, a) => tmps.setIfInBounds t a) tmps = (ps.toList.zip args.toList).foldl (fun tmps (x : Tmp × Value) => tmps.setIfInBounds x.1 x.2) tmps := by
  rw [← Array.foldl_toList, Array.toList_zip]

omit [Val] in
theorem stp_beginRound {b : Frame} {l : Nat} (hro : b.roundOf = some l) (hk : b.kind = .normal) {tmps : Array Value} {df : List Deferred} {k : List Item} {cs : List Frame} {w w' : World}
    (h : (Instr.beginRound l).run P w = .ok () w') : step P (lone (mkF b tmps df (.beginRound :: k)) cs w) = .next (lone (mkF b tmps df k) cs w') := by
  refine step_lone_go ?_
  simp [stepG, stepG.exec, stepG.apply, mkF, hro, hk, Sem.run_bind, h, Result.andThen, Frame.finish]

omit [Val] in
theorem stp_roundEnd {b : Frame} {l : Nat} (hro : b.roundOf = some l) (hk : b.kind = .normal) {tmps : Array Value} {df : List Deferred} {k : List Item} {c : Frame} {cs : List Frame} {w w' : World}
    {jump : Option Code} (hk2 : (jump = none ∧ k = []) ∨ (jump = some .ret ∧ ∃ k0, k = .code .ret :: k0) ∨ (∃ id k0, jump = some (.exit id) ∧ k = .code (.exit id) :: k0 ∧ exitTo id k0 = none))
    {v : Value} (h : (Instr.endRound l jump).run P w = .ok v w') : step P (lone (mkF b tmps df k) (c :: cs) w) = .next (lone (c.finish v) cs w') := by
  refine step_lone_go ?_
  obtain ⟨rfl, rfl⟩ | ⟨rfl, k0, rfl⟩ | ⟨id, k0, rfl, rfl, he⟩ := hk2
  · simp [stepG, stepG.exec, mkF, hro, hk, h, doReturn]
  · simp [stepG, stepG.exec, mkF, hro, hk, h, doReturn]
  · simp [stepG, stepG.exec, mkF, hro, hk, h, doReturn, he]

theorem endRound_ok {φ : Phi} {s : S} {w : World} (hr : HR G φ s.h w) {l : Nat} {p : Nat × Nat × Nat} (hp : φ l = some p) {jump : Option Code} {e : AEnd} {h' : H}
    (he : endRoundA l jump s = some (e, h')) : ∃ v v' w', e = .ret v ∧ VR φ v v' ∧ (Instr.endRound p.1 jump).run P w = .ok v' w' ∧ HR G φ h' w' ∧ Post φ s.h w φ h' w' := by
  unfold endRoundA at he
  split at he
  · rename_i st pend fid fi regs params asg body df hdf hg
    simp only [Option.some.injEq, Prod.mk.injEq] at he
    obtain ⟨rfl, rfl⟩ := he
    obtain ⟨tm, q, hrr, hq, hob⟩ := hr.obj l _ p hg hp
    have hrun := run_endRound (P := P) jump hob
    obtain ⟨a, b⟩ := set_ok hr hg rfl hp (o₂ := .loop (if jump.isNone then .ready else .done) jump fid fi regs params asg body df)
      (ob := .loop { state := if jump.isNone then .ready else .done, pending := jump, fn := fid, tmps := tm, params := params.toArray, assign := asg, body := body, defers := q.1 }) ⟨tm, q, hrr, hq, rfl⟩
    exact ⟨_, _, _, rfl, .bool _, hrun, a, b⟩
  · simp at he

theorem round_sim (hcl : CallSim P P.globals.size cl) (hrn : RoundSim P P.globals.size rn) (hdr : DrawSim P P.globals.size cl rn) {fuel : Nat} :
    RoundSim P P.globals.size fun l args h => roundA P cl rn fuel l args h := by
  intro l args h h' e hrd φ w args' p c cs hr ha hp
  dsimp only at hrd
  unfold roundA at hrd
  split at hrd
  · rename_i st pend fid fi regs params asg body df hg
    obtain ⟨tm, q, hrr, hq, hob⟩ := hr.obj l _ p hg hp
    generalize hcond : (Nat.beq args.length params.length && (Nat.beq fi.G P.globals.size && (P.funcs[fid]?).isSome)) = cond at hrd
    cases cond with
    | false => simp at hrd
    | true =>
      simp only [Bool.and_eq_true] at hcond
      obtain ⟨hlen, hG, hfn⟩ := hcond
      have hlen := Nat.eq_of_beq_eq_true hlen
      have hG := Nat.eq_of_beq_eq_true hG
      obtain ⟨fn, hfn⟩ := Option.isSome_iff_exists.1 hfn
      simp only [cond_true] at hrd
      have hy := run_yield (P := P) (args := args') hob (by simp [ha.size, hlen])
      refine ⟨_, _, _, _, hy, ?_⟩
      dsimp only
      rw [zip_foldl_arr]
      generalize htm : (params.toArray.toList.zip args'.toList).foldl (fun tmps (x : Tmp × Value) => tmps.setIfInBounds x.1 x.2) tm = tm1
      have hrr1 : RR φ fi ((params.zip args).foldl (fun r x => putReg fi r (some x.1) x.2) regs) tm1 := by
        rw [← htm]
        refine foldl_regs _ _ _ _ _ (by simpa using ha.size) (fun i hi => ?_) hrr
        have := ha.get i hi
        rwa [Array.getD_eq_getD_getElem?, ← Array.getElem?_toList, ← List.getD_eq_getElem?_getD] at this
      generalize hregs : (params.zip args).foldl (fun r x => putReg fi r (some x.1) x.2) regs = regs1 at hrd hrr1
      let b : Frame := { (default : Frame) with fn := fid, kind := .normal, roundOf := some p.1 }
      have hround : Frame.round p.1 fid tm1 asg body .normal = mkF b tm1 [] [.code asg, .beginRound, .code body] := rfl
      rw [hround]
      cases hex : exec P cl rn fid fi (some l) fuel asg { regs := regs1, df := [], h := h, u := .round } with
      | none => rw [hex] at hrd; simp at hrd
      | some r =>
        rw [hex] at hrd
        cases r with
        | ext _ _ => simp at hrd
        | ret _ => simp at hrd
        | pan _ _ => simp at hrd
        | nor s =>
          dsimp only at hrd
          have hs : SR P.globals.size φ fi { regs := regs1, df := [], h := h, u := .round } b tm1 [] (c :: cs) (c :: cs) w := ⟨hr, hrr1, .nil, .round rfl rfl, hG⟩
          obtain ⟨φ1, t1, d1, c1, w1, hs1, hp1, hst1⟩ := exec_sim (b := b) hcl hrn hdr rfl fuel asg _ _ hex φ _ [] (c :: cs) w [.beginRound, .code body] _ (.inl rfl) hs ⟨p, hp, rfl⟩
          split at hrd
          · rename_i pend2 fid2 fi2 regs2 params2 asg2 body2 df2 hg2
            have hp1' := hp1.le _ _ hp
            obtain ⟨tm2, q2, hrr2, hq2, hob2⟩ := hs1.hr.obj l _ p hg2 hp1'
            have hbeg := run_beginRound (P := P) hob2 rfl
            obtain ⟨a3, b3⟩ := set_ok hs1.hr hg2 rfl hp1' (o₂ := .loop .busy pend2 fid2 fi2 regs2 params2 asg2 body2 df2)
              (ob := .loop { state := .busy, pending := pend2, fn := fid2, tmps := tm2, params := params2.toArray, assign := asg2, body := body2, defers := q2.1 }) ⟨tm2, q2, hrr2, hq2, rfl⟩
            have hst2 := stp_beginRound (P := P) (b := b) (tmps := t1) (df := d1) (k := [.code body]) (cs := c1) rfl rfl hbeg
            cases hex2 : exec P cl rn fid fi (some l) fuel body { s with h := s.h.set l (.loop .busy pend2 fid2 fi2 regs2 params2 asg2 body2 df2) } with
            | none => rw [hex2] at hrd; simp at hrd
            | some r2 =>
              rw [hex2] at hrd
              dsimp only at hrd
              have hs3 : SR P.globals.size φ1 fi { s with h := s.h.set l (.loop .busy pend2 fid2 fi2 regs2 params2 asg2 body2 df2) } b t1 d1 (c :: cs) c1 _ := ⟨a3, hs1.rr, hs1.dr, hs1.ur, hG⟩
              have harr := exec_sim (b := b) hcl hrn hdr rfl fuel body _ _ hex2 φ1 t1 d1 c1 _ [] _ (.inl rfl) hs3 ⟨p, hp1', rfl⟩
              have hpre : Steps P (lone (mkF b tm1 [] [.code asg, .beginRound, .code body]) (c :: cs) w) (lone (mkF b t1 d1 [.code body]) c1 (setBlk w1 p.1 (.loop { state := .busy, pending := pend2, fn := fid2, tmps := tm2, params := params2.toArray, assign := asg2, body := body2, defers := q2.1 }))) :=
                hst1.trans (.one hst2)
              have harr := harr.pre hpre (hp1.trans b3)
              have hcs : ∀ {φ' : Phi} {c2 : List Frame} {u : AMode}, URel φ' b (c :: cs) u c2 → c2 = c :: cs := by
                intro φ' c2 u hu
                cases hu with
                | normal _ hro => rfl
                | round _ _ => rfl
                | deferred hk _ _ _ => exact absurd hk (by simp [b])
              cases r2 with
              | nor s2 =>
                obtain ⟨φ4, t4, d4, c4, w4, hs4, hp4, hst4⟩ := harr
                obtain rfl := hcs hs4.ur
                obtain ⟨v, v', w5, rfl, hv, hrun, a5, b5⟩ := endRound_ok (P := P) hs4.hr (hp4.le _ _ hp) hrd
                exact ⟨φ4, v', w5, hv, a5, hp4.trans b5, hst4.trans (.one (stp_roundEnd rfl rfl (.inl ⟨rfl, rfl⟩) hrun))⟩
              | ret s2 =>
                obtain ⟨φ4, t4, d4, c4, w4, k0, hs4, hp4, hst4⟩ := harr
                obtain rfl := hcs hs4.ur
                obtain ⟨v, v', w5, rfl, hv, hrun, a5, b5⟩ := endRound_ok (P := P) hs4.hr (hp4.le _ _ hp) hrd
                exact ⟨φ4, v', w5, hv, a5, hp4.trans b5, hst4.trans (.one (stp_roundEnd rfl rfl (.inr (.inl ⟨rfl, k0, rfl⟩)) hrun))⟩
              | ext id s2 =>
                obtain ⟨φ4, t4, d4, c4, w4, k0, hs4, hp4, hk0, hst4⟩ := harr
                obtain rfl := hcs hs4.ur
                obtain ⟨v, v', w5, rfl, hv, hrun, a5, b5⟩ := endRound_ok (P := P) hs4.hr (hp4.le _ _ hp) hrd
                exact ⟨φ4, v', w5, hv, a5, hp4.trans b5, hst4.trans (.one (stp_roundEnd rfl rfl (.inr (.inr ⟨id, k0, rfl, rfl, hk0⟩)) hrun))⟩
              | pan chain s2 =>
                obtain ⟨φ4, t4, d4, c4, w4, td, chain', hs4, hp4, hch, hst4⟩ := harr
                obtain rfl := hcs hs4.ur
                simp only [roundRes] at hrd
                split at hrd
                · rename_i hdf
                  simp only [Option.some.injEq, Prod.mk.injEq] at hrd
                  obtain ⟨rfl, rfl⟩ := hrd
                  have hdr4 := hs4.dr
                  rw [hdf] at hdr4
                  cases hdr4
                  exact ⟨φ4, chain', w4, hch, hs4.hr, hp4, hst4.trans (.one (step_leave_panicked ⟨rfl, rfl, fn, hfn⟩))⟩
                · simp at hrd
          · simp at hrd
  · simp at hrd

/-- What is known, is so: at every level where calls and the rest are as the model has them. -/
def KnownSim (P : Program) (kn : Known) : Prop := CallSim P P.globals.size kn

theorem fns_sim {kn : Known} (hkn : KnownSim P kn) (hdraw : ∀ cl rn, CallSim P P.globals.size cl → RoundSim P P.globals.size rn → DrawSim P P.globals.size cl rn) (fuel n : Nat) :
    CallSim P P.globals.size (fns P kn fuel n).cl ∧ RoundSim P P.globals.size (fns P kn fuel n).rn ∧ DeferSim P P.globals.size (fns P kn fuel n).dc := by
  induction n with
  | zero =>
    refine ⟨?_, ?_, ?_⟩
    · intro f args h h' e hc; simp [fns] at hc
    · intro f args h h' e hc; simp [fns] at hc
    · intro f args u u' h h' e hc; simp [fns] at hc
  | succ n ih =>
    obtain ⟨h1, h2, h3⟩ := ih
    have hd := hdraw _ _ h1 h2
    refine ⟨?_, round_sim h1 h2 hd, body_deferSim h1 h2 hd h3⟩
    intro f args h h' e hc hfn φ w args' c cs hr ha
    have hc' : (match kn f args h with
          | some r => some r
          | none => (bodyA P (fns P kn fuel n).cl (fns P kn fuel n).rn (fns P kn fuel n).dc fuel f args .normal h).map fun (e, _, h) => (e, h)) = some (e, h') := hc
    cases hk : kn f args h with
    | some r =>
      rw [hk] at hc'
      simp only [Option.some.injEq] at hc'
      subst hc'
      exact hkn f args h h' e hk hfn φ w args' c cs hr ha
    | none =>
      rw [hk] at hc'
      exact body_callSim h1 h2 hd h3 f args h h' e hc' hfn φ w args' c cs hr ha
end
end Go.Ab
