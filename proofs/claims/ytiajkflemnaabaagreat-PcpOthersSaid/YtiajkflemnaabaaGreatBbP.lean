/-
  A region in the text's order.
  Conditions: those that each lemma names.
-/
import Derived.Test.YtiajkflemnaabaaGreatBbO
namespace Go.Ab
variable [Val]
section
variable {P : Program} {G : Nat} {cl : CallFn} {rn : RoundFn}

theorem VR.undef (φ : Phi) : VR φ (.tup []) undef := .tup (by simp) (fun i hi => absurd hi (by simp))

theorem SR.eval {φ : Phi} {fi : FI} {s : S} {b : Frame} {tmps : Array Value} {df : List Deferred} {cs0 cs : List Frame} {w : World} (hs : SR G φ fi s b tmps df cs0 cs w) (df' : List Deferred) (todo : List Item)
    (x : Operand) : VR φ (ev fi s.regs x) ((mkF b tmps df' todo).eval x) := ev_rel hs.fG hs.hr hs.rr _ rfl x

theorem putT_rel {φ : Phi} {fi : FI} {regs : Tr AV} {tmps : Array Value} (hrr : RR φ fi regs tmps) (dst : Option Tmp) {v : AV} {v' : Value} (hv : VR φ v v') :
    RR φ fi (putReg fi regs dst v) (putT dst v' tmps) := putReg_rel hrr dst hv

theorem runOps_sim (hcl : CallSim P G cl) (hrn : RoundSim P G rn) {fi : FI} {ops : Array Oper} {b : Frame} {k : List Item} {cs0 : List Frame} :
    ∀ (idx : List Nat) (l : List Oper) (s : S) (r : Res) (φ : Phi) (tmps : Array Value) (df : List Deferred) (cs : List Frame) (w : World), idx.map (ops[·]?) = l.map some →
      runOps P cl rn ops.toList fi l s = some r → SR G φ fi s b tmps df cs0 cs w → Arr P G (lone (mkF b tmps df (.inRegion ops idx :: k)) cs w) fi b k cs0 φ s.h w r := by
  intro idx
  induction idx with
  | nil =>
    intro l s r φ tmps df cs w hl hrun hs
    cases l with
    | cons _ _ => simp at hl
    | nil =>
      simp only [runOps, Option.some.injEq] at hrun
      subst hrun
      exact ⟨φ, tmps, df, cs, w, hs, Post.refl _ _ _, .one step_region_end'⟩
  | cons i rest ih =>
    intro l s r φ tmps df cs w hl hrun hs
    cases l with
    | nil => simp at hl
    | cons o l =>
      simp only [List.map_cons, List.cons.injEq] at hl
      obtain ⟨ho, hl⟩ := hl
      unfold runOps at hrun
      generalize hwa : wantedA ops.toList fi s.regs o = wa at hrun
      cases wa with
      | none => simp at hrun
      | some t =>
        have hw := wantedA_ok hs.rr hwa
        cases t with
        | false =>
          simp only at hrun
          have hst : step P (lone (mkF b tmps df (.inRegion ops (i :: rest) :: k)) cs w) = .next (lone (mkF b (putT o.dst undef tmps) df (.inRegion ops rest :: k)) cs w) := by
            rw [← mkF_finish' ho]
            exact step_skip' (by rw [ho]; simpa using hw)
          have := ih l _ r φ (putT o.dst undef tmps) df cs w hl hrun ⟨hs.hr, putT_rel hs.rr o.dst (VR.undef φ), hs.dr, hs.ur, hs.fG⟩
          exact this.pre (.one hst) (Post.refl _ _ _)
        | true =>
          simp only at hrun
          generalize hsa : stepA P cl rn fi o s = sa at hrun
          cases sa with
          | none => simp at hrun
          | some x =>
            have hout := step_core (rest := rest) (k := k) hcl hrn hsa (ρ := ev fi s.regs) (opA_eq P fi s.regs o s.h) (hs.eval df _) ho hw hs.hr hs.dr hs.ur
            cases x with
            | inl s' =>
              simp only at hrun
              obtain ⟨v, hregs, φ', v', df', cs', w', hv, hhr, hp, hdf, hur, hst⟩ := hout
              refine (ih l s' r φ' (putT o.dst v' tmps) df' cs' w' hl hrun ⟨hhr, ?_, hdf, hur, hs.fG⟩).pre hst hp
              rw [hregs]
              exact putT_rel (hs.rr.mono hp.le) o.dst hv
            | inr q =>
              simp only [Option.some.injEq] at hrun
              subst hrun
              cases q with
              | pan chain s' =>
                obtain ⟨e1, e2, e3, φ', chain', w', hch, hhr, hp, hst⟩ := hout
                refine ⟨φ', tmps, df, cs, w', _, chain', ⟨hhr, ?_, ?_, ?_, hs.fG⟩, hp, hch, hst⟩
                · rw [e1]; exact hs.rr.mono hp.le
                · rw [e2]; exact hs.dr.mono hp.le
                · rw [e3]; exact hs.ur.mono hp.le
              | nor _ => exact hout.elim
              | ext _ _ => exact hout.elim
              | ret _ => exact hout.elim

omit [Val] in
theorem step_region' {b : Frame} {tmps : Array Value} {df : List Deferred} {id : Nat} {ops : Array Oper} {k : List Item} {cs : List Frame} {w : World} :
    step P (lone (mkF b tmps df (.code (.region id ops false) :: k)) cs w) = .next (lone (mkF b tmps df (.inRegion ops (List.range ops.size) :: k)) cs w) :=
  step_lone_go (by simp [stepG, stepG.exec, mkF])

omit [Val] in
theorem range_map (ops : Array Oper) : (List.range ops.size).map (ops[·]?) = ops.toList.map some := by
  apply List.ext_getElem?
  intro i
  simp only [List.getElem?_map, List.getElem?_range']
  rcases Nat.lt_or_ge i ops.size with h | h
  · simp [List.getElem?_range, h]
  · simp [List.getElem?_range, h, Nat.not_lt.2 h]

theorem region_text (hcl : CallSim P G cl) (hrn : RoundSim P G rn) {fi : FI} {id : Nat} {ops : Array Oper} {b : Frame} {k : List Item} {cs0 : List Frame} {s : S} {r : Res} {φ : Phi} {tmps : Array Value}
    {df : List Deferred} {cs : List Frame} {w : World} (h : runRegion P cl rn ops false fi s = some r) (hs : SR G φ fi s b tmps df cs0 cs w) :
    Arr P G (lone (mkF b tmps df (.code (.region id ops false) :: k)) cs w) fi b k cs0 φ s.h w r := by
  simp only [runRegion, cond_false] at h
  exact (runOps_sim hcl hrn _ _ s r φ tmps df cs w (range_map ops) h hs).pre (.one step_region') (Post.refl _ _ _)
end
end Go.Ab
