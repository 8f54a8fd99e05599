/-
  A text, carried out by both machines.
  Conditions: those that each lemma names.
-/
import Derived.Test.YtiajkflemnaabaaGreatBbQ
namespace Go.Ab
variable [Val]
section
variable {P : Program} {G : Nat} {cl : CallFn} {rn : RoundFn}

/-- A region whose order is open. -/
def DrawSim (P : Program) (G : Nat) (cl : CallFn) (rn : RoundFn) : Prop :=
  ∀ (fi : FI) (id : Nat) (ops : Array Oper) (b : Frame) (k : List Item) (cs0 : List Frame) (s : S) (r : Res) (φ : Phi) (tmps : Array Value) (df : List Deferred) (cs : List Frame) (w : World),
    runRegion P cl rn ops true fi s = some r → SR G φ fi s b tmps df cs0 cs w →
    Arr P G (lone (mkF b tmps df (.code (.region id ops true) :: k)) cs w) fi b k cs0 φ s.h w r

section moves
variable {b : Frame} {tmps : Array Value} {df : List Deferred} {k : List Item} {cs : List Frame} {w : World}
omit [Val] in
theorem stp_skip : step P (lone (mkF b tmps df (.code .skip :: k)) cs w) = .next (lone (mkF b tmps df k) cs w) := step_lone_go (by simp [stepG, stepG.exec, mkF])
omit [Val] in
theorem stp_label {l : Nat} : step P (lone (mkF b tmps df (.code (.label l) :: k)) cs w) = .next (lone (mkF b tmps df k) cs w) := step_lone_go (by simp [stepG, stepG.exec, mkF])
omit [Val] in
theorem stp_inBlock {l : Nat} : step P (lone (mkF b tmps df (.inBlock l :: k)) cs w) = .next (lone (mkF b tmps df k) cs w) := step_lone_go (by simp [stepG, stepG.exec, mkF])
omit [Val] in
theorem stp_inScope {c : Code} : step P (lone (mkF b tmps df (.inScope c :: k)) cs w) = .next (lone (mkF b tmps df k) cs w) := step_lone_go (by simp [stepG, stepG.exec, mkF])
omit [Val] in
theorem stp_seq {x y : Code} : step P (lone (mkF b tmps df (.code (.seq x y) :: k)) cs w) = .next (lone (mkF b tmps df (.code x :: .code y :: k)) cs w) :=
  step_lone_go (by simp [stepG, stepG.exec, mkF])
omit [Val] in
theorem stp_cond {c : Operand} {x y : Code} {t : Bool} (h : (mkF b tmps df (.code (.cond c x y) :: k)).eval c = .bool t) :
    step P (lone (mkF b tmps df (.code (.cond c x y) :: k)) cs w) = .next (lone (mkF b tmps df (.code (if t then x else y) :: k)) cs w) :=
  step_lone_go (by simp only [mkF] at h; simp [stepG, stepG.exec, mkF, h])
omit [Val] in
theorem stp_block {id : Nat} {c : Code} : step P (lone (mkF b tmps df (.code (.block id c) :: k)) cs w) = .next (lone (mkF b tmps df (.code c :: .inBlock id :: k)) cs w) :=
  step_lone_go (by simp [stepG, stepG.exec, mkF])
omit [Val] in
theorem stp_loop {c : Code} : step P (lone (mkF b tmps df (.code (.loop c) :: k)) cs w) = .next (lone (mkF b tmps df (.code c :: .inLoop c :: k)) cs w) :=
  step_lone_go (by simp [stepG, stepG.exec, mkF])
omit [Val] in
theorem stp_inLoop {c : Code} : step P (lone (mkF b tmps df (.inLoop c :: k)) cs w) = .next (lone (mkF b tmps df (.code c :: .inLoop c :: k)) cs w) :=
  step_lone_go (by simp [stepG, stepG.exec, mkF])
omit [Val] in
theorem stp_scope {c : Code} : step P (lone (mkF b tmps df (.code (.scope c) :: k)) cs w) = .next (lone (mkF b tmps df (.code c :: .inScope c :: k)) cs w) :=
  step_lone_go (by simp [stepG, stepG.exec, mkF])
omit [Val] in
theorem stp_exit {id : Nat} {k' : List Item} (h : exitTo id k = some k') : step P (lone (mkF b tmps df (.code (.exit id) :: k)) cs w) = .next (lone (mkF b tmps df k') cs w) :=
  step_lone_go (by simp [stepG, stepG.exec, mkF, h])
end moves

omit [Val] in
theorem exitTo_code {id : Nat} {c : Code} {k : List Item} : exitTo id (.code c :: k) = exitTo id k := rfl
omit [Val] in
theorem exitTo_inLoop {id : Nat} {c : Code} {k : List Item} : exitTo id (.inLoop c :: k) = exitTo id k := rfl
omit [Val] in
theorem exitTo_inScope {id : Nat} {c : Code} {k : List Item} : exitTo id (.inScope c :: k) = exitTo id k := rfl

/-- What leaves by the text behind it as it leaves by what is left. -/
theorem Arr.pass {m : Machine} {fi : FI} {b : Frame} {k k' : List Item} {cs0 : List Frame} {φ : Phi} {h : H} {w : World} {r : Res} (hk : ∀ id, exitTo id k' = exitTo id k)
    (hn : ∀ s, r ≠ .nor s) (ha : Arr P G m fi b k' cs0 φ h w r) : Arr P G m fi b k cs0 φ h w r := by
  cases r with
  | nor s => exact absurd rfl (hn s)
  | ext id s => obtain ⟨φ', t, d, c, w', k0, h1, h2, h3, h4⟩ := ha; exact ⟨φ', t, d, c, w', k0, h1, h2, h3.trans (hk id), h4⟩
  | ret s => exact ha
  | pan ch s => exact ha

omit [Val] in
theorem exec_succ (fid : FuncId) (fi : FI) (around : Option Nat) (n : Nat) (c : Code) (s : S) :
    exec P cl rn fid fi around (n + 1) c s = (match c with
      | .skip | .label _ => some (.nor s)
      | .region _ ops draw => runRegion P cl rn ops draw fi s
      | .seq a b => match exec P cl rn fid fi around n a s with
        | some (.nor s) => exec P cl rn fid fi around n b s
        | r => r
      | .cond c a b => match ev fi s.regs c with
        | .bool true => exec P cl rn fid fi around n a s
        | .bool false => exec P cl rn fid fi around n b s
        | _ => none
      | .block id b => match exec P cl rn fid fi around n b s with
        | some (.ext id' s) => if id' = id then some (.nor s) else some (.ext id' s)
        | r => r
      | .loop b => match exec P cl rn fid fi around n b s with
        | some (.nor s) => exec P cl rn fid fi around n (.loop b) s
        | r => r
      | .scope b => exec P cl rn fid fi around n b s
      | .exit id => some (.ext id s)
      | .ret => some (.ret s)
      | .rangeFunc f params asg body => match runRange P cl fid fi around f params asg body s with
        | none => none
        | some (.inl r) => some r
        | some (.inr (none, s)) => some (.nor s)
        | some (.inr (some c, s)) => exec P cl rn fid fi around n c s
      | .goto _ | .refuse _ => none) := by
  cases c <;> rfl

theorem exec_sim (hcl : CallSim P G cl) (hrn : RoundSim P G rn) (hdr : DrawSim P G cl rn) {fid : FuncId} {fi : FI} {around : Option Nat} {b : Frame} (hb : b.fn = fid) {cs0 : List Frame} :
    ∀ (n : Nat) (c : Code) (s : S) (r : Res), exec P cl rn fid fi around n c s = some r →
    ∀ (φ : Phi) (tmps : Array Value) (df : List Deferred) (cs : List Frame) (w : World) (k : List Item) (it : Item), (it = .code c ∨ ∃ b, c = .loop b ∧ it = .inLoop b) →
      SR G φ fi s b tmps df cs0 cs w → AroundR φ around b → Arr P G (lone (mkF b tmps df (it :: k)) cs w) fi b k cs0 φ s.h w r := by
  intro n
  induction n with
  | zero => intro c s r h; simp [exec] at h
  | succ n ih =>
    intro c s r hex φ tmps df cs w k it hit hs har
    rw [exec_succ] at hex
    -- the text behind a first part
    have two : ∀ (c1 : Code) (r1 : Res) (x : Item), (∀ id, exitTo id (x :: k) = exitTo id k) → exec P cl rn fid fi around n c1 s = some r1 →
        Arr P G (lone (mkF b tmps df (.code c1 :: x :: k)) cs w) fi b (x :: k) cs0 φ s.h w r1 := fun c1 r1 x hx h1 => ih c1 s r1 h1 φ tmps df cs w (x :: k) _ (.inl rfl) hs har
    cases c with
    | skip =>
      obtain rfl | ⟨_, h, _⟩ := hit
      · simp only [Option.some.injEq] at hex; subst hex
        exact ⟨φ, tmps, df, cs, w, hs, Post.refl _ _ _, .one stp_skip⟩
      · simp at h
    | label l =>
      obtain rfl | ⟨_, h, _⟩ := hit
      · simp only [Option.some.injEq] at hex; subst hex
        exact ⟨φ, tmps, df, cs, w, hs, Post.refl _ _ _, .one stp_label⟩
      · simp at h
    | region id ops draw =>
      obtain rfl | ⟨_, h, _⟩ := hit
      · cases draw with
        | false => exact region_text hcl hrn hex hs
        | true => exact hdr fi id ops b k cs0 s r φ tmps df cs w hex hs
      · simp at h
    | seq x y =>
      obtain rfl | ⟨_, h, _⟩ := hit
      · dsimp only at hex
        cases h1 : exec P cl rn fid fi around n x s with
        | none => rw [h1] at hex; simp at hex
        | some r1 =>
          rw [h1] at hex
          have ha := (two x r1 (.code y) (fun _ => rfl) h1).pre (.one stp_seq) (Post.refl _ _ _)
          cases r1 with
          | nor s1 =>
            dsimp only at hex
            obtain ⟨φ1, t1, d1, c1, w1, hs1, hp1, hst1⟩ := ha
            exact (ih y s1 r hex φ1 t1 d1 c1 w1 k _ (.inl rfl) hs1 (har.mono hp1.le)).pre hst1 hp1
          | ext id s1 => simp only [Option.some.injEq] at hex; subst hex; exact ha.pass (fun _ => rfl) (by simp)
          | ret s1 => simp only [Option.some.injEq] at hex; subst hex; exact ha.pass (fun _ => rfl) (by simp)
          | pan ch s1 => simp only [Option.some.injEq] at hex; subst hex; exact ha.pass (fun _ => rfl) (by simp)
      · simp at h
    | cond x a d =>
      obtain rfl | ⟨_, h, _⟩ := hit
      · dsimp only at hex
        have hv := hs.eval df (.code (.cond x a d) :: k) x
        split at hex
        · rename_i heq
          rw [heq] at hv
          exact (ih a s r hex φ tmps df cs w k _ (.inl rfl) hs har).pre (.one (stp_cond hv.bool_inv)) (Post.refl _ _ _)
        · rename_i heq
          rw [heq] at hv
          exact (ih d s r hex φ tmps df cs w k _ (.inl rfl) hs har).pre (.one (stp_cond hv.bool_inv)) (Post.refl _ _ _)
        · simp at hex
      · simp at h
    | block id x =>
      obtain rfl | ⟨_, h, _⟩ := hit
      · dsimp only at hex
        cases h1 : exec P cl rn fid fi around n x s with
        | none => rw [h1] at hex; simp at hex
        | some r1 =>
          rw [h1] at hex
          have ha := (ih x s r1 h1 φ tmps df cs w (.inBlock id :: k) _ (.inl rfl) hs har).pre (.one stp_block) (Post.refl _ _ _)
          cases r1 with
          | nor s1 =>
            simp only [Option.some.injEq] at hex; subst hex
            obtain ⟨φ1, t1, d1, c1, w1, hs1, hp1, hst1⟩ := ha
            exact ⟨φ1, t1, d1, c1, w1, hs1, hp1, hst1.trans (.one stp_inBlock)⟩
          | ext id' s1 =>
            dsimp only at hex
            obtain ⟨φ1, t1, d1, c1, w1, k0, hs1, hp1, hk0, hst1⟩ := ha
            split at hex
            · rename_i e
              subst e
              simp only [Option.some.injEq] at hex; subst hex
              have hk : exitTo id' k0 = some k := by rw [hk0]; simp [exitTo]
              exact ⟨φ1, t1, d1, c1, w1, hs1, hp1, hst1.trans (.one (stp_exit hk))⟩
            · rename_i ne
              simp only [Option.some.injEq] at hex; subst hex
              have : (id == id') = false := by simp; exact fun h => ne h.symm
              exact ⟨φ1, t1, d1, c1, w1, k0, hs1, hp1, by rw [hk0]; simp [exitTo, this], hst1⟩
          | ret s1 => simp only [Option.some.injEq] at hex; subst hex; exact ha
          | pan ch s1 => simp only [Option.some.injEq] at hex; subst hex; exact ha
      · simp at h
    | loop x =>
      have hstart : step P (lone (mkF b tmps df (it :: k)) cs w) = .next (lone (mkF b tmps df (.code x :: .inLoop x :: k)) cs w) := by
        obtain rfl | ⟨y, h, rfl⟩ := hit
        · exact stp_loop
        · simp only [Code.loop.injEq] at h; subst h; exact stp_inLoop
      dsimp only at hex
      cases h1 : exec P cl rn fid fi around n x s with
      | none => rw [h1] at hex; simp at hex
      | some r1 =>
        rw [h1] at hex
        have ha := (two x r1 (.inLoop x) (fun _ => rfl) h1).pre (.one hstart) (Post.refl _ _ _)
        cases r1 with
        | nor s1 =>
          dsimp only at hex
          obtain ⟨φ1, t1, d1, c1, w1, hs1, hp1, hst1⟩ := ha
          exact (ih (.loop x) s1 r hex φ1 t1 d1 c1 w1 k _ (.inr ⟨x, rfl, rfl⟩) hs1 (har.mono hp1.le)).pre hst1 hp1
        | ext id s1 => simp only [Option.some.injEq] at hex; subst hex; exact ha.pass (fun _ => rfl) (by simp)
        | ret s1 => simp only [Option.some.injEq] at hex; subst hex; exact ha.pass (fun _ => rfl) (by simp)
        | pan ch s1 => simp only [Option.some.injEq] at hex; subst hex; exact ha.pass (fun _ => rfl) (by simp)
    | scope x =>
      obtain rfl | ⟨_, h, _⟩ := hit
      · dsimp only at hex
        have ha := (two x r (.inScope x) (fun _ => rfl) hex).pre (.one stp_scope) (Post.refl _ _ _)
        cases r with
        | nor s1 =>
          obtain ⟨φ1, t1, d1, c1, w1, hs1, hp1, hst1⟩ := ha
          exact ⟨φ1, t1, d1, c1, w1, hs1, hp1, hst1.trans (.one stp_inScope)⟩
        | ext id s1 => exact ha.pass (fun _ => rfl) (by simp)
        | ret s1 => exact ha.pass (fun _ => rfl) (by simp)
        | pan ch s1 => exact ha.pass (fun _ => rfl) (by simp)
      · simp at h
    | exit id =>
      obtain rfl | ⟨_, h, _⟩ := hit
      · simp only [Option.some.injEq] at hex; subst hex
        exact ⟨φ, tmps, df, cs, w, k, hs, Post.refl _ _ _, rfl, .refl _ _⟩
      · simp at h
    | ret =>
      obtain rfl | ⟨_, h, _⟩ := hit
      · simp only [Option.some.injEq] at hex; subst hex
        exact ⟨φ, tmps, df, cs, w, k, hs, Post.refl _ _ _, .refl _ _⟩
      · simp at h
    | rangeFunc f params asg body =>
      obtain rfl | ⟨_, h, _⟩ := hit
      · dsimp only at hex
        cases hrg : runRange P cl fid fi around f params asg body s with
        | none => rw [hrg] at hex; simp at hex
        | some q =>
          rw [hrg] at hex
          have hsim := range_sim (k := k) hcl hrg hb hs har
          cases q with
          | inl q => simp only [Option.some.injEq] at hex; subst hex; exact hsim
          | inr q =>
            obtain ⟨j, s1⟩ := q
            obtain ⟨φ1, t1, d1, c1, w1, hs1, hp1, hst1⟩ := hsim
            cases j with
            | none =>
              simp only [Option.some.injEq] at hex; subst hex
              exact ⟨φ1, t1, d1, c1, w1, hs1, hp1, hst1⟩
            | some c2 =>
              dsimp only at hex
              exact (ih c2 s1 r hex φ1 t1 d1 c1 w1 k _ (.inl rfl) hs1 (har.mono hp1.le)).pre hst1 hp1
      · simp at h
    | goto l => simp at hex
    | refuse y => simp at hex
end
end Go.Ab
