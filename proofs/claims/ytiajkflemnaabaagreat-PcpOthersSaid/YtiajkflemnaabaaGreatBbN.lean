/-
  One step of a frame: an operation of a region, as the abstract machine and as the model carry it out.
  Conditions: those that each lemma names.
-/
import Derived.Test.YtiajkflemnaabaaGreatBbM
import Derived.Recover
namespace Go.Ab
variable [Val]

def mkF (b : Frame) (tmps : Array Value) (df : List Deferred) (todo : List Item) : Frame :=
  { fn := b.fn, tmps, todo, defers := df, mode := .run, kind := b.kind, roundOf := b.roundOf }

inductive ChainR (φ : Phi) : List APanic → List PanicEntry → Prop
  | nil : ChainR φ [] []
  | cons {v : AV} {v' : Value} {r : Bool} {l : List APanic} {l' : List PanicEntry} (h : VR φ v v') (t : ChainR φ l l') : ChainR φ ((v, r) :: l) ({ v := v', recovered := r } :: l')

theorem ChainR.mono {φ φ' : Phi} (hle : φ.le φ') {l : List APanic} {l' : List PanicEntry} (h : ChainR φ l l') : ChainR φ' l l' := by
  induction h with
  | nil => exact .nil
  | cons h _ ih => exact .cons (h.mono hle) ih

theorem ChainR.append {φ : Phi} {l m : List APanic} {l' m' : List PanicEntry} (h : ChainR φ l l') (h' : ChainR φ m m') : ChainR φ (l ++ m) (l' ++ m') := by
  induction h with
  | nil => exact h'
  | cons h _ ih => exact .cons h ih

theorem ChainR.noExit {φ : Phi} {l : List APanic} {l' : List PanicEntry} (h : ChainR φ l l') : l'.dropWhile (!·.goexit) = [] := by
  induction h with
  | nil => rfl
  | cons h _ ih => simpa using ih

inductive DFs (φ : Phi) : List ADefer → List Deferred → Prop
  | nil : DFs φ [] []
  | call {d : ADef} {d' : Deferred} {l : List ADefer} {l' : List Deferred} (h : DefR φ d d') (t : DFs φ l l') : DFs φ (.call d :: l) (d' :: l')
  | mark {id : Nat} {p : Nat × Nat × Nat} {l : List ADefer} {l' : List Deferred} (h : φ id = some p) (t : DFs φ l l') : DFs φ (.mark id :: l) ({ target := .collected p.1, args := #[] } :: l')

theorem DefR.mono {φ φ' : Phi} (hle : φ.le φ') {d : ADef} {d' : Deferred} (h : DefR φ d d') : DefR φ' d d' := by
  obtain ⟨⟨fn', cap', h1, h2, h3⟩, h4⟩ := h
  exact ⟨⟨fn', cap', h1, h2.mono hle, h3.mono hle⟩, h4.mono hle⟩

theorem DFs.mono {φ φ' : Phi} (hle : φ.le φ') {l : List ADefer} {l' : List Deferred} (h : DFs φ l l') : DFs φ' l l' := by
  induction h with
  | nil => exact .nil
  | call h _ ih => exact .call (h.mono hle) ih
  | mark h _ ih => exact .mark (hle _ _ h) ih

/-- What the frame is that made a deferred call, and what it is doing. -/
inductive ModeR (φ : Phi) : AMode → FrameMode → Prop
  | returning : ModeR φ .returning .returning
  | panicking {l : List APanic} {l' : List PanicEntry} (h : ChainR φ l l') : ModeR φ (.panicking l) (.panicking l')

theorem ModeR.mono {φ φ' : Phi} (hle : φ.le φ') {u : AMode} {m : FrameMode} (h : ModeR φ u m) : ModeR φ' u m := by
  cases h with
  | returning => exact .returning
  | panicking h => exact .panicking (h.mono hle)

inductive URel (φ : Phi) (b : Frame) (cs0 : List Frame) : AMode → List Frame → Prop
  | normal (hk : b.kind = .normal) (hr : b.roundOf = none) : URel φ b cs0 .normal cs0
  | round (hk : b.kind = .normal) {l : Nat} (hr : b.roundOf = some l) : URel φ b cs0 .round cs0
  | deferred {u : AMode} {m : FrameMode} {c : Frame} {rest : List Frame} (hk : b.kind = .deferred) (hr : b.roundOf = none) (hc : cs0 = c :: rest) (hm : ModeR φ u m) :
      URel φ b cs0 u ({ c with mode := m } :: rest)

theorem URel.mono {φ φ' : Phi} (hle : φ.le φ') {b : Frame} {cs0 cs : List Frame} {u : AMode} (h : URel φ b cs0 u cs) : URel φ' b cs0 u cs := by
  cases h with
  | normal hk hr => exact .normal hk hr
  | round hk hr => exact .round hk hr
  | deferred hk hr hc hm => exact .deferred hk hr hc (hm.mono hle)

structure SR (G : Nat) (φ : Phi) (fi : FI) (s : S) (b : Frame) (tmps : Array Value) (df : List Deferred) (cs0 cs : List Frame) (w : World) : Prop where
  hr : HR G φ s.h w
  rr : RR φ fi s.regs tmps
  dr : DFs φ s.df df
  ur : URel φ b cs0 s.u cs
  fG : fi.G = G

/-- Where a frame arrives. -/
def Arr (P : Program) (G : Nat) (m : Machine) (fi : FI) (b : Frame) (k : List Item) (cs0 : List Frame) (φ : Phi) (h : H) (w : World) : Res → Prop
  | .nor s => ∃ φ' tmps df cs w', SR G φ' fi s b tmps df cs0 cs w' ∧ Post φ h w φ' s.h w' ∧ Steps P m (lone (mkF b tmps df k) cs w')
  | .ext id s => ∃ φ' tmps df cs w' k0, SR G φ' fi s b tmps df cs0 cs w' ∧ Post φ h w φ' s.h w' ∧ exitTo id k0 = exitTo id k ∧ Steps P m (lone (mkF b tmps df (.code (.exit id) :: k0)) cs w')
  | .ret s => ∃ φ' tmps df cs w' k0, SR G φ' fi s b tmps df cs0 cs w' ∧ Post φ h w φ' s.h w' ∧ Steps P m (lone (mkF b tmps df (.code .ret :: k0)) cs w')
  | .pan chain s => ∃ φ' tmps df cs w' todo chain', SR G φ' fi s b tmps df cs0 cs w' ∧ Post φ h w φ' s.h w' ∧ ChainR φ' chain chain' ∧
      Steps P m (lone { mkF b tmps df todo with mode := .panicking chain' } cs w')

theorem Arr.pre {P : Program} {G : Nat} {m m₁ : Machine} {fi : FI} {b : Frame} {k : List Item} {cs0 : List Frame} {φ φ₁ : Phi} {h h₁ : H} {w w₁ : World} {r : Res}
    (hs : Steps P m m₁) (hp : Post φ h w φ₁ h₁ w₁) (ha : Arr P G m₁ fi b k cs0 φ₁ h₁ w₁ r) : Arr P G m fi b k cs0 φ h w r := by
  cases r with
  | nor s => obtain ⟨φ', t, d, c, w', h1, h2, h3⟩ := ha; exact ⟨φ', t, d, c, w', h1, hp.trans h2, hs.trans h3⟩
  | ext id s => obtain ⟨φ', t, d, c, w', k0, h1, h2, h3, h4⟩ := ha; exact ⟨φ', t, d, c, w', k0, h1, hp.trans h2, h3, hs.trans h4⟩
  | ret s => obtain ⟨φ', t, d, c, w', k0, h1, h2, h3⟩ := ha; exact ⟨φ', t, d, c, w', k0, h1, hp.trans h2, hs.trans h3⟩
  | pan ch s => obtain ⟨φ', t, d, c, w', td, ch', h1, h2, h3, h4⟩ := ha; exact ⟨φ', t, d, c, w', td, ch', h1, hp.trans h2, h3, hs.trans h4⟩

/-- A call's outcome, seen by the frame that called. -/
def EndR (P : Program) (G : Nat) (m : Machine) (c : Frame) (cs : List Frame) (φ : Phi) (h : H) (w : World) (h' : H) : AEnd → Prop
  | .ret v => ∃ φ' v' w', VR φ' v v' ∧ HR G φ' h' w' ∧ Post φ h w φ' h' w' ∧ Steps P m (lone (c.finish v') cs w')
  | .pan chain => ∃ φ' chain' w', ChainR φ' chain chain' ∧ HR G φ' h' w' ∧ Post φ h w φ' h' w' ∧ Steps P m (lone (c.raise chain') cs w')

def CallSim (P : Program) (G : Nat) (cl : CallFn) : Prop :=
  ∀ (f : FuncId) (args : List AV) (h h' : H) (e : AEnd), cl f args h = some (e, h') → (∃ fn, P.funcs[f]? = some fn ∧ fn.body.isSome = true) →
  ∀ (φ : Phi) (w : World) (args' : Array Value) (c : Frame) (cs : List Frame), HR G φ h w → LR φ args args' →
    EndR P G (lone (Frame.enter P f args' .normal) (c :: cs) w) c cs φ h w h' e

def RoundSim (P : Program) (G : Nat) (rn : RoundFn) : Prop :=
  ∀ (l : Nat) (args : List AV) (h h' : H) (e : AEnd), rn l args h = some (e, h') →
  ∀ (φ : Phi) (w : World) (args' : Array Value) (p : Nat × Nat × Nat) (c : Frame) (cs : List Frame), HR G φ h w → LR φ args args' → φ l = some p →
    ∃ fn tmps asg body, (Go.Instr.yield p.1 args').run P w = .ok (.round p.1 fn tmps asg body) w ∧
      EndR P G (lone (Frame.round p.1 fn tmps asg body .normal) (c :: cs) w) c cs φ h w h' e

/-- A deferred call. -/
def DeferSim (P : Program) (G : Nat) (dc : DeferFn) : Prop :=
  ∀ (f : FuncId) (args : List AV) (u u' : AMode) (h h' : H) (e : AEnd), dc f args u h = some (e, u', h') → (∃ fn, P.funcs[f]? = some fn ∧ fn.body.isSome = true) →
  ∀ (φ : Phi) (w : World) (args' : Array Value) (c : Frame) (cs : List Frame) (m : FrameMode), HR G φ h w → LR φ args args' → ModeR φ u m →
    ∃ φ' w' m' , HR G φ' h' w' ∧ Post φ h w φ' h' w' ∧ ModeR φ' u' m' ∧
      (match e with
       | .ret _ => Steps P (lone (Frame.enter P f args' .deferred) ({ c with mode := m } :: cs) w) (lone { c with mode := settle m' } cs w')
       | .pan chain => ∃ chain', ChainR φ' chain chain' ∧ Steps P (lone (Frame.enter P f args' .deferred) ({ c with mode := m } :: cs) w) (lone { c with mode := raised m' chain' } cs w'))

section
variable {P : Program} {G : Nat}

omit [Val] in
theorem mkF_finish (b : Frame) (tmps : Array Value) (df : List Deferred) (ops : Array Oper) (i : Nat) (rest : List Nat) (k : List Item) (v : Value) :
    (mkF b tmps df (.inRegion ops (i :: rest) :: k)).finish v =
      mkF b (match (ops[i]?).bind (·.dst) with | some d => tmps.setIfInBounds d v | none => tmps) df (.inRegion ops rest :: k) := rfl

omit [Val] in
theorem stepG_op' {b : Frame} {tmps : Array Value} {df : List Deferred} {ops : Array Oper} {i : Nat} {rest : List Nat} {k : List Item} {cs : List Frame} {w : World} {o : Oper}
    (ho : ops[i]? = some o) (hw : Region.wanted o (yielded ops tmps) = true) (hd : b.roundOf = none ∨ ∀ c, o.op ≠ .defer c) :
    stepG P true { frame := mkF b tmps df (.inRegion ops (i :: rest) :: k), callers := cs, status := .running, dying := none } w =
      stepG.apply P true (mkF b tmps df (.inRegion ops (i :: rest) :: k)) cs none (execOp (mkF b tmps df (.inRegion ops (i :: rest) :: k)).eval o) w := by
  simp only [stepG, stepG.exec, mkF, ho, Option.map_some, Option.getD_some, hw, if_true, stepG.oper, Frame.oper?]
  rcases hd with hd | hd
  · rw [hd]
  · cases hro : b.roundOf with
    | none => rfl
    | some l =>
      obtain ⟨dst, op, type, pos, after, guard⟩ := o
      cases op <;> first | rfl | exact absurd rfl (hd _)

omit [Val] in
theorem step_skip' {b : Frame} {tmps : Array Value} {df : List Deferred} {ops : Array Oper} {i : Nat} {rest : List Nat} {k : List Item} {cs : List Frame} {w : World}
    (hw : ((ops[i]?).map (Region.wanted · (yielded ops tmps))).getD false = false) :
    step P (lone (mkF b tmps df (.inRegion ops (i :: rest) :: k)) cs w) =
      .next (lone ((mkF b tmps df (.inRegion ops (i :: rest) :: k)).finish undef) cs w) :=
  step_lone_go (by
    have h' := hw
    simp only [mkF] at *
    simp [stepG, stepG.exec, h'])

omit [Val] in
theorem step_region_end' {b : Frame} {tmps : Array Value} {df : List Deferred} {ops : Array Oper} {k : List Item} {cs : List Frame} {w : World} :
    step P (lone (mkF b tmps df (.inRegion ops [] :: k)) cs w) = .next (lone (mkF b tmps df k) cs w) :=
  step_lone_go (by simp [stepG, stepG.exec, mkF])

/-- Is an operation wanted? -/
theorem wantedA_ok {φ : Phi} {fi : FI} {regs : Tr AV} {tmps : Array Value} (hrr : RR φ fi regs tmps) {ops : Array Oper} {o : Oper} {r : Bool} (hw : wantedA ops.toList fi regs o = some r) :
    Region.wanted o (yielded ops tmps) = r := by
  unfold wantedA at hw
  unfold Region.wanted
  cases hg : o.guard with
  | none => rw [hg] at hw; simpa using hw
  | some gw =>
    obtain ⟨j, want⟩ := gw
    rw [hg] at hw
    dsimp only at hw ⊢
    unfold yielded
    have ej : ops.toList[j]? = ops[j]? := by simp
    rw [ej] at hw
    cases ht : (ops[j]?).bind (·.dst) with
    | none =>
      rw [ht] at hw
      simp only [Option.some.injEq] at hw
      subst hw
      rfl
    | some t =>
      rw [ht] at hw
      dsimp only at hw
      simp only [Option.bind_some]
      have hev : VR φ (ev fi regs (.tmp t)) (tmps.getD t undef) ∧ (ev fi regs (.tmp t) ≠ .junk → t < tmps.size) := by
        simp only [ev]
        cases hlt : Nat.blt t fi.sz with
        | true =>
          simp only [cond_true]
          unfold Nat.blt at hlt
          have hlt' : t < fi.sz := Nat.le_of_ble_eq_true hlt
          exact ⟨hrr.get t hlt', fun _ => by rw [hrr.size]; exact hlt'⟩
        | false => exact ⟨.junk _, fun h => absurd rfl h⟩
      obtain ⟨hv, hne⟩ := hev
      split at hw
      · rename_i c heq
        rw [heq] at hv
        have hlt := hne (by rw [heq]; simp)
        have e := hv.bool_inv
        rw [Array.getD_eq_getD_getElem?, Array.getElem?_eq_getElem hlt] at e
        simp only [Option.getD_some] at e
        rw [Array.getElem?_eq_getElem hlt, e]
        simp only [Option.some.injEq] at hw
        subst hw
        cases c <;> cases want <;> rfl
      · rename_i l heq
        rw [heq] at hv
        have hlt := hne (by rw [heq]; simp)
        obtain ⟨a, _, e⟩ := hv.tup_inv
        rw [Array.getD_eq_getD_getElem?, Array.getElem?_eq_getElem hlt] at e
        simp only [Option.getD_some] at e
        rw [Array.getElem?_eq_getElem hlt, e]
        simp only [Option.some.injEq] at hw
        subst hw
        rfl
      · simp at hw
end
end Go.Ab
