/-
  A region whose order is open: how far both machines have come, and the steps.
  Conditions: those that each lemma names.
-/
import Derived.Test.YtiajkflemnaabaaGreatBbX
namespace Go.Ab
variable [Val]

def dstOf (L : List Oper) (i : Nat) : Option Tmp := (L[i]?).bind (·.dst)
noncomputable def rg (fi : FI) (r : Tr AV) (t : Nat) : AV := (r.get fi.rd t).getD .junk

structure POk (L : List Oper) : Prop where
  edges : ∀ j o, L[j]? = some o → ∀ e ∈ o.after.toList, Region.binds .any e = true → e.on < j
  dst : ∀ i j d, i ≠ j → dstOf L i = some d → dstOf L j ≠ some d
  opd : ∀ i j d o, i ≠ j → dstOf L i = some d → L[j]? = some o → d ∈ operTmps o → AH L i j ∨ AH L j i
  guard : ∀ j o g w, L[j]? = some o → o.guard = some (g, w) → AH L g j

omit [Val] in
theorem POk.irr {L : List Oper} (hp : POk L) {x : Nat} {o : Oper} (ho : L[x]? = some o) {i : Nat} (h : AH L i x) : i ≠ x := by
  have hx : x < L.length := by
    rcases Nat.lt_or_ge x L.length with h | h
    · exact h
    · rw [List.getElem?_eq_none h] at ho; simp at ho
  have := ahead_lt hp.edges x hx i h
  omega

/-- What an operation looks at. -/
def Looks (L : List Oper) (o : Oper) (t : Tmp) : Prop := t ∈ operTmps o ∨ ∃ g w, o.guard = some (g, w) ∧ dstOf L g = some t

def Sees (L : List Oper) (fi : FI) (regs0 sregs R : Tr AV) (x : Nat) (o : Oper) : Prop :=
  ∀ t, t < fi.sz → Looks L o t → ((∃ i, dstOf L i = some t ∧ AH L i x) → rg fi R t = rg fi sregs t) ∧ ((∀ i, dstOf L i = some t → ¬ AH L i x) → rg fi R t = rg fi regs0 t)

def Gives (fi : FI) (sregs : Tr AV) (o : Oper) (v : AV) : Prop := ∀ d, o.dst = some d → d < fi.sz → rg fi sregs d = v

def RdyV (P : Program) (fi : FI) (φ : Phi) (h0 h : H) (pend : Pend) (id : Nat → Option Nat) (x : Nat) (o : Oper) (R : Tr AV) (v : AV) : Prop :=
  (isLate o = false ∧ isRead o = false ∧ ∃ hh h', opA P fi R o hh = some (.val v h')) ∨
  (isLate o = false ∧ isRead o = true ∧ (x, R, v) ∈ pend) ∨
  (isLate o = true ∧ ∃ h1 h2, opA P fi R o h1 = some (.val v h2) ∧ id x = some h1.nx ∧ h0.nx ≤ h1.nx ∧ h1.nx < h.nx ∧ φ h1.nx = none ∧ h.get h1.nx = h2.get h1.nx)

def Rdy (P : Program) (L : List Oper) (fi : FI) (regs0 : Tr AV) (φ : Phi) (h0 : H) (sregs : Tr AV) (h : H) (pend : Pend) (id : Nat → Option Nat) (x : Nat) : Prop :=
  ∃ o R, L[x]? = some o ∧ isChain o = false ∧ Sees L fi regs0 sregs R x o ∧
    ((wantedA L fi R o = some false ∧ Gives fi sregs o (.tup [])) ∨
     (wantedA L fi R o = some true ∧ ∃ v, Gives fi sregs o v ∧ RdyV P fi φ h0 h pend id x o R v))

structure PR (P : Program) (G : Nat) (L : List Oper) (fi : FI) (regs0 : Tr AV) (b : Frame) (cs0 : List Frame) (φ0 : Phi) (h0 : H) (w0 : World)
    (E D : List Nat) (pend : Pend) (s : S) (φ : Phi) (tmps : Array Value) (df : List Deferred) (cs : List Frame) (w : World) : Prop where
  hr : HR G φ s.h w
  dr : DFs φ s.df df
  ur : URel φ b cs0 s.u cs
  post : Post φ0 h0 w0 φ s.h w
  size : tmps.size = fi.sz
  reg1 : ∀ t, t < fi.sz → ∀ i, i ∈ D → dstOf L i = some t → VR φ (rg fi s.regs t) (tmps.getD t undef)
  reg0 : ∀ t, t < fi.sz → (∀ i, i ∈ D → dstOf L i ≠ some t) → VR φ (rg fi regs0 t) (tmps.getD t undef)
  ra : ∀ t, t < fi.sz → (∀ i, i ∈ E → dstOf L i ≠ some t) → rg fi s.regs t = rg fi regs0 t
  sub : ∀ i, i ∈ D → i ∈ E
  dce : DC (AH L) E
  dcd : DC (AH L) D
  ready : ∃ id : Nat → Option Nat, (∀ x y n, id x = some n → id y = some n → x = y) ∧ (∀ x n, id x = some n → n < s.h.nx) ∧
    ∀ x, x ∈ E → x ∉ D → Rdy P L fi regs0 φ h0 s.regs s.h pend id x

section
variable {P : Program} {G : Nat} {fi : FI}

omit [Val] in
theorem rg_put (hd : fi.sz ≤ 2 ^ fi.rd) {t : Nat} (ht : t < fi.sz) (r : Tr AV) (dst : Option Tmp) (v : AV) : rg fi (putReg fi r dst v) t = if dst = some t then v else rg fi r t := by
  cases dst with
  | none => simp [putReg]
  | some d =>
    simp only [putReg, Option.some.injEq]
    cases hlt : Nat.blt d fi.sz with
    | false =>
      have hn : ¬ d < fi.sz := fun hle => by
        unfold Nat.blt at hlt
        rw [Nat.ble_eq_true_of_le hle] at hlt
        simp at hlt
      simp only [cond_false]
      have hne : ¬ d = t := fun e => hn (e ▸ ht)
      rw [if_neg hne]
    | true =>
      unfold Nat.blt at hlt
      have hd' : d < fi.sz := Nat.le_of_ble_eq_true hlt
      simp only [cond_true, rg]
      rw [Tr.get_set_lt v r (Nat.lt_of_lt_of_le hd' hd) (Nat.lt_of_lt_of_le ht hd)]
      split
      · rfl
      · rfl

omit [Val] in
theorem ev_rg (r : Tr AV) (t : Tmp) : ev fi r (.tmp t) = bif Nat.blt t fi.sz then rg fi r t else .junk := rfl

omit [Val] in
theorem putT_get {dst : Option Tmp} {v : Value} {tmps : Array Value} {t : Nat} (ht : t < tmps.size) : (putT dst v tmps).getD t undef = if dst = some t then v else tmps.getD t undef := by
  cases dst with
  | none => simp [putT]
  | some d =>
    simp only [putT, Option.some.injEq]
    rw [Array.getD_eq_getD_getElem?, Array.getElem?_setIfInBounds]
    by_cases e : d = t
    · subst e
      rw [if_pos rfl, if_pos ht, if_pos rfl]
      rfl
    · rw [if_neg e, if_neg e, ← Array.getD_eq_getD_getElem?]

omit [Val] in
theorem putT_size (dst : Option Tmp) (v : Value) (tmps : Array Value) : (putT dst v tmps).size = tmps.size := by
  cases dst <;> simp [putT]

theorem wanted_at {ops : Array Oper} {φ : Phi} {R : Tr AV} {tmps : Array Value} {o : Oper} {r : Bool} (hd : fi.sz ≤ 2 ^ fi.rd) (hsz : tmps.size = fi.sz) (hw : wantedA ops.toList fi R o = some r)
    (hv : ∀ t, t < fi.sz → Looks ops.toList o t → VR φ (rg fi R t) (tmps.getD t undef)) : Region.wanted o (yielded ops tmps) = r := by
  have rr : ∀ t, (t < fi.sz → VR φ (rg fi R t) (tmps.getD t undef)) → RR φ fi (putReg fi .e (some t) (rg fi R t)) tmps := by
    intro t h
    refine ⟨hsz, hd, fun t' ht' => ?_⟩
    show VR φ (rg fi (putReg fi .e (some t) (rg fi R t)) t') _
    rw [rg_put hd ht']
    split
    · rename_i e
      obtain rfl := Option.some.inj e
      exact h ht'
    · have : rg fi (.e : Tr AV) t' = .junk := by simp [rg, Tr.get_e]
      rw [this]
      exact .junk _
  cases hg : o.guard with
  | none =>
    unfold wantedA at hw
    unfold Region.wanted
    rw [hg] at hw ⊢
    simpa using hw
  | some gw =>
    obtain ⟨g, want⟩ := gw
    cases ht : dstOf ops.toList g with
    | none =>
      refine wantedA_ok (regs := putReg fi .e (some fi.sz) (rg fi R fi.sz)) (φ := φ) (rr fi.sz (fun h => absurd h (by omega))) (ops := ops) (o := o) ?_
      unfold wantedA at hw ⊢
      rw [hg] at hw ⊢
      unfold dstOf at ht
      dsimp only at hw ⊢
      rw [ht] at hw ⊢
      exact hw
    | some t =>
      refine wantedA_ok (regs := putReg fi .e (some t) (rg fi R t)) (φ := φ) (rr t fun h => hv t h (.inr ⟨g, want, hg, ht⟩)) (ops := ops) (o := o) ?_
      unfold wantedA at hw ⊢
      rw [hg] at hw ⊢
      unfold dstOf at ht
      dsimp only at hw ⊢
      rw [ht] at hw ⊢
      dsimp only at hw ⊢
      have : ev fi (putReg fi .e (some t) (rg fi R t)) (.tmp t) = ev fi R (.tmp t) := by
        rw [ev_rg, ev_rg]
        cases hlt : Nat.blt t fi.sz with
        | false => rfl
        | true =>
          unfold Nat.blt at hlt
          have hd' : t < fi.sz := Nat.le_of_ble_eq_true hlt
          simp only [cond_true]
          rw [rg_put hd hd', if_pos rfl]
      rw [this]
      exact hw

/-- A frame's values where an operation looks; elsewhere nothing is known. -/
noncomputable def seen (fi : FI) (R : Tr AV) (o : Oper) : Operand → AV
  | .tmp t => if t ∈ operTmps o then ev fi R (.tmp t) else .junk
  | x => ev fi R x

omit [Val] in
theorem seen_congr (R : Tr AV) (o : Oper) (h : H) : opA P fi R o h = opR P (seen fi R o) o h := by
  rw [opA_eq]
  refine opR_congr (fun x hx => ?_) h
  cases x with
  | tmp t =>
    have : t ∈ operTmps o := by
      unfold operTmps
      rw [List.mem_filterMap]
      exact ⟨.tmp t, hx, rfl⟩
    simp only [seen, if_pos this]
  | const v => rfl
  | global g => rfl
  | func f => rfl

theorem seen_rel {φ : Phi} {h : H} {w : World} (hr : HR G φ h w) (hG : fi.G = G) {R : Tr AV} {o : Oper} {tmps : Array Value} (hsz : tmps.size = fi.sz)
    (hv : ∀ t, t < fi.sz → t ∈ operTmps o → VR φ (rg fi R t) (tmps.getD t undef)) (b : Frame) (hb : b.tmps = tmps) (x : Operand) : VR φ (seen fi R o x) (b.eval x) := by
  cases x with
  | tmp t =>
    simp only [seen]
    split
    · rename_i hm
      rw [ev_rg]
      simp only [Frame.eval, hb]
      cases hlt : Nat.blt t fi.sz with
      | false => exact .junk _
      | true =>
        unfold Nat.blt at hlt
        have hd' : t < fi.sz := Nat.le_of_ble_eq_true hlt
        exact hv t hd' hm
    · exact .junk _
  | const v => exact ev_rel (regs := .e) (tmps := #[]) (fi := ⟨fi.rd, 0, fi.G⟩) hG hr ⟨rfl, Nat.zero_le _, fun t ht => absurd ht (Nat.not_lt_zero t)⟩ { b with tmps := #[] } rfl (.const v)
  | global g => exact ev_rel (regs := .e) (tmps := #[]) (fi := ⟨fi.rd, 0, fi.G⟩) hG hr ⟨rfl, Nat.zero_le _, fun t ht => absurd ht (Nat.not_lt_zero t)⟩ { b with tmps := #[] } rfl (.global g)
  | func f => exact ev_rel (regs := .e) (tmps := #[]) (fi := ⟨fi.rd, 0, fi.G⟩) hG hr ⟨rfl, Nat.zero_le _, fun t ht => absurd ht (Nat.not_lt_zero t)⟩ { b with tmps := #[] } rfl (.func f)

theorem HR.grow {φ : Phi} {h h' : H} {w : World} (hr : HR G φ h w) {ob : AObj} {id : Nat} (hn : h.new ob = some (id, h')) : HR G φ h' w := by
  obtain ⟨rfl, hlt, hnx, hget⟩ := H.new_spec hn
  have same : ∀ i p, φ i = some p → h'.get i = h.get i := by
    intro i p hp
    have := (hr.dom _ _ hp).1
    rw [hget i (hr.id_lt hp), if_neg (by omega)]
  refine ⟨fun i p hp => ?_, fun i hi hge => ?_, by omega, hr.glob, fun i j oi oj p q hi hj ai aj hp hq e => ?_, fun i o p hg hp => ?_⟩
  · have := hr.dom i p hp
    exact ⟨by omega, this.2⟩
  · rw [hget i hi, if_neg (by omega)]
    exact hr.lt i hi (by omega)
  · rw [same i p hp] at hi
    rw [same j q hq] at hj
    exact hr.inj i j oi oj p q hi hj ai aj hp hq e
  · rw [same i p hp] at hg
    exact hr.obj i o p hg hp

theorem Post.grow {φ0 φ : Phi} {h0 h h' : H} {w0 w : World} (hr : HR G φ h w) (hp : Post φ0 h0 w0 φ h w) {ob : AObj} {id : Nat} (hn : h.new ob = some (id, h')) : Post φ0 h0 w0 φ h' w := by
  obtain ⟨rfl, hlt, hnx, hget⟩ := H.new_spec hn
  refine ⟨hp.le, hp.size, hp.os, hp.tape, hp.out, by have := hp.nx; omega, fun b hb hno => ?_, fun i hi hni => ?_⟩
  · obtain ⟨h1, h2⟩ := hp.keep b hb hno
    refine ⟨h1, ?_⟩
    rintro ⟨i, o, p, hg, hpp, rfl⟩
    have := (hr.dom _ _ hpp).1
    rw [hget i (hr.id_lt hpp), if_neg (by omega)] at hg
    exact h2 ⟨i, o, p, hg, hpp, rfl⟩
  · obtain ⟨h1, h2⟩ := hp.unt i hi hni
    have := hp.nx
    refine ⟨?_, h2⟩
    rw [hget i (by omega), if_neg (by omega)]
    exact h1

theorem HR.late {φ : Phi} {h : H} {w : World} (hr : HR G φ h w) {id : Nat} (hnone : φ id = none) (hid : id < h.nx) {ob : AObj} (hg : h.get id = some ob) {ob' : Obj} {cs : Nat}
    (ho : OR φ ob (w.heap.size, 0, cs) (some ob')) : HR G (φ.set id (w.heap.size, 0, cs)) h (w.alloc ob') := by
  have hle : φ.le (φ.set id (w.heap.size, 0, cs)) := Phi.le_set _ hnone
  have cases_ : ∀ i p, φ.set id (w.heap.size, 0, cs) i = some p → (i = id ∧ p = (w.heap.size, 0, cs)) ∨ (i ≠ id ∧ φ i = some p) := by
    intro i p hp
    unfold Phi.set at hp
    split at hp
    · rename_i e; exact .inl ⟨e, by simpa using hp.symm⟩
    · rename_i e; exact .inr ⟨e, hp⟩
  refine ⟨fun i p hp => ?_, hr.lt, hr.nx, fun g hgl => ?_, fun i j oi oj p q hi hj ai aj hp hq hpq => ?_, fun i o' p hgi hp => ?_⟩
  · rcases cases_ i p hp with ⟨rfl, rfl⟩ | ⟨_, hp⟩
    · exact ⟨hid, by simp⟩
    · have := hr.dom i p hp
      exact ⟨this.1, by simp; omega⟩
  · obtain ⟨c, hc⟩ := hr.glob g hgl
    exact ⟨c, hle _ _ hc⟩
  · rcases cases_ i p hp with ⟨rfl, rfl⟩ | ⟨nei, hp'⟩
    · rcases cases_ j q hq with ⟨rfl, rfl⟩ | ⟨nej, hq'⟩
      · rfl
      · have := (hr.dom _ _ hq').2
        simp only at hpq
        omega
    · rcases cases_ j q hq with ⟨rfl, rfl⟩ | ⟨nej, hq'⟩
      · have := (hr.dom _ _ hp').2
        simp only at hpq
        omega
      · exact hr.inj i j oi oj p q hi hj ai aj hp' hq' hpq
  · rcases cases_ i p hp with ⟨rfl, rfl⟩ | ⟨nei, hp'⟩
    · rw [hg] at hgi
      obtain rfl := Option.some.inj hgi
      rw [alloc_block, if_pos rfl]
      exact ho.mono hle
    · have hlt' := (hr.dom _ _ hp').2
      rw [alloc_block, if_neg (by omega)]
      exact (hr.obj i o' p hgi hp').mono hle

omit [Val] in
theorem Post.late {φ0 φ : Phi} {h0 h : H} {w0 w : World} (hp : Post φ0 h0 w0 φ h w) {id : Nat} (hnone : φ id = none) (hid : h0.nx ≤ id) (ob' : Obj) (cs : Nat) :
    Post φ0 h0 w0 (φ.set id (w.heap.size, 0, cs)) h (w.alloc ob') := by
  have hle : φ.le (φ.set id (w.heap.size, 0, cs)) := Phi.le_set _ hnone
  refine ⟨hp.le.trans hle, by have := hp.size; simp; omega, hp.os, hp.tape, hp.out, hp.nx, fun b hb hno => ?_, fun i hi hni => ?_⟩
  · obtain ⟨h1, h2⟩ := hp.keep b hb hno
    have := hp.size
    refine ⟨by rw [alloc_block, if_neg (by omega)]; exact h1, ?_⟩
    rintro ⟨i, o, p, hg, hpp, rfl⟩
    unfold Phi.set at hpp
    split at hpp
    · obtain rfl := Option.some.inj hpp
      simp only at hb
      omega
    · exact h2 ⟨i, o, p, hg, hpp, rfl⟩
  · obtain ⟨h1, h2⟩ := hp.unt i hi hni
    refine ⟨h1, ?_⟩
    unfold Phi.set
    rw [if_neg (by omega)]
    exact h2

theorem same_rel {φ : Phi} : ∀ (n : Nat) {a a' : AV} {v : Value}, AV.same n a a' = true → VR φ a' v → VR φ a v := by
  intro n
  induction n with
  | zero =>
    intro a a' v h hv
    unfold AV.same at h
    split at h
    · simp at *
    · simp at *
    · simp only [Bool.and_eq_true, beq_iff_eq] at h
      obtain ⟨⟨⟨⟨⟨rfl, rfl⟩, rfl⟩, rfl⟩, rfl⟩, rfl⟩ := h
      exact hv
    · exact AV.eq_of_scalarEq h ▸ hv
  | succ n ih =>
    intro a a' v h hv
    unfold AV.same at h
    split at h
    · have hf := Nat.succ.inj ‹n + 1 = _ + 1›
      subst hf
      simp only [Bool.and_eq_true, beq_iff_eq, List.all_eq_true, List.mem_range] at h
      obtain ⟨⟨rfl, hd⟩, hall⟩ := h
      cases hv with
      | agg hs hn hg h1 => exact .agg hs (Nat.le_of_ble_eq_true hd) (fun i hi => ih (hall i hi) (hg i hi)) h1
    · have hf := Nat.succ.inj ‹n + 1 = _ + 1›
      subst hf
      simp only [Bool.and_eq_true, beq_iff_eq, List.all_eq_true, List.mem_range] at h
      obtain ⟨hl, hall⟩ := h
      cases hv with
      | tup hs hg => exact .tup (by rw [hs, hl]) (fun i hi => ih (hall i hi) (hg i (by omega)))
    · simp only [Bool.and_eq_true, beq_iff_eq] at h
      obtain ⟨⟨⟨⟨⟨rfl, rfl⟩, rfl⟩, rfl⟩, rfl⟩, rfl⟩ := h
      exact hv
    · exact AV.eq_of_scalarEq h ▸ hv
end
end Go.Ab
