/-
  The machine with patterns, part 5 of 5: a program's calls run over small memories, with unknown numbers; each answer is proved to be the model's.
  Conditions: those that each lemma names.
-/
import Derived.Test.YtekgfgignkihmaaGreatDyD
section
noncomputable section
namespace Go.Ab
abbrev CP := List Bool
def codeAt (p : CP) : Code → Option Code :=
  List.rec (motive := fun _ => Code → Option Code) (fun c => some c)
    (fun x _ ih c => match c with
      | .seq a b | .cond _ a b => Bool.casesOn x (ih a) (ih b)
      | .block _ a | .loop a | .scope a => ih a
      | _ => none) p
theorem codeAt_append (p q : CP) : ∀ (c : Code), codeAt (p ++ q) c = (codeAt p c).bind (codeAt q) := by
  induction p with
  | nil => intro c; rfl
  | cons x p ih =>
    intro c
    show (match c with
      | .seq a b | .cond _ a b => Bool.casesOn x (codeAt (p ++ q) a) (codeAt (p ++ q) b)
      | .block _ a | .loop a | .scope a => codeAt (p ++ q) a
      | _ => none) = Option.bind (match c with
      | .seq a b | .cond _ a b => Bool.casesOn x (codeAt p a) (codeAt p b)
      | .block _ a | .loop a | .scope a => codeAt p a
      | _ => none) (codeAt q)
    cases c <;> cases x <;> first | rfl | exact ih _
inductive CI where
  | code (p : CP)
  | inBlock (id : Nat)
  | inLoop (p : CP)
  | inScope (p : CP)
def toC (body : Code) (p : CP) : Code := (codeAt p body).getD .skip
def toI (body : Code) : CI → Item
  | .code p => .code (toC body p)
  | .inBlock id => .inBlock id
  | .inLoop p => .inLoop (toC body p)
  | .inScope p => .inScope (toC body p)
def exitC (id : Nat) : List CI → Option (List CI)
  | [] => none
  | .inBlock i :: K => bif Nat.beq i id then some K else exitC id K
  | .code _ :: K | .inLoop _ :: K | .inScope _ :: K => exitC id K
theorem exitC_ok {body : Code} {id : Nat} : ∀ {K K' : List CI}, exitC id K = some K' → exitTo id (K.map (toI body)) = some (K'.map (toI body)) := by
  intro K
  induction K with
  | nil => intro K' h; simp [exitC] at h
  | cons x K ih =>
    intro K' h
    cases x with
    | code p => exact ih h
    | inLoop p => exact ih h
    | inScope p => exact ih h
    | inBlock i =>
      simp only [exitC] at h
      cases hb : Nat.beq i id with
      | true =>
        rw [hb] at h
        simp only [cond_true, Option.some.injEq] at h
        subst h
        have := Nat.eq_of_beq_eq_true hb
        subst this
        simp [toI, exitTo]
      | false =>
        rw [hb] at h
        have : (i == id) = false := by
          simp only [beq_eq_false_iff_ne, ne_eq]
          rintro rfl
          simp at hb
        simp only [List.map_cons, toI, exitTo, this, Bool.false_eq_true, if_false]
        exact ih h
def CP.same : CP → CP → Bool
  | [], [] => true
  | x :: p, y :: q => (x == y) && CP.same p q
  | _, _ => false
theorem CP.same_ok : ∀ {p q : CP}, CP.same p q = true → p = q
  | [], [], _ => rfl
  | x :: p, y :: q, h => by
    simp only [CP.same, Bool.and_eq_true, beq_iff_eq] at h
    obtain ⟨rfl, h⟩ := h
    rw [CP.same_ok h]
  | [], _ :: _, h => by simp [CP.same] at h
  | _ :: _, [], h => by simp [CP.same] at h
def CI.same : CI → CI → Bool
  | .code p, .code q => CP.same p q
  | .inBlock i, .inBlock j => Nat.beq i j
  | .inLoop p, .inLoop q => CP.same p q
  | .inScope p, .inScope q => CP.same p q
  | _, _ => false
def sameK : List CI → List CI → Bool
  | [], [] => true
  | x :: K, y :: L => x.same y && sameK K L
  | _, _ => false
theorem sameK_ok : ∀ {K L : List CI}, sameK K L = true → K = L
  | [], [], _ => rfl
  | x :: K, y :: L, h => by
    simp only [sameK, Bool.and_eq_true] at h
    obtain ⟨h1, h2⟩ := h
    rw [sameK_ok h2]
    congr 1
    cases x <;> cases y <;> simp only [CI.same, Bool.false_eq_true] at h1
    · rw [CP.same_ok h1]
    · rw [Nat.eq_of_beq_eq_true h1]
    · rw [CP.same_ok h1]
    · rw [CP.same_ok h1]
  | [], _ :: _, h => by simp [sameK] at h
  | _ :: _, [], h => by simp [sameK] at h
def AMode.isNormal : AMode → Bool
  | .normal => true
  | _ => false
theorem AMode.isNormal_ok {u : AMode} (h : u.isNormal = true) : u = .normal := by cases u <;> simp_all [AMode.isNormal]
section
variable (P : Program) (cl : CallFn) (rn : RoundFn)
def stepC (fi : FI) (body : Code) (K : List CI) (s : S) : Option (List CI × S) :=
  match K with
  | [] => none
  | .inBlock _ :: K => some (K, s)
  | .inScope _ :: K => some (K, s)
  | .inLoop p :: K => some (.code p :: .inLoop p :: K, s)
  | .code p :: K => match codeAt p body with
    | some .skip => some (K, s)
    | some (.label _) => some (K, s)
    | some (.region _ ops draw) => match runRegion P cl rn ops draw fi s with
      | some (.nor s') => bif s'.u.isNormal then some (K, s') else none
      | _ => none
    | some (.seq _ _) => some (.code (p ++ [false]) :: .code (p ++ [true]) :: K, s)
    | some (.cond c _ _) => match ev fi s.regs c with
      | .bool t => some (.code (p ++ [!t]) :: K, s)
      | _ => none
    | some (.block id _) => some (.code (p ++ [false]) :: .inBlock id :: K, s)
    | some (.loop _) => some (.code (p ++ [false]) :: .inLoop (p ++ [false]) :: K, s)
    | some (.scope _) => some (.code (p ++ [false]) :: .inScope (p ++ [false]) :: K, s)
    | some (.exit id) => (exitC id K).map fun K => (K, s)
    | _ => none
def iterC (fi : FI) (body : Code) (n : Nat) : List CI → S → Option (List CI × S) :=
  Nat.rec (motive := fun _ => List CI → S → Option (List CI × S)) (fun K s => some (K, s))
    (fun _ ih K s => match stepC P cl rn fi body K s with
      | some (K', s') => ih K' s'
      | none => none) n
end
variable [Val]
section
variable {P : Program} {G : Nat} {cl : CallFn} {rn : RoundFn}
omit [Val] in
theorem toC_child {body : Code} {p : CP} {c : Code} (h : codeAt p body = some c) (x : Bool) : toC body (p ++ [x]) = (codeAt [x] c).getD .skip := by
  unfold toC
  rw [codeAt_append, h]
  rfl
theorem stepC_ok (hcl : CallSim P G cl) (hrn : RoundSim P G rn) (hdr : DrawSim P G cl rn) {fi : FI} {body : Code} {K K' : List CI} {s s' : S} (h : stepC P cl rn fi body K s = some (K', s')) (hn : s.u = .normal)
    {b : Frame} (hro : b.roundOf = none) {cs : List Frame} {φ : Phi} {tmps : Array Value} {df : List Deferred} {w : World} (hs : SR G φ fi s b tmps df cs cs w) :
    ∃ φ' tmps' df' w', SR G φ' fi s' b tmps' df' cs cs w' ∧ s'.u = .normal ∧ Post φ s.h w φ' s'.h w' ∧
      Steps P (lone (mkF b tmps df (K.map (toI body))) cs w) (lone (mkF b tmps' df' (K'.map (toI body))) cs w') := by
  have stay : ∀ {K2 : List CI}, step P (lone (mkF b tmps df (K.map (toI body))) cs w) = .next (lone (mkF b tmps df (K2.map (toI body))) cs w) → (K2, s) = (K', s') →
      ∃ φ' tmps' df' w', SR G φ' fi s' b tmps' df' cs cs w' ∧ s'.u = .normal ∧ Post φ s.h w φ' s'.h w' ∧ Steps P (lone (mkF b tmps df (K.map (toI body))) cs w) (lone (mkF b tmps' df' (K'.map (toI body))) cs w') := by
    intro K2 hst e
    obtain ⟨rfl, rfl⟩ := Prod.mk.inj e
    exact ⟨φ, tmps, df, w, hs, hn, Post.refl _ _ _, .one hst⟩
  unfold stepC at h
  split at h
  · simp at h
  · exact stay stp_inBlock (Option.some.inj h)
  · exact stay stp_inScope (Option.some.inj h)
  · exact stay stp_inLoop (Option.some.inj h)
  · rename_i p K
    have hc : ∀ {c : Code}, codeAt p body = some c → toC body p = c := fun e => by unfold toC; rw [e]; rfl
    split at h
    · rename_i e
      refine stay ?_ (Option.some.inj h)
      simp only [List.map_cons, toI, hc e]; exact stp_skip
    · rename_i e
      refine stay ?_ (Option.some.inj h)
      simp only [List.map_cons, toI, hc e]; exact stp_label
    · rename_i id ops draw e
      split at h
      · rename_i s2 hrun
        cases hu : s2.u.isNormal with
        | false => rw [hu] at h; simp at h
        | true =>
          rw [hu] at h
          simp only [cond_true, Option.some.injEq, Prod.mk.injEq] at h
          obtain ⟨rfl, rfl⟩ := h
          have hx := exec_sim (fid := b.fn) (around := none) hcl hrn hdr rfl (cs0 := cs) 1 (.region id ops draw) s (.nor s2) hrun φ tmps df cs w (K.map (toI body)) (.code (.region id ops draw)) (.inl rfl) hs hro
          obtain ⟨φ', t', d', c', w', h1, h2, h3⟩ := hx
          have hu2 := AMode.isNormal_ok hu
          have hcs : c' = cs := by
            have := h1.ur
            rw [hu2] at this
            cases this with
            | normal _ _ => rfl
            | deferred _ _ _ hm => cases hm
          subst hcs
          refine ⟨φ', t', d', w', h1, hu2, h2, ?_⟩
          simp only [List.map_cons, toI, hc e]
          exact h3
      · simp at h
    · rename_i x y e
      refine stay ?_ (Option.some.inj h)
      simp only [List.map_cons, toI, hc e, toC_child e, codeAt, Option.getD_some]; exact stp_seq
    · rename_i c x y e
      split at h
      · rename_i t ht
        refine stay ?_ (Option.some.inj h)
        have hev := hs.eval df (.code (.cond c x y) :: K.map (toI body)) c
        rw [ht] at hev
        have := hev.bool_inv
        simp only [List.map_cons, toI, hc e, toC_child e]
        have hst := stp_cond (P := P) (b := b) (tmps := tmps) (df := df) (k := K.map (toI body)) (cs := cs) (w := w) (c := c) (x := x) (y := y) (t := t) this
        cases t <;> simpa [codeAt] using hst
      · simp at h
    · rename_i id x e
      refine stay ?_ (Option.some.inj h)
      simp only [List.map_cons, toI, hc e, toC_child e, codeAt, Option.getD_some]; exact stp_block
    · rename_i x e
      refine stay ?_ (Option.some.inj h)
      simp only [List.map_cons, toI, hc e, toC_child e, codeAt, Option.getD_some]; exact stp_loop
    · rename_i x e
      refine stay ?_ (Option.some.inj h)
      simp only [List.map_cons, toI, hc e, toC_child e, codeAt, Option.getD_some]; exact stp_scope
    · rename_i id e
      cases he : exitC id K with
      | none => rw [he] at h; simp at h
      | some K2 =>
        rw [he] at h
        refine stay ?_ (Option.some.inj h)
        simp only [List.map_cons, toI, hc e]
        exact stp_exit (exitC_ok he)
    · simp at h
theorem iterC_ok (hcl : CallSim P G cl) (hrn : RoundSim P G rn) (hdr : DrawSim P G cl rn) {fi : FI} {body : Code} {b : Frame} (hro : b.roundOf = none) {cs : List Frame} : ∀ (n : Nat) {K K' : List CI} {s s' : S}, iterC P cl rn fi body n K s = some (K', s') → s.u = .normal →
    ∀ {φ : Phi} {tmps : Array Value} {df : List Deferred} {w : World}, SR G φ fi s b tmps df cs cs w →
    ∃ φ' tmps' df' w', SR G φ' fi s' b tmps' df' cs cs w' ∧ s'.u = .normal ∧ Post φ s.h w φ' s'.h w' ∧
      Steps P (lone (mkF b tmps df (K.map (toI body))) cs w) (lone (mkF b tmps' df' (K'.map (toI body))) cs w') := by
  intro n
  induction n with
  | zero =>
    intro K K' s s' h hn φ tmps df w hs
    obtain ⟨rfl, rfl⟩ := Prod.mk.inj (Option.some.inj h)
    exact ⟨φ, tmps, df, w, hs, hn, Post.refl _ _ _, .refl _ _⟩
  | succ n ih =>
    intro K K' s s' h hn φ tmps df w hs
    have h : (match stepC P cl rn fi body K s with
      | some (K', s') => iterC P cl rn fi body n K' s'
      | none => none) = some (K', s') := h
    split at h
    · rename_i K2 s2 hst
      obtain ⟨φ1, t1, d1, w1, a1, a2, a3, a4⟩ := stepC_ok hcl hrn hdr hst hn hro hs
      obtain ⟨φ2, t2, d2, w2, b1, b2, b3, b4⟩ := ih h a2 a1
      exact ⟨φ2, t2, d2, w2, b1, b2, a3.trans b3, a4.trans b4⟩
    · simp at h
end
end Go.Ab
end

section
noncomputable section
namespace Go.Ab
abbrev Bnds := List (Nat × Int × Int)
def E.okW (W : Bnds) : E → Bool
  | .var i l h => Nat.blt i VB && W.any fun x => Nat.beq x.1 i && (decide (l ≤ x.2.1) && decide (x.2.2 ≤ h))
  | .const _ => true
  | .add a b | .sub a b | .mul a b | .max a b | .min a b | .remE a b => a.okW W && b.okW W
  | .rem a _ | .quo a _ => a.okW W
  | .cell v _ _ e => Nat.ble VB v && e.okW W
def Bnds.holds (W : Bnds) (θ : Nat → E) (σ : Nat → Int) : Prop := ∀ x ∈ W, x.2.1 ≤ (θ x.1).eval σ ∧ (θ x.1).eval σ ≤ x.2.2
section
variable (σ : Nat → Int)
theorem E.subst_okW {W : Bnds} {θ : Nat → E} (hW : W.holds θ σ) : ∀ {e : E}, e.okW W = true → (e.subst θ).eval σ = e.eval (up θ σ) := by
  intro e
  induction e with
  | var i l h =>
    intro ho
    simp only [E.okW, Bool.and_eq_true, List.any_eq_true, decide_eq_true_eq] at ho
    obtain ⟨hi, x, hx, h1, h2, h3⟩ := ho
    have hi : i < VB := Nat.le_of_ble_eq_true hi
    obtain rfl := Nat.eq_of_beq_eq_true h1
    have := hW x hx
    simp only [E.subst, E.eval, up, if_pos hi]
    exact (clampI_id (by omega) (by omega)).symm
  | const n => intro _; rfl
  | add a b iha ihb => intro ho; simp only [E.okW, Bool.and_eq_true] at ho; simp only [E.subst, E.plus_ok, E.eval]; rw [iha ho.1, ihb ho.2]
  | sub a b iha ihb => intro ho; simp only [E.okW, Bool.and_eq_true] at ho; simp only [E.subst, E.minus_ok, E.eval]; rw [iha ho.1, ihb ho.2]
  | mul a b iha ihb => intro ho; simp only [E.okW, Bool.and_eq_true] at ho; simp only [E.subst, E.mulS_ok, E.eval]; rw [iha ho.1, ihb ho.2]
  | max a b iha ihb => intro ho; simp only [E.okW, Bool.and_eq_true] at ho; simp only [E.subst, E.maxS_ok, E.eval]; rw [iha ho.1, ihb ho.2]
  | min a b iha ihb => intro ho; simp only [E.okW, Bool.and_eq_true] at ho; simp only [E.subst, E.minS_ok, E.eval]; rw [iha ho.1, ihb ho.2]
  | rem a c iha => intro ho; simp only [E.okW] at ho; simp only [E.subst, E.remS_ok, E.eval]; rw [iha ho]
  | quo a c iha => intro ho; simp only [E.okW] at ho; simp only [E.subst, E.quoS_ok, E.eval]; rw [iha ho]
  | remE a b iha ihb => intro ho; simp only [E.okW, Bool.and_eq_true] at ho; simp only [E.subst, E.eval]; rw [iha ho.1, ihb ho.2]
  | cell v l h a iha =>
    intro ho
    simp only [E.okW, Bool.and_eq_true] at ho
    have hv : VB ≤ v := Nat.le_of_ble_eq_true ho.1
    simp only [E.subst, E.eval]
    rw [iha ho.2]
    simp only [up]
    rw [if_neg (by omega)]
end
def boundB (tb : List Fact) (e : E) (l h : Int) : Bool :=
  match e.rng with
  | some (a, b) => (decide (l ≤ a) || (match symLt tb a b e l l (.const l) with | some false => true | _ => false)) &&
      (decide (b ≤ h) || (match symLt tb h h (.const h) a b e with | some false => true | _ => false))
  | none => false
theorem boundB_ok {σ : Nat → Int} {tb : List Fact} (hT : ∀ f ∈ tb, f.holds σ) {e : E} {l h : Int} (hb : boundB tb e l h = true) : l ≤ e.eval σ ∧ e.eval σ ≤ h := by
  unfold boundB at hb
  split at hb
  · rename_i a b hr
    have hr := E.rng_ok σ hr
    simp only [Bool.and_eq_true, Bool.or_eq_true, decide_eq_true_eq] at hb
    obtain ⟨h1, h2⟩ := hb
    refine ⟨?_, ?_⟩
    · rcases h1 with h1 | h1
      · omega
      · split at h1
        · rename_i hs
          have := of_decide_eq_false (symLt_ok σ hT hs rfl hr.1 hr.2 (e₂ := .const l) rfl (Int.le_refl l) (Int.le_refl l))
          simp only [E.eval] at this
          omega
        · simp at h1
    · rcases h2 with h2 | h2
      · omega
      · split at h2
        · rename_i hs
          have := of_decide_eq_false (symLt_ok σ hT hs (e₁ := .const h) rfl (Int.le_refl h) (Int.le_refl h) rfl hr.1 hr.2)
          simp only [E.eval] at this
          omega
        · simp at h2
  · simp at hb
def E.at1 (a : E) (x : Int) : E → Option Int
  | .const n => some n
  | .add p q => match E.at1 a x p, E.at1 a x q with
    | some m, some n => some (m + n)
    | _, _ => none
  | .sub p q => match E.at1 a x p, E.at1 a x q with
    | some m, some n => some (m - n)
    | _, _ => none
  | .mul p q => match E.at1 a x p, E.at1 a x q with
    | some m, some n => some (m * n)
    | _, _ => none
  | .rem p c => match E.at1 a x p with
    | some m => some (m % c)
    | none => none
  | .quo p c => match E.at1 a x p with
    | some m => some (m / c)
    | none => none
  | .max p q => match E.at1 a x p, E.at1 a x q with
    | some m, some n => some (if n > m then n else m)
    | _, _ => none
  | .min p q => match E.at1 a x p, E.at1 a x q with
    | some m, some n => some (if n < m then n else m)
    | _, _ => none
  | .remE p q => match E.at1 a x p, E.at1 a x q with
    | some m, some n => some (m % n)
    | _, _ => none
  | .var i l h => bif (E.var i l h).eqv a then some x else none
  | .cell v l h e => bif (E.cell v l h e).eqv a then some x else none
theorem E.at1_ok {σ : Nat → Int} {a : E} {x : Int} (hx : a.eval σ = x) : ∀ {e : E} {n : Int}, E.at1 a x e = some n → e.eval σ = n := by
  intro e
  induction e with
  | const m => intro n h; simpa [E.at1, E.eval] using h
  | var i l h =>
    intro n hn
    simp only [E.at1] at hn
    cases he : (E.var i l h).eqv a with
    | true => rw [he] at hn; rw [E.eqv_ok σ he, hx]; simpa using hn
    | false => rw [he] at hn; simp at hn
  | cell v l h b _ =>
    intro n hn
    simp only [E.at1] at hn
    cases he : (E.cell v l h b).eqv a with
    | true => rw [he] at hn; rw [E.eqv_ok σ he, hx]; simpa using hn
    | false => rw [he] at hn; simp at hn
  | rem p c ih =>
    intro n hn
    simp only [E.at1] at hn
    split at hn
    · rename_i m h1; simp only [E.eval]; rw [ih h1]; simpa using hn
    · simp at hn
  | quo p c ih =>
    intro n hn
    simp only [E.at1] at hn
    split at hn
    · rename_i m h1; simp only [E.eval]; rw [ih h1]; simpa using hn
    · simp at hn
  | add p q ip iq | sub p q ip iq | mul p q ip iq | max p q ip iq | min p q ip iq | remE p q ip iq =>
    intro n hn
    simp only [E.at1] at hn
    split at hn
    · rename_i m k h1 h2; simp only [E.eval]; rw [ip h1, iq h2]; simpa using hn
    · simp at hn
def failsAt (a : E) (x : Int) (f : Fact) : Bool := match E.at1 a x f.a, E.at1 a x f.b with
  | some p, some q => (bif f.eq then decide (p = q) else decide (p < q)) != f.v
  | _, _ => false
def neverN (a : E) (tb : List Fact) (l : Int) : Nat → Bool
  | 0 => true
  | n + 1 => tb.any (failsAt a (l + n)) && neverN a tb l n
def never (a : E) (tb : List Fact) : Bool := match a.rng with
  | some (l, h) => let tb := tb.filter fun f => (E.at1 a l f.a).isSome && (E.at1 a l f.b).isSome
    neverN a tb l (h - l + 1).toNat
  | none => false
theorem neverN_ok {σ : Nat → Int} {a : E} {tb : List Fact} {l : Int} : ∀ {n : Nat}, neverN a tb l n = true → l ≤ a.eval σ → a.eval σ < l + n → ∃ f ∈ tb, ¬ f.holds σ
  | 0, _, h1, h2 => by omega
  | n + 1, h, h1, h2 => by
    simp only [neverN, Bool.and_eq_true, List.any_eq_true] at h
    obtain ⟨⟨f, hf, hx⟩, h4⟩ := h
    by_cases hn : a.eval σ < l + n
    · exact neverN_ok h4 h1 hn
    · refine ⟨f, hf, fun hh => ?_⟩
      have e : a.eval σ = l + n := by omega
      unfold failsAt at hx
      split at hx
      · rename_i p q hp hq
        have e1 := E.at1_ok e hp
        have e2 := E.at1_ok e hq
        unfold Fact.holds at hh
        rw [e1, e2] at hh
        cases hb : f.eq with
        | true => rw [hb] at hx hh; simp only [cond_true] at hx hh; rw [hh] at hx; simp at hx
        | false => rw [hb] at hx hh; simp only [cond_false] at hx hh; rw [hh] at hx; simp at hx
      · simp at hx
theorem never_ok {σ : Nat → Int} {a : E} {tb : List Fact} (h : never a tb = true) (hT : ∀ f ∈ tb, f.holds σ) : False := by
  unfold never at h
  split at h
  · rename_i l u hr
    have := E.rng_ok σ hr
    obtain ⟨f, hf, hx⟩ := neverN_ok (σ := σ) h this.1 (by omega)
    exact hx (hT f (List.mem_filter.1 hf).1)
  · simp at h
def fitV (W : Bnds) (θ : Nat → E) (ρ : Nat → Option Nat) : Nat → AV → AV → Bool
  | 0, _, _ => false
  | f + 1, v, v' =>
    match v, v' with
    | .junk, _ => true
    | .bool a, .bool b => decide (a = b)
    | .int k a, .int k' b => decide (k = k') && decide (a = b)
    | .sym k l h e, v' => match asSym v' with
      | some (k', l', h', e') => decide (k = k') && (e.okW W && (((e.subst θ).eqv e' || E.zero (.sub (e.subst θ) e')) &&
          ((decide (l ≤ l') && decide (h' ≤ h)) || (match e.rng with | some (a, b) => decide (l ≤ a) && decide (b ≤ h) | none => false))))
      | none => false
    | .any k, .any k' => decide (k = k')
    | .any k, .int k' _ => decide (k = k')
    | .any k, .sym k' _ _ _ => decide (k = k')
    | .anyb, .anyb => true
    | .anyb, .bool _ => true
    | .str a, .str b => decide (a = b)
    | .nilp, .nilp => true
    | .nils, .nils => true
    | .nilm, .nilm => true
    | .nilf, .nilf => true
    | .nili, .nili => true
    | .ptr i o, .ptr a o' => decide (ρ i = some a) && decide (o = o')
    | .slice i o l c e s, .slice a o' l' c' e' s' => decide (ρ i = some a) && (decide (o = o') && (decide (l = l') && (decide (c = c') && (decide (e = e') && decide (s = s')))))
    | .map i, .map a => decide (ρ i = some a)
    | .vsl i o l, .vsl a o' l' => decide (ρ i = some a) && (o.okW W && (E.zero (.sub (o.subst θ) o') && (l.okW W && E.zero (.sub (l.subst θ) l'))))
    | .fn (.func g) l m, .fn (.func g') l' m' => decide (g = g') && (listB (fitV W θ ρ f) l l' && listB (fitV W θ ρ f) m m')
    | .iface t v, .iface t' v' => decide (t = t') && fitV W θ ρ f v v'
    | .agg n dep d t, .agg n' dep' d' t' => decide (n = n') && (decide (dep = dep') && vecB (fitV W θ ρ f) n dep d t d' t')
    | .tup l, .tup m => listB (fitV W θ ρ f) l m
    | _, _ => false
variable [Val]
def Tells (θ : Nat → E) (φ₀ φ : Phi) (v v' : AV) : Prop := ∀ {x : Value}, VR φ v' x → @VR (valOf θ) φ₀ v x
theorem fitV_ok {W : Bnds} {θ : Nat → E} (hW : W.holds θ Val.σ) {ρ : Nat → Option Nat} {φ₀ φ : Phi} (hφ : ∀ i a, ρ i = some a → φ₀ i = φ a) : ∀ (f : Nat) (v v' : AV), fitV W θ ρ f v v' = true → Tells θ φ₀ φ v v' := by
  intro f
  induction f with
  | zero => intro v v' h; simp [fitV] at h
  | succ f ih =>
    intro v v' h x hx
    unfold fitV at h
    split at h
    · exact @VR.junk (valOf θ) _ _
    · obtain rfl := of_decide_eq_true h; cases hx; exact @VR.bool (valOf θ) _ _
    · simp only [Bool.and_eq_true, decide_eq_true_eq] at h; obtain ⟨rfl, rfl⟩ := h; cases hx; exact @VR.int (valOf θ) _ _ _
    · split at h
      · rename_i k l hh e v' k' l' h' e' ha
        simp only [Bool.and_eq_true, Bool.or_eq_true, decide_eq_true_eq] at h
        obtain ⟨rfl, ho, he, hb⟩ := h
        obtain ⟨n, rfl, h1, h2, h3⟩ := asSym_vr ha hx
        have e1 : e.eval (up θ Val.σ) = n := by
          rw [← E.subst_okW Val.σ hW ho, ← h1]
          rcases he with he | he
          · exact E.eqv_ok Val.σ he
          · have := E.zero_ok Val.σ he
            simp only [E.eval] at this
            omega
        have hb2 : l ≤ n ∧ n ≤ hh := by
          rcases hb with hb | hb
          · omega
          · split at hb
            · rename_i a b hr
              have := E.rng_ok (up θ Val.σ) hr
              simp only [Bool.and_eq_true, decide_eq_true_eq] at hb
              omega
            · simp at hb
        exact @VR.sym (valOf θ) _ _ _ _ _ _ e1 hb2.1 hb2.2
      · simp at h
    · obtain rfl := of_decide_eq_true h; obtain ⟨n, rfl⟩ := hx.any_inv; exact @VR.any (valOf θ) _ _ _
    · obtain rfl := of_decide_eq_true h; cases hx; exact @VR.any (valOf θ) _ _ _
    · obtain rfl := of_decide_eq_true h; obtain ⟨n, rfl, _⟩ := hx.sym_inv; exact @VR.any (valOf θ) _ _ _
    · obtain ⟨b, rfl⟩ := hx.anyb_inv; exact @VR.anyb (valOf θ) _ _
    · cases hx; exact @VR.anyb (valOf θ) _ _
    · obtain rfl := of_decide_eq_true h; cases hx; exact @VR.str (valOf θ) _ _
    · cases hx; exact @VR.nilp (valOf θ) _
    · cases hx; exact @VR.nils (valOf θ) _
    · cases hx; exact @VR.nilm (valOf θ) _
    · cases hx; exact @VR.nilf (valOf θ) _
    · cases hx; exact @VR.nili (valOf θ) _
    · simp only [Bool.and_eq_true, decide_eq_true_eq] at h
      obtain ⟨h1, rfl⟩ := h
      cases hx with | ptr h' => exact @VR.ptr (valOf θ) _ _ _ _ _ _ ((hφ _ _ h1).trans h')
    · simp only [Bool.and_eq_true, decide_eq_true_eq] at h
      obtain ⟨h1, rfl, rfl, rfl, rfl, rfl⟩ := h
      cases hx with | slice h' ho hl hc he hcs hz => exact @VR.slice (valOf θ) _ _ _ _ _ _ _ _ _ _ _ _ ((hφ _ _ h1).trans h') ho hl hc he hcs hz
    · have h1 := of_decide_eq_true h
      cases hx with | map h' => exact @VR.map (valOf θ) _ _ _ ((hφ _ _ h1).trans h')
    · simp only [Bool.and_eq_true, decide_eq_true_eq] at h
      obtain ⟨h1, o1, e1, o2, e2⟩ := h
      have z1 := E.zero_ok Val.σ e1
      have z2 := E.zero_ok Val.σ e2
      simp only [E.eval] at z1 z2
      rw [E.subst_okW Val.σ hW o1] at z1
      rw [E.subst_okW Val.σ hW o2] at z2
      rcases hx.vsl_inv with ⟨b, base, cs, o, n, c, h', hn, h0, ho, hcs, hc, rfl⟩ | ⟨hn, _, _, rfl⟩
      · exact @VR.vsl (valOf θ) _ _ _ _ _ _ _ _ _ _ ((hφ _ _ h1).trans h') (show E.eval (up θ Val.σ) _ = _ by omega) (show 0 ≤ E.eval (up θ Val.σ) _ by omega)
          (show _ ∨ _ = _ + (E.eval (up θ Val.σ) _).toNat by omega) hcs hc
      · exact @VR.vsln (valOf θ) _ _ _ _ _ _ (show E.eval (up θ Val.σ) _ = 0 by omega)
    · simp only [Bool.and_eq_true, decide_eq_true_eq] at h
      obtain ⟨rfl, h1, h2⟩ := h
      obtain ⟨a1, a2⟩ := listB_ok (R := Tells θ φ₀ φ) ih h1
      obtain ⟨b1, b2⟩ := listB_ok (R := Tells θ φ₀ φ) ih h2
      cases hx with
      | fn hf z₁ k₁ z₂ k₂ =>
        cases hf
        exact @VR.fn (valOf θ) _ _ _ _ _ _ _ (.func _) (z₁.trans a1.symm) (fun i hi => a2 i hi (k₁ i (a1 ▸ hi))) (z₂.trans b1.symm) (fun i hi => b2 i hi (k₂ i (b1 ▸ hi)))
    · simp only [Bool.and_eq_true, decide_eq_true_eq] at h
      obtain ⟨rfl, h1⟩ := h
      cases hx with | iface h' => exact @VR.iface (valOf θ) _ _ _ _ (ih _ _ h1 h')
    · simp only [Bool.and_eq_true, decide_eq_true_eq] at h
      obtain ⟨rfl, rfl, h1⟩ := h
      have h2 := vecB_ok (R := Tells θ φ₀ φ) ih h1
      cases hx with | agg hs hn h h1 => exact @VR.agg (valOf θ) _ _ _ _ _ _ hs hn (fun i hi => h2 i hi (h i hi)) h1
    · obtain ⟨a1, a2⟩ := listB_ok (R := Tells θ φ₀ φ) ih h
      cases hx with | tup hs' h' => exact @VR.tup (valOf θ) _ _ _ (hs'.trans a1.symm) (fun i hi => a2 i hi (h' i (a1 ▸ hi)))
    · simp at h
def fitO (W : Bnds) (θ : Nat → E) (ρ : Nat → Option Nat) (f : Nat) (o o' : AObj) : Bool :=
  match o, o' with
  | .cells n dep d t, .cells n' dep' d' t' => decide (n = n') && (decide (dep = dep') && vecB (fitV W θ ρ f) n dep d t d' t')
  | .map es c, .map es' c' => decide (c = c') && entB (fitV W θ ρ f) es es'
  | .raw v b, .raw v' b' => decide (v = v') && decide (b = b')
  | _, _ => false
theorem fitO_ok {W : Bnds} {θ : Nat → E} (hW : W.holds θ Val.σ) {ρ : Nat → Option Nat} {φ₀ φ : Phi} (hφ : ∀ i a, ρ i = some a → φ₀ i = φ a) {f : Nat} {o o' : AObj} (h : fitO W θ ρ f o o' = true) :
    o.alive = true ∧ o'.alive = true ∧ o.isRaw = o'.isRaw ∧ ∀ {p : Nat × Nat × Nat} {ob : Option Obj}, OR φ o' p ob → @OR (valOf θ) φ₀ o p ob := by
  unfold fitO at h
  split at h
  · simp only [Bool.and_eq_true, decide_eq_true_eq] at h
    obtain ⟨rfl, rfl, h1⟩ := h
    have h2 := vecB_ok (R := Tells θ φ₀ φ) (fitV_ok hW hφ f) h1
    refine ⟨rfl, rfl, rfl, fun {p ob} hx => ?_⟩
    obtain ⟨h1, h3, c, e, fz, h4, h5, h6, h7, h8⟩ := hx
    exact ⟨h1, h3, c, e, fz, h4, h5, h6, fun i hi => h2 i hi (h7 i hi), h8⟩
  · simp only [Bool.and_eq_true, decide_eq_true_eq] at h
    obtain ⟨rfl, h1⟩ := h
    obtain ⟨e1, e2⟩ := entB_ok (R := Tells θ φ₀ φ) (fitV_ok hW hφ f) h1
    refine ⟨rfl, rfl, rfl, fun {p ob} hx => ?_⟩
    obtain ⟨ents, h1, h2, h3⟩ := hx
    refine ⟨ents, h1, h2.trans e1.symm, fun i hi hi' => ?_⟩
    obtain ⟨k1, k2, k3⟩ := e2 i hi (e1 ▸ hi)
    have k := h3 i (e1 ▸ hi) hi'
    exact @ER.mk (valOf θ) _ _ _ (k1 k.key) (k2 k.val) (k3.trans k.born)
  · simp only [Bool.and_eq_true, decide_eq_true_eq] at h
    obtain ⟨rfl, rfl⟩ := h
    refine ⟨rfl, rfl, rfl, fun {p ob} hx => ?_⟩
    obtain ⟨h1, h2, c, e, fz, h3, h4, h5⟩ := hx
    exact ⟨h1, h2, c, e, fz, h3, h4, fun j hj => by rw [h5 j hj]; exact congrArg some (rawV_up h1 _ j).symm⟩
  · simp at h
end Go.Ab
end

section
noncomputable section
namespace Go.Ab
structure Tgt where
  K : List CI
  regs : Tr AV
  nx : Nat
  objs : List (Nat × AObj)
  tb : List Fact
  meas : E
def Tgt.heap (t : Tgt) : H := ⟨t.nx, layL t.objs .e, [], t.tb⟩
def Tgt.state (t : Tgt) : S := { regs := t.regs, df := [], h := t.heap, u := .normal }
structure Fit where
  j : Nat
  l : List (Nat × Nat)
  m : List (Nat × E)
  W : Bnds
inductive Cert where
  | go (n : Nat) (c : Cert)
  | split (f : Fact) (a b : Cert)
  | jump (x : Fit)
  | back (x : Fit)
  | absurd (i : Nat)
  | never (a : E)
  | fin
def emptyL {α : Type} : List α → Bool
  | [] => true
  | _ => false
def factW (tb : List Fact) (W : Bnds) (θ : Nat → E) (f : Fact) : Bool :=
  f.a.okW W && (f.b.okW W && (let a := f.a.subst θ; let b := f.b.subst θ
  match a.rng, b.rng with
  | some (l₁, h₁), some (l₂, h₂) => match (bif f.eq then symEq tb l₁ h₁ a l₂ h₂ b else symLt tb l₁ h₁ a l₂ h₂ b) with
    | some v => v == f.v
    | none => false
  | _, _ => false))
def fitS (G : Nat) (fi : FI) (t : Tgt) (x : Fit) (s : S) : Bool :=
  let θ := thOf x.m
  let ρ := lookG G x.l
  emptyL s.df && (s.u.isNormal && (Nat.ble G t.nx && (Nat.ble t.nx (2 ^ HD) && (Nat.ble G s.h.nx && ((t.objs.all fun y => Nat.ble G y.1 && Nat.blt y.1 t.nx) &&
  ((x.l.all fun y => Nat.ble G y.1 && (Nat.blt y.1 t.nx && (Nat.ble G y.2 && Nat.blt y.2 s.h.nx))) && (apartB x.l &&
  ((x.W.all fun y => boundB s.h.tb (θ y.1) y.2.1 y.2.2) &&
  ((t.objs.all fun y => match ρ y.1 with
    | some a => (match s.h.get a with | some o => fitO x.W θ ρ 8 y.2 o | none => false)
    | none => false) && ((t.tb.all (factW s.h.tb x.W θ)) &&
    (List.range fi.sz).all fun i => match t.regs.get fi.rd i with
      | none => true
      | some v => fitV x.W θ ρ 8 v ((s.regs.get fi.rd i).getD .junk)))))))))))
def pickT : List Tgt → Nat → Option Tgt
  | [], _ => none
  | t :: _, 0 => some t
  | _ :: l, i + 1 => pickT l i
def dropI : List Fact → Nat → List Fact
  | [], _ => []
  | _ :: l, 0 => l
  | f :: l, i + 1 => f :: dropI l i
def pickF : List Fact → Nat → Option Fact
  | [], _ => none
  | f :: _, 0 => some f
  | _ :: l, i + 1 => pickF l i
section
variable (P : Program) (cl : CallFn) (rn : RoundFn) (dc : DeferFn)
def finC (fi : FI) (fn : Func) (body : Code) (K : List CI) (s : S) : Bool :=
  (match K with
  | [] => true
  | .code p :: _ => (match codeAt p body with | some .ret => true | _ => false)
  | _ => false) && (match leaveA P dc fi fn s.df .returning s with
  | some (.ret (.bool true), _) => true
  | _ => false)
def S.with (s : S) (f : Fact) : S := { s with h := ⟨s.h.nx, s.h.t, s.h.ty, f :: s.h.tb⟩ }
def chk (G : Nat) (fi : FI) (fn : Func) (body : Code) (T B : List Tgt) (cur : E) : Cert → List CI → S → Bool
  | .go n c, K, s => match iterC P cl rn fi body n K s with
    | some (K', s') => chk G fi fn body T B cur c K' s'
    | none => false
  | .split f a b, K, s => chk G fi fn body T B cur a K (s.with ⟨f.eq, f.a, f.b, true⟩) && chk G fi fn body T B cur b K (s.with ⟨f.eq, f.a, f.b, false⟩)
  | .jump x, K, s => match pickT T x.j with
    | some t => sameK K t.K && fitS G fi t x s
    | none => false
  | .back x, K, s => match pickT B x.j with
    | some t => sameK K t.K && (fitS G fi t x s && (t.meas.okW x.W && (let a := t.meas.subst (thOf x.m); match a.rng, cur.rng with
      | some (l₁, h₁), some (l₂, h₂) => (match symLt s.h.tb l₁ h₁ a l₂ h₂ cur with | some true => true | _ => false)
      | _, _ => false)))
    | none => false
  | .absurd i, _, s => match pickF s.h.tb i with
    | some f => match f.a.rng, f.b.rng with
      | some (l₁, h₁), some (l₂, h₂) => match (bif f.eq then symEq (dropI s.h.tb i) l₁ h₁ f.a l₂ h₂ f.b else symLt (dropI s.h.tb i) l₁ h₁ f.a l₂ h₂ f.b) with
        | some v => v != f.v
        | none => false
      | _, _ => false
    | none => false
  | .never a, _, s => Go.Ab.never a s.h.tb
  | .fin, K, s => finC P dc fi fn body K s
end
structure Bel (w0 : World) (φ : Phi) (h : H) (w : World) : Prop where
  os : w.os = w0.os
  tape : w.tape = w0.tape
  out : w.output = w0.output
  size : w0.heap.size ≤ w.heap.size
  keep : ∀ b, b < w0.heap.size → w.heap[b]? = w0.heap[b]? ∧ ¬ Owned φ h b
theorem Bel.post {w0 : World} {φ φ' : Phi} {h h' : H} {w w' : World} (hb : Bel w0 φ h w) (hp : Post φ h w φ' h' w') : Bel w0 φ' h' w' :=
  ⟨hp.os.trans hb.os, hp.tape.trans hb.tape, hp.out.trans hb.out, Nat.le_trans hb.size hp.size, fun b hlt => by
    obtain ⟨h1, h2⟩ := hb.keep b hlt
    obtain ⟨h3, h4⟩ := hp.keep b (Nat.lt_of_lt_of_le hlt hb.size) h2
    exact ⟨h3.trans h1, h4⟩⟩
open Go.RowKit in
def Goal (P : Program) (f : FuncId) (w0 : World) (cs : List Frame) (m : Machine) : Prop :=
  ∃ w' fr, Below w0.heap.size w0 w' ∧ Steps P m (lone fr cs w') ∧ fr.fn = f ∧ fr.leaving P w' (.returned (.bool true))
theorem Goal.pre {P : Program} {f : FuncId} {w0 : World} {cs : List Frame} {m m' : Machine} (hs : Steps P m m') (h : Goal P f w0 cs m') : Goal P f w0 cs m := by
  obtain ⟨w', fr, h1, h2, h3, h4⟩ := h
  exact ⟨w', fr, h1, hs.trans h2, h3, h4⟩
theorem pickT_mem : ∀ {l : List Tgt} {i : Nat} {t : Tgt}, pickT l i = some t → t ∈ l
  | [], _, _, h => by simp [pickT] at h
  | t :: _, 0, _, h => by simp only [pickT, Option.some.injEq] at h; subst h; exact List.mem_cons_self
  | _ :: l, i + 1, _, h => List.mem_cons_of_mem _ (pickT_mem (by simpa [pickT] using h))
theorem pickF_mem : ∀ {l : List Fact} {i : Nat} {f : Fact}, pickF l i = some f → f ∈ l
  | [], _, _, h => by simp [pickF] at h
  | t :: _, 0, _, h => by simp only [pickF, Option.some.injEq] at h; subst h; exact List.mem_cons_self
  | _ :: l, i + 1, _, h => List.mem_cons_of_mem _ (pickF_mem (by simpa [pickF] using h))
theorem dropI_sub : ∀ {l : List Fact} {i : Nat} {f : Fact}, f ∈ dropI l i → f ∈ l
  | [], _, _, h => by simp [dropI] at h
  | _ :: _, 0, _, h => List.mem_cons_of_mem _ (by simpa [dropI] using h)
  | _ :: l, i + 1, _, h => by
    simp only [dropI, List.mem_cons] at h
    rcases h with rfl | h
    · exact List.mem_cons_self
    · exact List.mem_cons_of_mem _ (dropI_sub h)
section
variable [Val]
theorem factW_ok {tb : List Fact} (hT : ∀ f ∈ tb, f.holds Val.σ) {W : Bnds} {θ : Nat → E} (hW : W.holds θ Val.σ) {f : Fact} (h : factW tb W θ f = true) : f.holds (valOf θ).σ := by
  unfold factW at h
  simp only [Bool.and_eq_true] at h
  obtain ⟨h1, h2, h3⟩ := h
  have e1 := E.subst_okW Val.σ hW h1
  have e2 := E.subst_okW Val.σ hW h2
  split at h3
  · rename_i l₁ h₁ l₂ h₂ r1 r2
    have b1 := E.rng_ok Val.σ r1
    have b2 := E.rng_ok Val.σ r2
    unfold Fact.holds
    cases he : f.eq with
    | true =>
      rw [he] at h3
      simp only [cond_true] at h3 ⊢
      split at h3
      · rename_i v hv
        have := symEq_ok Val.σ hT hv rfl b1.1 b1.2 rfl b2.1 b2.2
        rw [e1, e2] at this
        rw [← beq_iff_eq.1 h3]
        exact this
      · simp at h3
    | false =>
      rw [he] at h3
      simp only [cond_false] at h3 ⊢
      split at h3
      · rename_i v hv
        have := symLt_ok Val.σ hT hv rfl b1.1 b1.2 rfl b2.1 b2.2
        rw [e1, e2] at this
        rw [← beq_iff_eq.1 h3]
        exact this
      · simp at h3
  · simp at h3
omit [Val] in
theorem Tgt.heap_get {t : Tgt} (hk : ∀ y ∈ t.objs, y.1 < t.nx) (hn : t.nx ≤ 2 ^ HD) {i : Nat} {o : AObj} (hi : i < 2 ^ HD) (h : t.heap.get i = some o) : (i, o) ∈ t.objs := by
  rcases layL_get (l := t.objs) (t := .e) hi (fun x hx => Nat.lt_of_lt_of_le (hk x hx) hn) h with h | h
  · exact h
  · rw [Tr.get_e] at h; simp at h
theorem fitS_ok {G : Nat} {fi : FI} {t : Tgt} {x : Fit} {s : S} (h : fitS G fi t x s = true) {b : Frame} {cs : List Frame} {φ : Phi} {tmps : Array Value} {df : List Deferred} {w w0 : World}
    (hs : SR G φ fi s b tmps df cs cs w) (hb : Bel w0 φ s.h w) : df = [] ∧ x.W.holds (thOf x.m) Val.σ ∧ Bel w0 (phiOf (lookG G x.l) φ) t.heap w ∧ @SR (valOf (thOf x.m)) G (phiOf (lookG G x.l) φ) fi t.state b tmps [] cs cs w := by
  unfold fitS at h
  dsimp only at h
  generalize hθ : thOf x.m = θ at h ⊢
  generalize hρ : lookG G x.l = ρ at h ⊢
  simp only [Bool.and_eq_true, List.all_eq_true] at h
  obtain ⟨f1, f2, f3, f4, f5, f6, f7, f8, f9, f10, f11, f12⟩ := h
  have hr := hs.hr
  have f3 := ble_le f3
  have f4 := ble_le f4
  have f5 := ble_le f5
  have f6 : ∀ y ∈ t.objs, G ≤ y.1 ∧ y.1 < t.nx := fun y hy => ⟨ble_le (f6 y hy).1, blt_lt (f6 y hy).2⟩
  have f7 : ∀ i a, (i, a) ∈ x.l → G ≤ i ∧ i < t.nx ∧ G ≤ a ∧ a < s.h.nx := fun i a hi => by
    obtain ⟨k1, k2, k3, k4⟩ := f7 _ hi
    exact ⟨ble_le k1, blt_lt k2, ble_le k3, blt_lt k4⟩
  have hdf : s.df = [] := by
    cases hd : s.df with
    | nil => rfl
    | cons a l => rw [hd] at f1; simp [emptyL] at f1
  have hdf' : df = [] := by
    have := hs.dr
    rw [hdf] at this
    cases this
    rfl
  have hW : x.W.holds θ Val.σ := fun y hy => boundB_ok hr.fct (f9 y hy)
  have hmem : ∀ {i a}, ρ i = some a → (i < G ∧ i = a) ∨ (¬ i < G ∧ (i, a) ∈ x.l) := by
    intro i a hi
    rw [← hρ] at hi
    rcases lookG_mem hi with ⟨h1, h2⟩ | ⟨h1, h2⟩
    · exact .inl ⟨h1, h2.symm⟩
    · exact .inr ⟨by omega, h2⟩
  have hglob : ∀ g, g < G → ρ g = some g := by
    intro g hg
    rw [← hρ]
    unfold lookG
    have : Nat.blt g G = true := by unfold Nat.blt; exact Nat.ble_eq_true_of_le hg
    rw [this]; rfl
  have hinj : ∀ i j a, ρ i = some a → ρ j = some a → i = j := by
    intro i j a hi hj
    rcases hmem hi with ⟨hi', rfl⟩ | ⟨_, mi⟩
    · rcases hmem hj with ⟨_, rfl⟩ | ⟨_, mj⟩
      · rfl
      · have := (f7 _ _ mj).2.2.1; omega
    · rcases hmem hj with ⟨hj', rfl⟩ | ⟨_, mj⟩
      · have := (f7 _ _ mi).2.2.1; omega
      · exact apartB_ok f8 i j a mi mj
  have hlt : ∀ i a, ρ i = some a → i < t.nx ∧ a < s.h.nx := by
    intro i a hi
    rcases hmem hi with ⟨hi', rfl⟩ | ⟨_, mi⟩
    · exact ⟨Nat.lt_of_lt_of_le hi' f3, Nat.lt_of_lt_of_le hi' f5⟩
    · exact ⟨(f7 _ _ mi).2.1, (f7 _ _ mi).2.2.2⟩
  have hφ : ∀ i a, ρ i = some a → phiOf ρ φ i = φ a := fun i a hi => phiOf_some hi
  have hsome : ∀ i p, phiOf ρ φ i = some p → ∃ a, ρ i = some a ∧ φ a = some p := by
    intro i p hp
    cases e : ρ i with
    | none => simp [phiOf, e] at hp
    | some a => exact ⟨a, rfl, by simpa [phiOf, e] using hp⟩
  have hobj : ∀ i o₀, i < 2 ^ HD → t.heap.get i = some o₀ → ∃ a o, ρ i = some a ∧ s.h.get a = some o ∧ o₀.alive = true ∧ o.alive = true ∧ o₀.isRaw = o.isRaw ∧
      ∀ {p : Nat × Nat × Nat} {ob : Option Obj}, OR φ o p ob → @OR (valOf θ) (phiOf ρ φ) o₀ p ob := by
    intro i o₀ hi hg
    have hm := Tgt.heap_get (fun y hy => (f6 y hy).2) f4 hi hg
    have := f10 _ hm
    split at this
    · rename_i a ha
      split at this
      · rename_i o ho
        exact ⟨a, o, ha, ho, fitO_ok hW hφ this⟩
      · simp at this
    · simp at this
  have hown : ∀ c, Owned (phiOf ρ φ) t.heap c → Owned φ s.h c := by
    rintro c ⟨i, o, p, hg, hraw, hp, e⟩
    obtain ⟨a, ea, hp'⟩ := hsome i p hp
    obtain ⟨a', oa, ea', ga, _, _, hrw, _⟩ := hobj i o (Nat.lt_of_lt_of_le (hlt i a ea).1 f4) hg
    obtain rfl : a = a' := Option.some.inj (ea.symm.trans ea')
    exact ⟨a, oa, p, ga, hrw ▸ hraw, hp', e⟩
  refine ⟨hdf', hW, ⟨hb.os, hb.tape, hb.out, hb.size, fun c hc => ⟨(hb.keep c hc).1, fun ho => (hb.keep c hc).2 (hown c ho)⟩⟩, ?_⟩
  refine @SR.mk (valOf θ) _ _ _ _ _ _ _ _ _ _ ?_ ?_ ?_ ?_ hs.fG
  · refine @HR.mk (valOf θ) _ _ _ _ (@HR0.mk (valOf θ) _ _ _ _ (fun i p hp => ?_) (fun i hi hge => ?_) f4 (fun g hg => ?_) (fun i j oi oj p q hi hj _ _ hp hq hpq => ?_) (fun i o p hg hp => ?_)) (fun g off k n ht => ?_) (fun y hy => absurd hy (by simp [Tgt.state, Tgt.heap]))
      (fun y hy => absurd hy (by simp [Tgt.state, Tgt.heap])) hr.rog (fun f hf => factW_ok hr.fct hW (f11 f hf))
    · obtain ⟨a, e, hp⟩ := hsome i p hp
      exact ⟨(hlt i a e).1, (hr.dom a p hp).2⟩
    · cases hg : t.heap.get i with
      | none => exact hg
      | some o =>
        have := (f6 _ (Tgt.heap_get (fun y hy => (f6 y hy).2) f4 hi hg)).2
        exact absurd hge (Nat.not_le.mpr this)
    · obtain ⟨c, hc⟩ := hr.glob g hg
      exact ⟨c, by rw [hφ g g (hglob g hg)]; exact hc⟩
    · obtain ⟨a, ea, hp⟩ := hsome i p hp
      obtain ⟨c, ec, hq⟩ := hsome j q hq
      obtain ⟨a', oa, ea', ga, _, la, ra, _⟩ := hobj i oi (Nat.lt_of_lt_of_le (hlt i a ea).1 f4) hi
      obtain ⟨c', oc, ec', gc, _, lc, rc, _⟩ := hobj j oj (Nat.lt_of_lt_of_le (hlt j c ec).1 f4) hj
      obtain rfl : a = a' := Option.some.inj (ea.symm.trans ea')
      obtain rfl : c = c' := Option.some.inj (ec.symm.trans ec')
      rcases hr.inj a c oa oc p q ga gc la lc hp hq hpq with rfl | ⟨x1, x2⟩
      · exact .inl (hinj i j a ea ec)
      · exact .inr ⟨ra.trans x1, rc.trans x2⟩
    · obtain ⟨a, ea, hp⟩ := hsome i p hp
      obtain ⟨a', oa, ea', ga, _, _, _, hx⟩ := hobj i o (Nat.lt_of_lt_of_le (hlt i a ea).1 f4) hg
      obtain rfl : a = a' := Option.some.inj (ea.symm.trans ea')
      exact hx (hr.obj a oa p ga hp)
    · obtain ⟨⟨c, h1⟩, h2, h3⟩ := hr.ro g off k n ht
      exact ⟨⟨c, by rw [hφ g g (hglob g (hr.rog g off _ ht))]; exact h1⟩, fun ho => h2 (hown g ho), h3⟩
  · refine @RR.mk (valOf θ) _ _ _ _ hs.rr.size hs.rr.deep (fun i hi => ?_)
    have := f12 i (by rw [List.mem_range]; exact hi)
    have hv := hs.rr.get i hi
    cases hg : t.regs.get fi.rd i with
    | none =>
      have : (t.state.regs.get fi.rd i) = none := hg
      rw [this]
      exact @VR.junk (valOf θ) _ _
    | some v =>
      rw [hg] at this
      have e : (t.state.regs.get fi.rd i) = some v := hg
      rw [e]
      exact fitV_ok hW hφ 8 _ _ this hv
  · exact @DFs.nil (valOf θ) _
  · have hu := hs.ur
    rw [AMode.isNormal_ok f2] at hu
    cases hu with
    | normal hk hr => exact @URel.normal (valOf θ) _ _ _ hk hr
    | deferred _ _ _ hm => cases hm
end
end Go.Ab
end

section
noncomputable section
namespace Go.Ab
def OkT (I : Val → Prop) (P : Program) (fi : FI) (f : FuncId) (body : Code) (w0 : World) (b : Frame) (cs : List Frame) (t : Tgt) : Prop :=
  ∀ (V : Val) (φ : Phi) (tmps : Array Value) (w : World), I V → @SR V P.globals.size φ fi t.state b tmps [] cs cs w → Bel w0 φ t.heap w → Goal P f w0 cs (lone (mkF b tmps [] (t.K.map (toI body))) cs w)
def OkB (I : Val → Prop) (P : Program) (fi : FI) (f : FuncId) (body : Code) (w0 : World) (b : Frame) (cs : List Frame) (M : Int) (t : Tgt) : Prop :=
  ∀ (V : Val) (φ : Phi) (tmps : Array Value) (w : World), I V → @SR V P.globals.size φ fi t.state b tmps [] cs cs w → Bel w0 φ t.heap w → t.meas.eval V.σ < M → Goal P f w0 cs (lone (mkF b tmps [] (t.K.map (toI body))) cs w)
theorem HR.with [Val] {G : Nat} {φ : Phi} {h : H} {w : World} (hr : HR G φ h w) {f : Fact} (hf : f.holds Val.σ) : HR G φ ⟨h.nx, h.t, h.ty, f :: h.tb⟩ w :=
  ⟨⟨hr.dom, hr.lt, hr.nx, hr.glob, hr.inj, hr.obj⟩, hr.ro, hr.typ, hr.tlt, hr.rog, fun g hg => by
    rcases List.mem_cons.1 hg with rfl | hg
    · exact hf
    · exact hr.fct g hg⟩
theorem SR.with [Val] {G : Nat} {φ : Phi} {fi : FI} {s : S} {b : Frame} {tmps : Array Value} {df : List Deferred} {cs0 cs : List Frame} {w : World} (hs : SR G φ fi s b tmps df cs0 cs w) {f : Fact} (hf : f.holds Val.σ) :
    SR G φ fi (s.with f) b tmps df cs0 cs w := ⟨hs.hr.with hf, hs.rr, hs.dr, hs.ur, hs.fG⟩
section
variable {P : Program} {cl : CallFn} {rn : RoundFn} {dc : DeferFn}
theorem finC_ok [Val] (hdc : DeferSim P P.globals.size dc) {fi : FI} {f : FuncId} {fn : Func} (hf : P.funcs[f]? = some fn) {body : Code} {K : List CI} {s : S} (h : finC P dc fi fn body K s = true)
    {b : Frame} (hb : b = { (default : Frame) with fn := f, kind := .normal }) {cs : List Frame} {φ : Phi} {tmps : Array Value} {df : List Deferred} {w w0 : World} (hs : SR P.globals.size φ fi s b tmps df cs cs w) (hbel : Bel w0 φ s.h w) :
    Goal P f w0 cs (lone (mkF b tmps df (K.map (toI body))) cs w) := by
  unfold finC at h
  simp only [Bool.and_eq_true] at h
  obtain ⟨h1, h2⟩ := h
  have hret : Steps P (lone (mkF b tmps df (K.map (toI body))) cs w) (lone { mkF b tmps df (K.map (toI body)) with mode := .returning } cs w) := by
    split at h1
    · exact .one (stp_end (by subst hb; rfl))
    · rename_i p K
      split at h1
      · rename_i e
        have : toC body p = .ret := by unfold toC; rw [e]; rfl
        simp only [List.map_cons, toI, this]
        exact .one (stp_ret (by subst hb; rfl))
      · simp at h1
    · simp at h1
  split at h2
  · rename_i h' hl
    have := leave_sim (P := P) (todo := K.map (toI body)) (cs := cs) (b := b) hdc hs.fG s.df .returning s _ h' hl φ df .returning w hs.hr hs.rr hs.dr .returning
    obtain ⟨φ', v', w', hv, hr', hp', hst, hres⟩ := this
    have hv := hv.bool_inv
    subst hv
    have hbel' := hbel.post hp'
    refine ⟨w', _, ⟨hbel'.os, hbel'.tape, hbel'.out, hbel'.size, fun k hk => (hbel'.keep k hk).1⟩, hret.trans hst, by subst hb; rfl, ?_⟩
    subst hb
    exact ⟨rfl, rfl, rfl, fn, hf, hres⟩
  · simp at h2
structure Sims (I : Val → Prop) (P : Program) (cl : CallFn) (rn : RoundFn) (dc : DeferFn) : Prop where
  keeps : Keeps I
  scl : ∀ V : Val, I V → @CallSim V P P.globals.size cl
  srn : ∀ V : Val, I V → @RoundSim V P P.globals.size rn
  sdr : ∀ V : Val, I V → @DrawSim V P P.globals.size cl rn
  sdc : ∀ V : Val, I V → @DeferSim V P P.globals.size dc
theorem chk_ok {I : Val → Prop} (sm : Sims I P cl rn dc) {fi : FI} {f : FuncId} {fn : Func} (hf : P.funcs[f]? = some fn) {body : Code} {b : Frame} (hb : b = { (default : Frame) with fn := f, kind := .normal }) {w0 : World} {cs : List Frame} {T B : List Tgt} {cur : E}
    (hT : ∀ t ∈ T, OkT I P fi f body w0 b cs t) : ∀ (c : Cert) (K : List CI) (s : S), chk P cl rn dc P.globals.size fi fn body T B cur c K s = true → s.u = .normal →
    ∀ (V : Val) (φ : Phi) (tmps : Array Value) (df : List Deferred) (w : World), I V → @SR V P.globals.size φ fi s b tmps df cs cs w → Bel w0 φ s.h w → (∀ t ∈ B, OkB I P fi f body w0 b cs (cur.eval V.σ) t) →
    Goal P f w0 cs (lone (mkF b tmps df (K.map (toI body))) cs w) := by
  have hro : b.roundOf = none := by subst hb; rfl
  intro c
  induction c with
  | go n c ih =>
    intro K s h hn V φ tmps df w hV hs hbel hB
    simp only [chk] at h
    split at h
    · rename_i K' s' hit
      obtain ⟨φ', t', d', w', a1, a2, a3, a4⟩ := @iterC_ok V _ _ _ _ (sm.scl V hV) (sm.srn V hV) (sm.sdr V hV) _ _ _ hro _ n _ _ _ _ hit hn _ _ _ _ hs
      exact (ih K' s' h a2 V φ' t' d' w' hV a1 (hbel.post a3) hB).pre a4
    · simp at h
  | split g x y ihx ihy =>
    intro K s h hn V φ tmps df w hV hs hbel hB
    simp only [chk, Bool.and_eq_true] at h
    rcases Fact.em V.σ g.eq g.a g.b with hg | hg
    · exact ihx K _ h.1 hn V φ tmps df w hV (@SR.with V _ _ _ _ _ _ _ _ _ _ hs _ hg) ⟨hbel.os, hbel.tape, hbel.out, hbel.size, hbel.keep⟩ hB
    · exact ihy K _ h.2 hn V φ tmps df w hV (@SR.with V _ _ _ _ _ _ _ _ _ _ hs _ hg) ⟨hbel.os, hbel.tape, hbel.out, hbel.size, hbel.keep⟩ hB
  | jump x =>
    intro K s h hn V φ tmps df w hV hs hbel hB
    simp only [chk] at h
    split at h
    · rename_i t ht
      simp only [Bool.and_eq_true] at h
      obtain ⟨h1, h2⟩ := h
      obtain rfl := sameK_ok h1
      obtain ⟨rfl, _, k1, k2⟩ := @fitS_ok V _ _ _ _ _ h2 _ _ _ _ _ _ _ hs hbel
      exact hT t (pickT_mem ht) _ _ _ _ (sm.keeps V _ hV) k2 k1
    · simp at h
  | back x =>
    intro K s h hn V φ tmps df w hV hs hbel hB
    simp only [chk] at h
    split at h
    · rename_i t ht
      simp only [Bool.and_eq_true] at h
      obtain ⟨h1, h2, h3, h4⟩ := h
      obtain rfl := sameK_ok h1
      obtain ⟨rfl, hW, k1, k2⟩ := @fitS_ok V _ _ _ _ _ h2 _ _ _ _ _ _ _ hs hbel
      refine hB t (pickT_mem ht) _ _ _ _ (sm.keeps V _ hV) k2 k1 ?_
      have e1 := E.subst_okW V.σ hW h3
      split at h4
      · rename_i l₁ h₁ l₂ h₂ r1 r2
        have b1 := E.rng_ok V.σ r1
        have b2 := E.rng_ok V.σ r2
        split at h4
        · rename_i hl
          have := of_decide_eq_true (symLt_ok V.σ hs.hr.fct hl rfl b1.1 b1.2 rfl b2.1 b2.2)
          rw [e1] at this
          exact this
        · simp at h4
      · simp at h4
    · simp at h
  | absurd i =>
    intro K s h hn V φ tmps df w hV hs hbel hB
    simp only [chk] at h
    split at h
    · rename_i g hg
      have hh := hs.hr.fct g (pickF_mem hg)
      have hT' : ∀ g ∈ dropI s.h.tb i, g.holds V.σ := fun g hg => hs.hr.fct g (dropI_sub hg)
      exfalso
      split at h
      · rename_i l₁ h₁ l₂ h₂ r1 r2
        have b1 := E.rng_ok V.σ r1
        have b2 := E.rng_ok V.σ r2
        unfold Fact.holds at hh
        cases he : g.eq with
        | true =>
          rw [he] at h hh
          simp only [cond_true] at h hh
          split at h
          · rename_i v hv
            have := symEq_ok V.σ hT' hv rfl b1.1 b1.2 rfl b2.1 b2.2
            rw [hh] at this
            rw [this] at h
            simp at h
          · simp at h
        | false =>
          rw [he] at h hh
          simp only [cond_false] at h hh
          split at h
          · rename_i v hv
            have := symLt_ok V.σ hT' hv rfl b1.1 b1.2 rfl b2.1 b2.2
            rw [hh] at this
            rw [this] at h
            simp at h
          · simp at h
      · simp at h
    · simp at h
  | never a =>
    intro K s h hn V φ tmps df w hV hs hbel hB
    simp only [chk] at h
    exact (never_ok h fun g hg => hs.hr.fct g hg).elim
  | fin =>
    intro K s h hn V φ tmps df w hV hs hbel hB
    simp only [chk] at h
    exact @finC_ok _ _ V (sm.sdc V hV) _ _ _ hf _ _ _ h _ hb _ _ _ _ _ _ hs hbel
theorem loop_ok {I : Val → Prop} (sm : Sims I P cl rn dc) {fi : FI} {f : FuncId} {fn : Func} (hf : P.funcs[f]? = some fn) {body : Code} {b : Frame} (hb : b = { (default : Frame) with fn := f, kind := .normal }) {w0 : World} {cs : List Frame} {T B : List Tgt}
    (hT : ∀ t ∈ T, OkT I P fi f body w0 b cs t) (hB : ∀ t ∈ B, (match t.meas.rng with | some (l, _) => decide (0 ≤ l) | none => false) = true ∧ ∃ c, chk P cl rn dc P.globals.size fi fn body T B t.meas c t.K t.state = true) :
    ∀ t ∈ B, OkT I P fi f body w0 b cs t := by
  have key : ∀ n : Nat, ∀ t ∈ B, ∀ (V : Val) (φ : Phi) (tmps : Array Value) (w : World), I V → @SR V P.globals.size φ fi t.state b tmps [] cs cs w → Bel w0 φ t.heap w → (t.meas.eval V.σ).toNat < n →
      Goal P f w0 cs (lone (mkF b tmps [] (t.K.map (toI body))) cs w) := by
    intro n
    induction n with
    | zero => intro t _ V φ tmps w _ _ _ h; omega
    | succ n ih =>
      intro t ht V φ tmps w hV hs hbel hlt
      obtain ⟨hm, c, hc⟩ := hB t ht
      refine chk_ok sm hf hb hT c t.K t.state hc rfl V φ tmps [] w hV hs hbel fun t' ht' V' φ' tmps' w' hV' hs' hbel' hl => ?_
      have h1 : 0 ≤ t'.meas.eval V'.σ := by
        have := (hB t' ht').1
        split at this
        · rename_i l h hr
          have := of_decide_eq_true this
          have := (E.rng_ok V'.σ hr).1
          omega
        · simp at this
      exact ih t' ht' V' φ' tmps' w' hV' hs' hbel' (by omega)
  intro t ht V φ tmps w hV hs hbel
  exact key _ t ht V φ tmps w hV hs hbel (Nat.lt_succ_self _)
end
def fiOf (P : Program) (fn : Func) (na : Nat) : FI := ⟨depFor (Nat.max fn.ntmps na), Nat.max fn.ntmps na, P.globals.size⟩
def chkAt (P : Program) (kn : Known) (fuel n : Nat) (f na : Nat) (T B : List Tgt) (cur : E) (c : Cert) (K : List CI) (s : S) : Bool :=
  match P.funcs[f]? with
  | some fn => match fn.body with
    | some body => chk P (fns P kn fuel n).cl (fns P kn fuel n).rn (fns P kn fuel n).dc P.globals.size (fiOf P fn na) fn body T B cur c K s
    | none => false
  | none => false
def enterS (P : Program) (f : Nat) (args : List AV) (h : H) : S :=
  match P.funcs[f]? with
  | some fn => { regs := argRegs (fiOf P fn args.length) 0 args .e, df := [], h, u := .normal }
  | none => { regs := .e, df := [], h, u := .normal }
def chkL (P : Program) (kn : Known) (fuel n : Nat) (f na : Nat) (T B : List Tgt) (c : Cert) (t : Tgt) : Bool :=
  (match t.meas.rng with | some (l, _) => decide (0 ≤ l) | none => false) && chkAt P kn fuel n f na T B t.meas c t.K t.state
theorem sims {I : Val → Prop} (hI : Keeps I) {P : Program} {kn : Known} (hkn : ∀ V : Val, I V → @KnownSim V P kn) (fuel n : Nat) : Sims I P (fns P kn fuel n).cl (fns P kn fuel n).rn (fns P kn fuel n).dc :=
  ⟨hI, fun V h => (@all_sim V P kn (hkn V h) fuel n).1, fun V h => (@all_sim V P kn (hkn V h) fuel n).2.1, fun V h => @draw_sim V _ _ _ _ (@all_sim V P kn (hkn V h) fuel n).1 (@all_sim V P kn (hkn V h) fuel n).2.1, fun V h => (@all_sim V P kn (hkn V h) fuel n).2.2⟩
def Well (I : Val → Prop) (P : Program) (f na : Nat) (t : Tgt) : Prop :=
  ∀ fn body, P.funcs[f]? = some fn → fn.body = some body → ∀ w0 cs, OkT I P (fiOf P fn na) f body w0 { (default : Frame) with fn := f, kind := .normal } cs t
theorem well_of {I : Val → Prop} (hI : Keeps I) {P : Program} {kn : Known} (hkn : ∀ V : Val, I V → @KnownSim V P kn) {fuel n f na : Nat} {T B : List Tgt} (hT : ∀ t ∈ T, Well I P f na t) (hB : ∀ t ∈ B, ∃ c, chkL P kn fuel n f na T B c t = true) : ∀ t ∈ B, Well I P f na t := by
  intro t ht fn body hf hbody w0 cs
  refine loop_ok (sims hI hkn fuel n) hf rfl (fun t ht => hT t ht fn body hf hbody w0 cs) (fun t ht => ?_) t ht
  obtain ⟨c, hc⟩ := hB t ht
  unfold chkL chkAt at hc
  rw [hf] at hc
  dsimp only at hc
  rw [hbody] at hc
  simp only [Bool.and_eq_true] at hc
  exact ⟨hc.1, c, hc.2⟩
open Go.RowKit in
theorem calls_of_chk {I : Val → Prop} (hI : Keeps I) {P : Program} {kn : Known} (hkn : ∀ V : Val, I V → @KnownSim V P kn) {fuel n f : Nat} {T : List Tgt} {args : List AV} {h : H} (hT : ∀ t ∈ T, Well I P f args.length t) {c : Cert}
    (hc : chkAt P kn fuel n f args.length T [] (.const 0) c [.code []] (enterS P f args h) = true) [V : Val] (hV : I V) {φ : Phi} {w : World} {args' : Array Value} (hr : HR P.globals.size φ h w) (hb : Bel w φ h w) (ha : LR φ args args') :
    Calls P f args' w fun e w' => e = .returned (.bool true) ∧ Below w.heap.size w w' := by
  unfold chkAt at hc
  split at hc
  · rename_i fn hf
    split at hc
    · rename_i body hbody
      intro cs
      have hs : SR P.globals.size φ (fiOf P fn args.length) (enterS P f args h) { (default : Frame) with fn := f, kind := .normal } (args' ++ Array.replicate (fn.ntmps - args'.size) undef) [] cs cs w := by
        unfold enterS
        rw [hf]
        exact ⟨hr, argRegs_ok ha fn.ntmps P.globals.size, .nil, .normal rfl rfl, rfl⟩
      have henter : Frame.enter P f args' .normal = mkF { (default : Frame) with fn := f, kind := .normal } (args' ++ Array.replicate (fn.ntmps - args'.size) undef) [] ([CI.code []].map (toI body)) := by
        simp [Frame.enter, mkF, hf, hbody, toI, toC, codeAt]; rfl
      have hu : (enterS P f args h).u = .normal := by unfold enterS; rw [hf]
      have hh : (enterS P f args h).h = h := by unfold enterS; rw [hf]
      have := chk_ok (sims hI hkn fuel n) hf rfl (w0 := w) (cs := cs) (fun t ht => hT t ht fn body hf hbody w cs) c [.code []] (enterS P f args h) hc hu V φ _ [] w hV hs (by rw [hh]; exact hb) (fun t ht => absurd ht (by simp))
      obtain ⟨w', fr, h1, h2, h3, h4⟩ := this
      rw [← henter] at h2
      exact ⟨.returned (.bool true), w', fr, ⟨rfl, h1⟩, h2, h3, h4⟩
    · simp at hc
  · simp at hc
end Go.Ab
end

section
noncomputable section
namespace Go.Ab
def hIn (G : Nat) (isB : Bool) (tb : List Fact) : H := ⟨G + 1, layL [(G, .raw VB isB)] .e, [], tb⟩
theorem cell_inv {w : World} {b o : Nat} {v : Value} (h : w.cell? ⟨b, o, none⟩ = some v) : ∃ c e fz, w.heap[b]? = some (.cells c e fz) ∧ c[o]? = some v := by
  unfold World.cell? at h
  cases hb : w.heap[b]? with
  | none => simp [hb] at h
  | some x =>
    cases x with
    | cells c e fz => exact ⟨c, e, fz, rfl, by simpa [hb] using h⟩
    | _ => simp [hb] at h
def Holds (w : World) (ao : Option Addr) (n : Nat) (R : Nat → Value → Prop) : Prop :=
  n = 0 ∨ ∃ b o, ao = some ⟨b, o, none⟩ ∧ ∀ j, j < n → ∃ v, w.cell? ⟨b, o + j, none⟩ = some v ∧ R j v
variable [Val]
omit [Val] in
theorem hIn_get {G : Nat} (hG : G < 2 ^ HD) {isB : Bool} {tb : List Fact} {i : Nat} {o : AObj} (hi : i < 2 ^ HD) (h : (hIn G isB tb).get i = some o) : i = G ∧ o = .raw VB isB := by
  have h : ((Tr.e : Tr AObj).set (.raw VB isB) HD G).get HD i = some o := h
  rw [Tr.get_set_lt _ _ hG hi] at h
  split at h
  · rename_i e; exact ⟨e.symm, by simpa using h.symm⟩
  · rw [Tr.get_e] at h; simp at h
theorem hr_in {G : Nat} {w : World} (hG : G < 2 ^ HD) (hw : G ≤ w.heap.size) (hro : Ro0 G w) {tb : List Fact} (hT : ∀ f ∈ tb, f.holds Val.σ) {isB : Bool} {ao : Option Addr} {n c : Nat} (hnc : n ≤ c) {len : E} (hlen : len.eval Val.σ = n)
    (hs : Holds w ao n fun j v => v = rawV Val.σ VB isB j) :
    ∃ φ, HR G φ (hIn G isB tb) w ∧ Bel w φ (hIn G isB tb) w ∧ VR φ (.vsl G (.const 0) len) (.slice ao n c) := by
  have hid : ∀ i o, i < 2 ^ HD → (hIn G isB tb).get i = some o → i = G ∧ o = .raw VB isB := fun i o hi h => hIn_get hG hi h
  have hown : ∀ (φ : Phi) b, (∀ i p, φ i = some p → i < G + 1) → ¬ Owned φ (hIn G isB tb) b := by
    rintro φ b hd ⟨i, o, p, hg, hraw, hp, _⟩
    have := hd i p hp
    obtain ⟨_, rfl⟩ := hid i o (by omega) hg
    simp [AObj.isRaw] at hraw
  have hlt : ∀ i, i < 2 ^ HD → (hIn G isB tb).nx ≤ i → (hIn G isB tb).get i = none := by
    intro i hi hge
    cases e : (hIn G isB tb).get i with
    | none => rfl
    | some o => obtain ⟨rfl, _⟩ := hid i o hi e; simp [hIn] at hge; omega
  have hnx : (hIn G isB tb).nx ≤ 2 ^ HD := by show G + 1 ≤ 2 ^ HD; omega
  have bel : ∀ φ : Phi, (∀ i p, φ i = some p → i < G + 1) → Bel w φ (hIn G isB tb) w := fun φ hd => ⟨rfl, rfl, rfl, Nat.le_refl _, fun b _ => ⟨rfl, hown φ b hd⟩⟩
  rcases Nat.eq_zero_or_pos n with hn0 | hnpos
  · subst hn0
    have hd : ∀ i p, phi0 G i = some p → i < G + 1 := by
      intro i p hp
      unfold phi0 at hp
      split at hp
      · omega
      · simp at hp
    refine ⟨phi0 G, ⟨⟨fun i p hp => ?_, hlt, hnx, fun g hg => ⟨0, by simp [phi0, hg]⟩, fun i j oi oj p q hi _ _ _ hp => ?_, fun i o p hg hp => ?_⟩, fun g off k m ht => ?_, fun x hx => absurd hx (by simp [hIn]), fun x hx => absurd hx (by simp [hIn]),
      fun g off x ht => (hro g off x.1 x.2 ht).1, hT⟩, bel _ hd, .vsln (by simpa using hlen)⟩
    · unfold phi0 at hp
      split at hp
      · rename_i h
        obtain rfl := Option.some.inj hp
        exact ⟨by show i < G + 1; omega, Nat.lt_of_lt_of_le h hw⟩
      · simp at hp
    · have := hd i p hp
      obtain ⟨rfl, _⟩ := hid i oi (by omega) hi
      simp [phi0] at hp
    · have := hd i p hp
      obtain ⟨rfl, _⟩ := hid i o (by omega) hg
      simp [phi0] at hp
    · obtain ⟨h1, h2⟩ := hro g off k m ht
      exact ⟨⟨0, by simp [phi0, h1]⟩, hown _ g hd, h2⟩
  · rcases hs with hs | ⟨b, o, rfl, hv⟩
    · omega
    obtain ⟨_, hc0, rfl⟩ := hv 0 hnpos
    obtain ⟨cc, e, fz, hb, _⟩ := cell_inv hc0
    have hcells : ∀ j, j < n → cc[o + j]? = some (rawV Val.σ VB isB j) := by
      intro j hj
      obtain ⟨v, h1, rfl⟩ := hv j hj
      obtain ⟨c2, e2, fz2, h2, h3⟩ := cell_inv h1
      rw [hb] at h2
      simp only [Option.some.injEq, Obj.cells.injEq] at h2
      rw [h2.1]
      exact h3
    have hle : o + n ≤ cc.size := by
      have := hcells (n - 1) (by omega)
      have := (Array.getElem?_eq_some_iff.mp this).1
      omega
    have hblt := block_lt hb
    have hφ : ∀ i p, (phi0 G).set G (b, o, o + n) i = some p → (i = G ∧ p = (b, o, o + n)) ∨ (i < G ∧ p = (i, 0, 0)) := by
      intro i p hp
      unfold Phi.set at hp
      split at hp
      · rename_i e; exact .inl ⟨e, by simpa using hp.symm⟩
      · unfold phi0 at hp
        split at hp
        · rename_i h; exact .inr ⟨h, by simpa using hp.symm⟩
        · simp at hp
    have hd : ∀ i p, (phi0 G).set G (b, o, o + n) i = some p → i < G + 1 := by
      intro i p hp
      rcases hφ i p hp with ⟨rfl, _⟩ | ⟨h, _⟩ <;> omega
    have hglob : ∀ g, g < G → (phi0 G).set G (b, o, o + n) g = some (g, 0, 0) := by
      intro g hg
      unfold Phi.set
      rw [if_neg (by omega)]
      simp [phi0, hg]
    refine ⟨(phi0 G).set G (b, o, o + n), ⟨⟨fun i p hp => ?_, hlt, hnx, fun g hg => ⟨0, hglob g hg⟩, fun i j oi oj p q hi hj _ _ hp hq _ => ?_, fun i ob p hg hp => ?_⟩, fun g off k m ht => ?_, fun x hx => absurd hx (by simp [hIn]), fun x hx => absurd hx (by simp [hIn]),
      fun g off x ht => (hro g off x.1 x.2 ht).1, hT⟩, bel _ hd, ?_⟩
    · rcases hφ i p hp with ⟨rfl, rfl⟩ | ⟨h, rfl⟩
      · exact ⟨Nat.lt_succ_self _, hblt⟩
      · exact ⟨Nat.lt_succ_of_lt h, Nat.lt_of_lt_of_le h hw⟩
    · obtain ⟨rfl, _⟩ := hid i oi (by have := hd i p hp; omega) hi
      obtain ⟨rfl, _⟩ := hid j oj (by have := hd j q hq; omega) hj
      exact .inl rfl
    · obtain ⟨rfl, rfl⟩ := hid i ob (by have := hd i p hp; omega) hg
      rcases hφ i p hp with ⟨_, rfl⟩ | ⟨h, _⟩
      · exact ⟨Nat.le_refl _, Nat.le_add_right _ _, cc, e, fz, hb, hle, fun j hj => hcells j (by simp only at hj; omega)⟩
      · omega
    · obtain ⟨h1, h2⟩ := hro g off k m ht
      exact ⟨⟨0, hglob g h1⟩, hown _ g hd, h2⟩
    · exact .vsl (Phi.set_same _ _ _) hlen (Int.le_refl _) (.inr (by simp [E.eval])) (Nat.le_refl _) hnc
end Go.Ab
end

section
noncomputable section
namespace Go.Ab
def VB2 : Nat := 18446744073709551616
def hIn2 (G : Nat) (tb : List Fact) : H := ⟨G + 2, layL [(G, .raw VB true), (G + 1, .raw VB2 false)] .e, [], tb⟩
variable [Val]
omit [Val] in
theorem hIn2_get {G : Nat} (hG : G + 1 < 2 ^ HD) {tb : List Fact} {i : Nat} {o : AObj} (hi : i < 2 ^ HD) (h : (hIn2 G tb).get i = some o) : (i = G ∧ o = .raw VB true) ∨ (i = G + 1 ∧ o = .raw VB2 false) := by
  have h : (((Tr.e : Tr AObj).set (.raw VB true) HD G).set (.raw VB2 false) HD (G + 1)).get HD i = some o := h
  rw [Tr.get_set_lt _ _ hG hi] at h
  split at h
  · rename_i e; exact .inr ⟨e.symm, by simpa using h.symm⟩
  · rw [Tr.get_set_lt _ _ (by omega) hi] at h
    split at h
    · rename_i e; exact .inl ⟨e.symm, by simpa using h.symm⟩
    · rw [Tr.get_e] at h; simp at h
theorem holds_or {w : World} {ao : Option Addr} {n v : Nat} {isB : Bool} (hvb : VB ≤ v) (hs : Holds w ao n fun j x => x = rawV Val.σ v isB j) (hn : 0 < n) :
    ∃ b o, ao = some ⟨b, o, none⟩ ∧ b < w.heap.size ∧ ∀ φ : Phi, OR φ (.raw v isB) (b, o, o + n) w.heap[b]? := by
  rcases hs with hs | ⟨b, o, rfl, hv⟩
  · omega
  obtain ⟨_, hc0, rfl⟩ := hv 0 hn
  obtain ⟨cc, e, fz, hb, _⟩ := cell_inv hc0
  have hcells : ∀ j, j < n → cc[o + j]? = some (rawV Val.σ v isB j) := by
    intro j hj
    obtain ⟨x, h1, rfl⟩ := hv j hj
    obtain ⟨c2, e2, fz2, h2, h3⟩ := cell_inv h1
    rw [hb] at h2
    simp only [Option.some.injEq, Obj.cells.injEq] at h2
    rw [h2.1]
    exact h3
  have hle : o + n ≤ cc.size := by
    have := hcells (n - 1) (by omega)
    have := (Array.getElem?_eq_some_iff.mp this).1
    omega
  exact ⟨b, o, rfl, block_lt hb, fun φ => ⟨hvb, Nat.le_add_right _ _, cc, e, fz, hb, hle, fun j hj => hcells j (by simp only at hj; omega)⟩⟩
theorem place {w : World} {ao : Option Addr} {n c v id : Nat} {isB : Bool} {len : E} (hvb : VB ≤ v) (hnc : n ≤ c) (hl : len.eval Val.σ = n) (hs : Holds w ao n fun j x => x = rawV Val.σ v isB j) :
    ∃ Q : Option (Nat × Nat × Nat), (∀ p, Q = some p → p.1 < w.heap.size ∧ ∀ φ : Phi, OR φ (.raw v isB) p w.heap[p.1]?) ∧ ∀ φ : Phi, φ id = Q → VR φ (.vsl id (.const 0) len) (.slice ao n c) := by
  rcases Nat.eq_zero_or_pos n with h0 | hp
  · subst h0
    exact ⟨none, fun p h => by simp at h, fun φ _ => .vsln (by simpa using hl)⟩
  · obtain ⟨b, o, rfl, h1, h2⟩ := holds_or hvb hs hp
    refine ⟨some (b, o, o + n), fun p h => ?_, fun φ h => .vsl h hl (Int.le_refl _) (.inr (by simp [E.eval])) (Nat.le_refl _) hnc⟩
    obtain rfl := Option.some.inj h
    exact ⟨h1, h2⟩
theorem hr_in2 {G : Nat} {w : World} (hG : G + 1 < 2 ^ HD) (hw : G ≤ w.heap.size) (hro : Ro0 G w) {tb : List Fact} (hT : ∀ f ∈ tb, f.holds Val.σ) {ao ap : Option Addr} {n m c d : Nat} (hnc : n ≤ c) (hmd : m ≤ d)
    {len len2 : E} (hl : len.eval Val.σ = n) (hl2 : len2.eval Val.σ = m) (hs : Holds w ao n fun j v => v = rawV Val.σ VB true j) (ht : Holds w ap m fun j v => v = rawV Val.σ VB2 false j) :
    ∃ φ, HR G φ (hIn2 G tb) w ∧ Bel w φ (hIn2 G tb) w ∧ VR φ (.vsl G (.const 0) len) (.slice ao n c) ∧ VR φ (.vsl (G + 1) (.const 0) len2) (.slice ap m d) := by
  obtain ⟨Q, a1, a2⟩ := place (id := G) (Nat.le_refl _) hnc hl hs
  obtain ⟨R, b1, b2⟩ := place (id := G + 1) (by decide) hmd hl2 ht
  obtain ⟨φ, hφd⟩ : ∃ φ : Phi, φ = fun i => if i < G then some (i, 0, 0) else if i = G then Q else if i = G + 1 then R else none := ⟨_, rfl⟩
  have e0 : ∀ g, g < G → φ g = some (g, 0, 0) := fun g hg => by rw [hφd]; simp [hg]
  have e1 : φ G = Q := by rw [hφd]; simp
  have e2 : φ (G + 1) = R := by
    rw [hφd]
    simp only
    rw [if_neg (by omega), if_neg (by omega)]
    exact if_pos trivial
  have hφ : ∀ i p, φ i = some p → (i < G ∧ p = (i, 0, 0)) ∨ (i = G ∧ Q = some p) ∨ (i = G + 1 ∧ R = some p) := by
    intro i p hp
    rw [hφd] at hp
    simp only at hp
    split at hp
    · rename_i h; exact .inl ⟨h, by simpa using hp.symm⟩
    · split at hp
      · rename_i h; exact .inr (.inl ⟨h, hp⟩)
      · split at hp
        · rename_i h; exact .inr (.inr ⟨h, hp⟩)
        · simp at hp
  have hd : ∀ i p, φ i = some p → i < G + 2 := by
    intro i p hp
    rcases hφ i p hp with ⟨h, _⟩ | ⟨h, _⟩ | ⟨h, _⟩ <;> omega
  have hid : ∀ i o, i < 2 ^ HD → (hIn2 G tb).get i = some o → (i = G ∧ o = .raw VB true) ∨ (i = G + 1 ∧ o = .raw VB2 false) := fun i o hi h => hIn2_get hG hi h
  have hown : ∀ b, ¬ Owned φ (hIn2 G tb) b := by
    rintro b ⟨i, o, p, hg, hraw, hp, _⟩
    have := hd i p hp
    rcases hid i o (by omega) hg with ⟨_, rfl⟩ | ⟨_, rfl⟩ <;> simp [AObj.isRaw] at hraw
  have hlt : ∀ i, i < 2 ^ HD → (hIn2 G tb).nx ≤ i → (hIn2 G tb).get i = none := by
    intro i hi hge
    cases e : (hIn2 G tb).get i with
    | none => rfl
    | some o =>
      have hge : G + 2 ≤ i := hge
      rcases hid i o hi e with ⟨rfl, _⟩ | ⟨rfl, _⟩ <;> omega
  refine ⟨φ, ⟨⟨fun i p hp => ?_, hlt, by show G + 2 ≤ 2 ^ HD; omega, fun g hg => ⟨0, e0 g hg⟩, fun i j oi oj p q hi hj _ _ hp hq _ => ?_, fun i o p hg hp => ?_⟩, fun g off k n ht => ?_, fun x hx => absurd hx (by simp [hIn2]), fun x hx => absurd hx (by simp [hIn2]),
      fun g off x ht => (hro g off x.1 x.2 ht).1, hT⟩, ⟨rfl, rfl, rfl, Nat.le_refl _, fun b _ => ⟨rfl, hown b⟩⟩, a2 φ e1, b2 φ e2⟩
  · have h2 := hd i p hp
    refine ⟨h2, ?_⟩
    rcases hφ i p hp with ⟨h, rfl⟩ | ⟨_, h⟩ | ⟨_, h⟩
    · exact Nat.lt_of_lt_of_le h hw
    · exact (a1 p h).1
    · exact (b1 p h).1
  · refine .inr ⟨?_, ?_⟩
    · rcases hid i oi (by have := hd i p hp; omega) hi with ⟨_, rfl⟩ | ⟨_, rfl⟩ <;> rfl
    · rcases hid j oj (by have := hd j q hq; omega) hj with ⟨_, rfl⟩ | ⟨_, rfl⟩ <;> rfl
  · have := hd i p hp
    rcases hid i o (by omega) hg with ⟨rfl, rfl⟩ | ⟨rfl, rfl⟩
    · rw [e1] at hp
      exact (a1 p hp).2 φ
    · rw [e2] at hp
      exact (b1 p hp).2 φ
  · obtain ⟨h1, h2⟩ := hro g off k n ht
    exact ⟨⟨0, e0 g h1⟩, hown g, h2⟩
end Go.Ab
end

section
noncomputable section
namespace Go.Ab
variable [Val]
def boolAt (vb : Nat) (e : E) (b : Bool) (tb : List Fact) : Bool := tb.any fun k => k.eq && (k.v == b && match k.a, k.b with
  | .cell v l h e', .const c => Nat.beq v vb && (decide (l = 0) && (decide (h = 1) && (decide (c = 1) && E.zero (.sub e e'))))
  | _, _ => false)
theorem boolAt_ok {vb : Nat} {e : E} {b : Bool} {tb : List Fact} (h : boolAt vb e b tb = true) (hT : ∀ f ∈ tb, f.holds Val.σ) : decide (clampI 0 1 (Val.σ (vb + (e.eval Val.σ).toNat)) = 1) = b := by
  unfold boolAt at h
  simp only [List.any_eq_true, Bool.and_eq_true, beq_iff_eq] at h
  obtain ⟨k, hk, he, hv, h⟩ := h
  have hh := hT k hk
  split at h
  · rename_i v l u e' c ha hb
    simp only [Bool.and_eq_true, decide_eq_true_eq] at h
    obtain ⟨h1, rfl, rfl, rfl, h2⟩ := h
    obtain rfl := Nat.eq_of_beq_eq_true h1
    have z := E.zero_ok Val.σ h2
    unfold Fact.holds at hh
    rw [he, ha, hb, hv] at hh
    simp only [cond_true, E.eval] at hh z
    rw [show e.eval Val.σ = e'.eval Val.σ by omega]
    exact hh
  · simp at h
def knStep (f vs vb vf : Nat) (s0 f0 : Int) (b0 : Bool) (m : Int) : Known := fun g args h => bif Nat.beq g f then
  match args with
  | [.int .i64 s, .bool b, .int .i64 x] => bif decide (s = s0) && (b == b0 && decide (x = f0)) then some (.ret (.sym .i64 0 m (.cell vs 0 m (.const 0))), h) else none
  | [.sym .i64 _ _ (.cell v l u e), .bool b, .sym .i64 _ _ (.cell v' l' u' e')] =>
    bif Nat.beq v vs && (decide (l = 0) && (decide (u = m) && (Nat.beq v' vf && (decide (l' = 0) && (decide (u' = 255) && (E.zero (.sub e e') && (boolAt vb e b h.tb && match e.rng with
      | some (a, z) => decide (0 ≤ a) && decide (z < 1000000)
      | none => false))))))) then some (.ret (.sym .i64 0 m (.cell vs 0 m (e.plus (.const 1)))), h) else none
  | _ => none
  else none
structure Row (nx : Int → Bool → Int → Int) (vs vb vf : Nat) (s0 f0 : Int) (b0 : Bool) (m : Int) (σ : Nat → Int) : Prop where
  first : clampI 0 m (σ vs) = nx s0 b0 f0
  next : ∀ j, j < 1000000 → clampI 0 m (σ (vs + (j + 1))) = nx (clampI 0 m (σ (vs + j))) (decide (clampI 0 1 (σ (vb + j)) = 1)) (clampI 0 255 (σ (vf + j)))
omit [Val] in
theorem clampI_in {l h x : Int} (hl : l ≤ h) : l ≤ clampI l h x ∧ clampI l h x ≤ h := by
  unfold clampI
  split
  · omega
  · split <;> omega
theorem knStep_sim {P : Program} {f vs vb vf : Nat} {s0 f0 : Int} {b0 : Bool} {m : Int} {nx : Int → Bool → Int → Int} (hm : 0 ≤ m) (hr0 : 0 ≤ s0 ∧ s0 ≤ m ∧ 0 ≤ f0 ∧ f0 ≤ 255) (hrow : Row nx vs vb vf s0 f0 b0 m Val.σ)
    (hc : ∀ (s : Int) (b : Bool) (x : Int) (w : World), 0 ≤ s → s ≤ m → 0 ≤ x → x ≤ 255 → Calls P f #[.int .i64 s, .bool b, .int .i64 x] w fun e w' => e = .returned (.int .i64 (nx s b x)) ∧ w.grownBy w' none) :
    KnownSim P (knStep f vs vb vf s0 f0 b0 m) := by
  intro i args h h' r hk hex φ w args' c cs hr ha
  unfold knStep at hk
  cases hg : Nat.beq i f with
  | false => rw [hg] at hk; simp at hk
  | true =>
    rw [hg] at hk
    obtain rfl := Nat.eq_of_beq_eq_true hg
    simp only [cond_true] at hk
    have three : ∀ {a b c : AV} {x y z : Value}, args = [a, b, c] → (args'.getD 0 undef = x) → (args'.getD 1 undef = y) → (args'.getD 2 undef = z) → args' = #[x, y, z] := by
      intro a b c x y z e0 e1 e2 e3
      have hs := ha.size
      rw [e0] at hs
      apply Array.ext
      · simpa using hs
      · intro j hj hj'
        have hj2 : j < 3 := by simpa using hj'
        rw [Array.getD_eq_getD_getElem?] at e1 e2 e3
        match j, hj2 with
        | 0, _ => rw [Array.getElem?_eq_getElem hj] at e1; simpa using e1
        | 1, _ => rw [Array.getElem?_eq_getElem hj] at e2; simpa using e2
        | 2, _ => rw [Array.getElem?_eq_getElem hj] at e3; simpa using e3
    split at hk
    · rename_i s b x
      cases hb : (decide (s = s0) && (b == b0 && decide (x = f0))) with
      | false => rw [hb] at hk; simp at hk
      | true =>
        rw [hb] at hk
        simp only [cond_true, Option.some.injEq, Prod.mk.injEq] at hk
        obtain ⟨rfl, rfl⟩ := hk
        simp only [Bool.and_eq_true, decide_eq_true_eq, beq_iff_eq] at hb
        obtain ⟨rfl, rfl, rfl⟩ := hb
        have h0 := ha.get 0 (by simp)
        have h1 := ha.get 1 (by simp)
        have h2 := ha.get 2 (by simp)
        simp only [List.getD_cons_zero, List.getD_cons_succ] at h0 h1 h2
        rw [three rfl h0.int_inv h1.bool_inv h2.int_inv]
        have hin := clampI_in (x := Val.σ vs) hm
        refine quiet_val (hc s b x w hr0.1 hr0.2.1 hr0.2.2.1 hr0.2.2.2) hr (.sym ?_ ?_ ?_)
        · simp only [E.eval, Int.toNat_zero, Nat.add_zero]; exact hrow.first
        · rw [← hrow.first]; exact hin.1
        · rw [← hrow.first]; exact hin.2
    · rename_i l₁ h₁ v l u e b l₂ h₂ v' l' u' e'
      generalize hcond : (Nat.beq v vs && (decide (l = 0) && (decide (u = m) && (Nat.beq v' vf && (decide (l' = 0) && (decide (u' = 255) && (E.zero (.sub e e') && (boolAt vb e b h.tb && match e.rng with
      | some (a, z) => decide (0 ≤ a) && decide (z < 1000000)
      | none => false)))))))) = cnd at hk
      cases cnd with
      | false => simp at hk
      | true =>
        simp only [cond_true, Option.some.injEq, Prod.mk.injEq] at hk
        obtain ⟨rfl, rfl⟩ := hk
        simp only [Bool.and_eq_true, decide_eq_true_eq] at hcond
        obtain ⟨c1, rfl, rfl, c2, rfl, rfl, c3, c4, c5⟩ := hcond
        obtain rfl := Nat.eq_of_beq_eq_true c1
        obtain rfl := Nat.eq_of_beq_eq_true c2
        have z := E.zero_ok Val.σ c3
        simp only [E.eval] at z
        have hpos : 0 ≤ e.eval Val.σ ∧ e.eval Val.σ < 1000000 := by
          split at c5
          · rename_i a z hrg
            have := E.rng_ok Val.σ hrg
            simp only [Bool.and_eq_true, decide_eq_true_eq] at c5
            omega
          · simp at c5
        have hbool := boolAt_ok c4 hr.fct
        have h0 := ha.get 0 (by simp)
        have h1 := ha.get 1 (by simp)
        have h2 := ha.get 2 (by simp)
        simp only [List.getD_cons_zero, List.getD_cons_succ] at h0 h1 h2
        obtain ⟨s, e0, es, _, _⟩ := h0.sym_inv
        obtain ⟨x, e2, ex, _, _⟩ := h2.sym_inv
        rw [three rfl e0 h1.bool_inv e2]
        simp only [E.eval] at es ex
        rw [show e'.eval Val.σ = e.eval Val.σ by omega] at ex
        have hnx := hrow.next (e.eval Val.σ).toNat (by omega)
        rw [es, ex, hbool] at hnx
        have hin := clampI_in (x := Val.σ (v + ((e.eval Val.σ).toNat + 1))) hm
        rw [hnx] at hin
        have i1 := clampI_in (x := Val.σ (v + (e.eval Val.σ).toNat)) hm
        have i2 := clampI_in (l := 0) (h := 255) (x := Val.σ (v' + (e.eval Val.σ).toNat)) (by decide)
        rw [es] at i1
        rw [ex] at i2
        refine quiet_val (hc s b x w i1.1 i1.2 i2.1 i2.2) hr (.sym ?_ hin.1 hin.2)
        show clampI 0 u (Val.σ (v + ((e.plus (.const 1)).eval Val.σ).toNat)) = _
        rw [E.plus_ok]
        simp only [E.eval]
        rw [show (e.eval Val.σ + 1).toNat = (e.eval Val.σ).toNat + 1 by omega]
        exact hnx
    · simp at hk
omit [Val] in
theorem keeps_row {nx : Int → Bool → Int → Int} {vs vb vf : Nat} {s0 f0 : Int} {b0 : Bool} {m : Int} (h1 : VB ≤ vs) (h2 : VB ≤ vb) (h3 : VB ≤ vf) : Keeps fun V => Row nx vs vb vf s0 f0 b0 m V.σ := by
  intro V θ h
  have e : ∀ i, VB ≤ i → (@valOf V θ).σ i = V.σ i := fun i hi => by show up θ V.σ i = _; unfold up; rw [if_neg (by omega)]
  refine ⟨by rw [e _ h1]; exact h.first, fun j hj => ?_⟩
  rw [e _ (by omega), e _ (by omega), e _ (by omega), e _ (by omega)]
  exact h.next j hj
theorem quiet_run {P : Program} {kn : Known} (hkn : KnownSim P kn) {fuel n : Nat} {f : FuncId} {args : List AV} {u : AMode} {h' : H} {v : AV} (hG : P.globals.size ≤ 2 ^ HD) {tb : List Fact} (hT : ∀ f ∈ tb, f.holds Val.σ)
    (hrun : bodyA P (fns P kn fuel n).cl (fns P kn fuel n).rn (fns P kn fuel n).dc fuel f args .normal ⟨P.globals.size, .e, [], tb⟩ = some (.ret v, u, h')) {w : World} (hw : P.globals.size ≤ w.heap.size) (hro : Ro0 P.globals.size w)
    {args' : Array Value} (ha : LR (phi0 P.globals.size) args args') : Calls P f args' w fun e w' => (∃ φ' v', e = .returned v' ∧ VR φ' v v') ∧ w.grownBy w' none := by
  refine (calls_any hkn hrun (hr0 hG hw hro hT) ha).mono fun e w' h => ?_
  obtain ⟨φ', v', rfl, hv, _, hp⟩ := h
  exact ⟨⟨φ', v', rfl, hv⟩, ⟨hp.os, hp.tape, hp.out, hp.size, fun b hb _ => (hp.keep b hb own0).1⟩⟩
end Go.Ab
end
