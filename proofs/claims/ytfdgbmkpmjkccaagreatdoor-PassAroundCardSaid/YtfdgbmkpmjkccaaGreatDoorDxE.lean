/-
  The machine with patterns, part 5 of 5: a program's calls run over small memories, with unknown numbers; each answer is proved to be the model's.
  Conditions: those that each lemma names.
-/
import Derived.Test.YtfdgbmkpmjkccaaGreatDoorDxD
section
noncomputable section
namespace Go.Ab
abbrev CP := List Bool
def codeAt (p : CP) : Code → Option Code :=
 List.rec (motive := fun _ => Code → Option Code) (fun c => some c)
  (fun x _ ih c => match c with
   | .seq a b | .cond _ a b => Bool.casesOn x (ih a) (ih b)
   | .block _ a | .loop a | .scope a => ih a
   | _ => none) p
theorem codeAt_append (p q : CP) : ∀ (c : Code), codeAt (p ++ q) c = (codeAt p c).bind (codeAt q) := by
 induction p with
 | nil => intro c; rfl
 | cons x p ih =>
  intro c
  show (match c with
   | .seq a b | .cond _ a b => Bool.casesOn x (codeAt (p ++ q) a) (codeAt (p ++ q) b)
   | .block _ a | .loop a | .scope a => codeAt (p ++ q) a
   | _ => none) = Option.bind (match c with
   | .seq a b | .cond _ a b => Bool.casesOn x (codeAt p a) (codeAt p b)
   | .block _ a | .loop a | .scope a => codeAt p a
   | _ => none) (codeAt q)
  cases c <;> cases x <;> first | rfl | exact ih _
inductive CI where
 | code (p : CP)
 | inBlock (id : Nat)
 | inLoop (p : CP)
 | inScope (p : CP)
def toC (body : Code) (p : CP) : Code := (codeAt p body).getD .skip
def toI (body : Code) : CI → Item
 | .code p => .code (toC body p)
 | .inBlock id => .inBlock id
 | .inLoop p => .inLoop (toC body p)
 | .inScope p => .inScope (toC body p)
def exitC (id : Nat) : List CI → Option (List CI)
 | [] => none
 | .inBlock i :: K => bif Nat.beq i id then some K else exitC id K
 | .code _ :: K | .inLoop _ :: K | .inScope _ :: K => exitC id K
theorem exitC_ok {body : Code} {id : Nat} : ∀ {K K' : List CI}, exitC id K = some K' → exitTo id (K.map (toI body)) = some (K'.map (toI body)) := by
 intro K
 induction K with
 | nil => intro K' h; simp [exitC] at h
 | cons x K ih =>
  intro K' h
  cases x with
  | code p => exact ih h
  | inLoop p => exact ih h
  | inScope p => exact ih h
  | inBlock i =>
   simp only [exitC] at h
   cases hb : Nat.beq i id with
   | true =>
    rw [hb] at h
    simp only [cond_true, Option.some.injEq] at h
    subst h
    have := Nat.eq_of_beq_eq_true hb
    subst this
    simp [toI, exitTo]
   | false =>
    rw [hb] at h
    have : (i == id) = false := by
     simp only [beq_eq_false_iff_ne, ne_eq]
     rintro rfl
     simp at hb
    simp only [List.map_cons, toI, exitTo, this, Bool.false_eq_true, if_false]
    exact ih h
def CP.same : CP → CP → Bool
 | [], [] => true
 | x :: p, y :: q => (x == y) && CP.same p q
 | _, _ => false
theorem CP.same_ok : ∀ {p q : CP}, CP.same p q = true → p = q
 | [], [], _ => rfl
 | x :: p, y :: q, h => by
  simp only [CP.same, Bool.and_eq_true, beq_iff_eq] at h
  obtain ⟨rfl, h⟩ := h
  rw [CP.same_ok h]
 | [], _ :: _, h => by simp [CP.same] at h
 | _ :: _, [], h => by simp [CP.same] at h
def CI.same : CI → CI → Bool
 | .code p, .code q => CP.same p q
 | .inBlock i, .inBlock j => Nat.beq i j
 | .inLoop p, .inLoop q => CP.same p q
 | .inScope p, .inScope q => CP.same p q
 | _, _ => false
def sameK : List CI → List CI → Bool
 | [], [] => true
 | x :: K, y :: L => x.same y && sameK K L
 | _, _ => false
theorem sameK_ok : ∀ {K L : List CI}, sameK K L = true → K = L
 | [], [], _ => rfl
 | x :: K, y :: L, h => by
  simp only [sameK, Bool.and_eq_true] at h
  obtain ⟨h1, h2⟩ := h
  rw [sameK_ok h2]
  congr 1
  cases x <;> cases y <;> simp only [CI.same, Bool.false_eq_true] at h1
  ·rw [CP.same_ok h1]
  ·rw [Nat.eq_of_beq_eq_true h1]
  ·rw [CP.same_ok h1]
  ·rw [CP.same_ok h1]
 | [], _ :: _, h => by simp [sameK] at h
 | _ :: _, [], h => by simp [sameK] at h
def AMode.isNormal : AMode → Bool
 | .normal => true
 | _ => false
theorem AMode.isNormal_ok {u : AMode} (h : u.isNormal = true) : u = .normal := by cases u <;> simp_all [AMode.isNormal]
section
variable (P : Program) (cl : CallFn) (rn : RoundFn)
def stepC (fi : FI) (body : Code) (K : List CI) (s : S) : Option (List CI × S) :=
 match K with
 | [] => none
 | .inBlock _ :: K => some (K, s)
 | .inScope _ :: K => some (K, s)
 | .inLoop p :: K => some (.code p :: .inLoop p :: K, s)
 | .code p :: K => match codeAt p body with
  | some .skip => some (K, s)
  | some (.label _) => some (K, s)
  | some (.region _ ops draw) => match runRegion P cl rn ops draw fi s with
   | some (.nor s') => bif s'.u.isNormal then some (K, s') else none
   | _ => none
  | some (.seq _ _) => some (.code (p ++ [false]) :: .code (p ++ [true]) :: K, s)
  | some (.cond c _ _) => match ev fi s.regs c with
   | .bool t => some (.code (p ++ [!t]) :: K, s)
   | _ => none
  | some (.block id _) => some (.code (p ++ [false]) :: .inBlock id :: K, s)
  | some (.loop _) => some (.code (p ++ [false]) :: .inLoop (p ++ [false]) :: K, s)
  | some (.scope _) => some (.code (p ++ [false]) :: .inScope (p ++ [false]) :: K, s)
  | some (.exit id) => (exitC id K).map fun K => (K, s)
  | _ => none
def iterC (fi : FI) (body : Code) (n : Nat) : List CI → S → Option (List CI × S) :=
 Nat.rec (motive := fun _ => List CI → S → Option (List CI × S)) (fun K s => some (K, s))
  (fun _ ih K s => match stepC P cl rn fi body K s with
   | some (K', s') => ih K' s'
   | none => none) n
end
variable [Val]
section
variable {P : Program} {G : Nat} {cl : CallFn} {rn : RoundFn}
omit [Val] in
theorem toC_child {body : Code} {p : CP} {c : Code} (h : codeAt p body = some c) (x : Bool) : toC body (p ++ [x]) = (codeAt [x] c).getD .skip := by
 unfold toC
 rw [codeAt_append, h]
 rfl
theorem stepC_ok (hcl : CallSim P G cl) (hrn : RoundSim P G rn) (hdr : DrawSim P G cl rn) {fi : FI} {body : Code} {K K' : List CI} {s s' : S} (h : stepC P cl rn fi body K s = some (K', s')) (hn : s.u = .normal)
  {b : Frame} (hro : b.roundOf = none) {cs : List Frame} {φ : Phi} {tmps : Array Value} {df : List Deferred} {w : World} (hs : SR G φ fi s b tmps df cs cs w) :
  ∃ φ' tmps' df' w', SR G φ' fi s' b tmps' df' cs cs w' ∧ s'.u = .normal ∧ Post φ s.h w φ' s'.h w' ∧
   Steps P (lone (mkF b tmps df (K.map (toI body))) cs w) (lone (mkF b tmps' df' (K'.map (toI body))) cs w') := by
 have stay : ∀ {K2 : List CI}, step P (lone (mkF b tmps df (K.map (toI body))) cs w) = .next (lone (mkF b tmps df (K2.map (toI body))) cs w) → (K2, s) = (K', s') →
   ∃ φ' tmps' df' w', SR G φ' fi s' b tmps' df' cs cs w' ∧ s'.u = .normal ∧ Post φ s.h w φ' s'.h w' ∧ Steps P (lone (mkF b tmps df (K.map (toI body))) cs w) (lone (mkF b tmps' df' (K'.map (toI body))) cs w') := by
  intro K2 hst e
  obtain ⟨rfl, rfl⟩ := Prod.mk.inj e
  exact ⟨φ, tmps, df, w, hs, hn, Post.refl _ _ _, .one hst⟩
 unfold stepC at h
 split at h
 ·simp at h
 ·exact stay stp_inBlock (Option.some.inj h)
 ·exact stay stp_inScope (Option.some.inj h)
 ·exact stay stp_inLoop (Option.some.inj h)
 ·rename_i p K
  have hc : ∀ {c : Code}, codeAt p body = some c → toC body p = c := fun e => by unfold toC; rw [e]; rfl
  split at h
  ·rename_i e
   refine stay ?_ (Option.some.inj h)
   simp only [List.map_cons, toI, hc e]; exact stp_skip
  ·rename_i e
   refine stay ?_ (Option.some.inj h)
   simp only [List.map_cons, toI, hc e]; exact stp_label
  ·rename_i id ops draw e
   split at h
   ·rename_i s2 hrun
    cases hu : s2.u.isNormal with
    | false => rw [hu] at h; simp at h
    | true =>
     rw [hu] at h
     simp only [cond_true, Option.some.injEq, Prod.mk.injEq] at h
     obtain ⟨rfl, rfl⟩ := h
     have hx := exec_sim (fid := b.fn) (around := none) hcl hrn hdr rfl (cs0 := cs) 1 (.region id ops draw) s (.nor s2) hrun φ tmps df cs w (K.map (toI body)) (.code (.region id ops draw)) (.inl rfl) hs hro
     obtain ⟨φ', t', d', c', w', h1, h2, h3⟩ := hx
     have hu2 := AMode.isNormal_ok hu
     have hcs : c' = cs := by
      have := h1.ur
      rw [hu2] at this
      cases this with
      | normal _ _ => rfl
      | deferred _ _ _ hm => cases hm
     subst hcs
     refine ⟨φ', t', d', w', h1, hu2, h2, ?_⟩
     simp only [List.map_cons, toI, hc e]
     exact h3
   ·simp at h
  ·rename_i x y e
   refine stay ?_ (Option.some.inj h)
   simp only [List.map_cons, toI, hc e, toC_child e, codeAt, Option.getD_some]; exact stp_seq
  ·rename_i c x y e
   split at h
   ·rename_i t ht
    refine stay ?_ (Option.some.inj h)
    have hev := hs.eval df (.code (.cond c x y) :: K.map (toI body)) c
    rw [ht] at hev
    have := hev.bool_inv
    simp only [List.map_cons, toI, hc e, toC_child e]
    have hst := stp_cond (P := P) (b := b) (tmps := tmps) (df := df) (k := K.map (toI body)) (cs := cs) (w := w) (c := c) (x := x) (y := y) (t := t) this
    cases t <;> simpa [codeAt] using hst
   ·simp at h
  ·rename_i id x e
   refine stay ?_ (Option.some.inj h)
   simp only [List.map_cons, toI, hc e, toC_child e, codeAt, Option.getD_some]; exact stp_block
  ·rename_i x e
   refine stay ?_ (Option.some.inj h)
   simp only [List.map_cons, toI, hc e, toC_child e, codeAt, Option.getD_some]; exact stp_loop
  ·rename_i x e
   refine stay ?_ (Option.some.inj h)
   simp only [List.map_cons, toI, hc e, toC_child e, codeAt, Option.getD_some]; exact stp_scope
  ·rename_i id e
   cases he : exitC id K with
   | none => rw [he] at h; simp at h
   | some K2 =>
    rw [he] at h
    refine stay ?_ (Option.some.inj h)
    simp only [List.map_cons, toI, hc e]
    exact stp_exit (exitC_ok he)
  ·simp at h
theorem iterC_ok (hcl : CallSim P G cl) (hrn : RoundSim P G rn) (hdr : DrawSim P G cl rn) {fi : FI} {body : Code} {b : Frame} (hro : b.roundOf = none) {cs : List Frame} : ∀ (n : Nat) {K K' : List CI} {s s' : S}, iterC P cl rn fi body n K s = some (K', s') → s.u = .normal →
  ∀ {φ : Phi} {tmps : Array Value} {df : List Deferred} {w : World}, SR G φ fi s b tmps df cs cs w →
  ∃ φ' tmps' df' w', SR G φ' fi s' b tmps' df' cs cs w' ∧ s'.u = .normal ∧ Post φ s.h w φ' s'.h w' ∧
   Steps P (lone (mkF b tmps df (K.map (toI body))) cs w) (lone (mkF b tmps' df' (K'.map (toI body))) cs w') := by
 intro n
 induction n with
 | zero =>
  intro K K' s s' h hn φ tmps df w hs
  obtain ⟨rfl, rfl⟩ := Prod.mk.inj (Option.some.inj h)
  exact ⟨φ, tmps, df, w, hs, hn, Post.refl _ _ _, .refl _ _⟩
 | succ n ih =>
  intro K K' s s' h hn φ tmps df w hs
  have h : (match stepC P cl rn fi body K s with
   | some (K', s') => iterC P cl rn fi body n K' s'
   | none => none) = some (K', s') := h
  split at h
  ·rename_i K2 s2 hst
   obtain ⟨φ1, t1, d1, w1, a1, a2, a3, a4⟩ := stepC_ok hcl hrn hdr hst hn hro hs
   obtain ⟨φ2, t2, d2, w2, b1, b2, b3, b4⟩ := ih h a2 a1
   exact ⟨φ2, t2, d2, w2, b1, b2, a3.trans b3, a4.trans b4⟩
  ·simp at h
end
end Go.Ab
end

section
noncomputable section
namespace Go.Ab
abbrev Bnds := List (Nat × Int × Int)
def E.okW (W : Bnds) : E → Bool
 | .var i l h => Nat.blt i VB && W.any fun x => Nat.beq x.1 i && (decide (l ≤ x.2.1) && decide (x.2.2 ≤ h))
 | .const _ => true
 | .add a b | .sub a b | .mul a b | .max a b | .min a b | .remE a b => a.okW W && b.okW W
 | .rem a _ | .quo a _ => a.okW W
 | .cell v _ _ e => Nat.ble VB v && e.okW W
def Bnds.holds (W : Bnds) (θ : Nat → E) (σ : Nat → Int) : Prop := ∀ x ∈ W, x.2.1 ≤ (θ x.1).eval σ ∧ (θ x.1).eval σ ≤ x.2.2
section
variable (σ : Nat → Int)
theorem E.subst_okW {W : Bnds} {θ : Nat → E} (hW : W.holds θ σ) : ∀ {e : E}, e.okW W = true → (e.subst θ).eval σ = e.eval (up θ σ) := by
 intro e
 induction e with
 | var i l h =>
  intro ho
  simp only [E.okW, Bool.and_eq_true, List.any_eq_true, decide_eq_true_eq] at ho
  obtain ⟨hi, x, hx, h1, h2, h3⟩ := ho
  have hi : i < VB := Nat.le_of_ble_eq_true hi
  obtain rfl := Nat.eq_of_beq_eq_true h1
  have := hW x hx
  simp only [E.subst, E.eval, up, if_pos hi]
  exact (clampI_id (by omega) (by omega)).symm
 | const n => intro _; rfl
 | add a b iha ihb => intro ho; simp only [E.okW, Bool.and_eq_true] at ho; simp only [E.subst, E.plus_ok, E.eval]; rw [iha ho.1, ihb ho.2]
 | sub a b iha ihb => intro ho; simp only [E.okW, Bool.and_eq_true] at ho; simp only [E.subst, E.minus_ok, E.eval]; rw [iha ho.1, ihb ho.2]
 | mul a b iha ihb => intro ho; simp only [E.okW, Bool.and_eq_true] at ho; simp only [E.subst, E.mulS_ok, E.eval]; rw [iha ho.1, ihb ho.2]
 | max a b iha ihb => intro ho; simp only [E.okW, Bool.and_eq_true] at ho; simp only [E.subst, E.maxS_ok, E.eval]; rw [iha ho.1, ihb ho.2]
 | min a b iha ihb => intro ho; simp only [E.okW, Bool.and_eq_true] at ho; simp only [E.subst, E.minS_ok, E.eval]; rw [iha ho.1, ihb ho.2]
 | rem a c iha => intro ho; simp only [E.okW] at ho; simp only [E.subst, E.remS_ok, E.eval]; rw [iha ho]
 | quo a c iha => intro ho; simp only [E.okW] at ho; simp only [E.subst, E.quoS_ok, E.eval]; rw [iha ho]
 | remE a b iha ihb => intro ho; simp only [E.okW, Bool.and_eq_true] at ho; simp only [E.subst, E.eval]; rw [iha ho.1, ihb ho.2]
 | cell v l h a iha =>
  intro ho
  simp only [E.okW, Bool.and_eq_true] at ho
  have hv : VB ≤ v := Nat.le_of_ble_eq_true ho.1
  simp only [E.subst, E.eval]
  rw [iha ho.2]
  simp only [up]
  rw [if_neg (by omega)]
end
def boundB (tb : List Fact) (e : E) (l h : Int) : Bool :=
 match e.rng with
 | some (a, b) => (decide (l ≤ a) || (match symLt tb a b e l l (.const l) with | some false => true | _ => false)) &&
   (decide (b ≤ h) || ((match symLt tb h h (.const h) a b e with | some false => true | _ => false) ||
    (match symLt tb (3 * h + 2) (3 * h + 2) (.const (3 * h + 2)) (3 * a) (3 * b) (.mul (.const 3) e) with | some false => true | _ => false)))
 | none => false
theorem boundB_ok {σ : Nat → Int} {tb : List Fact} (hT : ∀ f ∈ tb, f.holds σ) {e : E} {l h : Int} (hb : boundB tb e l h = true) : l ≤ e.eval σ ∧ e.eval σ ≤ h := by
 unfold boundB at hb
 split at hb
 ·rename_i a b hr
  have hr := E.rng_ok σ hr
  simp only [Bool.and_eq_true, Bool.or_eq_true, decide_eq_true_eq] at hb
  obtain ⟨h1, h2⟩ := hb
  refine ⟨?_, ?_⟩
  ·rcases h1 with h1 | h1
   ·omega
   ·split at h1
    ·rename_i hs
     have := of_decide_eq_false (symLt_ok σ hT hs rfl hr.1 hr.2 (e₂ := .const l) rfl (Int.le_refl l) (Int.le_refl l))
     simp only [E.eval] at this
     omega
    ·simp at h1
  ·rcases h2 with h2 | h2 | h2
   ·omega
   ·split at h2
    ·rename_i hs
     have := of_decide_eq_false (symLt_ok σ hT hs (e₁ := .const h) rfl (Int.le_refl h) (Int.le_refl h) rfl hr.1 hr.2)
     simp only [E.eval] at this
     omega
    ·simp at h2
   ·split at h2
    ·rename_i hs
     have := of_decide_eq_false (symLt_ok σ hT hs (e₁ := .const (3 * h + 2)) rfl (Int.le_refl _) (Int.le_refl _) rfl (show 3 * a ≤ E.eval σ (.mul (.const 3) e) by simp only [E.eval]; omega) (show E.eval σ (.mul (.const 3) e) ≤ 3 * b by simp only [E.eval]; omega))
     simp only [E.eval] at this
     omega
    ·simp at h2
 ·simp at hb
def E.at1 (a : E) (x : Int) : E → Option Int
 | .const n => some n
 | .add p q => match E.at1 a x p, E.at1 a x q with
  | some m, some n => some (m + n)
  | _, _ => none
 | .sub p q => match E.at1 a x p, E.at1 a x q with
  | some m, some n => some (m - n)
  | _, _ => none
 | .mul p q => match E.at1 a x p, E.at1 a x q with
  | some m, some n => some (m * n)
  | _, _ => none
 | .rem p c => match E.at1 a x p with
  | some m => some (m % c)
  | none => none
 | .quo p c => match E.at1 a x p with
  | some m => some (m / c)
  | none => none
 | .max p q => match E.at1 a x p, E.at1 a x q with
  | some m, some n => some (if n > m then n else m)
  | _, _ => none
 | .min p q => match E.at1 a x p, E.at1 a x q with
  | some m, some n => some (if n < m then n else m)
  | _, _ => none
 | .remE p q => match E.at1 a x p, E.at1 a x q with
  | some m, some n => some (m % n)
  | _, _ => none
 | .var i l h => bif (E.var i l h).eqv a then some x else none
 | .cell v l h e => bif (E.cell v l h e).eqv a then some x else none
theorem E.at1_ok {σ : Nat → Int} {a : E} {x : Int} (hx : a.eval σ = x) : ∀ {e : E} {n : Int}, E.at1 a x e = some n → e.eval σ = n := by
 intro e
 induction e with
 | const m => intro n h; simpa [E.at1, E.eval] using h
 | var i l h =>
  intro n hn
  simp only [E.at1] at hn
  cases he : (E.var i l h).eqv a with
  | true => rw [he] at hn; rw [E.eqv_ok σ he, hx]; simpa using hn
  | false => rw [he] at hn; simp at hn
 | cell v l h b _ =>
  intro n hn
  simp only [E.at1] at hn
  cases he : (E.cell v l h b).eqv a with
  | true => rw [he] at hn; rw [E.eqv_ok σ he, hx]; simpa using hn
  | false => rw [he] at hn; simp at hn
 | rem p c ih =>
  intro n hn
  simp only [E.at1] at hn
  split at hn
  ·rename_i m h1; simp only [E.eval]; rw [ih h1]; simpa using hn
  ·simp at hn
 | quo p c ih =>
  intro n hn
  simp only [E.at1] at hn
  split at hn
  ·rename_i m h1; simp only [E.eval]; rw [ih h1]; simpa using hn
  ·simp at hn
 | add p q ip iq | sub p q ip iq | mul p q ip iq | max p q ip iq | min p q ip iq | remE p q ip iq =>
  intro n hn
  simp only [E.at1] at hn
  split at hn
  ·rename_i m k h1 h2; simp only [E.eval]; rw [ip h1, iq h2]; simpa using hn
  ·simp at hn
def failsAt (a : E) (x : Int) (f : Fact) : Bool := match E.at1 a x f.a, E.at1 a x f.b with
 | some p, some q => (bif f.eq then decide (p = q) else decide (p < q)) != f.v
 | _, _ => false
def neverN (a : E) (tb : List Fact) (l : Int) : Nat → Bool
 | 0 => true
 | n + 1 => tb.any (failsAt a (l + n)) && neverN a tb l n
def never (a : E) (tb : List Fact) : Bool := match a.rng with
 | some (l, h) => let tb := tb.filter fun f => (E.at1 a l f.a).isSome && (E.at1 a l f.b).isSome
  neverN a tb l (h - l + 1).toNat
 | none => false
theorem neverN_ok {σ : Nat → Int} {a : E} {tb : List Fact} {l : Int} : ∀ {n : Nat}, neverN a tb l n = true → l ≤ a.eval σ → a.eval σ < l + n → ∃ f ∈ tb, ¬ f.holds σ
 | 0, _, h1, h2 => by omega
 | n + 1, h, h1, h2 => by
  simp only [neverN, Bool.and_eq_true, List.any_eq_true] at h
  obtain ⟨⟨f, hf, hx⟩, h4⟩ := h
  by_cases hn : a.eval σ < l + n
  ·exact neverN_ok h4 h1 hn
  ·refine ⟨f, hf, fun hh => ?_⟩
   have e : a.eval σ = l + n := by omega
   unfold failsAt at hx
   split at hx
   ·rename_i p q hp hq
    have e1 := E.at1_ok e hp
    have e2 := E.at1_ok e hq
    unfold Fact.holds at hh
    rw [e1, e2] at hh
    cases hb : f.eq with
    | true => rw [hb] at hx hh; simp only [cond_true] at hx hh; rw [hh] at hx; simp at hx
    | false => rw [hb] at hx hh; simp only [cond_false] at hx hh; rw [hh] at hx; simp at hx
   ·simp at hx
theorem never_ok {σ : Nat → Int} {a : E} {tb : List Fact} (h : never a tb = true) (hT : ∀ f ∈ tb, f.holds σ) : False := by
 unfold never at h
 split at h
 ·rename_i l u hr
  have := E.rng_ok σ hr
  obtain ⟨f, hf, hx⟩ := neverN_ok (σ := σ) h this.1 (by omega)
  exact hx (hT f (List.mem_filter.1 hf).1)
 ·simp at h
def fitV (W : Bnds) (θ : Nat → E) (ρ : Nat → Option Nat) : Nat → AV → AV → Bool
 | 0, _, _ => false
 | f + 1, v, v' =>
  match v, v' with
  | .junk, _ => true
  | .bool a, .bool b => decide (a = b)
  | .int k a, .int k' b => decide (k = k') && decide (a = b)
  | .sym k l h e, v' => match asSym v' with
   | some (k', l', h', e') => decide (k = k') && (e.okW W && (((e.subst θ).eqv e' || E.zero (.sub (e.subst θ) e')) &&
     ((decide (l ≤ l') || (match e.rng with | some (a, _) => decide (l ≤ a) | none => false)) && (decide (h' ≤ h) || (match e.rng with | some (_, b) => decide (b ≤ h) | none => false)))))
   | none => false
  | .any k, .any k' => decide (k = k')
  | .any k, .int k' _ => decide (k = k')
  | .any k, .sym k' _ _ _ => decide (k = k')
  | .anyb, .anyb => true
  | .anyb, .bool _ => true
  | .str a, .str b => decide (a = b)
  | .nilp, .nilp => true
  | .nils, .nils => true
  | .nilm, .nilm => true
  | .nilf, .nilf => true
  | .nili, .nili => true
  | .ptr i o, .ptr a o' => decide (ρ i = some a) && decide (o = o')
  | .slice i o l c e s, .slice a o' l' c' e' s' => decide (ρ i = some a) && (decide (o = o') && (decide (l = l') && (decide (c = c') && (decide (e = e') && decide (s = s')))))
  | .map i, .map a => decide (ρ i = some a)
  | .vsl i o l, .vsl a o' l' => decide (ρ i = some a) && (o.okW W && (E.zero (.sub (o.subst θ) o') && (l.okW W && E.zero (.sub (l.subst θ) l'))))
  | .fn (.func g) l m, .fn (.func g') l' m' => decide (g = g') && (listB (fitV W θ ρ f) l l' && listB (fitV W θ ρ f) m m')
  | .iface t v, .iface t' v' => decide (t = t') && fitV W θ ρ f v v'
  | .agg n dep d t, .agg n' dep' d' t' => decide (n = n') && (decide (dep = dep') && vecB (fitV W θ ρ f) n dep d t d' t')
  | .tup l, .tup m => listB (fitV W θ ρ f) l m
  | _, _ => false
variable [Val]
def Tells (θ : Nat → E) (φ₀ φ : Phi) (v v' : AV) : Prop := ∀ {x : Value}, VR φ v' x → @VR (valOf θ) φ₀ v x
theorem fitV_ok {W : Bnds} {θ : Nat → E} (hW : W.holds θ Val.σ) {ρ : Nat → Option Nat} {φ₀ φ : Phi} (hφ : ∀ i a, ρ i = some a → φ₀ i = φ a) : ∀ (f : Nat) (v v' : AV), fitV W θ ρ f v v' = true → Tells θ φ₀ φ v v' := by
 intro f
 induction f with
 | zero => intro v v' h; simp [fitV] at h
 | succ f ih =>
  intro v v' h x hx
  unfold fitV at h
  split at h
  ·exact @VR.junk (valOf θ) _ _
  ·obtain rfl := of_decide_eq_true h; cases hx; exact @VR.bool (valOf θ) _ _
  ·simp only [Bool.and_eq_true, decide_eq_true_eq] at h; obtain ⟨rfl, rfl⟩ := h; cases hx; exact @VR.int (valOf θ) _ _ _
  ·split at h
   ·rename_i k l hh e v' k' l' h' e' ha
    simp only [Bool.and_eq_true, Bool.or_eq_true, decide_eq_true_eq] at h
    obtain ⟨rfl, ho, he, hb⟩ := h
    obtain ⟨n, rfl, h1, h2, h3⟩ := asSym_vr ha hx
    have e1 : e.eval (up θ Val.σ) = n := by
     rw [← E.subst_okW Val.σ hW ho, ← h1]
     rcases he with he | he
     ·exact E.eqv_ok Val.σ he
     ·have := E.zero_ok Val.σ he
      simp only [E.eval] at this
      omega
    have hb2 : l ≤ n ∧ n ≤ hh := by
     obtain ⟨b1, b2⟩ := hb
     constructor
     ·rcases b1 with b1 | b1
      ·omega
      ·split at b1
       ·rename_i a b hr
        have := E.rng_ok (up θ Val.σ) hr
        have := of_decide_eq_true b1
        omega
       ·simp at b1
     ·rcases b2 with b2 | b2
      ·omega
      ·split at b2
       ·rename_i a b hr
        have := E.rng_ok (up θ Val.σ) hr
        have := of_decide_eq_true b2
        omega
       ·simp at b2
    exact @VR.sym (valOf θ) _ _ _ _ _ _ e1 hb2.1 hb2.2
   ·simp at h
  ·obtain rfl := of_decide_eq_true h; obtain ⟨n, rfl⟩ := hx.any_inv; exact @VR.any (valOf θ) _ _ _
  ·obtain rfl := of_decide_eq_true h; cases hx; exact @VR.any (valOf θ) _ _ _
  ·obtain rfl := of_decide_eq_true h; obtain ⟨n, rfl, _⟩ := hx.sym_inv; exact @VR.any (valOf θ) _ _ _
  ·obtain ⟨b, rfl⟩ := hx.anyb_inv; exact @VR.anyb (valOf θ) _ _
  ·cases hx; exact @VR.anyb (valOf θ) _ _
  ·obtain rfl := of_decide_eq_true h; cases hx; exact @VR.str (valOf θ) _ _
  ·cases hx; exact @VR.nilp (valOf θ) _
  ·cases hx; exact @VR.nils (valOf θ) _
  ·cases hx; exact @VR.nilm (valOf θ) _
  ·cases hx; exact @VR.nilf (valOf θ) _
  ·cases hx; exact @VR.nili (valOf θ) _
  ·simp only [Bool.and_eq_true, decide_eq_true_eq] at h
   obtain ⟨h1, rfl⟩ := h
   cases hx with | ptr h' => exact @VR.ptr (valOf θ) _ _ _ _ _ _ ((hφ _ _ h1).trans h')
  ·simp only [Bool.and_eq_true, decide_eq_true_eq] at h
   obtain ⟨h1, rfl, rfl, rfl, rfl, rfl⟩ := h
   cases hx with | slice h' ho hl hc he hcs hz => exact @VR.slice (valOf θ) _ _ _ _ _ _ _ _ _ _ _ _ ((hφ _ _ h1).trans h') ho hl hc he hcs hz
  ·have h1 := of_decide_eq_true h
   cases hx with | map h' => exact @VR.map (valOf θ) _ _ _ ((hφ _ _ h1).trans h')
  ·simp only [Bool.and_eq_true, decide_eq_true_eq] at h
   obtain ⟨h1, o1, e1, o2, e2⟩ := h
   have z1 := E.zero_ok Val.σ e1
   have z2 := E.zero_ok Val.σ e2
   simp only [E.eval] at z1 z2
   rw [E.subst_okW Val.σ hW o1] at z1
   rw [E.subst_okW Val.σ hW o2] at z2
   rcases hx.vsl_inv with ⟨b, base, cs, o, n, c, h', hn, h0, ho, hcs, hc, rfl⟩ | ⟨hn, _, _, rfl⟩
   ·exact @VR.vsl (valOf θ) _ _ _ _ _ _ _ _ _ _ ((hφ _ _ h1).trans h') (show E.eval (up θ Val.σ) _ = _ by omega) (show 0 ≤ E.eval (up θ Val.σ) _ by omega)
     (show _ ∨ _ = _ + (E.eval (up θ Val.σ) _).toNat by omega) hcs hc
   ·exact @VR.vsln (valOf θ) _ _ _ _ _ _ (show E.eval (up θ Val.σ) _ = 0 by omega)
  ·simp only [Bool.and_eq_true, decide_eq_true_eq] at h
   obtain ⟨rfl, h1, h2⟩ := h
   obtain ⟨a1, a2⟩ := listB_ok (R := Tells θ φ₀ φ) ih h1
   obtain ⟨b1, b2⟩ := listB_ok (R := Tells θ φ₀ φ) ih h2
   cases hx with
   | fn hf z₁ k₁ z₂ k₂ =>
    cases hf
    exact @VR.fn (valOf θ) _ _ _ _ _ _ _ (.func _) (z₁.trans a1.symm) (fun i hi => a2 i hi (k₁ i (a1 ▸ hi))) (z₂.trans b1.symm) (fun i hi => b2 i hi (k₂ i (b1 ▸ hi)))
  ·simp only [Bool.and_eq_true, decide_eq_true_eq] at h
   obtain ⟨rfl, h1⟩ := h
   cases hx with | iface h' => exact @VR.iface (valOf θ) _ _ _ _ (ih _ _ h1 h')
  ·simp only [Bool.and_eq_true, decide_eq_true_eq] at h
   obtain ⟨rfl, rfl, h1⟩ := h
   have h2 := vecB_ok (R := Tells θ φ₀ φ) ih h1
   cases hx with | agg hs hn h h1 => exact @VR.agg (valOf θ) _ _ _ _ _ _ hs hn (fun i hi => h2 i hi (h i hi)) h1
  ·obtain ⟨a1, a2⟩ := listB_ok (R := Tells θ φ₀ φ) ih h
   cases hx with | tup hs' h' => exact @VR.tup (valOf θ) _ _ _ (hs'.trans a1.symm) (fun i hi => a2 i hi (h' i (a1 ▸ hi)))
  ·simp at h
def fitO (W : Bnds) (θ : Nat → E) (ρ : Nat → Option Nat) (f : Nat) (o o' : AObj) : Bool :=
 match o, o' with
 | .cells n dep d t, .cells n' dep' d' t' => decide (n = n') && (decide (dep = dep') && vecB (fitV W θ ρ f) n dep d t d' t')
 | .map es c, .map es' c' => decide (c = c') && entB (fitV W θ ρ f) es es'
 | .raw v b, .raw v' b' => decide (v = v') && decide (b = b')
 | _, _ => false
theorem fitO_ok {W : Bnds} {θ : Nat → E} (hW : W.holds θ Val.σ) {ρ : Nat → Option Nat} {φ₀ φ : Phi} (hφ : ∀ i a, ρ i = some a → φ₀ i = φ a) {f : Nat} {o o' : AObj} (h : fitO W θ ρ f o o' = true) :
  o.alive = true ∧ o'.alive = true ∧ o.isRaw = o'.isRaw ∧ ∀ {p : Nat × Nat × Nat} {ob : Option Obj}, OR φ o' p ob → @OR (valOf θ) φ₀ o p ob := by
 unfold fitO at h
 split at h
 ·simp only [Bool.and_eq_true, decide_eq_true_eq] at h
  obtain ⟨rfl, rfl, h1⟩ := h
  have h2 := vecB_ok (R := Tells θ φ₀ φ) (fitV_ok hW hφ f) h1
  refine ⟨rfl, rfl, rfl, fun {p ob} hx => ?_⟩
  obtain ⟨h1, h3, c, e, fz, h4, h5, h6, h7, h8⟩ := hx
  exact ⟨h1, h3, c, e, fz, h4, h5, h6, fun i hi => h2 i hi (h7 i hi), h8⟩
 ·simp only [Bool.and_eq_true, decide_eq_true_eq] at h
  obtain ⟨rfl, h1⟩ := h
  obtain ⟨e1, e2⟩ := entB_ok (R := Tells θ φ₀ φ) (fitV_ok hW hφ f) h1
  refine ⟨rfl, rfl, rfl, fun {p ob} hx => ?_⟩
  obtain ⟨ents, h1, h2, h3⟩ := hx
  refine ⟨ents, h1, h2.trans e1.symm, fun i hi hi' => ?_⟩
  obtain ⟨k1, k2, k3⟩ := e2 i hi (e1 ▸ hi)
  have k := h3 i (e1 ▸ hi) hi'
  exact @ER.mk (valOf θ) _ _ _ (k1 k.key) (k2 k.val) (k3.trans k.born)
 ·simp only [Bool.and_eq_true, decide_eq_true_eq] at h
  obtain ⟨rfl, rfl⟩ := h
  refine ⟨rfl, rfl, rfl, fun {p ob} hx => ?_⟩
  obtain ⟨h1, h2, c, e, fz, h3, h4, h5⟩ := hx
  exact ⟨h1, h2, c, e, fz, h3, h4, fun j hj => by rw [h5 j hj]; exact congrArg some (rawV_up h1 _ j).symm⟩
 ·simp at h
end Go.Ab
end

section
noncomputable section
namespace Go.Ab
structure Tgt where
 K : List CI
 regs : Tr AV
 nx : Nat
 objs : List (Nat × AObj)
 tb : List Fact
 meas : E
def Tgt.heap (t : Tgt) : H := ⟨t.nx, layL t.objs .e, [], t.tb⟩
def Tgt.state (t : Tgt) : S := { regs := t.regs, df := [], h := t.heap, u := .normal }
structure Fit where
 j : Nat
 l : List (Nat × Nat)
 m : List (Nat × E)
 W : Bnds
inductive Cert where
 | go (n : Nat) (c : Cert)
 | split (f : Fact) (a b : Cert)
 | jump (x : Fit)
 | back (x : Fit)
 | absurd (i : Nat)
 | never (a : E)
 | fin
def emptyL {α : Type} : List α → Bool
 | [] => true
 | _ => false
def factW (tb : List Fact) (W : Bnds) (θ : Nat → E) (f : Fact) : Bool :=
 f.a.okW W && (f.b.okW W && (let a := f.a.subst θ; let b := f.b.subst θ
 match a.rng, b.rng with
 | some (l₁, h₁), some (l₂, h₂) => match (bif f.eq then symEq tb l₁ h₁ a l₂ h₂ b else symLt tb l₁ h₁ a l₂ h₂ b) with
  | some v => v == f.v
  | none => false
 | _, _ => false))
def fitS (G : Nat) (fi : FI) (t : Tgt) (x : Fit) (s : S) : Bool :=
 let θ := thOf x.m
 let ρ := lookG G x.l
 emptyL s.df && (s.u.isNormal && (Nat.ble G t.nx && (Nat.ble t.nx (2 ^ HD) && (Nat.ble G s.h.nx && ((t.objs.all fun y => Nat.ble G y.1 && Nat.blt y.1 t.nx) &&
 ((x.l.all fun y => Nat.ble G y.1 && (Nat.blt y.1 t.nx && (Nat.ble G y.2 && Nat.blt y.2 s.h.nx))) && (apartB x.l &&
 ((x.W.all fun y => boundB s.h.tb (θ y.1) y.2.1 y.2.2) &&
 ((t.objs.all fun y => match ρ y.1 with
  | some a => (match s.h.get a with | some o => fitO x.W θ ρ 8 y.2 o | none => false)
  | none => false) && ((t.tb.all (factW s.h.tb x.W θ)) &&
  (List.range fi.sz).all fun i => match t.regs.get fi.rd i with
   | none => true
   | some v => fitV x.W θ ρ 8 v ((s.regs.get fi.rd i).getD .junk)))))))))))
def pickT : List Tgt → Nat → Option Tgt
 | [], _ => none
 | t :: _, 0 => some t
 | _ :: l, i + 1 => pickT l i
def dropI : List Fact → Nat → List Fact
 | [], _ => []
 | _ :: l, 0 => l
 | f :: l, i + 1 => f :: dropI l i
def pickF : List Fact → Nat → Option Fact
 | [], _ => none
 | f :: _, 0 => some f
 | _ :: l, i + 1 => pickF l i
section
variable (P : Program) (cl : CallFn) (rn : RoundFn) (dc : DeferFn)
def finC (fi : FI) (fn : Func) (body : Code) (K : List CI) (s : S) : Bool :=
 (match K with
 | [] => true
 | .code p :: _ => (match codeAt p body with | some .ret => true | _ => false)
 | _ => false) && (match leaveA P dc fi fn s.df .returning s with
 | some (.ret (.bool true), _) => true
 | _ => false)
def S.with (s : S) (f : Fact) : S := { s with h := ⟨s.h.nx, s.h.t, s.h.ty, f :: s.h.tb⟩ }
def chk (G : Nat) (fi : FI) (fn : Func) (body : Code) (T B : List Tgt) (cur : E) : Cert → List CI → S → Bool
 | .go n c, K, s => match iterC P cl rn fi body n K s with
  | some (K', s') => chk G fi fn body T B cur c K' s'
  | none => false
 | .split f a b, K, s => chk G fi fn body T B cur a K (s.with ⟨f.eq, f.a, f.b, true⟩) && chk G fi fn body T B cur b K (s.with ⟨f.eq, f.a, f.b, false⟩)
 | .jump x, K, s => match pickT T x.j with
  | some t => sameK K t.K && fitS G fi t x s
  | none => false
 | .back x, K, s => match pickT B x.j with
  | some t => sameK K t.K && (fitS G fi t x s && (t.meas.okW x.W && (let a := t.meas.subst (thOf x.m); match a.rng, cur.rng with
   | some (l₁, h₁), some (l₂, h₂) => (match symLt s.h.tb l₁ h₁ a l₂ h₂ cur with | some true => true | _ => false)
   | _, _ => false)))
  | none => false
 | .absurd i, _, s => match pickF s.h.tb i with
  | some f => match f.a.rng, f.b.rng with
   | some (l₁, h₁), some (l₂, h₂) => match (bif f.eq then symEq (dropI s.h.tb i) l₁ h₁ f.a l₂ h₂ f.b else symLt (dropI s.h.tb i) l₁ h₁ f.a l₂ h₂ f.b) with
    | some v => v != f.v
    | none => false
   | _, _ => false
  | none => false
 | .never a, _, s => Go.Ab.never a s.h.tb
 | .fin, K, s => finC P dc fi fn body K s
end
structure Bel (w0 : World) (φ : Phi) (h : H) (w : World) : Prop where
 os : w.os = w0.os
 tape : w.tape = w0.tape
 out : w.output = w0.output
 size : w0.heap.size ≤ w.heap.size
 keep : ∀ b, b < w0.heap.size → w.heap[b]? = w0.heap[b]? ∧ ¬ Owned φ h b
theorem Bel.post {w0 : World} {φ φ' : Phi} {h h' : H} {w w' : World} (hb : Bel w0 φ h w) (hp : Post φ h w φ' h' w') : Bel w0 φ' h' w' :=
 ⟨hp.os.trans hb.os, hp.tape.trans hb.tape, hp.out.trans hb.out, Nat.le_trans hb.size hp.size, fun b hlt => by
  obtain ⟨h1, h2⟩ := hb.keep b hlt
  obtain ⟨h3, h4⟩ := hp.keep b (Nat.lt_of_lt_of_le hlt hb.size) h2
  exact ⟨h3.trans h1, h4⟩⟩
open Go.RowKit in
def Goal (P : Program) (f : FuncId) (w0 : World) (cs : List Frame) (m : Machine) : Prop :=
 ∃ w' fr, Below w0.heap.size w0 w' ∧ Steps P m (lone fr cs w') ∧ fr.fn = f ∧ fr.leaving P w' (.returned (.bool true))
theorem Goal.pre {P : Program} {f : FuncId} {w0 : World} {cs : List Frame} {m m' : Machine} (hs : Steps P m m') (h : Goal P f w0 cs m') : Goal P f w0 cs m := by
 obtain ⟨w', fr, h1, h2, h3, h4⟩ := h
 exact ⟨w', fr, h1, hs.trans h2, h3, h4⟩
theorem pickT_mem : ∀ {l : List Tgt} {i : Nat} {t : Tgt}, pickT l i = some t → t ∈ l
 | [], _, _, h => by simp [pickT] at h
 | t :: _, 0, _, h => by simp only [pickT, Option.some.injEq] at h; subst h; exact List.mem_cons_self
 | _ :: l, i + 1, _, h => List.mem_cons_of_mem _ (pickT_mem (by simpa [pickT] using h))
theorem pickF_mem : ∀ {l : List Fact} {i : Nat} {f : Fact}, pickF l i = some f → f ∈ l
 | [], _, _, h => by simp [pickF] at h
 | t :: _, 0, _, h => by simp only [pickF, Option.some.injEq] at h; subst h; exact List.mem_cons_self
 | _ :: l, i + 1, _, h => List.mem_cons_of_mem _ (pickF_mem (by simpa [pickF] using h))
theorem dropI_sub : ∀ {l : List Fact} {i : Nat} {f : Fact}, f ∈ dropI l i → f ∈ l
 | [], _, _, h => by simp [dropI] at h
 | _ :: _, 0, _, h => List.mem_cons_of_mem _ (by simpa [dropI] using h)
 | _ :: l, i + 1, _, h => by
  simp only [dropI, List.mem_cons] at h
  rcases h with rfl | h
  ·exact List.mem_cons_self
  ·exact List.mem_cons_of_mem _ (dropI_sub h)
section
variable [Val]
theorem factW_ok {tb : List Fact} (hT : ∀ f ∈ tb, f.holds Val.σ) {W : Bnds} {θ : Nat → E} (hW : W.holds θ Val.σ) {f : Fact} (h : factW tb W θ f = true) : f.holds (valOf θ).σ := by
 unfold factW at h
 simp only [Bool.and_eq_true] at h
 obtain ⟨h1, h2, h3⟩ := h
 have e1 := E.subst_okW Val.σ hW h1
 have e2 := E.subst_okW Val.σ hW h2
 split at h3
 ·rename_i l₁ h₁ l₂ h₂ r1 r2
  have b1 := E.rng_ok Val.σ r1
  have b2 := E.rng_ok Val.σ r2
  unfold Fact.holds
  cases he : f.eq with
  | true =>
   rw [he] at h3
   simp only [cond_true] at h3 ⊢
   split at h3
   ·rename_i v hv
    have := symEq_ok Val.σ hT hv rfl b1.1 b1.2 rfl b2.1 b2.2
    rw [e1, e2] at this
    rw [← beq_iff_eq.1 h3]
    exact this
   ·simp at h3
  | false =>
   rw [he] at h3
   simp only [cond_false] at h3 ⊢
   split at h3
   ·rename_i v hv
    have := symLt_ok Val.σ hT hv rfl b1.1 b1.2 rfl b2.1 b2.2
    rw [e1, e2] at this
    rw [← beq_iff_eq.1 h3]
    exact this
   ·simp at h3
 ·simp at h3
omit [Val] in
theorem Tgt.heap_get {t : Tgt} (hk : ∀ y ∈ t.objs, y.1 < t.nx) (hn : t.nx ≤ 2 ^ HD) {i : Nat} {o : AObj} (hi : i < 2 ^ HD) (h : t.heap.get i = some o) : (i, o) ∈ t.objs := by
 rcases layL_get (l := t.objs) (t := .e) hi (fun x hx => Nat.lt_of_lt_of_le (hk x hx) hn) h with h | h
 ·exact h
 ·rw [Tr.get_e] at h; simp at h
theorem fitS_ok {G : Nat} {fi : FI} {t : Tgt} {x : Fit} {s : S} (h : fitS G fi t x s = true) {b : Frame} {cs : List Frame} {φ : Phi} {tmps : Array Value} {df : List Deferred} {w w0 : World}
  (hs : SR G φ fi s b tmps df cs cs w) (hb : Bel w0 φ s.h w) : df = [] ∧ x.W.holds (thOf x.m) Val.σ ∧ Bel w0 (phiOf (lookG G x.l) φ) t.heap w ∧ @SR (valOf (thOf x.m)) G (phiOf (lookG G x.l) φ) fi t.state b tmps [] cs cs w := by
 unfold fitS at h
 dsimp only at h
 generalize hθ : thOf x.m = θ at h ⊢
 generalize hρ : lookG G x.l = ρ at h ⊢
 simp only [Bool.and_eq_true, List.all_eq_true] at h
 obtain ⟨f1, f2, f3, f4, f5, f6, f7, f8, f9, f10, f11, f12⟩ := h
 have hr := hs.hr
 have f3 := ble_le f3
 have f4 := ble_le f4
 have f5 := ble_le f5
 have f6 : ∀ y ∈ t.objs, G ≤ y.1 ∧ y.1 < t.nx := fun y hy => ⟨ble_le (f6 y hy).1, blt_lt (f6 y hy).2⟩
 have f7 : ∀ i a, (i, a) ∈ x.l → G ≤ i ∧ i < t.nx ∧ G ≤ a ∧ a < s.h.nx := fun i a hi => by
  obtain ⟨k1, k2, k3, k4⟩ := f7 _ hi
  exact ⟨ble_le k1, blt_lt k2, ble_le k3, blt_lt k4⟩
 have hdf : s.df = [] := by
  cases hd : s.df with
  | nil => rfl
  | cons a l => rw [hd] at f1; simp [emptyL] at f1
 have hdf' : df = [] := by
  have := hs.dr
  rw [hdf] at this
  cases this
  rfl
 have hW : x.W.holds θ Val.σ := fun y hy => boundB_ok hr.fct (f9 y hy)
 have hmem : ∀ {i a}, ρ i = some a → (i < G ∧ i = a) ∨ (¬ i < G ∧ (i, a) ∈ x.l) := by
  intro i a hi
  rw [← hρ] at hi
  rcases lookG_mem hi with ⟨h1, h2⟩ | ⟨h1, h2⟩
  ·exact .inl ⟨h1, h2.symm⟩
  ·exact .inr ⟨by omega, h2⟩
 have hglob : ∀ g, g < G → ρ g = some g := by
  intro g hg
  rw [← hρ]
  unfold lookG
  have : Nat.blt g G = true := by unfold Nat.blt; exact Nat.ble_eq_true_of_le hg
  rw [this]; rfl
 have hinj : ∀ i j a, ρ i = some a → ρ j = some a → i = j := by
  intro i j a hi hj
  rcases hmem hi with ⟨hi', rfl⟩ | ⟨_, mi⟩
  ·rcases hmem hj with ⟨_, rfl⟩ | ⟨_, mj⟩
   ·rfl
   ·have := (f7 _ _ mj).2.2.1; omega
  ·rcases hmem hj with ⟨hj', rfl⟩ | ⟨_, mj⟩
   ·have := (f7 _ _ mi).2.2.1; omega
   ·exact apartB_ok f8 i j a mi mj
 have hlt : ∀ i a, ρ i = some a → i < t.nx ∧ a < s.h.nx := by
  intro i a hi
  rcases hmem hi with ⟨hi', rfl⟩ | ⟨_, mi⟩
  ·exact ⟨Nat.lt_of_lt_of_le hi' f3, Nat.lt_of_lt_of_le hi' f5⟩
  ·exact ⟨(f7 _ _ mi).2.1, (f7 _ _ mi).2.2.2⟩
 have hφ : ∀ i a, ρ i = some a → phiOf ρ φ i = φ a := fun i a hi => phiOf_some hi
 have hsome : ∀ i p, phiOf ρ φ i = some p → ∃ a, ρ i = some a ∧ φ a = some p := by
  intro i p hp
  cases e : ρ i with
  | none => simp [phiOf, e] at hp
  | some a => exact ⟨a, rfl, by simpa [phiOf, e] using hp⟩
 have hobj : ∀ i o₀, i < 2 ^ HD → t.heap.get i = some o₀ → ∃ a o, ρ i = some a ∧ s.h.get a = some o ∧ o₀.alive = true ∧ o.alive = true ∧ o₀.isRaw = o.isRaw ∧
   ∀ {p : Nat × Nat × Nat} {ob : Option Obj}, OR φ o p ob → @OR (valOf θ) (phiOf ρ φ) o₀ p ob := by
  intro i o₀ hi hg
  have hm := Tgt.heap_get (fun y hy => (f6 y hy).2) f4 hi hg
  have := f10 _ hm
  split at this
  ·rename_i a ha
   split at this
   ·rename_i o ho
    exact ⟨a, o, ha, ho, fitO_ok hW hφ this⟩
   ·simp at this
  ·simp at this
 have hown : ∀ c, Owned (phiOf ρ φ) t.heap c → Owned φ s.h c := by
  rintro c ⟨i, o, p, hg, hraw, hp, e⟩
  obtain ⟨a, ea, hp'⟩ := hsome i p hp
  obtain ⟨a', oa, ea', ga, _, _, hrw, _⟩ := hobj i o (Nat.lt_of_lt_of_le (hlt i a ea).1 f4) hg
  obtain rfl : a = a' := Option.some.inj (ea.symm.trans ea')
  exact ⟨a, oa, p, ga, hrw ▸ hraw, hp', e⟩
 refine ⟨hdf', hW, ⟨hb.os, hb.tape, hb.out, hb.size, fun c hc => ⟨(hb.keep c hc).1, fun ho => (hb.keep c hc).2 (hown c ho)⟩⟩, ?_⟩
 refine @SR.mk (valOf θ) _ _ _ _ _ _ _ _ _ _ ?_ ?_ ?_ ?_ hs.fG
 ·refine @HR.mk (valOf θ) _ _ _ _ (@HR0.mk (valOf θ) _ _ _ _ (fun i p hp => ?_) (fun i hi hge => ?_) f4 (fun g hg => ?_) (fun i j oi oj p q hi hj _ _ hp hq hpq => ?_) (fun i o p hg hp => ?_)) (fun g off k n ht => ?_) (fun y hy => absurd hy (by simp [Tgt.state, Tgt.heap]))
   (fun y hy => absurd hy (by simp [Tgt.state, Tgt.heap])) hr.rog (fun f hf => factW_ok hr.fct hW (f11 f hf))
  ·obtain ⟨a, e, hp⟩ := hsome i p hp
   exact ⟨(hlt i a e).1, (hr.dom a p hp).2⟩
  ·cases hg : t.heap.get i with
   | none => exact hg
   | some o =>
    have := (f6 _ (Tgt.heap_get (fun y hy => (f6 y hy).2) f4 hi hg)).2
    exact absurd hge (Nat.not_le.mpr this)
  ·obtain ⟨c, hc⟩ := hr.glob g hg
   exact ⟨c, by rw [hφ g g (hglob g hg)]; exact hc⟩
  ·obtain ⟨a, ea, hp⟩ := hsome i p hp
   obtain ⟨c, ec, hq⟩ := hsome j q hq
   obtain ⟨a', oa, ea', ga, _, la, ra, _⟩ := hobj i oi (Nat.lt_of_lt_of_le (hlt i a ea).1 f4) hi
   obtain ⟨c', oc, ec', gc, _, lc, rc, _⟩ := hobj j oj (Nat.lt_of_lt_of_le (hlt j c ec).1 f4) hj
   obtain rfl : a = a' := Option.some.inj (ea.symm.trans ea')
   obtain rfl : c = c' := Option.some.inj (ec.symm.trans ec')
   rcases hr.inj a c oa oc p q ga gc la lc hp hq hpq with rfl | ⟨x1, x2⟩
   ·exact .inl (hinj i j a ea ec)
   ·exact .inr ⟨ra.trans x1, rc.trans x2⟩
  ·obtain ⟨a, ea, hp⟩ := hsome i p hp
   obtain ⟨a', oa, ea', ga, _, _, _, hx⟩ := hobj i o (Nat.lt_of_lt_of_le (hlt i a ea).1 f4) hg
   obtain rfl : a = a' := Option.some.inj (ea.symm.trans ea')
   exact hx (hr.obj a oa p ga hp)
  ·obtain ⟨⟨c, h1⟩, h2, h3⟩ := hr.ro g off k n ht
   exact ⟨⟨c, by rw [hφ g g (hglob g (hr.rog g off _ ht))]; exact h1⟩, fun ho => h2 (hown g ho), h3⟩
 ·refine @RR.mk (valOf θ) _ _ _ _ hs.rr.size hs.rr.deep (fun i hi => ?_)
  have := f12 i (by rw [List.mem_range]; exact hi)
  have hv := hs.rr.get i hi
  cases hg : t.regs.get fi.rd i with
  | none =>
   have : (t.state.regs.get fi.rd i) = none := hg
   rw [this]
   exact @VR.junk (valOf θ) _ _
  | some v =>
   rw [hg] at this
   have e : (t.state.regs.get fi.rd i) = some v := hg
   rw [e]
   exact fitV_ok hW hφ 8 _ _ this hv
 ·exact @DFs.nil (valOf θ) _
 ·have hu := hs.ur
  rw [AMode.isNormal_ok f2] at hu
  cases hu with
  | normal hk hr => exact @URel.normal (valOf θ) _ _ _ hk hr
  | deferred _ _ _ hm => cases hm
end
end Go.Ab
end

section
noncomputable section
namespace Go.Ab
def OkT (I : Val → Prop) (P : Program) (fi : FI) (f : FuncId) (body : Code) (w0 : World) (b : Frame) (cs : List Frame) (t : Tgt) : Prop :=
 ∀ (V : Val) (φ : Phi) (tmps : Array Value) (w : World), I V → @SR V P.globals.size φ fi t.state b tmps [] cs cs w → Bel w0 φ t.heap w → Goal P f w0 cs (lone (mkF b tmps [] (t.K.map (toI body))) cs w)
def OkB (I : Val → Prop) (P : Program) (fi : FI) (f : FuncId) (body : Code) (w0 : World) (b : Frame) (cs : List Frame) (M : Int) (t : Tgt) : Prop :=
 ∀ (V : Val) (φ : Phi) (tmps : Array Value) (w : World), I V → @SR V P.globals.size φ fi t.state b tmps [] cs cs w → Bel w0 φ t.heap w → t.meas.eval V.σ < M → Goal P f w0 cs (lone (mkF b tmps [] (t.K.map (toI body))) cs w)
theorem HR.with [Val] {G : Nat} {φ : Phi} {h : H} {w : World} (hr : HR G φ h w) {f : Fact} (hf : f.holds Val.σ) : HR G φ ⟨h.nx, h.t, h.ty, f :: h.tb⟩ w :=
 ⟨⟨hr.dom, hr.lt, hr.nx, hr.glob, hr.inj, hr.obj⟩, hr.ro, hr.typ, hr.tlt, hr.rog, fun g hg => by
  rcases List.mem_cons.1 hg with rfl | hg
  ·exact hf
  ·exact hr.fct g hg⟩
theorem SR.with [Val] {G : Nat} {φ : Phi} {fi : FI} {s : S} {b : Frame} {tmps : Array Value} {df : List Deferred} {cs0 cs : List Frame} {w : World} (hs : SR G φ fi s b tmps df cs0 cs w) {f : Fact} (hf : f.holds Val.σ) :
  SR G φ fi (s.with f) b tmps df cs0 cs w := ⟨hs.hr.with hf, hs.rr, hs.dr, hs.ur, hs.fG⟩
section
variable {P : Program} {cl : CallFn} {rn : RoundFn} {dc : DeferFn}
theorem finC_ok [Val] (hdc : DeferSim P P.globals.size dc) {fi : FI} {f : FuncId} {fn : Func} (hf : P.funcs[f]? = some fn) {body : Code} {K : List CI} {s : S} (h : finC P dc fi fn body K s = true)
  {b : Frame} (hb : b = { (default : Frame) with fn := f, kind := .normal }) {cs : List Frame} {φ : Phi} {tmps : Array Value} {df : List Deferred} {w w0 : World} (hs : SR P.globals.size φ fi s b tmps df cs cs w) (hbel : Bel w0 φ s.h w) :
  Goal P f w0 cs (lone (mkF b tmps df (K.map (toI body))) cs w) := by
 unfold finC at h
 simp only [Bool.and_eq_true] at h
 obtain ⟨h1, h2⟩ := h
 have hret : Steps P (lone (mkF b tmps df (K.map (toI body))) cs w) (lone { mkF b tmps df (K.map (toI body)) with mode := .returning } cs w) := by
  split at h1
  ·exact .one (stp_end (by subst hb; rfl))
  ·rename_i p K
   split at h1
   ·rename_i e
    have : toC body p = .ret := by unfold toC; rw [e]; rfl
    simp only [List.map_cons, toI, this]
    exact .one (stp_ret (by subst hb; rfl))
   ·simp at h1
  ·simp at h1
 split at h2
 ·rename_i h' hl
  have := leave_sim (P := P) (todo := K.map (toI body)) (cs := cs) (b := b) hdc hs.fG s.df .returning s _ h' hl φ df .returning w hs.hr hs.rr hs.dr .returning
  obtain ⟨φ', v', w', hv, hr', hp', hst, hres⟩ := this
  have hv := hv.bool_inv
  subst hv
  have hbel' := hbel.post hp'
  refine ⟨w', _, ⟨hbel'.os, hbel'.tape, hbel'.out, hbel'.size, fun k hk => (hbel'.keep k hk).1⟩, hret.trans hst, by subst hb; rfl, ?_⟩
  subst hb
  exact ⟨rfl, rfl, rfl, fn, hf, hres⟩
 ·simp at h2
structure Sims (I : Val → Prop) (P : Program) (cl : CallFn) (rn : RoundFn) (dc : DeferFn) : Prop where
 keeps : Keeps I
 scl : ∀ V : Val, I V → @CallSim V P P.globals.size cl
 srn : ∀ V : Val, I V → @RoundSim V P P.globals.size rn
 sdr : ∀ V : Val, I V → @DrawSim V P P.globals.size cl rn
 sdc : ∀ V : Val, I V → @DeferSim V P P.globals.size dc
theorem chk_ok {I : Val → Prop} (sm : Sims I P cl rn dc) {fi : FI} {f : FuncId} {fn : Func} (hf : P.funcs[f]? = some fn) {body : Code} {b : Frame} (hb : b = { (default : Frame) with fn := f, kind := .normal }) {w0 : World} {cs : List Frame} {T B : List Tgt} {cur : E}
  (hT : ∀ t ∈ T, OkT I P fi f body w0 b cs t) : ∀ (c : Cert) (K : List CI) (s : S), chk P cl rn dc P.globals.size fi fn body T B cur c K s = true → s.u = .normal →
  ∀ (V : Val) (φ : Phi) (tmps : Array Value) (df : List Deferred) (w : World), I V → @SR V P.globals.size φ fi s b tmps df cs cs w → Bel w0 φ s.h w → (∀ t ∈ B, OkB I P fi f body w0 b cs (cur.eval V.σ) t) →
  Goal P f w0 cs (lone (mkF b tmps df (K.map (toI body))) cs w) := by
 have hro : b.roundOf = none := by subst hb; rfl
 intro c
 induction c with
 | go n c ih =>
  intro K s h hn V φ tmps df w hV hs hbel hB
  simp only [chk] at h
  split at h
  ·rename_i K' s' hit
   obtain ⟨φ', t', d', w', a1, a2, a3, a4⟩ := @iterC_ok V _ _ _ _ (sm.scl V hV) (sm.srn V hV) (sm.sdr V hV) _ _ _ hro _ n _ _ _ _ hit hn _ _ _ _ hs
   exact (ih K' s' h a2 V φ' t' d' w' hV a1 (hbel.post a3) hB).pre a4
  ·simp at h
 | split g x y ihx ihy =>
  intro K s h hn V φ tmps df w hV hs hbel hB
  simp only [chk, Bool.and_eq_true] at h
  rcases Fact.em V.σ g.eq g.a g.b with hg | hg
  ·exact ihx K _ h.1 hn V φ tmps df w hV (@SR.with V _ _ _ _ _ _ _ _ _ _ hs _ hg) ⟨hbel.os, hbel.tape, hbel.out, hbel.size, hbel.keep⟩ hB
  ·exact ihy K _ h.2 hn V φ tmps df w hV (@SR.with V _ _ _ _ _ _ _ _ _ _ hs _ hg) ⟨hbel.os, hbel.tape, hbel.out, hbel.size, hbel.keep⟩ hB
 | jump x =>
  intro K s h hn V φ tmps df w hV hs hbel hB
  simp only [chk] at h
  split at h
  ·rename_i t ht
   simp only [Bool.and_eq_true] at h
   obtain ⟨h1, h2⟩ := h
   obtain rfl := sameK_ok h1
   obtain ⟨rfl, _, k1, k2⟩ := @fitS_ok V _ _ _ _ _ h2 _ _ _ _ _ _ _ hs hbel
   exact hT t (pickT_mem ht) _ _ _ _ (sm.keeps V _ hV) k2 k1
  ·simp at h
 | back x =>
  intro K s h hn V φ tmps df w hV hs hbel hB
  simp only [chk] at h
  split at h
  ·rename_i t ht
   simp only [Bool.and_eq_true] at h
   obtain ⟨h1, h2, h3, h4⟩ := h
   obtain rfl := sameK_ok h1
   obtain ⟨rfl, hW, k1, k2⟩ := @fitS_ok V _ _ _ _ _ h2 _ _ _ _ _ _ _ hs hbel
   refine hB t (pickT_mem ht) _ _ _ _ (sm.keeps V _ hV) k2 k1 ?_
   have e1 := E.subst_okW V.σ hW h3
   split at h4
   ·rename_i l₁ h₁ l₂ h₂ r1 r2
    have b1 := E.rng_ok V.σ r1
    have b2 := E.rng_ok V.σ r2
    split at h4
    ·rename_i hl
     have := of_decide_eq_true (symLt_ok V.σ hs.hr.fct hl rfl b1.1 b1.2 rfl b2.1 b2.2)
     rw [e1] at this
     exact this
    ·simp at h4
   ·simp at h4
  ·simp at h
 | absurd i =>
  intro K s h hn V φ tmps df w hV hs hbel hB
  simp only [chk] at h
  split at h
  ·rename_i g hg
   have hh := hs.hr.fct g (pickF_mem hg)
   have hT' : ∀ g ∈ dropI s.h.tb i, g.holds V.σ := fun g hg => hs.hr.fct g (dropI_sub hg)
   exfalso
   split at h
   ·rename_i l₁ h₁ l₂ h₂ r1 r2
    have b1 := E.rng_ok V.σ r1
    have b2 := E.rng_ok V.σ r2
    unfold Fact.holds at hh
    cases he : g.eq with
    | true =>
     rw [he] at h hh
     simp only [cond_true] at h hh
     split at h
     ·rename_i v hv
      have := symEq_ok V.σ hT' hv rfl b1.1 b1.2 rfl b2.1 b2.2
      rw [hh] at this
      rw [this] at h
      simp at h
     ·simp at h
    | false =>
     rw [he] at h hh
     simp only [cond_false] at h hh
     split at h
     ·rename_i v hv
      have := symLt_ok V.σ hT' hv rfl b1.1 b1.2 rfl b2.1 b2.2
      rw [hh] at this
      rw [this] at h
      simp at h
     ·simp at h
   ·simp at h
  ·simp at h
 | never a =>
  intro K s h hn V φ tmps df w hV hs hbel hB
  simp only [chk] at h
  exact (never_ok h fun g hg => hs.hr.fct g hg).elim
 | fin =>
  intro K s h hn V φ tmps df w hV hs hbel hB
  simp only [chk] at h
  exact @finC_ok _ _ V (sm.sdc V hV) _ _ _ hf _ _ _ h _ hb _ _ _ _ _ _ hs hbel
theorem loop_ok {I : Val → Prop} (sm : Sims I P cl rn dc) {fi : FI} {f : FuncId} {fn : Func} (hf : P.funcs[f]? = some fn) {body : Code} {b : Frame} (hb : b = { (default : Frame) with fn := f, kind := .normal }) {w0 : World} {cs : List Frame} {T B : List Tgt}
  (hT : ∀ t ∈ T, OkT I P fi f body w0 b cs t) (hB : ∀ t ∈ B, (match t.meas.rng with | some (l, _) => decide (0 ≤ l) | none => false) = true ∧ ∃ c, chk P cl rn dc P.globals.size fi fn body T B t.meas c t.K t.state = true) :
  ∀ t ∈ B, OkT I P fi f body w0 b cs t := by
 have key : ∀ n : Nat, ∀ t ∈ B, ∀ (V : Val) (φ : Phi) (tmps : Array Value) (w : World), I V → @SR V P.globals.size φ fi t.state b tmps [] cs cs w → Bel w0 φ t.heap w → (t.meas.eval V.σ).toNat < n →
   Goal P f w0 cs (lone (mkF b tmps [] (t.K.map (toI body))) cs w) := by
  intro n
  induction n with
  | zero => intro t _ V φ tmps w _ _ _ h; omega
  | succ n ih =>
   intro t ht V φ tmps w hV hs hbel hlt
   obtain ⟨hm, c, hc⟩ := hB t ht
   refine chk_ok sm hf hb hT c t.K t.state hc rfl V φ tmps [] w hV hs hbel fun t' ht' V' φ' tmps' w' hV' hs' hbel' hl => ?_
   have h1 : 0 ≤ t'.meas.eval V'.σ := by
    have := (hB t' ht').1
    split at this
    ·rename_i l h hr
     have := of_decide_eq_true this
     have := (E.rng_ok V'.σ hr).1
     omega
    ·simp at this
   exact ih t' ht' V' φ' tmps' w' hV' hs' hbel' (by omega)
 intro t ht V φ tmps w hV hs hbel
 exact key _ t ht V φ tmps w hV hs hbel (Nat.lt_succ_self _)
end
def fiOf (P : Program) (fn : Func) (na : Nat) : FI := ⟨depFor (Nat.max fn.ntmps na), Nat.max fn.ntmps na, P.globals.size⟩
def chkAt (P : Program) (kn : Known) (fuel n : Nat) (f na : Nat) (T B : List Tgt) (cur : E) (c : Cert) (K : List CI) (s : S) : Bool :=
 match P.funcs[f]? with
 | some fn => match fn.body with
  | some body => chk P (fns P kn fuel n).cl (fns P kn fuel n).rn (fns P kn fuel n).dc P.globals.size (fiOf P fn na) fn body T B cur c K s
  | none => false
 | none => false
def enterS (P : Program) (f : Nat) (args : List AV) (h : H) : S :=
 match P.funcs[f]? with
 | some fn => { regs := argRegs (fiOf P fn args.length) 0 args .e, df := [], h, u := .normal }
 | none => { regs := .e, df := [], h, u := .normal }
def chkL (P : Program) (kn : Known) (fuel n : Nat) (f na : Nat) (T B : List Tgt) (c : Cert) (t : Tgt) : Bool :=
 (match t.meas.rng with | some (l, _) => decide (0 ≤ l) | none => false) && chkAt P kn fuel n f na T B t.meas c t.K t.state
theorem sims {I : Val → Prop} (hI : Keeps I) {P : Program} {kn : Known} (hkn : ∀ V : Val, I V → @KnownSim V P kn) (fuel n : Nat) : Sims I P (fns P kn fuel n).cl (fns P kn fuel n).rn (fns P kn fuel n).dc :=
 ⟨hI, fun V h => (@all_sim V P kn (hkn V h) fuel n).1, fun V h => (@all_sim V P kn (hkn V h) fuel n).2.1, fun V h => @draw_sim V _ _ _ _ (@all_sim V P kn (hkn V h) fuel n).1 (@all_sim V P kn (hkn V h) fuel n).2.1, fun V h => (@all_sim V P kn (hkn V h) fuel n).2.2⟩
def Well (I : Val → Prop) (P : Program) (f na : Nat) (t : Tgt) : Prop :=
 ∀ fn body, P.funcs[f]? = some fn → fn.body = some body → ∀ w0 cs, OkT I P (fiOf P fn na) f body w0 { (default : Frame) with fn := f, kind := .normal } cs t
theorem well_of {I : Val → Prop} (hI : Keeps I) {P : Program} {kn : Known} (hkn : ∀ V : Val, I V → @KnownSim V P kn) {fuel n f na : Nat} {T B : List Tgt} (hT : ∀ t ∈ T, Well I P f na t) (hB : ∀ t ∈ B, ∃ c, chkL P kn fuel n f na T B c t = true) : ∀ t ∈ B, Well I P f na t := by
 intro t ht fn body hf hbody w0 cs
 refine loop_ok (sims hI hkn fuel n) hf rfl (fun t ht => hT t ht fn body hf hbody w0 cs) (fun t ht => ?_) t ht
 obtain ⟨c, hc⟩ := hB t ht
 unfold chkL chkAt at hc
 rw [hf] at hc
 dsimp only at hc
 rw [hbody] at hc
 simp only [Bool.and_eq_true] at hc
 exact ⟨hc.1, c, hc.2⟩
open Go.RowKit in
theorem calls_of_chk {I : Val → Prop} (hI : Keeps I) {P : Program} {kn : Known} (hkn : ∀ V : Val, I V → @KnownSim V P kn) {fuel n f : Nat} {T : List Tgt} {args : List AV} {h : H} (hT : ∀ t ∈ T, Well I P f args.length t) {c : Cert}
  (hc : chkAt P kn fuel n f args.length T [] (.const 0) c [.code []] (enterS P f args h) = true) [V : Val] (hV : I V) {φ : Phi} {w : World} {args' : Array Value} (hr : HR P.globals.size φ h w) (hb : Bel w φ h w) (ha : LR φ args args') :
  Calls P f args' w fun e w' => e = .returned (.bool true) ∧ Below w.heap.size w w' := by
 unfold chkAt at hc
 split at hc
 ·rename_i fn hf
  split at hc
  ·rename_i body hbody
   intro cs
   have hs : SR P.globals.size φ (fiOf P fn args.length) (enterS P f args h) { (default : Frame) with fn := f, kind := .normal } (args' ++ Array.replicate (fn.ntmps - args'.size) undef) [] cs cs w := by
    unfold enterS
    rw [hf]
    exact ⟨hr, argRegs_ok ha fn.ntmps P.globals.size, .nil, .normal rfl rfl, rfl⟩
   have henter : Frame.enter P f args' .normal = mkF { (default : Frame) with fn := f, kind := .normal } (args' ++ Array.replicate (fn.ntmps - args'.size) undef) [] ([CI.code []].map (toI body)) := by
    simp [Frame.enter, mkF, hf, hbody, toI, toC, codeAt]; rfl
   have hu : (enterS P f args h).u = .normal := by unfold enterS; rw [hf]
   have hh : (enterS P f args h).h = h := by unfold enterS; rw [hf]
   have := chk_ok (sims hI hkn fuel n) hf rfl (w0 := w) (cs := cs) (fun t ht => hT t ht fn body hf hbody w cs) c [.code []] (enterS P f args h) hc hu V φ _ [] w hV hs (by rw [hh]; exact hb) (fun t ht => absurd ht (by simp))
   obtain ⟨w', fr, h1, h2, h3, h4⟩ := this
   rw [← henter] at h2
   exact ⟨.returned (.bool true), w', fr, ⟨rfl, h1⟩, h2, h3, h4⟩
  ·simp at hc
 ·simp at hc
end Go.Ab
end

section
noncomputable section
namespace Go.Ab
def hIn (G : Nat) (isB : Bool) (tb : List Fact) : H := ⟨G + 1, layL [(G, .raw VB isB)] .e, [], tb⟩
theorem cell_inv {w : World} {b o : Nat} {v : Value} (h : w.cell? ⟨b, o, none⟩ = some v) : ∃ c e fz, w.heap[b]? = some (.cells c e fz) ∧ c[o]? = some v := by
 unfold World.cell? at h
 cases hb : w.heap[b]? with
 | none => simp [hb] at h
 | some x =>
  cases x with
  | cells c e fz => exact ⟨c, e, fz, rfl, by simpa [hb] using h⟩
  | _ => simp [hb] at h
def Holds (w : World) (ao : Option Addr) (n : Nat) (R : Nat → Value → Prop) : Prop :=
 n = 0 ∨ ∃ b o, ao = some ⟨b, o, none⟩ ∧ ∀ j, j < n → ∃ v, w.cell? ⟨b, o + j, none⟩ = some v ∧ R j v
variable [Val]
omit [Val] in
theorem hIn_get {G : Nat} (hG : G < 2 ^ HD) {isB : Bool} {tb : List Fact} {i : Nat} {o : AObj} (hi : i < 2 ^ HD) (h : (hIn G isB tb).get i = some o) : i = G ∧ o = .raw VB isB := by
 have h : ((Tr.e : Tr AObj).set (.raw VB isB) HD G).get HD i = some o := h
 rw [Tr.get_set_lt _ _ hG hi] at h
 split at h
 ·rename_i e; exact ⟨e.symm, by simpa using h.symm⟩
 ·rw [Tr.get_e] at h; simp at h
theorem hr_in {G : Nat} {w : World} (hG : G < 2 ^ HD) (hw : G ≤ w.heap.size) (hro : Ro0 G w) {tb : List Fact} (hT : ∀ f ∈ tb, f.holds Val.σ) {isB : Bool} {ao : Option Addr} {n c : Nat} (hnc : n ≤ c) {len : E} (hlen : len.eval Val.σ = n)
  (hs : Holds w ao n fun j v => v = rawV Val.σ VB isB j) :
  ∃ φ, HR G φ (hIn G isB tb) w ∧ Bel w φ (hIn G isB tb) w ∧ VR φ (.vsl G (.const 0) len) (.slice ao n c) := by
 have hid : ∀ i o, i < 2 ^ HD → (hIn G isB tb).get i = some o → i = G ∧ o = .raw VB isB := fun i o hi h => hIn_get hG hi h
 have hown : ∀ (φ : Phi) b, (∀ i p, φ i = some p → i < G + 1) → ¬ Owned φ (hIn G isB tb) b := by
  rintro φ b hd ⟨i, o, p, hg, hraw, hp, _⟩
  have := hd i p hp
  obtain ⟨_, rfl⟩ := hid i o (by omega) hg
  simp [AObj.isRaw] at hraw
 have hlt : ∀ i, i < 2 ^ HD → (hIn G isB tb).nx ≤ i → (hIn G isB tb).get i = none := by
  intro i hi hge
  cases e : (hIn G isB tb).get i with
  | none => rfl
  | some o => obtain ⟨rfl, _⟩ := hid i o hi e; simp [hIn] at hge; omega
 have hnx : (hIn G isB tb).nx ≤ 2 ^ HD := by show G + 1 ≤ 2 ^ HD; omega
 have bel : ∀ φ : Phi, (∀ i p, φ i = some p → i < G + 1) → Bel w φ (hIn G isB tb) w := fun φ hd => ⟨rfl, rfl, rfl, Nat.le_refl _, fun b _ => ⟨rfl, hown φ b hd⟩⟩
 rcases Nat.eq_zero_or_pos n with hn0 | hnpos
 ·subst hn0
  have hd : ∀ i p, phi0 G i = some p → i < G + 1 := by
   intro i p hp
   unfold phi0 at hp
   split at hp
   ·omega
   ·simp at hp
  refine ⟨phi0 G, ⟨⟨fun i p hp => ?_, hlt, hnx, fun g hg => ⟨0, by simp [phi0, hg]⟩, fun i j oi oj p q hi _ _ _ hp => ?_, fun i o p hg hp => ?_⟩, fun g off k m ht => ?_, fun x hx => absurd hx (by simp [hIn]), fun x hx => absurd hx (by simp [hIn]),
   fun g off x ht => (hro g off x.1 x.2 ht).1, hT⟩, bel _ hd, .vsln (by simpa using hlen)⟩
  ·unfold phi0 at hp
   split at hp
   ·rename_i h
    obtain rfl := Option.some.inj hp
    exact ⟨by show i < G + 1; omega, Nat.lt_of_lt_of_le h hw⟩
   ·simp at hp
  ·have := hd i p hp
   obtain ⟨rfl, _⟩ := hid i oi (by omega) hi
   simp [phi0] at hp
  ·have := hd i p hp
   obtain ⟨rfl, _⟩ := hid i o (by omega) hg
   simp [phi0] at hp
  ·obtain ⟨h1, h2⟩ := hro g off k m ht
   exact ⟨⟨0, by simp [phi0, h1]⟩, hown _ g hd, h2⟩
 ·rcases hs with hs | ⟨b, o, rfl, hv⟩
  ·omega
  obtain ⟨_, hc0, rfl⟩ := hv 0 hnpos
  obtain ⟨cc, e, fz, hb, _⟩ := cell_inv hc0
  have hcells : ∀ j, j < n → cc[o + j]? = some (rawV Val.σ VB isB j) := by
   intro j hj
   obtain ⟨v, h1, rfl⟩ := hv j hj
   obtain ⟨c2, e2, fz2, h2, h3⟩ := cell_inv h1
   rw [hb] at h2
   simp only [Option.some.injEq, Obj.cells.injEq] at h2
   rw [h2.1]
   exact h3
  have hle : o + n ≤ cc.size := by
   have := hcells (n - 1) (by omega)
   have := (Array.getElem?_eq_some_iff.mp this).1
   omega
  have hblt := block_lt hb
  have hφ : ∀ i p, (phi0 G).set G (b, o, o + n) i = some p → (i = G ∧ p = (b, o, o + n)) ∨ (i < G ∧ p = (i, 0, 0)) := by
   intro i p hp
   unfold Phi.set at hp
   split at hp
   ·rename_i e; exact .inl ⟨e, by simpa using hp.symm⟩
   ·unfold phi0 at hp
    split at hp
    ·rename_i h; exact .inr ⟨h, by simpa using hp.symm⟩
    ·simp at hp
  have hd : ∀ i p, (phi0 G).set G (b, o, o + n) i = some p → i < G + 1 := by
   intro i p hp
   rcases hφ i p hp with ⟨rfl, _⟩ | ⟨h, _⟩ <;> omega
  have hglob : ∀ g, g < G → (phi0 G).set G (b, o, o + n) g = some (g, 0, 0) := by
   intro g hg
   unfold Phi.set
   rw [if_neg (by omega)]
   simp [phi0, hg]
  refine ⟨(phi0 G).set G (b, o, o + n), ⟨⟨fun i p hp => ?_, hlt, hnx, fun g hg => ⟨0, hglob g hg⟩, fun i j oi oj p q hi hj _ _ hp hq _ => ?_, fun i ob p hg hp => ?_⟩, fun g off k m ht => ?_, fun x hx => absurd hx (by simp [hIn]), fun x hx => absurd hx (by simp [hIn]),
   fun g off x ht => (hro g off x.1 x.2 ht).1, hT⟩, bel _ hd, ?_⟩
  ·rcases hφ i p hp with ⟨rfl, rfl⟩ | ⟨h, rfl⟩
   ·exact ⟨Nat.lt_succ_self _, hblt⟩
   ·exact ⟨Nat.lt_succ_of_lt h, Nat.lt_of_lt_of_le h hw⟩
  ·obtain ⟨rfl, _⟩ := hid i oi (by have := hd i p hp; omega) hi
   obtain ⟨rfl, _⟩ := hid j oj (by have := hd j q hq; omega) hj
   exact .inl rfl
  ·obtain ⟨rfl, rfl⟩ := hid i ob (by have := hd i p hp; omega) hg
   rcases hφ i p hp with ⟨_, rfl⟩ | ⟨h, _⟩
   ·exact ⟨Nat.le_refl _, Nat.le_add_right _ _, cc, e, fz, hb, hle, fun j hj => hcells j (by simp only at hj; omega)⟩
   ·omega
  ·obtain ⟨h1, h2⟩ := hro g off k m ht
   exact ⟨⟨0, hglob g h1⟩, hown _ g hd, h2⟩
  ·exact .vsl (Phi.set_same _ _ _) hlen (Int.le_refl _) (.inr (by simp [E.eval])) (Nat.le_refl _) hnc
end Go.Ab
end

section
noncomputable section
namespace Go.Ab
def candL (x : AV) (h : H) : Option (List (AV × AV × Nat)) :=
 match x with
 | .ptr id 0 =>
  match h.get id with
  | some (.miter (some m) since seen last) =>
   match h.get m with
   | some (.map es _) =>
    bif !seen.isEmpty && !es.isEmpty && es.all (fun e => Nat.ble last e.2.2) then none else
    let left := es.filter fun e => !seen.contains e.2.2
    match left.filter fun e => Nat.ble since e.2.2 with
    | [] => match left.filter fun e => Nat.blt e.2.2 since with
     | [] => none
     | e :: l => some (e :: l)
    | _ => none
   | _ => none
  | _ => none
 | _ => none
def nextJ (j : Nat) (x : AV) (h : H) : Option (AV × H) :=
 match x, candL x h with
 | .ptr id 0, some l => match l[j]?, h.get id with
  | some e, some (.miter (some m) since seen _) => match h.get m with
   | some (.map _ clock) => some (.tup [.bool true, e.1, e.2.1], h.set id (.miter (some m) since (seen ++ [e.2.2]) clock))
   | _ => none
  | _, _ => none
 | _, _ => none
theorem HR.drawn [Val] {G : Nat} {φ : Phi} {h : H} {w : World} (hr : HR G φ h w) (n : Nat) : HR G φ h { w with drawn := n } :=
 ⟨⟨hr.dom, hr.lt, hr.nx, hr.glob, hr.inj, hr.obj⟩, hr.ro, hr.typ, hr.tlt, hr.rog, hr.fct⟩
theorem Post.drawn {φ φ' : Phi} {h h' : H} {w w' : World} (hp : Post φ h w φ' h' w') (n : Nat) : Post φ h w φ' h' { w' with drawn := n } :=
 ⟨hp.le, hp.size, hp.os, hp.tape, hp.out, hp.nx, hp.keep, hp.unt, hp.elem, hp.tys, hp.tb, hp.frs⟩
section
variable [Val] {P : Program} {G : Nat}
theorem nextJ_ok {φ : Phi} {h : H} {w : World} (hr : HR G φ h w) {x : AV} {l : List (AV × AV × Nat)} (hl : candL x h = some l) {x' : Value} (hx : VR φ x x') (ty : TypeId) :
  ∃ j, j < l.length ∧ ∀ v h', nextJ j x h = some (v, h') → ∃ v' w', (Go.Instr.next x' false ty).run P w = .ok v' w' ∧ VR φ v v' ∧ HR G φ h' w' ∧ Post φ h w φ h' w' := by
 unfold candL at hl
 split at hl
 ·rename_i id
  obtain ⟨b, base, cs, hp, rfl⟩ := hx.ptr_inv
  split at hl
  ·rename_i m since seen last hg
   obtain ⟨h0, m', hb, q, hq, rfl⟩ := hr.obj _ _ _ hg hp
   simp only at h0 hb
   subst h0
   split at hl
   ·rename_i es clock hgm
    obtain ⟨ms, hbm, hes⟩ := obj_map hr hgm hq
    generalize hc1 : (!seen.isEmpty && !es.isEmpty && es.all (fun e => Nat.ble last e.2.2)) = c1 at hl
    cases c1 with
    | true => simp at hl
    | false =>
     simp only [cond_false] at hl
     have hc1' : (!seen.toArray.isEmpty && !ms.toArray.isEmpty && ms.toArray.all (·.born ≥ last)) = false := by
      have e1 : seen.toArray.isEmpty = seen.isEmpty := by simp
      have e2 : ms.toArray.isEmpty = es.isEmpty := by
       have := hes.length
       cases ms <;> cases es <;> simp_all
      have e3 : ms.toArray.all (·.born ≥ last) = es.all (fun e => Nat.ble last e.2.2) := by
       rw [List.all_toArray]
       refine (hes.all fun e m he => ?_).symm
       rw [he.born, Bool.eq_iff_iff, Nat.ble_eq]
       simp
      rw [e1, e2, e3]
      exact hc1
     have hleft : ERs φ (es.filter fun e => !seen.contains e.2.2) (ms.filter fun e => !seen.toArray.contains e.born) :=
      hes.filter fun e m he => by rw [he.born]; simp
     have hold : ERs φ ((es.filter fun e => !seen.contains e.2.2).filter fun e => Nat.blt e.2.2 since) ((ms.filter fun e => !seen.toArray.contains e.born).filter fun e => decide (e.born < since)) :=
      hleft.filter fun e m he => by
       rw [he.born, Bool.eq_iff_iff]
       simp [Nat.blt, Nat.succ_le_iff]
     have hnew : ERs φ ((es.filter fun e => !seen.contains e.2.2).filter fun e => Nat.ble since e.2.2) ((ms.filter fun e => !seen.toArray.contains e.born).filter fun e => decide (e.born ≥ since)) :=
      hleft.filter fun e m he => by
       rw [he.born, Bool.eq_iff_iff]
       simp
     generalize hO : (ms.filter fun e => !seen.toArray.contains e.born).filter (fun e => decide (e.born < since)) = O at hold
     generalize hN : (ms.filter fun e => !seen.toArray.contains e.born).filter (fun e => decide (e.born ≥ since)) = N at hnew
     split at hl
     ·rename_i heq1
      rw [heq1] at hnew
      cases hnew
      split at hl
      ·simp at hl
      ·rename_i e0 l0 heq2
       simp only [Option.some.injEq] at hl
       subst hl
       rw [heq2] at hold
       have hlen := hold.length
       have hne : O ≠ [] := by rintro rfl; simp at hlen
       have hcand : ((if ((ms.toArray.filter fun e => !seen.toArray.contains e.born).filter (·.born < since)).isEmpty then #[none] else #[]) ++
         (((ms.toArray.filter fun e => !seen.toArray.contains e.born).filter (·.born < since)) ++ ((ms.toArray.filter fun e => !seen.toArray.contains e.born).filter (·.born ≥ since))).map some : Array (Option MapEntry)) = (O.map some).toArray := by
        rw [List.filter_toArray, List.filter_toArray, List.filter_toArray, hO, hN]
        cases O with
        | nil => exact absurd rfl hne
        | cons a O => simp
       have hpos : 0 < (e0 :: l0).length := by simp
       generalize hl2 : e0 :: l0 = l at *
       have run : ∃ (j : Nat) (n : Nat) (me : MapEntry), j < l.length ∧ O[j]? = some me ∧
         (Go.Instr.next (.pointer (some ⟨b, 0 + 0, none⟩)) false ty).run P w = .ok (.tuple #[.bool true, me.key, me.val]) { (setBlk w b (.mapIter (some q.1) since (seen.toArray.push me.born) clock)) with drawn := n } := by
        by_cases h1 : O.length ≤ 1
        ·obtain ⟨me, hO1⟩ : ∃ me, O = [me] := by
          cases O with
          | nil => exact absurd rfl hne
          | cons a O => cases O with
           | nil => exact ⟨a, rfl⟩
           | cons _ _ => simp at h1
         refine ⟨0, w.drawn, me, hpos, by rw [hO1]; rfl, ?_⟩
         simp only [Go.Instr.next, Nat.add_zero, Sem.run_bind, run_getObj hb (by simp), run_getObj hbm (by simp), Result.andThen_ok, hc1', Bool.false_eq_true, if_false, hcand]
         rw [hO1]
         simp [Question.forced, run_setObj hb, setBlk]
        ·have hlt : w.tape w.drawn (.mapNext O.length) % O.length < O.length := Nat.mod_lt _ (by omega)
         obtain ⟨me, hme⟩ : ∃ me, O[w.tape w.drawn (.mapNext O.length) % O.length]? = some me := ⟨_, List.getElem?_eq_getElem hlt⟩
         refine ⟨w.tape w.drawn (.mapNext O.length) % O.length, w.drawn + 1, me, by omega, hme, ?_⟩
         have hb' : ({ w with drawn := w.drawn + 1 } : World).heap[b]? = some (.mapIter (some q.1) since seen.toArray last) := hb
         simp only [Go.Instr.next, Nat.add_zero, Sem.run_bind, run_getObj hb (by simp), run_getObj hbm (by simp), Result.andThen_ok, hc1', Bool.false_eq_true, if_false, hcand]
         have hsz : (O.map some).toArray.size = O.length := by simp
         rw [hsz]
         have hch : (Go.choose (.mapNext O.length)).run P w = .ok (w.tape w.drawn (.mapNext O.length) % O.length) { w with drawn := w.drawn + 1 } := by
          simp [Go.choose, Sem.run, Question.forced, h1, Question.cut]
         rw [hch]
         simp only [Result.andThen_ok]
         have hget : (O.map some).toArray[w.tape w.drawn (.mapNext O.length) % O.length]? = some (some me) := by
          simp [hme]
         rw [hget]
         simp only [Sem.run_bind, run_setObj hb' (by simp), Result.andThen_ok, Sem.run_pure]
         rfl
       obtain ⟨j, n, me, hj, hme, hrun⟩ := run
       refine ⟨j, hj, fun v h' hnj => ?_⟩
       unfold nextJ at hnj
       have hcl : candL (.ptr id 0) h = some l := by
        unfold candL
        simp only [hg, hgm, hc1, cond_false, heq1, heq2]
        rw [← hl2]
       rw [hcl] at hnj
       have hnj : (match l[j]?, h.get id with
        | some e, some (.miter (some m) since seen _) => match h.get m with
         | some (.map _ clock) => some (.tup [.bool true, e.1, e.2.1], h.set id (.miter (some m) since (seen ++ [e.2.2]) clock))
         | _ => none
        | _, _ => none) = some (v, h') := hnj
       split at hnj
       ·rename_i e m2 since2 seen2 last2 hje hg2
        rw [hg] at hg2
        obtain ⟨rfl, rfl, rfl, rfl⟩ : m2 = m ∧ since2 = since ∧ seen2 = seen ∧ last2 = last := by
         simp only [Option.some.injEq, AObj.miter.injEq] at hg2
         exact ⟨hg2.1.symm, hg2.2.1.symm, hg2.2.2.1.symm, hg2.2.2.2.symm⟩
        rw [hgm] at hnj
        simp only [Option.some.injEq, Prod.mk.injEq] at hnj
        obtain ⟨rfl, rfl⟩ := hnj
        have he : ER φ e me := by
         have := hold.get j (by rw [List.getElem?_eq_some_iff] at hje; exact hje.1) (by rw [List.getElem?_eq_some_iff] at hme; exact hme.1)
         rw [List.getElem?_eq_some_iff] at hje hme
         obtain ⟨_, h1⟩ := hje
         obtain ⟨_, h2⟩ := hme
         rwa [h1, h2] at this
        have hset := set_ok hr hg rfl hp (o₂ := .miter (some m2) since2 (seen2 ++ [e.2.2]) clock) (ob := .mapIter (some q.1) since2 (seen2.toArray.push me.born) clock)
         ⟨rfl, some q.1, by rw [he.born]; simp, q, hq, rfl⟩ (Like.not hb fun _ _ _ h => by cases h)
        exact ⟨_, _, hrun, (LR.three (.bool true) he.key he.val).tup, hset.1.drawn n, hset.2.drawn n⟩
       ·simp at hnj
     ·simp at hl
   ·simp at hl
  ·simp at hl
 ·simp at hl
omit [Val] in
theorem execOp_next {ρ : Operand → Value} {o : Oper} {it : Operand} {s : Bool} (ho : o.op = .next it s) {w w' : World} {v' : Value} (h : (Go.Instr.next (ρ it) s o.type).run P w = .ok v' w') : (execOp ρ o).run P w = .ok (.value v') w' := by
 obtain ⟨dst, op, type, pos, after, guard⟩ := o
 subst ho
 unfold execOp
 simp only [Sem.run_bind, h, Result.andThen_ok, Sem.run_pure]
end
def sumZero (tb : List Fact) (a b : E) : Bool := match a with
 | .sub (.const c) (.rem s n) => decide (c = 65535) && (Nat.beq n 65535 && tb.any fun k => k.eq && match k.a, k.b with
  | .sub (.const c') (.add (.rem x m) (.const d)), .const z => decide (c' = 65535) && (Nat.beq m 65535 && (decide (d = 1) && (decide (z = 0) && (E.zero (.sub (.sub s (.const 1)) x) &&
    (bif k.v then E.zero (.sub b (.const 65535)) else E.zero (.sub b k.a))))))
  | _, _ => false)
 | _ => false
def numEq (tb : List Fact) : Nat → E → E → Bool
 | 0, _, _ => false
 | f + 1, a, b => E.zero (.sub a b) || (sumZero tb a b || match a, b with
  | .quo x n, .quo y m => Nat.beq n m && numEq tb f x y
  | .rem x n, .rem y m => Nat.beq n m && numEq tb f x y
  | .quo x n, .const m => numEq tb f x (.const 65535) && decide (m = 65535 / n)
  | .rem x n, .const m => numEq tb f x (.const 65535) && decide (m = 65535 % n)
  | _, _ => false)
def cmpV (tb : List Fact) (ρ : Nat → Option Nat) : Nat → AV → AV → Bool
 | 0, _, _ => false
 | f + 1, v, v' =>
  match v, v' with
  | .junk, _ => true
  | .bool a, .bool b => decide (a = b)
  | .int k a, .int k' b => decide (k = k') && decide (a = b)
  | .sym k l h e, v' => match asSym v' with
   | some (k', l', h', e') => decide (k = k') && (numEq tb 8 e e' && ((decide (l ≤ l') || (match e.rng with | some (a, _) => decide (l ≤ a) | none => false)) && (decide (h' ≤ h) || (match e.rng with | some (_, b) => decide (b ≤ h) | none => false))))
   | none => false
  | .any k, .any k' => decide (k = k')
  | .any k, .int k' _ => decide (k = k')
  | .any k, .sym k' _ _ _ => decide (k = k')
  | .anyb, .anyb => true
  | .anyb, .bool _ => true
  | .str a, .str b => decide (a = b)
  | .nilp, .nilp => true
  | .nils, .nils => true
  | .nilm, .nilm => true
  | .nilf, .nilf => true
  | .nili, .nili => true
  | .ptr i o, .ptr a o' => decide (ρ i = some a) && decide (o = o')
  | .slice i o l c e s, .slice a o' l' c' e' s' => decide (ρ i = some a) && (decide (o = o') && (decide (l = l') && (decide (c = c') && (decide (e = e') && decide (s = s')))))
  | .map i, .map a => decide (ρ i = some a)
  | .vsl i o l, .vsl a o' l' => decide (ρ i = some a) && (E.zero (.sub o o') && E.zero (.sub l l'))
  | .fn (.func g) l m, .fn (.func g') l' m' => decide (g = g') && (listB (cmpV tb ρ f) l l' && listB (cmpV tb ρ f) m m')
  | .iface t v, .iface t' v' => decide (t = t') && cmpV tb ρ f v v'
  | .agg n dep d t, .agg n' dep' d' t' => decide (n = n') && (decide (dep = dep') && vecB (cmpV tb ρ f) n dep d t d' t')
  | .tup l, .tup m => listB (cmpV tb ρ f) l m
  | _, _ => false
def cmpO (tb : List Fact) (ρ : Nat → Option Nat) (f : Nat) (o o' : AObj) : Bool :=
 match o, o' with
 | .cells n dep d t, .cells n' dep' d' t' => decide (n = n') && (decide (dep = dep') && vecB (cmpV tb ρ f) n dep d t d' t')
 | .map es c, .map es' c' => decide (c = c') && entB (cmpV tb ρ f) es es'
 | .raw v b, .raw v' b' => decide (v = v') && decide (b = b')
 | .dead, .dead => true
 | _, _ => false
section
variable [Val]
theorem sumZero_ok {tb : List Fact} (hT : ∀ f ∈ tb, f.holds Val.σ) {a b : E} (h : sumZero tb a b = true) : a.eval Val.σ = b.eval Val.σ := by
 unfold sumZero at h
 split at h
 ·rename_i c s n
  simp only [Bool.and_eq_true, decide_eq_true_eq, List.any_eq_true] at h
  obtain ⟨rfl, h2, k, hk, he, h⟩ := h
  obtain rfl := Nat.eq_of_beq_eq_true h2
  have hh := hT k hk
  unfold Fact.holds at hh
  rw [he] at hh
  simp only [cond_true] at hh
  split at h
  ·rename_i c' x m d z e1 e2
   simp only [Bool.and_eq_true, decide_eq_true_eq] at h
   obtain ⟨rfl, h3, rfl, rfl, h4, h5⟩ := h
   obtain rfl := Nat.eq_of_beq_eq_true h3
   have z := E.zero_ok Val.σ h4
   rw [e1, e2] at hh
   simp only [E.eval] at z
   cases hv : k.v with
   | true =>
    rw [hv] at h5 hh
    have zb := E.zero_ok Val.σ h5
    have hh := of_decide_eq_true hh
    simp only [E.eval] at zb hh ⊢
    omega
   | false =>
    rw [hv] at h5 hh
    have zb := E.zero_ok Val.σ h5
    rw [e1] at zb
    have hh := of_decide_eq_false hh
    simp only [E.eval] at zb hh ⊢
    omega
  ·simp at h
 ·simp at h
theorem numEq_ok {tb : List Fact} (hT : ∀ f ∈ tb, f.holds Val.σ) : ∀ (f : Nat) {a b : E}, numEq tb f a b = true → a.eval Val.σ = b.eval Val.σ
 | 0, _, _, h => by simp [numEq] at h
 | f + 1, a, b, h => by
  unfold numEq at h
  simp only [Bool.or_eq_true] at h
  rcases h with h | h | h
  ·have := E.zero_ok Val.σ h
   simp only [E.eval] at this
   omega
  ·exact sumZero_ok hT h
  ·split at h
   ·simp only [Bool.and_eq_true] at h
    obtain rfl := Nat.eq_of_beq_eq_true h.1
    simp only [E.eval]
    rw [numEq_ok hT f h.2]
   ·simp only [Bool.and_eq_true] at h
    obtain rfl := Nat.eq_of_beq_eq_true h.1
    simp only [E.eval]
    rw [numEq_ok hT f h.2]
   ·simp only [Bool.and_eq_true, decide_eq_true_eq] at h
    have := numEq_ok hT f h.1
    simp only [E.eval] at this ⊢
    rw [this, h.2]
   ·simp only [Bool.and_eq_true, decide_eq_true_eq] at h
    have := numEq_ok hT f h.1
    simp only [E.eval] at this ⊢
    rw [this, h.2]
   ·simp at h
theorem cmpV_ok {tb : List Fact} (hT : ∀ f ∈ tb, f.holds Val.σ) {ρ : Nat → Option Nat} {φ₀ φ : Phi} (hφ : ∀ i a, ρ i = some a → φ₀ i = φ a) : ∀ (f : Nat) (v v' : AV), cmpV tb ρ f v v' = true → ∀ {x : Value}, VR φ v' x → VR φ₀ v x := by
 intro f
 induction f with
 | zero => intro v v' h; simp [cmpV] at h
 | succ f ih =>
  intro v v' h x hx
  have ih' : ∀ a b, cmpV tb ρ f a b = true → (fun p q => ∀ {x : Value}, VR φ q x → VR φ₀ p x) a b := fun a b hab => ih a b hab
  unfold cmpV at h
  split at h
  ·exact .junk _
  ·obtain rfl := of_decide_eq_true h; cases hx; exact .bool _
  ·simp only [Bool.and_eq_true, decide_eq_true_eq] at h; obtain ⟨rfl, rfl⟩ := h; cases hx; exact .int _ _
  ·split at h
   ·rename_i k l hh e v' k' l' h' e' ha
    simp only [Bool.and_eq_true, Bool.or_eq_true, decide_eq_true_eq] at h
    obtain ⟨rfl, he, hb⟩ := h
    obtain ⟨n, rfl, h1, h2, h3⟩ := asSym_vr ha hx
    have e1 : e.eval Val.σ = n := by rw [numEq_ok hT 8 he]; exact h1
    have hb2 : l ≤ n ∧ n ≤ hh := by
     obtain ⟨b1, b2⟩ := hb
     constructor
     ·rcases b1 with b1 | b1
      ·omega
      ·split at b1
       ·rename_i a b hr
        have := E.rng_ok Val.σ hr
        have := of_decide_eq_true b1
        omega
       ·simp at b1
     ·rcases b2 with b2 | b2
      ·omega
      ·split at b2
       ·rename_i a b hr
        have := E.rng_ok Val.σ hr
        have := of_decide_eq_true b2
        omega
       ·simp at b2
    exact .sym e1 hb2.1 hb2.2
   ·simp at h
  ·obtain rfl := of_decide_eq_true h; obtain ⟨n, rfl⟩ := hx.any_inv; exact .any _ _
  ·obtain rfl := of_decide_eq_true h; cases hx; exact .any _ _
  ·obtain rfl := of_decide_eq_true h; obtain ⟨n, rfl, _⟩ := hx.sym_inv; exact .any _ _
  ·obtain ⟨b, rfl⟩ := hx.anyb_inv; exact .anyb _
  ·cases hx; exact .anyb _
  ·obtain rfl := of_decide_eq_true h; cases hx; exact .str _
  ·cases hx; exact .nilp
  ·cases hx; exact .nils
  ·cases hx; exact .nilm
  ·cases hx; exact .nilf
  ·cases hx; exact .nili
  ·simp only [Bool.and_eq_true, decide_eq_true_eq] at h
   obtain ⟨h1, rfl⟩ := h
   cases hx with | ptr h' => exact .ptr ((hφ _ _ h1).trans h')
  ·simp only [Bool.and_eq_true, decide_eq_true_eq] at h
   obtain ⟨h1, rfl, rfl, rfl, rfl, rfl⟩ := h
   cases hx with | slice h' ho hl hc he hcs hz => exact .slice ((hφ _ _ h1).trans h') ho hl hc he hcs hz
  ·have h1 := of_decide_eq_true h
   cases hx with | map h' => exact .map ((hφ _ _ h1).trans h')
  ·simp only [Bool.and_eq_true, decide_eq_true_eq] at h
   obtain ⟨h1, e1, e2⟩ := h
   have z1 := E.zero_ok Val.σ e1
   have z2 := E.zero_ok Val.σ e2
   simp only [E.eval] at z1 z2
   rcases hx.vsl_inv with ⟨b, base, cs, o, n, c, h', hn, h0, ho, hcs, hc, rfl⟩ | ⟨hn, _, _, rfl⟩
   ·exact .vsl ((hφ _ _ h1).trans h') (show E.eval Val.σ _ = _ by omega) (show 0 ≤ E.eval Val.σ _ by omega) (show _ ∨ _ = _ + (E.eval Val.σ _).toNat by omega) hcs hc
   ·exact .vsln (show E.eval Val.σ _ = 0 by omega)
  ·simp only [Bool.and_eq_true, decide_eq_true_eq] at h
   obtain ⟨rfl, h1, h2⟩ := h
   obtain ⟨a1, a2⟩ := listB_ok ih' h1
   obtain ⟨b1, b2⟩ := listB_ok ih' h2
   cases hx with
   | fn hf z₁ k₁ z₂ k₂ =>
    cases hf
    exact .fn (.func _) (z₁.trans a1.symm) (fun i hi => a2 i hi (k₁ i (a1 ▸ hi))) (z₂.trans b1.symm) (fun i hi => b2 i hi (k₂ i (b1 ▸ hi)))
  ·simp only [Bool.and_eq_true, decide_eq_true_eq] at h
   obtain ⟨rfl, h1⟩ := h
   cases hx with | iface h' => exact .iface (ih _ _ h1 h')
  ·simp only [Bool.and_eq_true, decide_eq_true_eq] at h
   obtain ⟨rfl, rfl, h1⟩ := h
   have h2 := vecB_ok ih' h1
   cases hx with | agg hs hn h h1 => exact .agg hs hn (fun i hi => h2 i hi (h i hi)) h1
  ·obtain ⟨a1, a2⟩ := listB_ok ih' h
   cases hx with | tup hs' h' => exact .tup (hs'.trans a1.symm) (fun i hi => a2 i hi (h' i (a1 ▸ hi)))
  ·simp at h
theorem cmpO_ok {tb : List Fact} (hT : ∀ f ∈ tb, f.holds Val.σ) {ρ : Nat → Option Nat} {φ₀ φ : Phi} (hφ : ∀ i a, ρ i = some a → φ₀ i = φ a) {f : Nat} {o o' : AObj} (h : cmpO tb ρ f o o' = true) :
  o.alive = o'.alive ∧ o.isRaw = o'.isRaw ∧ ∀ {p : Nat × Nat × Nat} {ob : Option Obj}, OR φ o' p ob → OR φ₀ o p ob := by
 have ih' : ∀ a b, cmpV tb ρ f a b = true → (fun p q => ∀ {x : Value}, VR φ q x → VR φ₀ p x) a b := fun a b hab => cmpV_ok hT hφ f a b hab
 unfold cmpO at h
 split at h
 ·simp only [Bool.and_eq_true, decide_eq_true_eq] at h
  obtain ⟨rfl, rfl, h1⟩ := h
  have h2 := vecB_ok ih' h1
  refine ⟨rfl, rfl, fun {p ob} hx => ?_⟩
  obtain ⟨h1, h3, c, e, fz, h4, h5, h6, h7, h8⟩ := hx
  exact ⟨h1, h3, c, e, fz, h4, h5, h6, fun i hi => h2 i hi (h7 i hi), h8⟩
 ·simp only [Bool.and_eq_true, decide_eq_true_eq] at h
  obtain ⟨rfl, h1⟩ := h
  obtain ⟨e1, e2⟩ := entB_ok ih' h1
  refine ⟨rfl, rfl, fun {p ob} hx => ?_⟩
  obtain ⟨ents, h1, h2, h3⟩ := hx
  refine ⟨ents, h1, h2.trans e1.symm, fun i hi hi' => ?_⟩
  obtain ⟨k1, k2, k3⟩ := e2 i hi (e1 ▸ hi)
  have k := h3 i (e1 ▸ hi) hi'
  exact ⟨k1 k.key, k2 k.val, k3.trans k.born⟩
 ·simp only [Bool.and_eq_true, decide_eq_true_eq] at h
  obtain ⟨rfl, rfl⟩ := h
  exact ⟨rfl, rfl, fun {p ob} hx => hx⟩
 ·exact ⟨rfl, rfl, fun {p ob} _ => trivial⟩
 ·simp at h
end
theorem layL_out : ∀ {l : List (Nat × AObj)} {t : Tr AObj} {i : Nat}, i < 2 ^ HD → (∀ x ∈ l, x.1 < 2 ^ HD) → (∀ x ∈ l, x.1 ≠ i) → (layL l t).get HD i = t.get HD i
 | [], _, _, _, _, _ => rfl
 | (j, b) :: l, t, i, hi, hl, hn => by
  have h1 := layL_out (l := l) (t := t.set b HD j) hi (fun x hx => hl x (List.mem_cons_of_mem _ hx)) (fun x hx => hn x (List.mem_cons_of_mem _ hx))
  have h2 := hn (j, b) List.mem_cons_self
  show (layL l (t.set b HD j)).get HD i = _
  rw [h1, Tr.get_set_lt b t (hl _ List.mem_cons_self) hi, if_neg h2]
theorem layL_in : ∀ {l : List (Nat × AObj)} {t : Tr AObj} {i : Nat}, i < 2 ^ HD → (∀ x ∈ l, x.1 < 2 ^ HD) → (∃ o, (i, o) ∈ l) → ∃ o, (layL l t).get HD i = some o ∧ (i, o) ∈ l
 | [], _, _, _, _, ⟨_, h⟩ => by simp at h
 | (j, b) :: l, t, i, hi, hl, ⟨o, ho⟩ => by
  by_cases h : ∃ o, (i, o) ∈ l
  ·obtain ⟨o', h1, h2⟩ := layL_in (t := t.set b HD j) hi (fun x hx => hl x (List.mem_cons_of_mem _ hx)) h
   exact ⟨o', h1, List.mem_cons_of_mem _ h2⟩
  ·have hji : j = i := by
    rcases List.mem_cons.1 ho with e | e
    ·exact (Prod.mk.inj e).1.symm
    ·exact absurd ⟨o, e⟩ h
   subst hji
   refine ⟨b, ?_, List.mem_cons_self⟩
   show (layL l (t.set b HD j)).get HD j = _
   rw [layL_out hi (fun x hx => hl x (List.mem_cons_of_mem _ hx)) (fun x hx e => h ⟨x.2, by rw [← e]; exact hx⟩), Tr.get_set_lt b t (hl _ List.mem_cons_self) hi, if_pos rfl]
def nodupK : List (Nat × AObj) → Bool
 | [] => true
 | x :: l => (l.all fun y => !Nat.beq y.1 x.1) && nodupK l
theorem nodupK_ok : ∀ {l : List (Nat × AObj)}, nodupK l = true → ∀ {i : Nat} {o o' : AObj}, (i, o) ∈ l → (i, o') ∈ l → o = o'
 | [], _, _, _, _, h, _ => by simp at h
 | x :: l, h, i, o, o', h1, h2 => by
  simp only [nodupK, Bool.and_eq_true, List.all_eq_true, Bool.not_eq_true'] at h
  have hne : ∀ {o}, (i, o) ∈ l → x.1 ≠ i := fun hm e => by
   have := h.1 _ hm
   simp [e] at this
  rcases List.mem_cons.1 h1 with e1 | e1 <;> rcases List.mem_cons.1 h2 with e2 | e2
  ·rw [← e1] at e2; exact (Prod.mk.inj e2).2.symm
  ·exact absurd (by rw [← e1]) (hne e2)
  ·exact absurd (by rw [← e2]) (hne e1)
  ·exact nodupK_ok h.2 e1 e2
def Ent.finL (e : Ent) : List (Nat × AObj) := e.news ++ (e.outs ++ e.objs.filter fun x => !inL e.outs x.1)
def Ent.renR (e : Ent) (l : List (Nat × Nat)) (i : Nat) : Option Nat := bif Nat.blt i e.nx then some i else lookL l i
def Ent.outR (e : Ent) (l : List (Nat × Nat)) (v : AV) (h' : H) : Bool :=
 (l.all fun x => Nat.ble e.nx x.1 && (Nat.blt x.1 h'.nx && (Nat.ble e.nx x.2 && (Nat.blt x.2 h'.nx && inL e.news x.1)))) && (apartB l && (nodupK e.finL &&
 ((e.news.all fun x => match e.renR l x.1 with | some a => (match h'.get a with | some o => cmpO h'.tb (e.renR l) 8 x.2 o && objB some 8 x.2 x.2 | none => false) | none => false) &&
 ((e.objs.all fun x => inL e.outs x.1 || match h'.get x.1 with | some o => cmpO h'.tb (e.renR l) 8 x.2 o && objB some 8 x.2 x.2 | none => false) &&
 ((e.outs.all fun x => match h'.get x.1 with | some o => cmpO h'.tb (e.renR l) 8 x.2 o && (dobjB some 8 x.2 x.2 && (dobjB some 8 o o && e.objs.all fun y => !Nat.beq y.1 x.1 || diffO y.2 o)) | none => false) &&
 ((List.range e.nx).all (fun i => inL e.objs i || (h'.get i).isNone) && (cmpV h'.tb (e.renR l) 8 e.ret v && renB some 8 e.ret e.ret)))))))
def Ent.heapT (e : Ent) (tb : List Fact) : H := ⟨e.nx, layL e.objs .e, [], tb⟩
def Ent.hC (e : Ent) (h' : H) : H := ⟨h'.nx, layL e.finL h'.t, [], h'.tb⟩
section
variable [Val]
theorem DRen.back {ρ : Nat → Option Nat} {φ₀ φ : Phi} (hφ : ∀ i a, ρ i = some a → φ₀ i = φ a) {o₀ o : AObj} (h : DRen ρ o₀ o) {p : Nat × Nat × Nat} {ob : Option Obj} (hx : OR φ o p ob) : OR φ₀ o₀ p ob := by
 rcases h with h | ⟨rfl, _⟩
 ·exact h.back hφ hx
 ·trivial
omit [Val] in
theorem DRen.alive_eq {ρ : Nat → Option Nat} {o₀ o : AObj} (h : DRen ρ o₀ o) : o₀.alive = o.alive := by
 rcases h with h | ⟨rfl, rfl⟩
 ·rw [h.alive₀, h.alive]
 ·rfl
theorem Ent.outR_ok {G : Nat} {e : Ent} (st : e.Static G) {l : List (Nat × Nat)} {v : AV} {h' : H} (h : e.outR l v h' = true) {tb : List Fact} {φ φ' : Phi} {w w' : World} (hr0 : HR G φ (e.heapT tb) w) {v' : Value} (hv : VR φ' v v') (hr : HR G φ' h' w') (hp : Post φ (e.heapT tb) w φ' h' w') :
  e.Out e.ret (e.hC h') ∧ VR (phiOf (e.renR l) φ') e.ret v' ∧ HR G (phiOf (e.renR l) φ') (e.hC h') w' ∧ Post φ (e.heapT tb) w (phiOf (e.renR l) φ') (e.hC h') w' := by
 unfold Ent.outR at h
 simp only [Bool.and_eq_true, List.all_eq_true] at h
 obtain ⟨c1, c2, c3, c4, c5, c6, c7, c8, c9⟩ := h
 have c1 : ∀ i a, (i, a) ∈ l → e.nx ≤ i ∧ i < h'.nx ∧ e.nx ≤ a ∧ a < h'.nx ∧ inL e.news i = true := fun i a hm => by
  obtain ⟨k1, k2, k3, k4, k5⟩ := c1 _ hm
  exact ⟨ble_le k1, blt_lt k2, ble_le k3, blt_lt k4, k5⟩
 have hnx : e.nx ≤ h'.nx := hp.nx
 have hHD := hr.nx
 have ρlt : ∀ i, i < e.nx → e.renR l i = some i := fun i hi => by
  unfold Ent.renR
  have : Nat.blt i e.nx = true := by unfold Nat.blt; exact Nat.ble_eq_true_of_le hi
  rw [this]; rfl
 have ρge : ∀ i a, ¬ i < e.nx → e.renR l i = some a → (i, a) ∈ l := fun i a hi ha => by
  unfold Ent.renR at ha
  have : Nat.blt i e.nx = false := by
   cases hb : Nat.blt i e.nx with
   | false => rfl
   | true => exact absurd (blt_lt hb) hi
  rw [this] at ha
  exact lookL_mem ha
 have ρdom : ∀ i a, e.renR l i = some a → i < h'.nx ∧ (i < e.nx ↔ a < e.nx) ∧ (i < e.nx → i = a) := fun i a ha => by
  by_cases hi : i < e.nx
  ·have := ρlt i hi
   rw [this] at ha
   obtain rfl := Option.some.inj ha
   exact ⟨by omega, Iff.rfl, fun _ => rfl⟩
  ·have := c1 i a (ρge i a hi ha)
   exact ⟨this.2.1, ⟨fun h => absurd h hi, fun h => by omega⟩, fun h => absurd h hi⟩
 have ρinj : ∀ i j a, e.renR l i = some a → e.renR l j = some a → i = j := fun i j a hi hj => by
  by_cases ki : i < e.nx
  ·have e1 := (ρdom i a hi).2.2 ki
   have e2 := (ρdom j a hj).2
   rw [← e1] at e2
   exact (e2.2 (e2.1.2 ki)).symm
  ·have kj : ¬ j < e.nx := fun hj' => by
    have e2 := (ρdom j a hj).2.2 hj'
    have := (ρdom i a hi).2.1
    omega
   exact apartB_ok c2 i j a (ρge i a ki hi) (ρge j a kj hj)
 have hsome : ∀ i p, phiOf (e.renR l) φ' i = some p → ∃ a, e.renR l i = some a ∧ φ' a = some p := by
  intro i p hp
  cases ea : e.renR l i with
  | none => simp [phiOf, ea] at hp
  | some a => exact ⟨a, rfl, by simpa [phiOf, ea] using hp⟩
 have hφ : ∀ i a, e.renR l i = some a → phiOf (e.renR l) φ' i = φ' a := fun i a hi => phiOf_some hi
 have mem : ∀ x, x ∈ e.finL ↔ x ∈ e.news ∨ x ∈ e.outs ∨ (x ∈ e.objs ∧ inL e.outs x.1 = false) := fun x => by
  unfold Ent.finL
  simp only [List.mem_append, List.mem_filter, Bool.not_eq_true']
 have each : ∀ x, x ∈ e.finL → ∃ a o, e.renR l x.1 = some a ∧ h'.get a = some o ∧ cmpO h'.tb (e.renR l) 8 x.2 o = true := fun x hx => by
  rcases (mem x).1 hx with k | k | ⟨k, k'⟩
  ·have := c4 x k
   split at this
   ·rename_i a ha
    split at this
    ·rename_i o ho
     simp only [Bool.and_eq_true] at this
     exact ⟨a, o, ha, ho, this.1⟩
    ·simp at this
   ·simp at this
  ·have := c6 x k
   split at this
   ·rename_i o ho
    simp only [Bool.and_eq_true] at this
    obtain ⟨⟨y, hy, ey⟩, _⟩ := st.dif x k
    exact ⟨x.1, o, ρlt _ (by rw [← ey]; exact (st.keys y hy).2), ho, this.1⟩
   ·simp at this
  ·have := c5 x k
   rw [k', Bool.false_or] at this
   split at this
   ·rename_i o ho
    simp only [Bool.and_eq_true] at this
    exact ⟨x.1, o, ρlt _ (st.keys x k).2, ho, this.1⟩
   ·simp at this
 have keyLt : ∀ x, x ∈ e.finL → x.1 < h'.nx := fun x hx => by
  obtain ⟨a, o, ha, _⟩ := each x hx
  exact (ρdom _ _ ha).1
 have keyHD : ∀ x, x ∈ e.finL → x.1 < 2 ^ HD := fun x hx => Nat.lt_of_lt_of_le (keyLt x hx) hHD
 have inObjs : ∀ i, inL e.objs i = true → ∃ o, (i, o) ∈ e.finL := fun i hi => by
  obtain ⟨x, hx, rfl⟩ := inL_iff.1 hi
  cases ho : inL e.outs x.1 with
  | true =>
   obtain ⟨y, hy, ey⟩ := inL_iff.1 ho
   exact ⟨y.2, (mem _).2 (.inr (.inl (by rw [← ey]; exact hy)))⟩
  | false => exact ⟨x.2, (mem _).2 (.inr (.inr ⟨hx, ho⟩))⟩
 have key : ∀ i o p, (e.hC h').get i = some o → phiOf (e.renR l) φ' i = some p → ∃ a o', e.renR l i = some a ∧ h'.get a = some o' ∧ (o.alive = o'.alive ∧ o.isRaw = o'.isRaw ∧ ∀ {p : Nat × Nat × Nat} {ob : Option Obj}, OR φ' o' p ob → OR (phiOf (e.renR l) φ') o p ob) ∧ φ' a = some p := by
  intro i o p hg hpp
  obtain ⟨a, ha, hpa⟩ := hsome i p hpp
  have hi := (ρdom i a ha).1
  have hin : ∃ o, (i, o) ∈ e.finL := by
   by_cases k : i < e.nx
   ·have := c7 i (List.mem_range.2 k)
    rw [Bool.or_eq_true] at this
    rcases this with k2 | k2
    ·exact inObjs i k2
    ·by_cases hk : ∃ o, (i, o) ∈ e.finL
     ·exact hk
     ·exfalso
      have h1 : (e.hC h').get i = h'.get i := layL_out (Nat.lt_of_lt_of_le hi hHD) keyHD (fun x hx ee => hk ⟨x.2, by rw [← ee]; exact hx⟩)
      rw [h1] at hg
      rw [hg] at k2
      simp at k2
   ·obtain ⟨x, hx, ex⟩ := inL_iff.1 (c1 i a (ρge i a k ha)).2.2.2.2
    exact ⟨x.2, (mem _).2 (.inl (by rw [← ex]; exact hx))⟩
  obtain ⟨o', h1, h2⟩ := layL_in (t := h'.t) (Nat.lt_of_lt_of_le hi hHD) keyHD hin
  have h1 : (e.hC h').get i = some o' := h1
  rw [h1] at hg
  obtain rfl := Option.some.inj hg
  obtain ⟨a', o2, e1, e2, e3⟩ := each _ h2
  obtain rfl := Option.some.inj (ha.symm.trans e1)
  exact ⟨a, o2, ha, e2, cmpO_ok hr.fct hφ e3, hpa⟩
 have own : ∀ b, Owned (phiOf (e.renR l) φ') (e.hC h') b → Owned φ' h' b := by
  rintro b ⟨i, o, p, hg, hraw, hpp, rfl⟩
  obtain ⟨a, o', _, h2, h3, h4⟩ := key i o p hg hpp
  exact ⟨a, o', p, h2, by rw [← h3.2.1]; exact hraw, h4, rfl⟩
 have getL : ∀ x, x ∈ e.finL → (e.hC h').get x.1 = some x.2 := fun x hx => by
  obtain ⟨o, h1, h2⟩ := layL_in (t := h'.t) (keyHD x hx) keyHD ⟨x.2, hx⟩
  obtain rfl := nodupK_ok c3 h2 hx
  exact h1
 refine ⟨⟨renB_ok 8 _ _ c9, fun x hx ho => ?_, fun x hx => ?_, fun x hx => ?_⟩, cmpV_ok hr.fct hφ 8 _ _ c8 hv, ⟨⟨fun i p hpp => ?_, fun i hi hge => ?_, hHD, fun g hg => ?_, fun i j oi oj p q hi hj ai aj hpp hq hpq => ?_, fun i o p hg hpp => ?_⟩, fun g off k n ht => ?_, fun x hx => absurd hx (by simp [Ent.hC]), fun x hx => absurd hx (by simp [Ent.hC]), hr.rog, hr.fct⟩,
  ⟨fun i p hi => ?_, hp.size, hp.os, hp.tape, hp.out, hp.nx, fun b hb hn => ?_, fun i hi hn => ?_, hp.elem, fun x hx => absurd hx (by simp [Ent.hC]), hp.tb, fun i o p hg hpp hlt => ?_⟩⟩
 ·refine ⟨x.2, getL x ((mem x).2 (.inr (.inr ⟨hx, ho⟩))), ?_⟩
  have := c5 x hx
  rw [ho, Bool.false_or] at this
  split at this
  ·simp only [Bool.and_eq_true] at this; exact objB_ok this.2
  ·simp at this
 ·refine ⟨x.2, getL x ((mem x).2 (.inl hx)), ?_⟩
  have := c4 x hx
  split at this
  ·split at this
   ·simp only [Bool.and_eq_true] at this; exact objB_ok this.2
   ·simp at this
  ·simp at this
 ·refine ⟨x.2, getL x ((mem x).2 (.inr (.inl hx))), ?_⟩
  have := c6 x hx
  split at this
  ·simp only [Bool.and_eq_true] at this; exact dobjB_ok this.2.1
  ·simp at this
 ·obtain ⟨a, ha, hpa⟩ := hsome i p hpp
  exact ⟨(ρdom i a ha).1, (hr.dom a p hpa).2⟩
 ·have h1 : (e.hC h').get i = h'.get i := layL_out hi keyHD (fun x hx ee => by have h2 : h'.nx ≤ i := hge; have := keyLt x hx; omega)
  rw [h1]; exact hr.lt i hi hge
 ·obtain ⟨cs, hc⟩ := hr.glob g hg
  exact ⟨cs, by rw [hφ g g (ρlt g (Nat.lt_of_lt_of_le hg st.G))]; exact hc⟩
 ·obtain ⟨a, oa, e1, e2, e3, e4⟩ := key i oi p hi hpp
  obtain ⟨b, ob, f1, f2, f3, f4⟩ := key j oj q hj hq
  rcases hr.inj a b oa ob p q e2 f2 (by rw [← e3.1]; exact ai) (by rw [← f3.1]; exact aj) e4 f4 hpq with rfl | ⟨x1, x2⟩
  ·exact .inl (ρinj i j a e1 f1)
  ·exact .inr ⟨by rw [e3.2.1]; exact x1, by rw [f3.2.1]; exact x2⟩
 ·obtain ⟨a, oa, e1, e2, e3, e4⟩ := key i o p hg hpp
  exact e3.2.2 (hr.obj a oa p e2 e4)
 ·obtain ⟨⟨cs, h1⟩, h2, h3⟩ := hr.ro g off k n ht
  exact ⟨⟨cs, by rw [hφ g g (ρlt g (Nat.lt_of_lt_of_le (hr.rog g off _ ht) st.G))]; exact h1⟩, fun ho => h2 (own g ho), h3⟩
 ·rw [hφ i i (ρlt i (hr0.dom i p hi).1)]
  exact hp.le _ _ hi
 ·exact ⟨(hp.keep b hb hn).1, fun ho => (hp.keep b hb hn).2 (own b ho)⟩
 ·obtain ⟨u1, u2⟩ := hp.unt i hi hn
  have hi : i < e.nx := hi
  have hHD' : i < 2 ^ HD := by omega
  refine ⟨?_, by rw [hφ i i (ρlt i hi)]; exact u2⟩
  by_cases hk : ∃ o, (i, o) ∈ e.finL
  ·obtain ⟨o, ho⟩ := hk
   have g1 := getL _ ho
   rcases (mem _).1 ho with k | k | ⟨k, k'⟩
   ·have := st.news _ k; omega
   ·exfalso
    have := c6 _ k
    split at this
    ·rename_i o2 ho2
     simp only [Bool.and_eq_true, List.all_eq_true] at this
     obtain ⟨⟨y, hy, ey⟩, _⟩ := st.dif _ k
     rw [u1] at ho2
     have hm := Ent.heap_get st hHD' (show e.heap.get i = some o2 from ho2)
     have hd := this.2.2.2 _ hm
     simp only [Nat.beq_refl, Bool.not_true, Bool.false_or] at hd
     exact diffO_ok hd (dobjB_ok this.2.2.1) rfl
    ·simp at this
   ·rw [g1]
    obtain ⟨o2, q1, q2⟩ := layL_has (t := .e) (fun q hq => Nat.lt_of_lt_of_le (st.keys q hq).2 st.nx) k
    have : (i, o2) ∈ e.finL := (mem _).2 (.inr (.inr ⟨q1, k'⟩))
    obtain rfl := nodupK_ok c3 this ho
    exact q2.symm
  ·have h1 : (e.hC h').get i = h'.get i := layL_out hHD' keyHD (fun x hx ee => hk ⟨x.2, by rw [← ee]; exact hx⟩)
   rw [h1]; exact u1
 ·obtain ⟨a, oa, e1, e2, e3, e4⟩ := key i o p hg hpp
  rcases hp.frs a oa p e2 e4 hlt with ⟨o₀, k1, k2⟩ | k
  ·have ha : a < e.nx := (hr0.dom a p k2).1
   have hi := (ρdom i a e1).2.1.2 ha
   have := (ρdom i a e1).2.2 hi
   subst this
   exact .inl ⟨o₀, k1, k2⟩
  ·exact .inr k
end
inductive FCert where
 | go (n : Nat) (c : FCert)
 | split (f : Fact) (a b : FCert)
 | pick (k : Nat) (c : Nat → FCert)
 | absurd (i : Nat)
 | never (a : E)
 | fin
 | ren (l : List (Nat × Nat))
def sel (l : List FCert) (i : Nat) : FCert := match l, i with
 | [], _ => .fin
 | c :: _, 0 => c
 | _ :: l, i + 1 => sel l i
section
variable (P : Program) (cl : CallFn) (rn : RoundFn) (dc : DeferFn)
def candC (fi : FI) (body : Code) (K : List CI) (s : S) : Option Nat :=
 match K with
 | .code p :: _ => match codeAt p body with
  | some (.region _ ops false) => match ops.toList with
   | o :: _ => match o.op, wantedA ops.toList fi s.regs o with
    | .next it false, some true => (candL (ev fi s.regs it) s.h).map (·.length)
    | _, _ => none
   | [] => none
  | _ => none
 | _ => none
def stepJ (fi : FI) (body : Code) (j : Nat) (K : List CI) (s : S) : Option (List CI × S) :=
 match K with
 | .code p :: K => match codeAt p body with
  | some (.region _ ops false) => match ops.toList with
   | o :: rest => match o.op, wantedA ops.toList fi s.regs o with
    | .next it false, some true => match nextJ j (ev fi s.regs it) s.h with
     | some (v, h) => match runOps P cl rn ops.toList fi rest { s with regs := putReg fi s.regs o.dst v, h } with
      | some (.nor s') => bif s'.u.isNormal then some (K, s') else none
      | _ => none
     | none => none
    | _, _ => none
   | [] => none
  | _ => none
 | _ => none
def endC (body : Code) (K : List CI) : Bool := match K with
 | [] => true
 | .code p :: _ => (match codeAt p body with | some .ret => true | _ => false)
 | _ => false
def finF (e : Ent) (fi : FI) (fn : Func) (body : Code) (K : List CI) (s : S) : Bool := endC body K && (match leaveA P dc fi fn s.df .returning s with
 | some (.ret v, h') => e.outB v h'
 | _ => false)
def finR (e : Ent) (l : List (Nat × Nat)) (fi : FI) (fn : Func) (body : Code) (K : List CI) (s : S) : Bool := endC body K && (match leaveA P dc fi fn s.df .returning s with
 | some (.ret v, h') => e.outR l v h'
 | _ => false)
def chkF (e : Ent) (fi : FI) (fn : Func) (body : Code) : FCert → List CI → S → Bool
 | .go n c, K, s => match iterC P cl rn fi body n K s with
  | some (K', s') => chkF e fi fn body c K' s'
  | none => false
 | .split f a b, K, s => chkF e fi fn body a K (s.with ⟨f.eq, f.a, f.b, true⟩) && chkF e fi fn body b K (s.with ⟨f.eq, f.a, f.b, false⟩)
 | .pick k c, K, s => (match candC fi body K s with | some m => Nat.beq m k | none => false) && (List.range k).all fun j => match stepJ P cl rn fi body j K s with
  | some (K', s') => chkF e fi fn body (c j) K' s'
  | none => false
 | .absurd i, _, s => match pickF s.h.tb i with
  | some f => match f.a.rng, f.b.rng with
   | some (l₁, h₁), some (l₂, h₂) => match (bif f.eq then symEq (dropI s.h.tb i) l₁ h₁ f.a l₂ h₂ f.b else symLt (dropI s.h.tb i) l₁ h₁ f.a l₂ h₂ f.b) with
    | some v => v != f.v
    | none => false
   | _, _ => false
  | none => false
 | .never a, _, s => Go.Ab.never a s.h.tb
 | .fin, K, s => finF P dc e fi fn body K s
 | .ren l, K, s => finR P dc e l fi fn body K s
end
def GoalF (P : Program) (e : Ent) (c : Frame) (cs : List Frame) (φ : Phi) (h : H) (w : World) (m : Machine) [Val] : Prop :=
 ∃ v h', e.Out v h' ∧ ∃ φ' v' w', VR φ' v v' ∧ HR P.globals.size φ' h' w' ∧ Post φ h w φ' h' w' ∧ Steps P m (lone (c.finish v') cs w')
section
variable [Val] {P : Program} {cl : CallFn} {rn : RoundFn} {dc : DeferFn} {e : Ent} {c : Frame} {cs : List Frame}
theorem GoalF.pre {φ φ₁ : Phi} {h h₁ : H} {w w₁ : World} {m m' : Machine} (hs : Steps P m m') (hp : Post φ h w φ₁ h₁ w₁) (hg : GoalF P e c cs φ₁ h₁ w₁ m') : GoalF P e c cs φ h w m := by
 obtain ⟨v, h', h1, φ', v', w', h2, h3, h4, h5⟩ := hg
 exact ⟨v, h', h1, φ', v', w', h2, h3, hp.trans h4, hs.trans h5⟩
theorem GoalF.steps {φ : Phi} {h : H} {w : World} {m m' : Machine} (hs : Steps P m m') (hg : GoalF P e c cs φ h w m') : GoalF P e c cs φ h w m := by
 obtain ⟨v, h', h1, φ', v', w', h2, h3, h4, h5⟩ := hg
 exact ⟨v, h', h1, φ', v', w', h2, h3, h4, hs.trans h5⟩
theorem GoalF.drop {φ : Phi} {h : H} {w : World} {m : Machine} {f : Fact} (hg : GoalF P e c cs φ ⟨h.nx, h.t, h.ty, f :: h.tb⟩ w m) : GoalF P e c cs φ h w m := by
 obtain ⟨v, h', h1, φ', v', w', h2, h3, h4, h5⟩ := hg
 refine ⟨v, ⟨h'.nx, h'.t, h'.ty, h.tb⟩, ⟨h1.ret, h1.obj, h1.new, h1.out⟩, φ', v', w', h2, ?_, ?_, h5⟩
 ·refine ⟨⟨h3.dom, h3.lt, h3.nx, h3.glob, h3.inj, h3.obj⟩, h3.ro, h3.typ, h3.tlt, h3.rog, fun g hg => h3.fct g ?_⟩
  rw [h4.tb]
  exact List.mem_cons_of_mem _ hg
 ·exact ⟨h4.le, h4.size, h4.os, h4.tape, h4.out, h4.nx, h4.keep, h4.unt, h4.elem, h4.tys, rfl, h4.frs⟩
theorem stepJ_ok (hcl : CallSim P P.globals.size cl) (hrn : RoundSim P P.globals.size rn) {fi : FI} {body : Code} {K : List CI} {s : S} {k : Nat} (hk : candC fi body K s = some k)
  {b : Frame} (hro : b.roundOf = none) {φ : Phi} {tmps : Array Value} {df : List Deferred} {cs : List Frame} {w : World} (hs : SR P.globals.size φ fi s b tmps df cs cs w) :
  ∃ j, j < k ∧ ∀ K' s', stepJ P cl rn fi body j K s = some (K', s') → ∃ φ' tmps' df' w', SR P.globals.size φ' fi s' b tmps' df' cs cs w' ∧ s'.u = .normal ∧ Post φ s.h w φ' s'.h w' ∧
   Steps P (lone (mkF b tmps df (K.map (toI body))) cs w) (lone (mkF b tmps' df' (K'.map (toI body))) cs w') := by
 unfold candC at hk
 split at hk
 ·rename_i p K
  split at hk
  ·rename_i id ops hcode
   split at hk
   ·rename_i o rest hops
    split at hk
    ·rename_i it hit hwa
     cases hcl' : candL (ev fi s.regs it) s.h with
     | none => rw [hcl'] at hk; simp at hk
     | some l =>
      rw [hcl'] at hk
      simp only [Option.map_some, Option.some.injEq] at hk
      subst hk
      have hx := hs.eval df (.inRegion ops (List.range ops.size) :: K.map (toI body)) it
      obtain ⟨j, hj, hall⟩ := nextJ_ok (P := P) hs.hr hcl' hx o.type
      refine ⟨j, hj, fun K' s' hst => ?_⟩
      unfold stepJ at hst
      simp only [hcode, hops, hit] at hst
      rw [hops] at hwa
      simp only [hwa] at hst
      split at hst
      ·rename_i v h2 hnj
       obtain ⟨v', w', hrun, hv, hhr, hp⟩ := hall v h2 hnj
       split at hst
       ·rename_i s2 hro2
        cases hu : s2.u.isNormal with
        | false => rw [hu] at hst; simp at hst
        | true =>
         rw [hu] at hst
         simp only [cond_true, Option.some.injEq, Prod.mk.injEq] at hst
         obtain ⟨rfl, rfl⟩ := hst
         have hu2 := AMode.isNormal_ok hu
         have hp0 : toC body p = .region id ops false := by unfold toC; rw [hcode]; rfl
         have hmap := range_map ops
         rw [hops] at hmap
         obtain ⟨i, is, his⟩ : ∃ i is, List.range ops.size = i :: is := by
          cases hr : List.range ops.size with
          | nil => rw [hr] at hmap; simp at hmap
          | cons i is => exact ⟨i, is, rfl⟩
         rw [his] at hmap hrun
         simp only [List.map_cons, List.cons.injEq] at hmap
         obtain ⟨ho, hmap⟩ := hmap
         have hwa2 := wantedA_ok (ops := ops) hs.rr (o := o) (r := true) (by rw [hops]; exact hwa)
         have hnd : ∀ c, o.op ≠ .defer c := fun c e => by rw [hit] at e; cases e
         have hst1 : step P (lone (mkF b tmps df (.inRegion ops (i :: is) :: K.map (toI body))) cs w) = .next (lone (mkF b (putT o.dst v' tmps) df (.inRegion ops is :: K.map (toI body))) cs w') := by
          refine step_lone_go ?_
          rw [stepG_op' ho hwa2 (.inl hro), ← mkF_finish' ho]
          simp [stepG.apply, execOp_next hit hrun]
         have hs2 : SR P.globals.size φ fi { s with regs := putReg fi s.regs o.dst v, h := h2 } b (putT o.dst v' tmps) df cs cs w' := ⟨hhr, putT_rel hs.rr o.dst hv, hs.dr, hs.ur, hs.fG⟩
         have harr := runOps_sim (b := b) (k := K.map (toI body)) hcl hrn is rest _ _ φ _ df cs w' hmap (by rw [hops]; exact hro2) hs2
         obtain ⟨φ3, t3, d3, c3, w3, g1, g2, g3⟩ := harr
         have hcs : c3 = cs := by
          have := g1.ur
          rw [hu2] at this
          cases this with
          | normal _ _ => rfl
          | deferred _ _ _ hm => cases hm
         subst hcs
         refine ⟨φ3, t3, d3, w3, g1, hu2, hp.trans g2, ?_⟩
         simp only [List.map_cons, toI, hp0]
         refine Steps.trans (.one step_region') ?_
         rw [his]
         exact Steps.trans (.one hst1) g3
       ·simp at hst
      ·simp at hst
    ·simp at hk
   ·simp at hk
  ·simp at hk
 ·simp at hk
theorem chkF_ok (hcl : CallSim P P.globals.size cl) (hrn : RoundSim P P.globals.size rn) (hdr : DrawSim P P.globals.size cl rn) (hdc : DeferSim P P.globals.size dc) {fi : FI} {f : FuncId} {fn : Func} (hf : P.funcs[f]? = some fn) {body : Code} {b : Frame}
  (hb : b = { (default : Frame) with fn := f, kind := .normal }) (st : e.Static P.globals.size) {φ0 : Phi} {w0 : World} : ∀ (x : FCert) (K : List CI) (s : S), chkF P cl rn dc e fi fn body x K s = true → s.u = .normal →
  ∀ (φ : Phi) (tmps : Array Value) (df : List Deferred) (w : World), SR P.globals.size φ fi s b tmps df (c :: cs) (c :: cs) w → HR P.globals.size φ0 (e.heapT s.h.tb) w0 → Post φ0 (e.heapT s.h.tb) w0 φ s.h w →
  GoalF P e c cs φ0 (e.heapT s.h.tb) w0 (lone (mkF b tmps df (K.map (toI body))) (c :: cs) w) := by
 have hro : b.roundOf = none := by subst hb; rfl
 intro x
 induction x with
 | go n x ih =>
  intro K s h hn φ tmps df w hs hr0 hp0
  simp only [chkF] at h
  split at h
  ·rename_i K' s' hit
   obtain ⟨φ', t', d', w', a1, a2, a3, a4⟩ := iterC_ok hcl hrn hdr hro n hit hn hs
   have hq := ih K' s' h a2 φ' t' d' w' a1 (by rw [a3.tb]; exact hr0) (by rw [a3.tb]; exact hp0.trans a3)
   rw [a3.tb] at hq
   exact GoalF.steps a4 hq
  ·simp at h
 | split g x y ihx ihy =>
  intro K s h hn φ tmps df w hs hr0 hp0
  simp only [chkF, Bool.and_eq_true] at h
  rcases Fact.em Val.σ g.eq g.a g.b with hg | hg
  all_goals
   have hh := fun f (hf : f.holds Val.σ) => (⟨⟨hr0.dom, hr0.lt, hr0.nx, hr0.glob, hr0.inj, hr0.obj⟩, hr0.ro, hr0.typ, hr0.tlt, hr0.rog, holds_cons hf hr0.fct⟩ : HR P.globals.size φ0 (e.heapT (f :: s.h.tb)) w0)
   have hq := fun f => (⟨hp0.le, hp0.size, hp0.os, hp0.tape, hp0.out, hp0.nx, hp0.keep, hp0.unt, hp0.elem, hp0.tys, rfl, hp0.frs⟩ : Post φ0 (e.heapT (f :: s.h.tb)) w0 φ (s.with f).h w)
  ·exact (ihx K _ h.1 hn φ tmps df w (hs.with hg) (hh _ hg) (hq _)).drop
  ·exact (ihy K _ h.2 hn φ tmps df w (hs.with hg) (hh _ hg) (hq _)).drop
 | pick k x ih =>
  intro K s h hn φ tmps df w hs hr0 hp0
  simp only [chkF, Bool.and_eq_true, List.all_eq_true, List.mem_range] at h
  obtain ⟨h1, h2⟩ := h
  split at h1
  ·rename_i m hm
   obtain rfl := Nat.eq_of_beq_eq_true h1
   obtain ⟨j, hj, hall⟩ := stepJ_ok hcl hrn hm hro hs
   have h3 := h2 j hj
   split at h3
   ·rename_i K' s' hst
    obtain ⟨φ', t', d', w', a1, a2, a3, a4⟩ := hall K' s' hst
    have hq := ih j K' s' h3 a2 φ' t' d' w' a1 (by rw [a3.tb]; exact hr0) (by rw [a3.tb]; exact hp0.trans a3)
    rw [a3.tb] at hq
    exact GoalF.steps a4 hq
   ·simp at h3
  ·simp at h1
 | absurd i =>
  intro K s h hn φ tmps df w hs hr0 hp0
  simp only [chkF] at h
  split at h
  ·rename_i g hg
   have hh := hs.hr.fct g (pickF_mem hg)
   have hT' : ∀ g ∈ dropI s.h.tb i, g.holds Val.σ := fun g hg => hs.hr.fct g (dropI_sub hg)
   exfalso
   split at h
   ·rename_i l₁ h₁ l₂ h₂ r1 r2
    have b1 := E.rng_ok Val.σ r1
    have b2 := E.rng_ok Val.σ r2
    unfold Fact.holds at hh
    cases he : g.eq with
    | true =>
     rw [he] at h hh
     simp only [cond_true] at h hh
     split at h
     ·rename_i v hv
      have := symEq_ok Val.σ hT' hv rfl b1.1 b1.2 rfl b2.1 b2.2
      rw [hh] at this
      rw [this] at h
      simp at h
     ·simp at h
    | false =>
     rw [he] at h hh
     simp only [cond_false] at h hh
     split at h
     ·rename_i v hv
      have := symLt_ok Val.σ hT' hv rfl b1.1 b1.2 rfl b2.1 b2.2
      rw [hh] at this
      rw [this] at h
      simp at h
     ·simp at h
   ·simp at h
  ·simp at h
 | never a =>
  intro K s h hn φ tmps df w hs hr0 hp0
  simp only [chkF] at h
  exact (never_ok h fun g hg => hs.hr.fct g hg).elim
 | fin =>
  intro K s h hn φ tmps df w hs hr0 hp0
  simp only [chkF, finF, Bool.and_eq_true] at h
  obtain ⟨h1, h2⟩ := h
  have hret : Steps P (lone (mkF b tmps df (K.map (toI body))) (c :: cs) w) (lone { mkF b tmps df (K.map (toI body)) with mode := .returning } (c :: cs) w) := by
   unfold endC at h1
   split at h1
   ·exact .one (stp_end (by subst hb; rfl))
   ·rename_i p K
    split at h1
    ·rename_i e
     have : toC body p = .ret := by unfold toC; rw [e]; rfl
     simp only [List.map_cons, toI, this]
     exact .one (stp_ret (by subst hb; rfl))
    ·simp at h1
   ·simp at h1
  split at h2
  ·rename_i v h' hl
   have := leave_sim (P := P) (todo := K.map (toI body)) (cs := c :: cs) (b := b) hdc hs.fG s.df .returning s _ h' hl φ df .returning w hs.hr hs.rr hs.dr .returning
   obtain ⟨φ', v', w', hv, hr', hp', hst, hres⟩ := this
   refine ⟨v, h', Ent.outB_ok h2, φ', v', w', hv, hr', hp0.trans hp', hret.trans (hst.trans (.one (step_leave_returned ?_)))⟩
   subst hb
   exact ⟨rfl, rfl, rfl, fn, hf, hres⟩
  ·simp at h2
 | ren l =>
  intro K s h hn φ tmps df w hs hr0 hp0
  simp only [chkF, finR, Bool.and_eq_true] at h
  obtain ⟨h1, h2⟩ := h
  have hret : Steps P (lone (mkF b tmps df (K.map (toI body))) (c :: cs) w) (lone { mkF b tmps df (K.map (toI body)) with mode := .returning } (c :: cs) w) := by
   unfold endC at h1
   split at h1
   ·exact .one (stp_end (by subst hb; rfl))
   ·rename_i p K
    split at h1
    ·rename_i e
     have : toC body p = .ret := by unfold toC; rw [e]; rfl
     simp only [List.map_cons, toI, this]
     exact .one (stp_ret (by subst hb; rfl))
    ·simp at h1
   ·simp at h1
  split at h2
  ·rename_i v h' hl
   have := leave_sim (P := P) (todo := K.map (toI body)) (cs := c :: cs) (b := b) hdc hs.fG s.df .returning s _ h' hl φ df .returning w hs.hr hs.rr hs.dr .returning
   obtain ⟨φ', v', w', hv, hr', hp', hst, hres⟩ := this
   obtain ⟨o1, o2, o3, o4⟩ := Ent.outR_ok st h2 hr0 hv hr' (hp0.trans hp')
   refine ⟨e.ret, _, o1, _, v', w', o2, o3, o4, hret.trans (hst.trans (.one (step_leave_returned ?_)))⟩
   subst hb
   exact ⟨rfl, rfl, rfl, fn, hf, hres⟩
  ·simp at h2
end
def Ent.okF (P : Program) (kn : Known) (e : Ent) (G fuel n : Nat) (x : FCert) : Bool := e.staticB G && (match P.funcs[e.f]? with
 | some fn => match fn.body with
  | some body => chkF P (fns P kn fuel n).cl (fns P kn fuel n).rn (fns P kn fuel n).dc e (fiOf P fn e.args.length) fn body x [.code []] (enterS P e.f e.args e.heap)
  | none => false
 | none => false)
theorem Ent.okF_runs [Val] {P : Program} {kn : Known} (hkn : KnownSim P kn) {e : Ent} {fuel n : Nat} {x : FCert} (h : e.okF P kn P.globals.size fuel n x = true) : e.Static P.globals.size ∧ e.Runs P := by
 unfold Ent.okF at h
 simp only [Bool.and_eq_true] at h
 obtain ⟨h1, h2⟩ := h
 refine ⟨Ent.staticB_ok h1, fun hex φ w args' c cs hr ha => ?_⟩
 split at h2
 ·rename_i fn hf
  split at h2
  ·rename_i body hbody
   obtain ⟨s1, s2, s3⟩ := all_sim hkn fuel n
   have hs : SR P.globals.size φ (fiOf P fn e.args.length) (enterS P e.f e.args e.heap) { (default : Frame) with fn := e.f, kind := .normal } (args' ++ Array.replicate (fn.ntmps - args'.size) undef) [] (c :: cs) (c :: cs) w := by
    unfold enterS
    rw [hf]
    exact ⟨hr, argRegs_ok ha fn.ntmps P.globals.size, .nil, .normal rfl rfl, rfl⟩
   have henter : Frame.enter P e.f args' .normal = mkF { (default : Frame) with fn := e.f, kind := .normal } (args' ++ Array.replicate (fn.ntmps - args'.size) undef) [] ([CI.code []].map (toI body)) := by
    simp [Frame.enter, mkF, hf, hbody, toI, toC, codeAt]; rfl
   have hu : (enterS P e.f e.args e.heap).u = .normal := by unfold enterS; rw [hf]
   have hh : (enterS P e.f e.args e.heap).h = e.heap := by unfold enterS; rw [hf]
   have htb : (enterS P e.f e.args e.heap).h.tb = e.tb := by rw [hh]; rfl
   have := chkF_ok (c := c) (cs := cs) s1 s2 (draw_sim s1 s2) s3 hf rfl (Ent.staticB_ok h1) (φ0 := φ) (w0 := w) x [.code []] (enterS P e.f e.args e.heap) h2 hu φ _ [] w hs (by rw [htb]; exact hr) (by rw [htb, hh]; exact Post.refl _ _ _)
   rw [htb, ← henter] at this
   obtain ⟨v, h', ho, φ', v', w', a1, a2, a3, a4⟩ := this
   exact ⟨v, h', ho, φ', v', w', a1, a2, a3, a4⟩
  ·simp at h2
 ·simp at h2
inductive AllGoodF (P : Program) (kb : Known) : List Ent → Prop
 | nil : AllGoodF P kb []
 | cons {e : Ent} {l m : List Ent} {fuel n : Nat} (h : AllGoodF P kb l) (hm : AllGoodF P kb m) (he : e.ok P (knWith kb P.globals.size m) P.globals.size fuel n = true) : AllGoodF P kb (e :: l)
 | consF {e : Ent} {l m : List Ent} {fuel n : Nat} {x : FCert} (h : AllGoodF P kb l) (hm : AllGoodF P kb m) (he : e.okF P (knWith kb P.globals.size m) P.globals.size fuel n x = true) : AllGoodF P kb (e :: l)
theorem AllGoodF.one {P : Program} {kb : Known} {e : Ent} {m : List Ent} {fuel n : Nat} (hm : AllGoodF P kb m) (he : e.ok P (knWith kb P.globals.size m) P.globals.size fuel n = true) : AllGoodF P kb [e] := .cons .nil hm he
theorem AllGoodF.oneF {P : Program} {kb : Known} {e : Ent} {m : List Ent} {fuel n : Nat} {x : FCert} (hm : AllGoodF P kb m) (he : e.okF P (knWith kb P.globals.size m) P.globals.size fuel n x = true) : AllGoodF P kb [e] := .consF .nil hm he
theorem AllGoodF.app {P : Program} {kb : Known} {e : Ent} {l : List Ent} (he : AllGoodF P kb [e]) (hl : AllGoodF P kb l) : AllGoodF P kb (e :: l) := by
 cases he with
 | cons _ hm h => exact .cons hl hm h
 | consF _ hm h => exact .consF hl hm h
theorem knWith_allF {P : Program} {kb : Known} {l : List Ent} {I : Val → Prop} (hI : Keeps I) (hb : ∀ V : Val, I V → @KnownSim V P kb) (h : AllGoodF P kb l) : ∀ V : Val, I V → @KnownSim V P (knWith kb P.globals.size l) := by
 have serve : ∀ {e : Ent} {l : List Ent} (V : Val), e.Static P.globals.size → (∀ θ : Nat → E, @Ent.Runs (@valOf V θ) P e) → @KnownSim V P (knOf P.globals.size l) → @KnownSim V P (knOf P.globals.size (e :: l)) := by
  intro e l V hst hrun ih f args h h' r hk hex φ w args' c cs hr ha
  unfold knOf at hk
  cases hf : Nat.beq e.f f with
  | false => rw [hf] at hk; exact ih f args h h' r hk hex φ w args' c cs hr ha
  | true =>
   rw [hf] at hk
   obtain rfl := Nat.eq_of_beq_eq_true hf
   simp only [cond_true] at hk
   split at hk
   ·rename_i q hq
    obtain rfl := Option.some.inj hk
    exact Ent.serve_sim hst hrun hq hex hr ha
   ·exact ih e.f args h h' r hk hex φ w args' c cs hr ha
 have key : ∀ V : Val, I V → @KnownSim V P (knOf P.globals.size l) := by
  induction h with
  | nil => intro V _ f args h h' r hk; simp [knOf] at hk
  | @cons e l m fuel n _ _ he ih ihm =>
   intro V hV
   exact serve V (Ent.good he).toStatic (fun θ => @Ent.Good.runs (valOf θ) _ _ _ _ _ (@with_sim (valOf θ) P kb _ (hb _ (hI V θ hV)) (ihm _ (hI V θ hV))) (Ent.good he)) (ih V hV)
  | @consF e l m fuel n x _ _ he ih ihm =>
   intro V hV
   have hr : ∀ θ : Nat → E, e.Static P.globals.size ∧ @Ent.Runs (@valOf V θ) P e := fun θ => @Ent.okF_runs (valOf θ) _ _ (@with_sim (valOf θ) P kb _ (hb _ (hI V θ hV)) (ihm _ (hI V θ hV))) _ _ _ _ he
   exact serve V (hr fun i => .var i 0 0).1 (fun θ => (hr θ).2) (ih V hV)
 exact fun V hV => @with_sim V P kb l (hb V hV) (key V hV)
end Go.Ab
end

section
noncomputable section
namespace Go.Ab
variable [Val]
def outOf (tb : List Fact) (e : E) (cs : List AV) : Bool := tb.any fun k => k.eq && (!k.v && match k.a, k.b with
 | .quo y m, .const z => let a := - y.parts.2
  decide (z = 0) && ((E.zero (.sub e (.add (.mul (.const 2) y) (.const (2 * a)))) || E.zero (.sub e (.add (.mul (.const 2) y) (.const (2 * a + 1))))) && cs.all fun c => match c with
  | .int .i64 n => decide (2 * a ≤ n) && decide (n < 2 * (a + m))
  | _ => false)
 | _, _ => false)
theorem outOf_ok {tb : List Fact} (hT : ∀ f ∈ tb, f.holds Val.σ) {e : E} {cs : List AV} (h : outOf tb e cs = true) : ∀ c ∈ cs, ∃ n, c = .int .i64 n ∧ n ≠ e.eval Val.σ := by
 intro c hc
 unfold outOf at h
 simp only [List.any_eq_true, Bool.and_eq_true, Bool.not_eq_true'] at h
 obtain ⟨k, hk, he, hv, h⟩ := h
 have hh := hT k hk
 unfold Fact.holds at hh
 rw [he, hv] at hh
 simp only [cond_true] at hh
 split at h
 ·rename_i y m z e1 e2
  rw [e1, e2] at hh
  generalize - y.parts.2 = a at h
  simp only [Bool.and_eq_true, decide_eq_true_eq, Bool.or_eq_true, List.all_eq_true] at h
  obtain ⟨rfl, h1, h2⟩ := h
  have hc2 := h2 c hc
  split at hc2
  ·rename_i n
   simp only [Bool.and_eq_true, decide_eq_true_eq] at hc2
   refine ⟨n, rfl, fun hn => ?_⟩
   have hq := of_decide_eq_false hh
   simp only [E.eval] at hq
   have hy : 0 ≤ y.eval Val.σ ∧ y.eval Val.σ < m := by
    rcases h1 with h1 | h1
    all_goals
     have := E.zero_ok Val.σ h1
     simp only [E.eval] at this
     omega
   exact hq (Int.ediv_eq_zero_of_lt hy.1 hy.2)
  ·simp at hc2
 ·simp at h
def knOut (f : Nat) : Known := fun g args h => bif Nat.beq g f then
 match args with
 | [.slice id off len _ _ _, .sym .i64 _ _ e] => match h.get id with
  | some (.cells n dep d t) => bif Nat.ble len 1000 && (Nat.blt 0 len && (Nat.ble (off + len) n && outOf h.tb e (cellsFrom dep d t off len))) then some (.ret (.bool false), h) else none
  | _ => none
 | _ => none
 else none
theorem knOut_sim {P : Program} {f : Nat} (hc : ∀ (b o n c : Nat) (v : Int) (w : World) (F : Nat → Int), n ≤ 1000 → (∀ j, j < n → w.cell? ⟨b, o + j, none⟩ = some (.int .i64 (F j))) → (∀ j, j < n → F j ≠ v) →
  Calls P f #[.slice (some ⟨b, o, none⟩) n c, .int .i64 v] w fun e w' => e = .returned (.bool false) ∧ w.grownBy w' none) : KnownSim P (knOut f) := by
 intro g args h h' r hk hex φ w args' c cs hr ha
 unfold knOut at hk
 cases hg : Nat.beq g f with
 | false => rw [hg] at hk; simp at hk
 | true =>
  rw [hg] at hk
  obtain rfl := Nat.eq_of_beq_eq_true hg
  simp only [cond_true] at hk
  split at hk
  ·rename_i id off len cap ex esz l u e
   split at hk
   ·rename_i n dep d t hobj
    cases hb : (Nat.ble len 1000 && (Nat.blt 0 len && (Nat.ble (off + len) n && outOf h.tb e (cellsFrom dep d t off len)))) with
    | false => rw [hb] at hk; simp at hk
    | true =>
     rw [hb] at hk
     simp only [cond_true, Option.some.injEq, Prod.mk.injEq] at hk
     obtain ⟨rfl, rfl⟩ := hk
     simp only [Bool.and_eq_true] at hb
     obtain ⟨b1, b0, b2, b3⟩ := hb
     have b1 := Nat.le_of_ble_eq_true b1
     have b0 : 0 < len := blt_lt b0
     have b2 := Nat.le_of_ble_eq_true b2
     have b3 := outOf_ok hr.fct b3
     have hs := ha.size
     have h0 := ha.get 0 (by simp)
     have h1 := ha.get 1 (by simp)
     simp only [List.getD_cons_zero, List.getD_cons_succ] at h0 h1
     obtain ⟨b, base, cs', o, cc, hφ, ho, hlc, _, _, _, _, e0⟩ := h0.slice_inv
     obtain ⟨v, e1, hev, hl, hu⟩ := h1.sym_inv
     have ea : args' = #[.slice (some ⟨b, o, none⟩) len cc, .int .i64 v] := by
      apply Array.ext
      ·simpa using hs
      ·intro i hi hi'
       have hi2 : i < 2 := by simpa using hi'
       rw [Array.getD_eq_getD_getElem?] at e0 e1
       match i, hi2 with
       | 0, _ => rw [Array.getElem?_eq_getElem hi] at e0; simpa using e0
       | 1, _ => rw [Array.getElem?_eq_getElem hi] at e1; simpa using e1
     rw [ea]
     obtain ⟨_, hle, cells, ty, fz, hblk, hcs, _, hv, _⟩ := obj_cells hr hobj hφ
     have at_ : ∀ j, j < len → ∃ m, cget dep d t (off + j) = .int .i64 m ∧ m ≠ v := by
      intro j hj
      have hj' : j < (cellsFrom dep d t off len).length := by rw [cellsFrom_len]; exact hj
      obtain ⟨m, hm, hne⟩ := b3 _ (List.getElem_mem hj')
      rw [cellsFrom_at] at hm
      exact ⟨m, hm, by rw [← hev]; exact hne⟩
     have ho' : o = base + off := by
      rcases ho with ho | ho
      ·exact ho
      ·omega
     refine quiet_val (hc b o len cc v w (fun j => intVal (cget dep d t (off + j))) b1 (fun j hj => ?_) fun j hj => ?_) hr (.bool false)
     ·obtain ⟨m, hm, _⟩ := at_ j hj
      have := hv (off + j) (by omega)
      rw [hm] at this
      rw [cell_of hblk, getElem?_of_lt (by omega), show o + j = base + (off + j) by omega, this.int_inv, hm]
      rfl
     ·obtain ⟨m, hm, hne⟩ := at_ j hj
      show intVal (cget dep d t (off + j)) ≠ v
      rw [hm]
      exact hne
   ·simp at hk
  ·simp at hk
end Go.Ab
end
