/-
  Numbers that are not known: what the abstract machine says of them holds of what they are.
  Conditions: those that each lemma names.
-/
import Derived.Test.YtiajkflemnaabaaGreatBbF
namespace Go.Ab
variable [Val]

section
variable {φ : Phi}

omit [Val] in
theorem wrap_unsigned {k : IntKind} (h : k.signed = false) (n : Int) : k.wrap n = n % ((2 ^ k.bits : Nat) : Int) := by
  simp [IntKind.wrap, h]

theorem asSym_vr {x : AV} {k : IntKind} {lo hi : Int} {e : E} (h : asSym x = some (k, lo, hi, e)) {x' : Value} (hx : VR φ x x') :
    ∃ n, x' = .int k n ∧ e.eval Val.σ = n ∧ e.ok Val.σ ∧ lo ≤ n ∧ n ≤ hi := by
  cases x <;> simp only [asSym, Option.some.injEq, Prod.mk.injEq, reduceCtorEq] at h
  · obtain ⟨rfl, rfl, rfl, rfl⟩ := h
    exact ⟨_, hx.int_inv, rfl, trivial, Int.le_refl _, Int.le_refl _⟩
  · obtain ⟨rfl, rfl, rfl, rfl⟩ := h
    exact hx.sym_inv

theorem mkS_vr {k : IntKind} {lo hi n : Int} {e : E} (he : e.eval Val.σ = n) (ho : e.ok Val.σ) (hl : lo ≤ n) (hh : n ≤ hi) : VR φ (mkS k lo hi e) (.int k n) := by
  unfold mkS
  split
  · obtain rfl := he; exact .int _ _
  · cases hd : decide (lo = hi) with
    | true =>
      have : lo = hi := of_decide_eq_true hd
      have : n = lo := by omega
      subst this
      exact .int _ _
    | false => exact .sym he ho hl hh

omit [Val] in
theorem wrap_fits {k : IntKind} {lo hi n : Int} (h : fits k lo hi = true) (hl : lo ≤ n) (hh : n ≤ hi) : k.wrap n = n ∧ 0 ≤ n ∧ n < half k := by
  simp only [fits, Bool.and_eq_true, decide_eq_true_eq] at h
  obtain ⟨m, rfl⟩ := Int.eq_ofNat_of_zero_le (show 0 ≤ n by omega)
  have hm : (m : Int) < half k := by omega
  refine ⟨wrapSmall m (by exact_mod_cast hm), by omega, hm⟩
where
  wrapSmall {k : IntKind} (z : Nat) (h : z < half k) : k.wrap (z : Int) = z := by
    have key : ∀ n : Nat, z < 2 ^ n → (z : Int) % (2 ^ (n + 1) : Int) = z ∧ ¬ ((z : Int) ≥ (2 ^ n : Int)) := by
      intro n hn
      have h1 : (z : Int) < (2 ^ n : Int) := by exact_mod_cast hn
      have h2 : (2 ^ (n + 1) : Int) = 2 * 2 ^ n := by rw [Int.pow_succ, Int.mul_comm]
      refine ⟨Int.emod_eq_of_lt (by omega) (by rw [h2]; omega), by omega⟩
    have hz : z < 2 ^ (k.bits - 1) := h
    have hb : k.bits - 1 + 1 = k.bits := by cases k <;> rfl
    obtain ⟨k1, k2⟩ := key (k.bits - 1) hz
    rw [hb] at k1
    simp only [IntKind.wrap, k1]
    rw [if_neg]
    simp only [Bool.and_eq_true, decide_eq_true_iff, not_and]
    exact fun _ => k2

theorem mkI_vr {k : IntKind} {lo hi n : Int} {e : E} {v : AV} (h : mkI k lo hi e = some v) (he : e.eval Val.σ = n) (ho : e.ok Val.σ) (hl : lo ≤ n) (hh : n ≤ hi) :
    VR φ v (.int k n) ∧ k.wrap n = n ∧ 0 ≤ n ∧ n < half k := by
  unfold mkI at h
  cases hf : fits k lo hi with
  | false => rw [hf] at h; simp at h
  | true =>
    rw [hf] at h
    simp only [cond_true, Option.some.injEq] at h
    subst h
    exact ⟨mkS_vr he ho hl hh, wrap_fits hf hl hh⟩

theorem E.bnd_ok : ∀ {e : E} {l h : Int}, e.bnd = some (l, h) → e.ok Val.σ → l ≤ e.eval Val.σ ∧ e.eval Val.σ ≤ h := by
  intro e
  induction e with
  | var i lo hi => intro l h hb ho; simp only [E.bnd, Option.some.injEq, Prod.mk.injEq] at hb; obtain ⟨rfl, rfl⟩ := hb; exact ho
  | const n => intro l h hb ho; simp only [E.bnd, Option.some.injEq, Prod.mk.injEq] at hb; obtain ⟨rfl, rfl⟩ := hb; exact ⟨Int.le_refl _, Int.le_refl _⟩
  | add a b iha ihb =>
    intro l h hb ho
    simp only [E.bnd] at hb
    split at hb
    · rename_i l1 h1 l2 h2 e1 e2
      simp only [Option.some.injEq, Prod.mk.injEq] at hb
      obtain ⟨rfl, rfl⟩ := hb
      have := iha e1 ho.1
      have := ihb e2 ho.2
      simp only [E.eval]
      omega
    · simp at hb
  | mul a b iha ihb =>
    intro l h hb ho
    unfold E.bnd at hb
    split at hb <;> first | (simp at hb; done) | skip
    all_goals first
      | (rename_i heq; cases heq; done)
      | skip
    rename_i m b' heq
    obtain ⟨rfl, rfl⟩ := E.mul.inj heq
    split at hb
    · rename_i l2 h2 e2
      simp only [Option.some.injEq, Prod.mk.injEq] at hb
      obtain ⟨rfl, rfl⟩ := hb
      have := ihb e2 ho.2
      simp only [E.eval]
      exact ⟨Int.mul_le_mul_of_nonneg_left this.1 (Int.natCast_nonneg m), Int.mul_le_mul_of_nonneg_left this.2 (Int.natCast_nonneg m)⟩
    · simp at hb
  | _ => intro l h hb ho; simp [E.bnd] at hb

theorem E.res_ok {c : Nat} : ∀ {e : E} {r : Int}, e.res c = some r → e.eval Val.σ % c = r := by
  intro e
  induction e with
  | const n => intro r h; simpa [E.res, E.eval] using h
  | add a b iha ihb =>
    intro r h
    simp only [E.res] at h
    split at h
    · rename_i x y e1 e2
      simp only [Option.some.injEq] at h
      rw [← h, ← iha e1, ← ihb e2]
      simp only [E.eval]
      rw [Int.emod_add_emod, Int.add_emod_emod]
    · simp at h
  | sub a b iha ihb =>
    intro r h
    simp only [E.res] at h
    split at h
    · rename_i x y e1 e2
      simp only [Option.some.injEq] at h
      rw [← h, ← iha e1, ← ihb e2]
      simp only [E.eval]
      rw [Int.emod_sub_emod, Int.sub_emod_emod]
    · simp at h
  | mul a b iha ihb =>
    intro r h
    unfold E.res at h
    split at h <;> first | (simp at h; done) | skip
    all_goals first
      | (rename_i heq; cases heq; done)
      | skip
    rename_i m b' heq
    obtain ⟨rfl, rfl⟩ := E.mul.inj heq
    cases hd : decide (m % (c : Int) = 0) with
    | true =>
      rw [hd] at h
      simp only [cond_true, Option.some.injEq] at h
      have : m % (c : Int) = 0 := of_decide_eq_true hd
      simp only [E.eval]
      rw [← h, Int.mul_emod, this, Int.zero_mul, Int.zero_emod]
    | false =>
      rw [hd] at h
      simp only [cond_false] at h
      split at h
      · rename_i y e2
        simp only [Option.some.injEq] at h
        rw [← h, ← ihb e2]
        simp only [E.eval]
        rw [Int.mul_emod m (E.eval Val.σ b % (c : Int)), Int.emod_emod, ← Int.mul_emod]
      · simp at h
  | _ => intro r h; simp [E.res] at h

theorem E.rest_ok {c : Nat} {e y : E} {l h : Int} (hr : e.rest c = some (l, h, y)) (ho : e.ok Val.σ) : y.ok Val.σ ∧ e.eval Val.σ % c = y.eval Val.σ ∧ l ≤ y.eval Val.σ ∧ y.eval Val.σ ≤ h := by
  unfold E.rest at hr
  split at hr
  · rename_i m x y'
    split at hr
    · rename_i l' h' hb
      cases hd : (decide (m % (c : Int) = 0) && (decide (0 ≤ l') && decide (h' < c))) with
      | false => rw [hd] at hr; simp at hr
      | true =>
        rw [hd] at hr
        simp only [cond_true, Option.some.injEq, Prod.mk.injEq] at hr
        obtain ⟨rfl, rfl, rfl⟩ := hr
        simp only [Bool.and_eq_true, decide_eq_true_eq] at hd
        have hy := E.bnd_ok hb ho.2
        refine ⟨ho.2, ?_, hy⟩
        simp only [E.eval]
        rw [Int.add_emod, Int.mul_emod, hd.1, Int.zero_mul, Int.zero_emod, Int.zero_add, Int.emod_emod]
        exact Int.emod_eq_of_lt (by omega) (by omega)
    · simp at hr
  · simp at hr

theorem symRem_vr {k : IntKind} {lo hi n : Int} {e : E} {c : Nat} (hc : 0 < c) (h0 : 0 ≤ lo) (he : e.eval Val.σ = n) (ho : e.ok Val.σ) (hl : lo ≤ n) (hh : n ≤ hi) :
    VR φ (symRem k lo hi e c) (.int k (n % c)) := by
  unfold symRem
  cases h1 : decide (hi < (c : Int)) with
  | true =>
    have := of_decide_eq_true h1
    rw [Int.emod_eq_of_lt (by omega) (by omega)]
    exact mkS_vr he ho hl hh
  | false =>
    simp only [cond_false]
    split
    · rename_i r hr
      have := E.res_ok hr
      rw [he] at this
      rw [this]
      exact .int _ _
    · cases h2 : decide (lo / (c : Int) = hi / (c : Int)) with
      | true =>
        have h2 := of_decide_eq_true h2
        simp only [cond_true]
        have a1 : lo / (c : Int) ≤ n / (c : Int) := Int.ediv_le_ediv (by omega) hl
        have a2 : n / (c : Int) ≤ hi / (c : Int) := Int.ediv_le_ediv (by omega) hh
        have a3 : n / (c : Int) = lo / (c : Int) := by omega
        have a4 := Int.emod_add_mul_ediv n c
        rw [a3] at a4
        have a5 : n % (c : Int) = n - c * (lo / (c : Int)) := by omega
        rw [a5]
        exact mkS_vr (by simp only [E.eval, he]) ⟨ho, trivial⟩ (by omega) (by omega)
      | false =>
        simp only [cond_false]
        split
        · rename_i l h y hr
          obtain ⟨b1, b2, b3, b4⟩ := E.rest_ok hr ho
          rw [he] at b2
          rw [b2]
          exact mkS_vr rfl b1 b3 b4
        · have := Int.emod_nonneg n (show (c : Int) ≠ 0 by omega)
          have := Int.emod_lt_of_pos n (show (0 : Int) < c by omega)
          exact mkS_vr (by simp only [E.eval, he]) ho (by omega) (by omega)

omit [Val] in
theorem fits_bits {k : IntKind} {n : Int} (h0 : 0 ≤ n) (hh : n < half k) : n % ((2 ^ k.bits : Nat) : Int) = n := by
  have : half k ≤ 2 ^ k.bits := by
    unfold half
    exact Nat.pow_le_pow_right (by omega) (Nat.pred_le _)
  exact Int.emod_eq_of_lt h0 (by omega)

theorem symOr_ok {k : IntKind} {c l h y : Int} {e : E} {v : AV} (hs : symOr k c l h e = some v) (he : e.eval Val.σ = y) (ho : e.ok Val.σ) (hl : l ≤ y) (hh : y ≤ h) :
    bitsI .or k c y = some (.int k (c + y)) ∧ bitsI .or k y c = some (.int k (c + y)) ∧ VR φ v (.int k (c + y)) := by
  unfold symOr at hs
  cases hd : (decide (0 ≤ c) && (decide (0 ≤ l) && decide (c % (2 ^ (Nat.log2 h.toNat + 1) : Nat) = 0))) with
  | false => rw [hd] at hs; simp at hs
  | true =>
    rw [hd] at hs
    simp only [cond_true] at hs
    simp only [Bool.and_eq_true, decide_eq_true_eq] at hd
    obtain ⟨d1, d2, d3⟩ := hd
    have hev : (bif decide (c = 0) then e else E.add (.const c) e).eval Val.σ = c + y ∧ (bif decide (c = 0) then e else E.add (.const c) e).ok Val.σ := by
      cases hz : decide (c = 0) with
      | true => have := of_decide_eq_true hz; simp only [cond_true]; exact ⟨by rw [he]; omega, ho⟩
      | false => simp only [cond_false]; exact ⟨by simp only [E.eval, he], ⟨trivial, ho⟩⟩
    obtain ⟨r1, r2, r3, r4⟩ := mkI_vr (φ := φ) hs hev.1 hev.2 (n := c + y) (by omega) (by omega)
    have hy0 : 0 ≤ y := by omega
    have c1 : (c % ((2 ^ k.bits : Nat) : Int)).toNat = c.toNat := by rw [fits_bits d1 (by omega)]
    have c2 : (y % ((2 ^ k.bits : Nat) : Int)).toNat = y.toNat := by rw [fits_bits hy0 (by omega)]
    have hlor : Nat.lor c.toNat y.toNat = c.toNat + y.toNat := by
      have hlt : y.toNat < 2 ^ (Nat.log2 h.toNat + 1) := by
        have : y.toNat ≤ h.toNat := by omega
        exact Nat.lt_of_le_of_lt this Nat.lt_log2_self
      obtain ⟨q, hq⟩ : ∃ q, c.toNat = 2 ^ (Nat.log2 h.toNat + 1) * q := by
        have : c.toNat % 2 ^ (Nat.log2 h.toNat + 1) = 0 := by
          have e : c = (c.toNat : Int) := (Int.toNat_of_nonneg d1).symm
          rw [e] at d3
          exact_mod_cast d3
        exact ⟨_, (Nat.mul_div_cancel' (Nat.dvd_of_mod_eq_zero this)).symm⟩
      rw [hq]
      exact (Nat.two_pow_add_eq_or_of_lt hlt q).symm
    have hsum : ((Nat.lor c.toNat y.toNat : Nat) : Int) = c + y := by rw [hlor]; omega
    refine ⟨?_, ?_, r1⟩
    · simp only [bitsI]
      rw [c1, c2]
      simp only [wrapI, hsum, r2]
    · simp only [bitsI]
      rw [c1, c2, show Nat.lor y.toNat c.toNat = Nat.lor c.toNat y.toNat from Nat.or_comm _ _]
      simp only [wrapI, hsum, r2]

theorem vr_bool {b : Bool} {x : Value} (h : VR φ (.bool b) x) {c : Bool} (e : b = c) : VR φ (.bool c) x := e ▸ h

theorem symAri_ok {op : BinOp} {k : IntKind} {l₁ h₁ l₂ h₂ a b : Int} {e₁ e₂ : E} {v : AV} (h : symAri op k l₁ h₁ e₁ l₂ h₂ e₂ = some v)
    (he₁ : e₁.eval Val.σ = a) (ho₁ : e₁.ok Val.σ) (hl₁ : l₁ ≤ a) (hh₁ : a ≤ h₁) (he₂ : e₂.eval Val.σ = b) (ho₂ : e₂.ok Val.σ) (hl₂ : l₂ ≤ b) (hh₂ : b ≤ h₂) :
    ∃ v', intOp op k a b = some v' ∧ ∀ x, VR φ v' x → VR φ v x := by
  have fin : ∀ {n : Int} {v : AV}, VR φ v (.int k n) → ∀ x, VR φ (.int k n) x → VR φ v x := fun hv x hx => by rw [hx.int_inv]; exact hv
  unfold symAri at h
  split at h
  · obtain ⟨r1, r2, _⟩ := mkI_vr (φ := φ) h (n := a + b) (by simp only [E.eval, he₁, he₂]) ⟨ho₁, ho₂⟩ (by omega) (by omega)
    exact ⟨_, by simp only [intOp, wrapI, r2], fin r1⟩
  · obtain ⟨r1, r2, _⟩ := mkI_vr (φ := φ) h (n := a - b) (by simp only [E.eval, he₁, he₂]) ⟨ho₁, ho₂⟩ (by omega) (by omega)
    exact ⟨_, by simp only [intOp, wrapI, r2], fin r1⟩
  · split at h
    · rename_i c
      cases hd : decide (0 ≤ l₁) with
      | false => rw [hd] at h; simp at h
      | true =>
        rw [hd] at h
        simp only [cond_true, Option.some.injEq] at h
        subst h
        have hd := of_decide_eq_true hd
        have hb : b = ((c + 1 : Nat) : Int) := by rw [← he₂]; rfl
        refine ⟨.int k (a % ((c + 1 : Nat) : Int)), ?_, fin (symRem_vr (Nat.succ_pos c) hd he₁ ho₁ hl₁ hh₁)⟩
        simp only [intOp, hb]
        rw [if_neg (by omega), Int.tmod_eq_emod_of_nonneg (by omega)]
    · simp at h
  · split at h
    · rename_i c
      cases hd : decide (0 ≤ l₁) with
      | false => rw [hd] at h; simp at h
      | true =>
        rw [hd] at h
        simp only [cond_true] at h
        have hd := of_decide_eq_true hd
        have hb : b = ((c + 1 : Nat) : Int) := by rw [← he₂]; rfl
        obtain ⟨r1, r2, _⟩ := mkI_vr (φ := φ) h (n := a / ((c + 1 : Nat) : Int)) (by simp only [E.eval, he₁]) ho₁ (Int.ediv_le_ediv (by omega) hl₁) (Int.ediv_le_ediv (by omega) hh₁)
        refine ⟨_, ?_, fin r1⟩
        simp only [intOp, hb]
        rw [if_neg (by omega), Int.tdiv_eq_ediv_of_nonneg (by omega)]
        simp only [wrapI, r2]
    · simp at h
  · split at h
    · rename_i c
      have hc : c = a := he₁
      subst hc
      obtain ⟨r1, _, r2⟩ := symOr_ok (φ := φ) h he₂ ho₂ hl₂ hh₂
      exact ⟨_, by simp only [intOp]; exact r1, fin r2⟩
    · rename_i c _
      have hc : c = b := he₂
      subst hc
      obtain ⟨_, r1, r2⟩ := symOr_ok (φ := φ) h he₁ ho₁ hl₁ hh₁
      exact ⟨_, by simp only [intOp]; exact r1, fin r2⟩
    · simp at h
  · split at h
    · rename_i c
      cases hd : (fits k l₁ h₁ && (Nat.blt c (half k) && Nat.beq (2 ^ (Nat.log2 c + 1)) (c + 1))) with
      | false => rw [hd] at h; simp at h
      | true =>
        rw [hd] at h
        simp only [cond_true, Option.some.injEq] at h
        subst h
        simp only [Bool.and_eq_true] at hd
        obtain ⟨d1, d2, d3⟩ := hd
        obtain ⟨_, a0, ah⟩ := wrap_fits d1 hl₁ hh₁
        have d2 : c < half k := by unfold Nat.blt at d2; exact Nat.le_of_ble_eq_true d2
        have d3 := Nat.eq_of_beq_eq_true d3
        have hb : b = (c : Int) := by rw [← he₂]; rfl
        have h0 : 0 ≤ l₁ := by simp only [fits, Bool.and_eq_true, decide_eq_true_eq] at d1; exact d1.1
        refine ⟨.int k (a % ((c + 1 : Nat) : Int)), ?_, fin (symRem_vr (Nat.succ_pos c) h0 he₁ ho₁ hl₁ hh₁)⟩
        have c1 : (a % ((2 ^ k.bits : Nat) : Int)).toNat = a.toNat := by rw [fits_bits a0 ah]
        have c2 : (b % ((2 ^ k.bits : Nat) : Int)).toNat = c := by rw [hb, fits_bits (by omega) (by omega)]; simp
        have hand : ((Nat.land a.toNat c : Nat) : Int) = a % ((c + 1 : Nat) : Int) := by
          have e : c = 2 ^ (Nat.log2 c + 1) - 1 := by omega
          have : Nat.land a.toNat c = a.toNat % (c + 1) := by
            conv => lhs; rw [e]
            rw [← d3]
            exact Nat.and_two_pow_sub_one_eq_mod _ _
          rw [this]
          have e2 : a = (a.toNat : Int) := (Int.toNat_of_nonneg a0).symm
          conv => rhs; rw [e2]
          exact Int.natCast_emod _ _
        have hw : k.wrap (a % ((c + 1 : Nat) : Int)) = a % ((c + 1 : Nat) : Int) := by
          have m1 := Int.emod_nonneg a (show (((c + 1 : Nat) : Int)) ≠ 0 by omega)
          have m2 : a % ((c + 1 : Nat) : Int) ≤ a := by
            obtain ⟨z, hz⟩ := Int.eq_ofNat_of_zero_le a0
            rw [hz]
            exact_mod_cast Nat.mod_le z (c + 1)
          exact (wrap_fits (k := k) (lo := 0) (hi := a) (by simp only [fits, Bool.and_eq_true, decide_eq_true_eq]; exact ⟨Int.le_refl _, ah⟩) m1 m2).1
        simp only [intOp, bitsI]
        rw [c1, c2, hand]
        simp only [wrapI, hw]
    · simp at h
  all_goals first
    | (exfalso; simp at h; done)
    | (simp only [intOp]; refine ⟨_, rfl, fun x hx => ?_⟩)
  · cases d1 : decide (h₁ < l₂) with
    | true => rw [d1] at h; simp only [cond_true, Option.some.injEq] at h; subst h; have := of_decide_eq_true d1; exact vr_bool hx (decide_eq_true (by omega))
    | false =>
      rw [d1] at h; simp only [cond_false] at h
      cases d2 : decide (h₂ ≤ l₁) with
      | true => rw [d2] at h; simp only [cond_true, Option.some.injEq] at h; subst h; have := of_decide_eq_true d2; exact vr_bool hx (decide_eq_false (by omega))
      | false => rw [d2] at h; simp at h
  · cases d1 : decide (h₁ ≤ l₂) with
    | true => rw [d1] at h; simp only [cond_true, Option.some.injEq] at h; subst h; have := of_decide_eq_true d1; exact vr_bool hx (decide_eq_true (by omega))
    | false =>
      rw [d1] at h; simp only [cond_false] at h
      cases d2 : decide (h₂ < l₁) with
      | true => rw [d2] at h; simp only [cond_true, Option.some.injEq] at h; subst h; have := of_decide_eq_true d2; exact vr_bool hx (decide_eq_false (by omega))
      | false => rw [d2] at h; simp at h
  · cases d1 : decide (h₂ < l₁) with
    | true => rw [d1] at h; simp only [cond_true, Option.some.injEq] at h; subst h; have := of_decide_eq_true d1; exact vr_bool hx (decide_eq_true (by omega))
    | false =>
      rw [d1] at h; simp only [cond_false] at h
      cases d2 : decide (h₁ ≤ l₂) with
      | true => rw [d2] at h; simp only [cond_true, Option.some.injEq] at h; subst h; have := of_decide_eq_true d2; exact vr_bool hx (decide_eq_false (by omega))
      | false => rw [d2] at h; simp at h
  · cases d1 : decide (h₂ ≤ l₁) with
    | true => rw [d1] at h; simp only [cond_true, Option.some.injEq] at h; subst h; have := of_decide_eq_true d1; exact vr_bool hx (decide_eq_true (by omega))
    | false =>
      rw [d1] at h; simp only [cond_false] at h
      cases d2 : decide (h₁ < l₂) with
      | true => rw [d2] at h; simp only [cond_true, Option.some.injEq] at h; subst h; have := of_decide_eq_true d2; exact vr_bool hx (decide_eq_false (by omega))
      | false => rw [d2] at h; simp at h
  · cases d1 : e₁.same e₂ with
    | true =>
      rw [d1] at h; simp only [cond_true, Option.some.injEq] at h; subst h
      obtain rfl := E.eq_of_same d1
      exact vr_bool hx (by simp; omega)
    | false =>
      rw [d1] at h; simp only [cond_false] at h
      cases d2 : (decide (h₁ < l₂) || decide (h₂ < l₁)) with
      | true =>
        rw [d2] at h; simp only [cond_true, Option.some.injEq] at h; subst h
        simp only [Bool.or_eq_true, decide_eq_true_eq] at d2
        exact vr_bool hx (by simp; omega)
      | false => rw [d2] at h; simp at h
  · cases d1 : e₁.same e₂ with
    | true =>
      rw [d1] at h; simp only [cond_true, Option.some.injEq] at h; subst h
      obtain rfl := E.eq_of_same d1
      exact vr_bool hx (by simp; omega)
    | false =>
      rw [d1] at h; simp only [cond_false] at h
      cases d2 : (decide (h₁ < l₂) || decide (h₂ < l₁)) with
      | true =>
        rw [d2] at h; simp only [cond_true, Option.some.injEq] at h; subst h
        simp only [Bool.or_eq_true, decide_eq_true_eq] at d2
        exact vr_bool hx (by simp; omega)
      | false => rw [d2] at h; simp at h

theorem symSh_ok {op : BinOp} {k : IntKind} {l₁ h₁ a n : Int} {e₁ : E} {v : AV} (h : symSh op k l₁ h₁ e₁ n = some v) (he₁ : e₁.eval Val.σ = a) (ho₁ : e₁.ok Val.σ) (hl₁ : l₁ ≤ a) (hh₁ : a ≤ h₁) :
    ∃ v', shiftOp op k a n = some v' ∧ ∀ x, VR φ v' x → VR φ v x := by
  have fin : ∀ {n : Int} {v : AV}, VR φ v (.int k n) → ∀ x, VR φ (.int k n) x → VR φ v x := fun hv x hx => by rw [hx.int_inv]; exact hv
  unfold symSh at h
  cases hd : (decide (0 ≤ n) && decide (n < k.bits)) with
  | false => rw [hd] at h; simp at h
  | true =>
    rw [hd] at h
    simp only [cond_true] at h
    simp only [Bool.and_eq_true, decide_eq_true_eq] at hd
    have hmin : min n.toNat k.bits = n.toNat := by omega
    have hneg : ¬ n < 0 := by omega
    split at h
    · cases d1 : decide (0 ≤ l₁) with
      | false => rw [d1] at h; simp at h
      | true =>
        rw [d1] at h
        simp only [cond_true] at h
        have hp : (0 : Int) ≤ 2 ^ n.toNat := Int.le_of_lt (Int.pow_pos (by decide))
        obtain ⟨r1, r2, _⟩ := mkI_vr (φ := φ) h (n := a * 2 ^ n.toNat) (by simp only [E.eval, he₁]; exact Int.mul_comm _ _) ⟨trivial, ho₁⟩ (Int.mul_le_mul_of_nonneg_right hl₁ hp) (Int.mul_le_mul_of_nonneg_right hh₁ hp)
        refine ⟨_, ?_, fin r1⟩
        simp only [shiftOp, hneg, if_false, hmin, wrapI, r2]
    · cases d1 : decide (0 ≤ l₁) with
      | false => rw [d1] at h; simp at h
      | true =>
        rw [d1] at h
        simp only [cond_true, Option.some.injEq] at h
        subst h
        have d1 := of_decide_eq_true d1
        have hp : (0 : Int) < ((2 ^ n.toNat : Nat) : Int) := by exact_mod_cast Nat.two_pow_pos _
        refine ⟨.int k (a / ((2 ^ n.toNat : Nat) : Int)), ?_, fin (mkS_vr (by simp only [E.eval, he₁]) ho₁ (Int.ediv_le_ediv hp hl₁) (Int.ediv_le_ediv hp hh₁))⟩
        simp only [shiftOp, hneg, if_false, hmin]
        rw [Int.fdiv_eq_ediv_of_nonneg _ (Int.le_of_lt (Int.pow_pos (by decide)))]
        simp
    · simp at h

theorem symBin_ok {op : BinOp} {x y v : AV} (h : symBin op x y = some v) {x' y' : Value} (hx : VR φ x x') (hy : VR φ y y') :
    ∃ k a k' b v', x' = .int k a ∧ y' = .int k' b ∧ (((op = .shl ∨ op = .shr) ∧ shiftOp op k a b = some v') ∨ (k = k' ∧ intOp op k a b = some v')) ∧ ∀ z, VR φ v' z → VR φ v z := by
  unfold symBin at h
  split at h
  · rename_i k l₁ h₁ e₁ k' l₂ h₂ e₂ ex ey
    obtain ⟨a, rfl, a1, a2, a3, a4⟩ := asSym_vr ex hx
    obtain ⟨b, rfl, b1, b2, b3, b4⟩ := asSym_vr ey hy
    split at h
    · rename_i n
      have hb := hy.int_inv
      simp only [Value.int.injEq] at hb
      obtain ⟨rfl, rfl⟩ := hb
      obtain ⟨v', h1, h2⟩ := symSh_ok (φ := φ) h a1 a2 a3 a4
      exact ⟨k, a, _, _, v', rfl, rfl, .inl ⟨.inl rfl, h1⟩, h2⟩
    · rename_i n
      have hb := hy.int_inv
      simp only [Value.int.injEq] at hb
      obtain ⟨rfl, rfl⟩ := hb
      obtain ⟨v', h1, h2⟩ := symSh_ok (φ := φ) h a1 a2 a3 a4
      exact ⟨k, a, _, _, v', rfl, rfl, .inl ⟨.inr rfl, h1⟩, h2⟩
    · simp at h
    · simp at h
    · cases hk : Nat.beq (kindNo k) (kindNo k') with
      | false => rw [hk] at h; simp at h
      | true =>
        rw [hk] at h
        simp only [cond_true] at h
        have e : k = k' := by
          have := Nat.eq_of_beq_eq_true hk
          revert this
          cases k <;> cases k' <;> first | (intro _; rfl) | (intro h; exact absurd h (by decide))
        subst e
        obtain ⟨v', h1, h2⟩ := symAri_ok (φ := φ) h a1 a2 a3 a4 b1 b2 b3 b4
        exact ⟨k, a, k, b, v', rfl, rfl, .inr ⟨rfl, h1⟩, h2⟩
  · simp at h
end
end Go.Ab
