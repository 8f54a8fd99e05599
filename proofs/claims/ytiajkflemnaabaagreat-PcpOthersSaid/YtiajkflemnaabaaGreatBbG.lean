/-
  The abstract machine's operators and conversions come to what the model's come to.
  Conditions: those that each lemma names.
-/
import Derived.Test.YtiajkflemnaabaaGreatBgA
namespace Go.Ab
variable [Val]

section
variable {P : Program} {φ : Phi}

theorem bits_ok {op : BinOp} {k : IntKind} {a b : Int} {v : AV} (h : bitsI op k a b = some v) (w : World) :
    ∃ v', (Op.intBits op k a b).run P w = .ok v' w ∧ VR φ v v' := by
  have ha : (BitVec.ofInt k.bits a).toNat = (a % (2 ^ k.bits : Nat)).toNat := BitVec.toNat_ofInt _
  have hb : (BitVec.ofInt k.bits b).toNat = (b % (2 ^ k.bits : Nat)).toNat := BitVec.toNat_ofInt _
  cases op <;> simp only [bitsI, Option.some.injEq, reduceCtorEq] at h
  · subst h
    refine ⟨_, rfl, ?_⟩
    rw [BitVec.toNat_and, ha, hb]
    exact .int _ _
  · subst h
    refine ⟨_, rfl, ?_⟩
    rw [BitVec.toNat_or, ha, hb]
    exact .int _ _
  · subst h
    refine ⟨_, rfl, ?_⟩
    rw [BitVec.toNat_xor, ha, hb]
    exact .int _ _
  · subst h
    refine ⟨_, rfl, ?_⟩
    rw [BitVec.toNat_and, BitVec.toNat_not, ha, hb]
    exact .int _ _

omit [Val] in
theorem kindNo_inj {k k' : IntKind} (h : kindNo k = kindNo k') : k = k' := by
  cases k <;> cases k' <;> first | rfl | (exact absurd h (by decide))

omit [Val] in
theorem wrap_small {k : IntKind} {z : Nat} (h : Nat.blt z (half k) = true) : k.wrap (.ofNat z) = .ofNat z := by
  unfold Nat.blt at h
  have h := Nat.le_of_ble_eq_true h
  have key : ∀ n : Nat, z < 2 ^ n → (z : Int) % (2 ^ (n + 1) : Int) = z ∧ ¬ ((z : Int) ≥ (2 ^ n : Int)) := by
    intro n hn
    have h1 : (z : Int) < (2 ^ n : Int) := by exact_mod_cast hn
    have h2 : (2 ^ (n + 1) : Int) = 2 * 2 ^ n := by rw [Int.pow_succ, Int.mul_comm]
    refine ⟨Int.emod_eq_of_lt (by omega) (by rw [h2]; omega), by omega⟩
  have hz : z < 2 ^ (k.bits - 1) := h
  have hb : k.bits - 1 + 1 = k.bits := by cases k <;> rfl
  obtain ⟨k1, k2⟩ := key (k.bits - 1) hz
  rw [hb] at k1
  simp only [IntKind.wrap, Int.ofNat_eq_natCast, k1]
  rw [if_neg]
  simp only [Bool.and_eq_true, decide_eq_true_iff, not_and]
  exact fun _ => k2

omit [Val] in
theorem natOp_eq (op : BinOp) (k : IntKind) (x y : Nat) : natOp op k x y = intOp op k (.ofNat x) (.ofNat y) := by
  cases op <;> simp only [natOp]
  case add =>
    cases h : Nat.blt (Nat.add x y) (half k) with
    | false => rfl
    | true => simp only [cond_true, intOp, wrapI]; rw [show (Int.ofNat x + Int.ofNat y) = Int.ofNat (Nat.add x y) from rfl, wrap_small h]
  case sub =>
    cases h : Nat.ble y x with
    | false => rfl
    | true =>
      cases h2 : Nat.blt x (half k) with
      | false => rfl
      | true =>
        have hle := Nat.le_of_ble_eq_true h
        simp only [cond_true, intOp, wrapI]
        have e : (Int.ofNat x - Int.ofNat y) = Int.ofNat (Nat.sub x y) := by
          show _ = ((x - y : Nat) : Int)
          simp only [Int.ofNat_eq_natCast]
          omega
        have h3 : Nat.blt (Nat.sub x y) (half k) = true := by
          unfold Nat.blt at h2 ⊢
          have h2 := Nat.le_of_ble_eq_true h2
          refine Nat.ble_eq_true_of_le ?_
          have : Nat.sub x y = x - y := rfl
          omega
        rw [e, wrap_small h3]
  case eql =>
    simp only [intOp, Int.ofNat_eq_natCast]
    congr 2
    rw [Bool.eq_iff_iff, beq_iff_eq, Int.natCast_inj]
    exact ⟨Nat.eq_of_beq_eq_true, fun h => by rw [h]; exact Nat.beq_refl y⟩
  case neq =>
    simp only [intOp, Int.ofNat_eq_natCast]
    congr 2
    rw [bne, Bool.not_inj_iff, Bool.eq_iff_iff, beq_iff_eq, Int.natCast_inj]
    exact ⟨Nat.eq_of_beq_eq_true, fun h => by rw [h]; exact Nat.beq_refl y⟩
  all_goals (simp only [intOp, Int.ofNat_eq_natCast]; congr 2; rw [Bool.eq_iff_iff]; simp [Nat.blt, Nat.succ_le_iff])

omit [Val] in
theorem intF_eq (op : BinOp) (k : IntKind) (a b : Int) : intF op k a b = intOp op k a b := by
  unfold intF
  split
  · exact natOp_eq op k _ _
  · rfl

theorem intOp_ok {op : BinOp} {k : IntKind} {a b : Int} {v : AV} (h : intOp op k a b = some v) (t : TypeId) (w : World) :
    ∃ v', (binOp op t (.int k a) (.int k b)).run P w = .ok v' w ∧ VR φ v v' := by
  cases op <;> simp only [intOp, Option.some.injEq, reduceCtorEq] at h
  case add => subst h; exact ⟨_, by simp only [binOp, Op.intArith]; first | rfl | (simp; done) | (simp; rfl), .int _ _⟩
  case sub => subst h; exact ⟨_, by simp only [binOp, Op.intArith]; first | rfl | (simp; done) | (simp; rfl), .int _ _⟩
  case mul => subst h; exact ⟨_, by simp only [binOp, Op.intArith]; first | rfl | (simp; done) | (simp; rfl), .int _ _⟩
  case quo =>
    split at h
    · simp at h
    · rename_i hb
      simp only [Option.some.injEq] at h
      subst h
      exact ⟨_, by simp only [binOp, Op.intDiv, hb]; first | rfl | (simp; done) | (simp; rfl), .int _ _⟩
  case rem =>
    split at h
    · simp at h
    · rename_i hb
      simp only [Option.some.injEq] at h
      subst h
      exact ⟨_, by simp only [binOp, Op.intDiv, hb]; first | rfl | (simp; done) | (simp; rfl), .int _ _⟩
  case and => obtain ⟨v', h1, h2⟩ := bits_ok (P := P) (φ := φ) h w; exact ⟨v', by simpa [binOp] using h1, h2⟩
  case or => obtain ⟨v', h1, h2⟩ := bits_ok (P := P) (φ := φ) h w; exact ⟨v', by simpa [binOp] using h1, h2⟩
  case xor => obtain ⟨v', h1, h2⟩ := bits_ok (P := P) (φ := φ) h w; exact ⟨v', by simpa [binOp] using h1, h2⟩
  case andNot => obtain ⟨v', h1, h2⟩ := bits_ok (P := P) (φ := φ) h w; exact ⟨v', by simpa [binOp] using h1, h2⟩
  all_goals (subst h; exact ⟨_, by simp only [binOp, Op.intCmp]; first | rfl | (simp; done) | (simp; rfl), .bool _⟩)

theorem shiftOp_ok {op : BinOp} {k k' : IntKind} {a b : Int} {v : AV} (h : shiftOp op k a b = some v) (hop : op = .shl ∨ op = .shr) (t : TypeId) (w : World) :
    ∃ v', (binOp op t (.int k a) (.int k' b)).run P w = .ok v' w ∧ VR φ v v' := by
  unfold shiftOp at h
  split at h
  · simp at h
  · rename_i hb
    rcases hop with rfl | rfl
    · simp only [Option.some.injEq] at h
      subst h
      exact ⟨_, by simp only [binOp, Op.shift, hb]; first | rfl | (simp; done) | (simp; rfl), .int _ _⟩
    · simp only [Option.some.injEq] at h
      subst h
      exact ⟨_, by simp only [binOp, Op.shift, hb]; first | rfl | (simp; done) | (simp; rfl), .int _ _⟩

omit [Val] in
theorem leS_bytes : ∀ (x y : List UInt8), leS (x.map UInt8.toNat) (y.map UInt8.toNat) = !(Op.bytesLess y x) := by
  intro x
  induction x with
  | nil => intro y; cases y <;> rfl
  | cons a x ih =>
    intro y
    cases y with
    | nil => rfl
    | cons b y =>
      simp only [List.map_cons, leS, Op.bytesLess]
      rw [ih y]
      have e1 : Nat.blt a.toNat b.toNat = decide (a < b) := by
        rw [Bool.eq_iff_iff]
        simp [Nat.blt, UInt8.lt_iff_toNat_lt, Nat.succ_le_iff]
      have e2 : Nat.beq a.toNat b.toNat = (b == a) := by
        rw [Bool.eq_iff_iff, Nat.beq_eq, beq_iff_eq, UInt8.toNat_inj]
        exact eq_comm
      rw [e1, e2]
      by_cases h1 : a < b
      · have h2 : ¬ b < a := by rw [UInt8.lt_iff_toNat_lt] at *; omega
        have h3 : (b == a) = false := by
          rw [beq_eq_false_iff_ne]; rintro rfl; rw [UInt8.lt_iff_toNat_lt] at h1; omega
        simp [h1, h2, h3]
      · by_cases h4 : b = a
        · subst h4
          simp [h1]
        · have h2 : b < a := by
            rw [UInt8.lt_iff_toNat_lt] at *
            have : b.toNat ≠ a.toNat := fun e => h4 (UInt8.toNat_inj.1 e)
            omega
          have h3 : (b == a) = false := by simpa using h4
          simp [h1, h2, h3]

omit [Val] in
theorem bytesLess_total : ∀ (x y : List UInt8), (Op.bytesLess x y || x == y) = !(Op.bytesLess y x) := by
  intro x
  induction x with
  | nil => intro y; cases y <;> simp [Op.bytesLess]
  | cons a x ih =>
    intro y
    cases y with
    | nil => simp [Op.bytesLess]
    | cons b y =>
      simp only [Op.bytesLess]
      have ih' := ih y
      by_cases h1 : a < b
      · have h2 : ¬ b < a := by rw [UInt8.lt_iff_toNat_lt] at *; omega
        have h3 : (b == a) = false := by
          rw [beq_eq_false_iff_ne]; rintro rfl; rw [UInt8.lt_iff_toNat_lt] at h1; omega
        simp [h1, h2, h3]
      · by_cases h4 : b = a
        · subst h4
          have e : (b :: x == b :: y) = (x == y) := by simp
          simp only [h1, decide_false, Bool.false_or, beq_self_eq_true, Bool.true_and, e]
          exact ih'
        · have h2 : b < a := by
            rw [UInt8.lt_iff_toNat_lt] at *
            have : b.toNat ≠ a.toNat := fun e => h4 (UInt8.toNat_inj.1 e)
            omega
          have h3 : (b == a) = false := by simpa using h4
          have h5 : (a == b) = false := by rw [beq_eq_false_iff_ne]; exact fun e => h4 e.symm
          have h6 : (a :: x == b :: y) = false := by rw [beq_eq_false_iff_ne]; intro e; exact h4 (List.cons.inj e).1.symm
          simp [h1, h2, h3, h5, h6]

omit [Val] in
/-- The guard ahead of '=='. -/
theorem guard_ok (op : BinOp) (t : TypeId) (x y : Operand) (a b : Value) (w : World)
    (h1 : a = .nilIface → b = .nilIface → (isConst x || isConst y) = true)
    (h2 : ∀ xs ys, a = .agg xs → b = .agg ys → P.eqGuardType P.depth t = false) : (eqGuard op t x y a b).run P w = .ok () w := by
  cases op
  case eql =>
    cases a <;> cases b <;> first
      | rfl
      | (exact run_eqGuard_agg w _ t x y _ _ (h2 _ _ rfl rfl))
      | (have hc := h1 rfl rfl
         simp only [Bool.or_eq_true] at hc
         cases x <;> cases y <;> first | rfl | (simp [isConst] at hc))
  case neq =>
    cases a <;> cases b <;> first
      | rfl
      | (exact run_eqGuard_agg w _ t x y _ _ (h2 _ _ rfl rfl))
      | (have hc := h1 rfl rfl
         simp only [Bool.or_eq_true] at hc
         cases x <;> cases y <;> first | rfl | (simp [isConst] at hc))
  all_goals rfl

theorem eqA_in {t : TypeId} {x y : AV} {cst r : Bool} (h : eqA P t x y cst = some r) {x' y' : Value} (hx : VR φ x x') (hy : VR φ y y') (w : World) (d : Nat) (hd : 8 ≤ d + 1) :
    (Op.equalIn (d + 1) t x' y').run P w = .ok r w ∧ (x' = .nilIface → y' = .nilIface → cst = true) ∧ (∀ xs ys, x' = .agg xs → y' = .agg ys → P.eqGuardType P.depth t = false) := by
  unfold eqA at h
  split at h
  · rename_i a b hu
    rw [hx.bool_inv, hy.bool_inv]
    simp only [Option.some.injEq] at h
    subst h
    refine ⟨?_, by simp, by simp⟩
    simp [Op.equalIn, run_und hu]
  · rename_i hu
    rw [hx.nilp_inv, hy.nilp_inv]
    simp only [Option.some.injEq] at h
    subst h
    exact ⟨by simp [Op.equalIn, run_und hu], by simp, by simp⟩
  · rename_i hu
    obtain ⟨b, base, cs, _, rfl⟩ := hy.ptr_inv
    rw [hx.nilp_inv]
    simp only [Option.some.injEq] at h
    subst h
    exact ⟨by simp [Op.equalIn, run_und hu], by simp, by simp⟩
  · rename_i hu
    obtain ⟨b, base, cs, _, rfl⟩ := hx.ptr_inv
    rw [hy.nilp_inv]
    simp only [Option.some.injEq] at h
    subst h
    exact ⟨by simp [Op.equalIn, run_und hu], by simp, by simp⟩
  · rename_i hu
    rw [hx.nils_inv, hy.nils_inv]
    simp only [Option.some.injEq] at h
    subst h
    exact ⟨by simp [Op.equalIn, run_und hu], by simp, by simp⟩
  · rename_i hu
    obtain ⟨b, base, cs, o, c, _, _, _, _, _, _, _, rfl⟩ := hy.slice_inv
    rw [hx.nils_inv]
    simp only [Option.some.injEq] at h
    subst h
    exact ⟨by simp [Op.equalIn, run_und hu], by simp, by simp⟩
  · rename_i hu
    obtain ⟨b, base, cs, o, c, _, _, _, _, _, _, _, rfl⟩ := hx.slice_inv
    rw [hy.nils_inv]
    simp only [Option.some.injEq] at h
    subst h
    exact ⟨by simp [Op.equalIn, run_und hu], by simp, by simp⟩
  · rename_i hu
    rw [hx.nilm_inv, hy.nilm_inv]
    simp only [Option.some.injEq] at h
    subst h
    exact ⟨by simp [Op.equalIn, run_und hu], by simp, by simp⟩
  · rename_i hu
    obtain ⟨p, _, rfl⟩ := hy.map_inv
    rw [hx.nilm_inv]
    simp only [Option.some.injEq] at h
    subst h
    exact ⟨by simp [Op.equalIn, run_und hu], by simp, by simp⟩
  · rename_i hu
    obtain ⟨p, _, rfl⟩ := hx.map_inv
    rw [hy.nilm_inv]
    simp only [Option.some.injEq] at h
    subst h
    exact ⟨by simp [Op.equalIn, run_und hu], by simp, by simp⟩
  · rename_i hu
    rw [hx.nilf_inv, hy.nilf_inv]
    simp only [Option.some.injEq] at h
    subst h
    exact ⟨by simp [Op.equalIn, run_und hu], by simp, by simp⟩
  · rename_i hu
    obtain ⟨f', a₁, a₂, _, _, _, rfl⟩ := hy.fn_inv
    rw [hx.nilf_inv]
    simp only [Option.some.injEq] at h
    subst h
    exact ⟨by simp [Op.equalIn, run_und hu], by simp, by simp⟩
  · rename_i hu
    obtain ⟨f', a₁, a₂, _, _, _, rfl⟩ := hx.fn_inv
    rw [hy.nilf_inv]
    simp only [Option.some.injEq] at h
    subst h
    exact ⟨by simp [Op.equalIn, run_und hu], by simp, by simp⟩
  · rename_i hu
    rw [hx.nili_inv, hy.nili_inv]
    split at h
    · rename_i hc
      simp only [Option.some.injEq] at h
      subst h
      exact ⟨by simp [Op.equalIn, run_und hu], fun _ _ => hc, by simp⟩
    · simp at h
  · rename_i hu
    obtain ⟨v', _, rfl⟩ := hy.iface_inv
    rw [hx.nili_inv]
    simp only [Option.some.injEq] at h
    subst h
    exact ⟨by simp [Op.equalIn, run_und hu], by simp, by simp⟩
  · rename_i hu
    obtain ⟨v', _, rfl⟩ := hx.iface_inv
    rw [hy.nili_inv]
    simp only [Option.some.injEq] at h
    subst h
    exact ⟨by simp [Op.equalIn, run_und hu], by simp, by simp⟩
  · split at h
    · rename_i hg
      refine ⟨eqT_ok 8 t _ _ r h hx hy _ w hd, ?_, fun _ _ _ _ => hg⟩
      obtain ⟨a, _, _, _, _, rfl⟩ := hx.agg_inv
      intro e; simp at e
    · simp at h
  · split at h
    · rename_i hg
      refine ⟨eqT_ok 8 t _ _ r h hx hy _ w hd, ?_, fun _ _ _ _ => hg⟩
      obtain ⟨a, _, _, _, _, rfl⟩ := hx.agg_inv
      intro e; simp at e
    · simp at h
  · simp at h

theorem eqA_ok {t : TypeId} {x y : AV} {cst r : Bool} (h : eqA P t x y cst = some r) {x' y' : Value} (hx : VR φ x x') (hy : VR φ y y') (w : World) :
    (Op.equal t x' y').run P w = .ok r w ∧ (x' = .nilIface → y' = .nilIface → cst = true) ∧ (∀ xs ys, x' = .agg xs → y' = .agg ys → P.eqGuardType P.depth t = false) :=
  eqA_in h hx hy w 9999 (by decide)

theorem binA_ok {op : BinOp} {t : TypeId} {x y : Operand} {a b v : AV} (h : binA P op t (isConst x || isConst y) a b = some v) {a' b' : Value} (ha : VR φ a a') (hb : VR φ b b') (w : World) :
    ∃ v', (do eqGuard op t x y a' b'; binOp op t a' b' : Sem Value).run P w = .ok v' w ∧ VR φ v v' := by
  have go : (eqGuard op t x y a' b').run P w = .ok () w → (∃ v', (binOp op t a' b').run P w = .ok v' w ∧ VR φ v v') →
      ∃ v', (do eqGuard op t x y a' b'; binOp op t a' b' : Sem Value).run P w = .ok v' w ∧ VR φ v v' := by
    rintro hg ⟨v', h1, h2⟩
    exact ⟨v', by simp only [Sem.run_bind, hg, Result.andThen_ok, h1], h2⟩
  unfold binA at h
  split at h
  · rename_i k a k' b
    obtain rfl := ha.int_inv
    obtain rfl := hb.int_inv
    exact go (guard_ok _ _ _ _ _ _ w (by simp) (by simp)) (shiftOp_ok h (.inl rfl) t w)
  · rename_i k a k' b
    obtain rfl := ha.int_inv
    obtain rfl := hb.int_inv
    exact go (guard_ok _ _ _ _ _ _ w (by simp) (by simp)) (shiftOp_ok h (.inr rfl) t w)
  · rename_i k a k' b _ _
    cases hk : Nat.beq (kindNo k) (kindNo k') with
    | false => rw [hk] at h; simp at h
    | true =>
      rw [hk, cond_true, intF_eq] at h
      have e : k = k' := kindNo_inj (Nat.eq_of_beq_eq_true hk)
      subst e
      obtain rfl := ha.int_inv
      obtain rfl := hb.int_inv
      exact go (guard_ok _ _ _ _ _ _ w (by simp) (by simp)) (intOp_ok h t w)
  · obtain ⟨k, a, k', b, v', rfl, rfl, hv, hz⟩ := symBin_ok h ha hb
    rcases hv with ⟨hop, hv⟩ | ⟨rfl, hv⟩
    · obtain ⟨z, h1, h2⟩ := shiftOp_ok (P := P) (φ := φ) hv hop t w
      exact go (guard_ok _ _ _ _ _ _ w (by simp) (by simp)) ⟨z, h1, hz z h2⟩
    · obtain ⟨z, h1, h2⟩ := intOp_ok (P := P) (φ := φ) hv t w
      exact go (guard_ok _ _ _ _ _ _ w (by simp) (by simp)) ⟨z, h1, hz z h2⟩
  · obtain ⟨k, a, k', b, v', rfl, rfl, hv, hz⟩ := symBin_ok h ha hb
    rcases hv with ⟨hop, hv⟩ | ⟨rfl, hv⟩
    · obtain ⟨z, h1, h2⟩ := shiftOp_ok (P := P) (φ := φ) hv hop t w
      exact go (guard_ok _ _ _ _ _ _ w (by simp) (by simp)) ⟨z, h1, hz z h2⟩
    · obtain ⟨z, h1, h2⟩ := intOp_ok (P := P) (φ := φ) hv t w
      exact go (guard_ok _ _ _ _ _ _ w (by simp) (by simp)) ⟨z, h1, hz z h2⟩
  · rename_i s u
    obtain ⟨s, rfl, rfl⟩ := ha.str_inv
    obtain ⟨u, rfl, rfl⟩ := hb.str_inv
    refine go (guard_ok _ _ _ _ _ _ w (by simp) (by simp)) ?_
    split at h
    · rename_i hlt
      simp only [Option.some.injEq] at h
      subst h
      refine ⟨.string (s ++ u), ?_, ?_⟩
      · have hsz : ¬ ((s.size + u.size : Nat) : Int) > IntKind.i64.max := by
          simp only [List.length_map, Array.length_toList] at hlt
          have e1 : s.data.size = s.size := rfl
          have e2 : u.data.size = u.size := rfl
          have : IntKind.i64.max = 9223372036854775807 := by decide
          rw [this]
          omega
        simp only [binOp, Op.stringOp, hsz, if_false, Sem.run_pure]
      · have := VR.str (φ := φ) (s ++ u)
        rw [ByteArray.data_append, Array.toList_append, List.map_append] at this
        exact this
    · simp at h
  · rename_i s u
    obtain ⟨s, rfl, rfl⟩ := ha.str_inv
    obtain ⟨u, rfl, rfl⟩ := hb.str_inv
    simp only [Option.some.injEq] at h
    subst h
    refine go (guard_ok _ _ _ _ _ _ w (by simp) (by simp)) ⟨_, by simp [binOp, Op.stringOp]; rfl, ?_⟩
    rw [bytes_beq]; exact .bool _
  · rename_i s u
    obtain ⟨s, rfl, rfl⟩ := ha.str_inv
    obtain ⟨u, rfl, rfl⟩ := hb.str_inv
    simp only [Option.some.injEq] at h
    subst h
    refine go (guard_ok _ _ _ _ _ _ w (by simp) (by simp)) ⟨.bool (!(s.toList == u.toList)), by simp only [binOp, Op.stringOp, Sem.run_pure], ?_⟩
    rw [bytes_beq]; exact .bool _
  · rename_i s u
    obtain ⟨s, rfl, rfl⟩ := ha.str_inv
    obtain ⟨u, rfl, rfl⟩ := hb.str_inv
    simp only [Option.some.injEq] at h
    subst h
    refine go (guard_ok _ _ _ _ _ _ w (by simp) (by simp)) ⟨.bool (Op.bytesLess s.toList u.toList), by simp only [binOp, Op.stringOp, Sem.run_pure], ?_⟩
    rw [leS_bytes, Bool.not_not, ← ByteArray.toList_eq, ← ByteArray.toList_eq]; exact .bool _
  · rename_i s u
    obtain ⟨s, rfl, rfl⟩ := ha.str_inv
    obtain ⟨u, rfl, rfl⟩ := hb.str_inv
    simp only [Option.some.injEq] at h
    subst h
    refine go (guard_ok _ _ _ _ _ _ w (by simp) (by simp)) ⟨.bool (Op.bytesLess s.toList u.toList || s.toList == u.toList), by simp only [binOp, Op.stringOp, Sem.run_pure], ?_⟩
    rw [bytesLess_total, leS_bytes, ← ByteArray.toList_eq, ← ByteArray.toList_eq]; exact .bool _
  · rename_i s u
    obtain ⟨s, rfl, rfl⟩ := ha.str_inv
    obtain ⟨u, rfl, rfl⟩ := hb.str_inv
    simp only [Option.some.injEq] at h
    subst h
    refine go (guard_ok _ _ _ _ _ _ w (by simp) (by simp)) ⟨.bool (!(Op.bytesLess s.toList u.toList || s.toList == u.toList)), by simp only [binOp, Op.stringOp, Sem.run_pure], ?_⟩
    rw [bytesLess_total, leS_bytes, ← ByteArray.toList_eq, ← ByteArray.toList_eq]; exact .bool _
  · rename_i s u
    obtain ⟨s, rfl, rfl⟩ := ha.str_inv
    obtain ⟨u, rfl, rfl⟩ := hb.str_inv
    simp only [Option.some.injEq] at h
    subst h
    refine go (guard_ok _ _ _ _ _ _ w (by simp) (by simp)) ⟨.bool (!Op.bytesLess s.toList u.toList), by simp only [binOp, Op.stringOp, Sem.run_pure], ?_⟩
    rw [leS_bytes, ← ByteArray.toList_eq, ← ByteArray.toList_eq]; exact .bool _
  · rename_i hne1 hne2
    cases he : eqA P t a b (isConst x || isConst y) with
    | none => rw [he] at h; simp at h
    | some r =>
      rw [he] at h
      simp only [Option.map_some, Option.some.injEq] at h
      subst h
      obtain ⟨h1, h2, h3⟩ := eqA_ok (P := P) he ha hb w
      refine go (guard_ok _ _ _ _ _ _ w h2 h3) ⟨.bool r, ?_, .bool r⟩
      have hbin : binOp .eql t a' b' = (do pure (.bool (← Op.equal t a' b'))) := by
        unfold eqA at he
        split at he <;> first | (simp at he; done) | skip
        all_goals (cases ha <;> cases hb <;> first | rfl | (simp_all [binOp]; done))
      rw [hbin]
      simp only [Sem.run_bind, h1, Result.andThen_ok, Sem.run_pure]
  · rename_i hne1 hne2
    cases he : eqA P t a b (isConst x || isConst y) with
    | none => rw [he] at h; simp at h
    | some r =>
      rw [he] at h
      simp only [Option.map_some, Option.some.injEq] at h
      subst h
      obtain ⟨h1, h2, h3⟩ := eqA_ok (P := P) he ha hb w
      refine go (guard_ok _ _ _ _ _ _ w h2 h3) ⟨.bool (!r), ?_, .bool _⟩
      have hbin : binOp .neq t a' b' = (do pure (.bool (!(← Op.equal t a' b')))) := by
        unfold eqA at he
        split at he <;> first | (simp at he; done) | skip
        all_goals (cases ha <;> cases hb <;> first | rfl | (simp_all [binOp]; done))
      rw [hbin]
      simp only [Sem.run_bind, h1, Result.andThen_ok, Sem.run_pure]
  · simp at h

theorem unA_ok {op : UnOp} {a v : AV} (h : unA op a = some v) {a' : Value} (ha : VR φ a a') (w : World) : ∃ v', (Op.unary op a').run P w = .ok v' w ∧ VR φ v v' := by
  unfold unA at h
  split at h
  · rw [ha.int_inv]
    simp only [Option.some.injEq] at h
    subst h
    exact ⟨_, by simp only [Op.unary, Op.intArith]; first | rfl | (simp; done) | (simp; rfl), .int _ _⟩
  · rw [ha.int_inv]
    obtain ⟨v', h1, h2⟩ := bits_ok (P := P) (φ := φ) h w
    exact ⟨v', by simpa [Op.unary] using h1, h2⟩
  · rw [ha.bool_inv]
    simp only [Option.some.injEq] at h
    subst h
    exact ⟨_, by simp only [Op.unary]; first | rfl | (simp; done) | (simp; rfl), .bool _⟩
  · simp at h
end
end Go.Ab
