/-
  The machine with patterns, part 2 of 5: a program's calls run over small memories, with unknown numbers; each answer is proved to be the model's.
  Conditions: those that each lemma names.
-/
import Derived.Test.YtfdgbmkpmjkccaaGreatDoorDxA
import Derived.Lib.Strings
import Derived.Laws.Externs
import Derived.Lib.Bytealg
import Derived.Lib.Builder
import Derived.Lib.UnsafeStr
import Derived.Lib.MakeNoZero
section
namespace Go.Ab
variable [Val]
section
variable {P : Program} {φ : Phi}
theorem bits_ok {op : BinOp} {k : IntKind} {a b : Int} {v : AV} (h : bitsI op k a b = some v) (w : World) :
    ∃ v', (Op.intBits op k a b).run P w = .ok v' w ∧ VR φ v v' := by
  have ha : (BitVec.ofInt k.bits a).toNat = (a % (2 ^ k.bits : Nat)).toNat := BitVec.toNat_ofInt _
  have hb : (BitVec.ofInt k.bits b).toNat = (b % (2 ^ k.bits : Nat)).toNat := BitVec.toNat_ofInt _
  cases op <;> simp only [bitsI, Option.some.injEq, reduceCtorEq] at h
  · subst h
    refine ⟨_, rfl, ?_⟩
    rw [BitVec.toNat_and, ha, hb]
    exact .int _ _
  · subst h
    refine ⟨_, rfl, ?_⟩
    rw [BitVec.toNat_or, ha, hb]
    exact .int _ _
  · subst h
    refine ⟨_, rfl, ?_⟩
    rw [BitVec.toNat_xor, ha, hb]
    exact .int _ _
  · subst h
    refine ⟨_, rfl, ?_⟩
    rw [BitVec.toNat_and, BitVec.toNat_not, ha, hb]
    exact .int _ _
omit [Val] in
theorem kindNo_inj {k k' : IntKind} (h : kindNo k = kindNo k') : k = k' := by
  cases k <;> cases k' <;> first | rfl | (exact absurd h (by decide))
omit [Val] in
theorem wrap_small {k : IntKind} {z : Nat} (h : Nat.blt z (half k) = true) : k.wrap (.ofNat z) = .ofNat z := by
  unfold Nat.blt at h
  have h := Nat.le_of_ble_eq_true h
  have key : ∀ n : Nat, z < 2 ^ n → (z : Int) % (2 ^ (n + 1) : Int) = z ∧ ¬ ((z : Int) ≥ (2 ^ n : Int)) := by
    intro n hn
    have h1 : (z : Int) < (2 ^ n : Int) := by exact_mod_cast hn
    have h2 : (2 ^ (n + 1) : Int) = 2 * 2 ^ n := by rw [Int.pow_succ, Int.mul_comm]
    refine ⟨Int.emod_eq_of_lt (by omega) (by rw [h2]; omega), by omega⟩
  have hz : z < 2 ^ (k.bits - 1) := h
  have hb : k.bits - 1 + 1 = k.bits := by cases k <;> rfl
  obtain ⟨k1, k2⟩ := key (k.bits - 1) hz
  rw [hb] at k1
  simp only [IntKind.wrap, Int.ofNat_eq_natCast, k1]
  rw [if_neg]
  simp only [Bool.and_eq_true, decide_eq_true_iff, not_and]
  exact fun _ => k2
omit [Val] in
theorem natOp_eq (op : BinOp) (k : IntKind) (x y : Nat) : natOp op k x y = intOp op k (.ofNat x) (.ofNat y) := by
  cases op <;> simp only [natOp]
  case add =>
    cases h : Nat.blt (Nat.add x y) (half k) with
    | false => rfl
    | true => simp only [cond_true, intOp, wrapI]; rw [show (Int.ofNat x + Int.ofNat y) = Int.ofNat (Nat.add x y) from rfl, wrap_small h]
  case sub =>
    cases h : Nat.ble y x with
    | false => rfl
    | true =>
      cases h2 : Nat.blt x (half k) with
      | false => rfl
      | true =>
        have hle := Nat.le_of_ble_eq_true h
        simp only [cond_true, intOp, wrapI]
        have e : (Int.ofNat x - Int.ofNat y) = Int.ofNat (Nat.sub x y) := by
          show _ = ((x - y : Nat) : Int)
          simp only [Int.ofNat_eq_natCast]
          omega
        have h3 : Nat.blt (Nat.sub x y) (half k) = true := by
          unfold Nat.blt at h2 ⊢
          have h2 := Nat.le_of_ble_eq_true h2
          refine Nat.ble_eq_true_of_le ?_
          have : Nat.sub x y = x - y := rfl
          omega
        rw [e, wrap_small h3]
  case eql =>
    simp only [intOp, Int.ofNat_eq_natCast]
    congr 2
    rw [Bool.eq_iff_iff, beq_iff_eq, Int.natCast_inj]
    exact ⟨Nat.eq_of_beq_eq_true, fun h => by rw [h]; exact Nat.beq_refl y⟩
  case neq =>
    simp only [intOp, Int.ofNat_eq_natCast]
    congr 2
    rw [bne, Bool.not_inj_iff, Bool.eq_iff_iff, beq_iff_eq, Int.natCast_inj]
    exact ⟨Nat.eq_of_beq_eq_true, fun h => by rw [h]; exact Nat.beq_refl y⟩
  all_goals (simp only [intOp, Int.ofNat_eq_natCast]; congr 2; rw [Bool.eq_iff_iff]; simp [Nat.blt, Nat.succ_le_iff])
omit [Val] in
theorem intF_eq (op : BinOp) (k : IntKind) (a b : Int) : intF op k a b = intOp op k a b := by
  unfold intF
  split
  · exact natOp_eq op k _ _
  · rfl
theorem intOp_ok {op : BinOp} {k : IntKind} {a b : Int} {v : AV} (h : intOp op k a b = some v) (t : TypeId) (w : World) :
    ∃ v', (binOp op t (.int k a) (.int k b)).run P w = .ok v' w ∧ VR φ v v' := by
  cases op <;> simp only [intOp, Option.some.injEq, reduceCtorEq] at h
  case add => subst h; exact ⟨_, by simp only [binOp, Op.intArith]; first | rfl | (simp; done) | (simp; rfl), .int _ _⟩
  case sub => subst h; exact ⟨_, by simp only [binOp, Op.intArith]; first | rfl | (simp; done) | (simp; rfl), .int _ _⟩
  case mul => subst h; exact ⟨_, by simp only [binOp, Op.intArith]; first | rfl | (simp; done) | (simp; rfl), .int _ _⟩
  case quo =>
    split at h
    · simp at h
    · rename_i hb
      simp only [Option.some.injEq] at h
      subst h
      exact ⟨_, by simp only [binOp, Op.intDiv, hb]; first | rfl | (simp; done) | (simp; rfl), .int _ _⟩
  case rem =>
    split at h
    · simp at h
    · rename_i hb
      simp only [Option.some.injEq] at h
      subst h
      exact ⟨_, by simp only [binOp, Op.intDiv, hb]; first | rfl | (simp; done) | (simp; rfl), .int _ _⟩
  case and => obtain ⟨v', h1, h2⟩ := bits_ok (P := P) (φ := φ) h w; exact ⟨v', by simpa [binOp] using h1, h2⟩
  case or => obtain ⟨v', h1, h2⟩ := bits_ok (P := P) (φ := φ) h w; exact ⟨v', by simpa [binOp] using h1, h2⟩
  case xor => obtain ⟨v', h1, h2⟩ := bits_ok (P := P) (φ := φ) h w; exact ⟨v', by simpa [binOp] using h1, h2⟩
  case andNot => obtain ⟨v', h1, h2⟩ := bits_ok (P := P) (φ := φ) h w; exact ⟨v', by simpa [binOp] using h1, h2⟩
  all_goals (subst h; exact ⟨_, by simp only [binOp, Op.intCmp]; first | rfl | (simp; done) | (simp; rfl), .bool _⟩)
theorem shiftOp_ok {op : BinOp} {k k' : IntKind} {a b : Int} {v : AV} (h : shiftOp op k a b = some v) (hop : op = .shl ∨ op = .shr) (t : TypeId) (w : World) :
    ∃ v', (binOp op t (.int k a) (.int k' b)).run P w = .ok v' w ∧ VR φ v v' := by
  unfold shiftOp at h
  split at h
  · simp at h
  · rename_i hb
    rcases hop with rfl | rfl
    · simp only [Option.some.injEq] at h
      subst h
      exact ⟨_, by simp only [binOp, Op.shift, hb]; first | rfl | (simp; done) | (simp; rfl), .int _ _⟩
    · simp only [Option.some.injEq] at h
      subst h
      exact ⟨_, by simp only [binOp, Op.shift, hb]; first | rfl | (simp; done) | (simp; rfl), .int _ _⟩
omit [Val] in
theorem leS_bytes : ∀ (x y : List UInt8), leS (x.map UInt8.toNat) (y.map UInt8.toNat) = !(Op.bytesLess y x) := by
  intro x
  induction x with
  | nil => intro y; cases y <;> rfl
  | cons a x ih =>
    intro y
    cases y with
    | nil => rfl
    | cons b y =>
      simp only [List.map_cons, leS, Op.bytesLess]
      rw [ih y]
      have e1 : Nat.blt a.toNat b.toNat = decide (a < b) := by
        rw [Bool.eq_iff_iff]
        simp [Nat.blt, UInt8.lt_iff_toNat_lt, Nat.succ_le_iff]
      have e2 : Nat.beq a.toNat b.toNat = (b == a) := by
        rw [Bool.eq_iff_iff, Nat.beq_eq, beq_iff_eq, UInt8.toNat_inj]
        exact eq_comm
      rw [e1, e2]
      by_cases h1 : a < b
      · have h2 : ¬ b < a := by rw [UInt8.lt_iff_toNat_lt] at *; omega
        have h3 : (b == a) = false := by
          rw [beq_eq_false_iff_ne]; rintro rfl; rw [UInt8.lt_iff_toNat_lt] at h1; omega
        simp [h1, h2, h3]
      · by_cases h4 : b = a
        · subst h4
          simp [h1]
        · have h2 : b < a := by
            rw [UInt8.lt_iff_toNat_lt] at *
            have : b.toNat ≠ a.toNat := fun e => h4 (UInt8.toNat_inj.1 e)
            omega
          have h3 : (b == a) = false := by simpa using h4
          simp [h1, h2, h3]
omit [Val] in
theorem bytesLess_total : ∀ (x y : List UInt8), (Op.bytesLess x y || x == y) = !(Op.bytesLess y x) := by
  intro x
  induction x with
  | nil => intro y; cases y <;> simp [Op.bytesLess]
  | cons a x ih =>
    intro y
    cases y with
    | nil => simp [Op.bytesLess]
    | cons b y =>
      simp only [Op.bytesLess]
      have ih' := ih y
      by_cases h1 : a < b
      · have h2 : ¬ b < a := by rw [UInt8.lt_iff_toNat_lt] at *; omega
        have h3 : (b == a) = false := by
          rw [beq_eq_false_iff_ne]; rintro rfl; rw [UInt8.lt_iff_toNat_lt] at h1; omega
        simp [h1, h2, h3]
      · by_cases h4 : b = a
        · subst h4
          have e : (b :: x == b :: y) = (x == y) := by simp
          simp only [h1, decide_false, Bool.false_or, beq_self_eq_true, Bool.true_and, e]
          exact ih'
        · have h2 : b < a := by
            rw [UInt8.lt_iff_toNat_lt] at *
            have : b.toNat ≠ a.toNat := fun e => h4 (UInt8.toNat_inj.1 e)
            omega
          have h3 : (b == a) = false := by simpa using h4
          have h5 : (a == b) = false := by rw [beq_eq_false_iff_ne]; exact fun e => h4 e.symm
          have h6 : (a :: x == b :: y) = false := by rw [beq_eq_false_iff_ne]; intro e; exact h4 (List.cons.inj e).1.symm
          simp [h1, h2, h3, h5, h6]
omit [Val] in
theorem guard_ok (op : BinOp) (t : TypeId) (x y : Operand) (a b : Value) (w : World)
    (h1 : a = .nilIface → b = .nilIface → (isConst x || isConst y) = true)
    (h2 : ∀ xs ys, a = .agg xs → b = .agg ys → P.eqGuardType P.depth t = false) : (eqGuard op t x y a b).run P w = .ok () w := by
  cases op
  case eql =>
    cases a <;> cases b <;> first
      | rfl
      | (exact run_eqGuard_agg w _ t x y _ _ (h2 _ _ rfl rfl))
      | (have hc := h1 rfl rfl
         simp only [Bool.or_eq_true] at hc
         cases x <;> cases y <;> first | rfl | (simp [isConst] at hc))
  case neq =>
    cases a <;> cases b <;> first
      | rfl
      | (exact run_eqGuard_agg w _ t x y _ _ (h2 _ _ rfl rfl))
      | (have hc := h1 rfl rfl
         simp only [Bool.or_eq_true] at hc
         cases x <;> cases y <;> first | rfl | (simp [isConst] at hc))
  all_goals rfl
theorem eqA_in {tb : List Fact} (hT : ∀ f ∈ tb, f.holds Val.σ) {t : TypeId} {x y : AV} {cst r : Bool} (h : eqA P tb t x y cst = some r) {x' y' : Value} (hx : VR φ x x') (hy : VR φ y y') (w : World) (d : Nat) (hd : 8 ≤ d + 1) :
    (Op.equalIn (d + 1) t x' y').run P w = .ok r w ∧ (x' = .nilIface → y' = .nilIface → cst = true) ∧ (∀ xs ys, x' = .agg xs → y' = .agg ys → P.eqGuardType P.depth t = false) := by
  unfold eqA at h
  split at h
  · rename_i a b hu
    rw [hx.bool_inv, hy.bool_inv]
    simp only [Option.some.injEq] at h
    subst h
    refine ⟨?_, by simp, by simp⟩
    simp [Op.equalIn, run_und hu]
  · rename_i hu
    rw [hx.nilp_inv, hy.nilp_inv]
    simp only [Option.some.injEq] at h
    subst h
    exact ⟨by simp [Op.equalIn, run_und hu], by simp, by simp⟩
  · rename_i hu
    obtain ⟨b, base, cs, _, rfl⟩ := hy.ptr_inv
    rw [hx.nilp_inv]
    simp only [Option.some.injEq] at h
    subst h
    exact ⟨by simp [Op.equalIn, run_und hu], by simp, by simp⟩
  · rename_i hu
    obtain ⟨b, base, cs, _, rfl⟩ := hx.ptr_inv
    rw [hy.nilp_inv]
    simp only [Option.some.injEq] at h
    subst h
    exact ⟨by simp [Op.equalIn, run_und hu], by simp, by simp⟩
  · rename_i te i o j p hu
    obtain ⟨b, base, cs, h1, rfl⟩ := hx.ptr_inv
    obtain ⟨b2, base2, cs2, h2, rfl⟩ := hy.ptr_inv
    cases e : Nat.beq i j && Nat.beq o p with
    | false => rw [e] at h; simp at h
    | true =>
      rw [e] at h
      simp only [Bool.and_eq_true] at e
      obtain rfl := Nat.eq_of_beq_eq_true e.1
      obtain rfl := Nat.eq_of_beq_eq_true e.2
      simp only [cond_true] at h
      split at h
      · rename_i sz hsz
        simp only [Option.some.injEq] at h
        subst h
        obtain ⟨info, hinf, hsize⟩ : ∃ inf, P.info? te = some inf ∧ inf.size = sz + 1 := by
          unfold size? at hsz
          cases e' : P.info? te with
          | none => rw [e'] at hsz; simp at hsz
          | some inf => rw [e'] at hsz; exact ⟨inf, rfl, by simpa using hsz⟩
        obtain ⟨rfl, rfl, rfl⟩ : b = b2 ∧ base = base2 ∧ cs = cs2 := by
          have := Option.some.inj (h1.symm.trans h2)
          simpa using this
        exact ⟨by simp [Op.equalIn, run_und hu, sizeOf, typeInfo, hinf, sameAddr], by simp, by simp⟩
      · simp at h
  · rename_i hu
    rw [hx.nils_inv, hy.nils_inv]
    simp only [Option.some.injEq] at h
    subst h
    exact ⟨by simp [Op.equalIn, run_und hu], by simp, by simp⟩
  · rename_i hu
    obtain ⟨b, base, cs, o, c, _, _, _, _, _, _, _, rfl⟩ := hy.slice_inv
    rw [hx.nils_inv]
    simp only [Option.some.injEq] at h
    subst h
    exact ⟨by simp [Op.equalIn, run_und hu], by simp, by simp⟩
  · rename_i hu
    obtain ⟨b, base, cs, o, c, _, _, _, _, _, _, _, rfl⟩ := hx.slice_inv
    rw [hy.nils_inv]
    simp only [Option.some.injEq] at h
    subst h
    exact ⟨by simp [Op.equalIn, run_und hu], by simp, by simp⟩
  · rename_i hu
    rw [hx.nilm_inv, hy.nilm_inv]
    simp only [Option.some.injEq] at h
    subst h
    exact ⟨by simp [Op.equalIn, run_und hu], by simp, by simp⟩
  · rename_i hu
    obtain ⟨p, _, rfl⟩ := hy.map_inv
    rw [hx.nilm_inv]
    simp only [Option.some.injEq] at h
    subst h
    exact ⟨by simp [Op.equalIn, run_und hu], by simp, by simp⟩
  · rename_i hu
    obtain ⟨p, _, rfl⟩ := hx.map_inv
    rw [hy.nilm_inv]
    simp only [Option.some.injEq] at h
    subst h
    exact ⟨by simp [Op.equalIn, run_und hu], by simp, by simp⟩
  · rename_i hu
    rw [hx.nilf_inv, hy.nilf_inv]
    simp only [Option.some.injEq] at h
    subst h
    exact ⟨by simp [Op.equalIn, run_und hu], by simp, by simp⟩
  · rename_i hu
    obtain ⟨f', a₁, a₂, _, _, _, rfl⟩ := hy.fn_inv
    rw [hx.nilf_inv]
    simp only [Option.some.injEq] at h
    subst h
    exact ⟨by simp [Op.equalIn, run_und hu], by simp, by simp⟩
  · rename_i hu
    obtain ⟨f', a₁, a₂, _, _, _, rfl⟩ := hx.fn_inv
    rw [hy.nilf_inv]
    simp only [Option.some.injEq] at h
    subst h
    exact ⟨by simp [Op.equalIn, run_und hu], by simp, by simp⟩
  · rename_i hu
    rw [hx.nili_inv, hy.nili_inv]
    split at h
    · rename_i hc
      simp only [Option.some.injEq] at h
      subst h
      exact ⟨by simp [Op.equalIn, run_und hu], fun _ _ => hc, by simp⟩
    · simp at h
  · rename_i hu
    obtain ⟨v', _, rfl⟩ := hy.iface_inv
    rw [hx.nili_inv]
    simp only [Option.some.injEq] at h
    subst h
    exact ⟨by simp [Op.equalIn, run_und hu], by simp, by simp⟩
  · rename_i hu
    obtain ⟨v', _, rfl⟩ := hx.iface_inv
    rw [hy.nili_inv]
    simp only [Option.some.injEq] at h
    subst h
    exact ⟨by simp [Op.equalIn, run_und hu], by simp, by simp⟩
  · split at h
    · rename_i hg
      refine ⟨eqT_ok hT 8 t _ _ r h hx hy _ w hd, ?_, fun _ _ _ _ => hg⟩
      obtain ⟨a, _, _, _, _, rfl⟩ := hx.agg_inv
      intro e; simp at e
    · simp at h
  · split at h
    · rename_i hg
      refine ⟨eqT_ok hT 8 t _ _ r h hx hy _ w hd, ?_, fun _ _ _ _ => hg⟩
      obtain ⟨a, _, _, _, _, rfl⟩ := hx.agg_inv
      intro e; simp at e
    · simp at h
  · simp at h
theorem eqA_ok {tb : List Fact} (hT : ∀ f ∈ tb, f.holds Val.σ) {t : TypeId} {x y : AV} {cst r : Bool} (h : eqA P tb t x y cst = some r) {x' y' : Value} (hx : VR φ x x') (hy : VR φ y y') (w : World) :
    (Op.equal t x' y').run P w = .ok r w ∧ (x' = .nilIface → y' = .nilIface → cst = true) ∧ (∀ xs ys, x' = .agg xs → y' = .agg ys → P.eqGuardType P.depth t = false) :=
  eqA_in hT h hx hy w 9999 (by decide)
theorem binA_ok {tb : List Fact} (hT : ∀ f ∈ tb, f.holds Val.σ) {op : BinOp} {t : TypeId} {x y : Operand} {a b v : AV} (h : binA P tb op t (isConst x || isConst y) a b = some v) {a' b' : Value} (ha : VR φ a a') (hb : VR φ b b') (w : World) :
    ∃ v', (do eqGuard op t x y a' b'; binOp op t a' b' : Sem Value).run P w = .ok v' w ∧ VR φ v v' := by
  have go : (eqGuard op t x y a' b').run P w = .ok () w → (∃ v', (binOp op t a' b').run P w = .ok v' w ∧ VR φ v v') →
      ∃ v', (do eqGuard op t x y a' b'; binOp op t a' b' : Sem Value).run P w = .ok v' w ∧ VR φ v v' := by
    rintro hg ⟨v', h1, h2⟩
    exact ⟨v', by simp only [Sem.run_bind, hg, Result.andThen_ok, h1], h2⟩
  have goAny : ∀ {k k' : IntKind} {o : Option Int}, anyBin op k k' o = some v → ∀ n m : Int, (∀ z, o = some z → m = z) → a' = .int k n → b' = .int k' m →
      ∃ v', (do eqGuard op t x y a' b'; binOp op t a' b' : Sem Value).run P w = .ok v' w ∧ VR φ v v' := by
    intro k k' o hq n m ho ea eb
    subst ea; subst eb
    obtain ⟨v', hv, hz⟩ := anyBin_ok (φ := φ) hq n m ho
    clear hq
    rcases hv with ⟨hop, hv⟩ | ⟨ek, hv⟩
    · obtain ⟨z, h1, h2⟩ := shiftOp_ok (P := P) (φ := φ) hv hop t w
      exact go (guard_ok _ _ _ _ _ _ w (by simp) (by simp)) ⟨z, h1, hz z h2⟩
    · subst ek
      obtain ⟨z, h1, h2⟩ := intOp_ok (P := P) (φ := φ) hv t w
      exact go (guard_ok _ _ _ _ _ _ w (by simp) (by simp)) ⟨z, h1, hz z h2⟩
  unfold binA at h
  split at h
  · rename_i k a k' b
    obtain rfl := ha.int_inv
    obtain rfl := hb.int_inv
    exact go (guard_ok _ _ _ _ _ _ w (by simp) (by simp)) (shiftOp_ok h (.inl rfl) t w)
  · rename_i k a k' b
    obtain rfl := ha.int_inv
    obtain rfl := hb.int_inv
    exact go (guard_ok _ _ _ _ _ _ w (by simp) (by simp)) (shiftOp_ok h (.inr rfl) t w)
  · rename_i k a k' b _ _
    cases hk : Nat.beq (kindNo k) (kindNo k') with
    | false => rw [hk] at h; simp at h
    | true =>
      rw [hk, cond_true, intF_eq] at h
      have e : k = k' := kindNo_inj (Nat.eq_of_beq_eq_true hk)
      subst e
      obtain rfl := ha.int_inv
      obtain rfl := hb.int_inv
      exact go (guard_ok _ _ _ _ _ _ w (by simp) (by simp)) (intOp_ok h t w)
  · obtain ⟨n, rfl, _⟩ := ha.sym_inv
    obtain ⟨m, rfl⟩ := hb.any_inv
    exact goAny h n m (fun _ e => by simp at e) rfl rfl
  · obtain ⟨k, a, k', b, v', rfl, rfl, hv, hz⟩ := symBin_ok hT h ha hb
    rcases hv with ⟨hop, hv⟩ | ⟨rfl, hv⟩
    · obtain ⟨z, h1, h2⟩ := shiftOp_ok (P := P) (φ := φ) hv hop t w
      exact go (guard_ok _ _ _ _ _ _ w (by simp) (by simp)) ⟨z, h1, hz z h2⟩
    · obtain ⟨z, h1, h2⟩ := intOp_ok (P := P) (φ := φ) hv t w
      exact go (guard_ok _ _ _ _ _ _ w (by simp) (by simp)) ⟨z, h1, hz z h2⟩
  · obtain ⟨k, a, k', b, v', rfl, rfl, hv, hz⟩ := symBin_ok hT h ha hb
    rcases hv with ⟨hop, hv⟩ | ⟨rfl, hv⟩
    · obtain ⟨z, h1, h2⟩ := shiftOp_ok (P := P) (φ := φ) hv hop t w
      exact go (guard_ok _ _ _ _ _ _ w (by simp) (by simp)) ⟨z, h1, hz z h2⟩
    · obtain ⟨z, h1, h2⟩ := intOp_ok (P := P) (φ := φ) hv t w
      exact go (guard_ok _ _ _ _ _ _ w (by simp) (by simp)) ⟨z, h1, hz z h2⟩
  · obtain ⟨n, rfl⟩ := ha.any_inv
    obtain rfl := hb.int_inv
    exact goAny h n _ (fun _ e => Option.some.inj e) rfl rfl
  · obtain ⟨n, rfl⟩ := ha.any_inv
    obtain ⟨m, rfl, _⟩ := hb.sym_inv
    exact goAny h n m (fun _ e => by simp at e) rfl rfl
  · obtain ⟨n, rfl⟩ := ha.any_inv
    obtain ⟨m, rfl⟩ := hb.any_inv
    exact goAny h n m (fun _ e => by simp at e) rfl rfl
  · obtain rfl := ha.int_inv
    obtain ⟨m, rfl⟩ := hb.any_inv
    exact goAny h _ m (fun _ e => by simp at e) rfl rfl
  · rename_i s u
    obtain ⟨s, rfl, rfl⟩ := ha.str_inv
    obtain ⟨u, rfl, rfl⟩ := hb.str_inv
    refine go (guard_ok _ _ _ _ _ _ w (by simp) (by simp)) ?_
    split at h
    · rename_i hlt
      simp only [Option.some.injEq] at h
      subst h
      refine ⟨.string (s ++ u), ?_, ?_⟩
      · have hsz : ¬ ((s.size + u.size : Nat) : Int) > IntKind.i64.max := by
          simp only [List.length_map, Array.length_toList] at hlt
          have e1 : s.data.size = s.size := rfl
          have e2 : u.data.size = u.size := rfl
          have : IntKind.i64.max = 9223372036854775807 := by decide
          rw [this]
          omega
        simp only [binOp, Op.stringOp, hsz, if_false, Sem.run_pure]
      · have := VR.str (φ := φ) (s ++ u)
        rw [ByteArray.data_append, Array.toList_append, List.map_append] at this
        exact this
    · simp at h
  · rename_i s u
    obtain ⟨s, rfl, rfl⟩ := ha.str_inv
    obtain ⟨u, rfl, rfl⟩ := hb.str_inv
    simp only [Option.some.injEq] at h
    subst h
    refine go (guard_ok _ _ _ _ _ _ w (by simp) (by simp)) ⟨_, by simp [binOp, Op.stringOp]; rfl, ?_⟩
    rw [bytes_beq]; exact .bool _
  · rename_i s u
    obtain ⟨s, rfl, rfl⟩ := ha.str_inv
    obtain ⟨u, rfl, rfl⟩ := hb.str_inv
    simp only [Option.some.injEq] at h
    subst h
    refine go (guard_ok _ _ _ _ _ _ w (by simp) (by simp)) ⟨.bool (!(s.toList == u.toList)), by simp only [binOp, Op.stringOp, Sem.run_pure], ?_⟩
    rw [bytes_beq]; exact .bool _
  · rename_i s u
    obtain ⟨s, rfl, rfl⟩ := ha.str_inv
    obtain ⟨u, rfl, rfl⟩ := hb.str_inv
    simp only [Option.some.injEq] at h
    subst h
    refine go (guard_ok _ _ _ _ _ _ w (by simp) (by simp)) ⟨.bool (Op.bytesLess s.toList u.toList), by simp only [binOp, Op.stringOp, Sem.run_pure], ?_⟩
    rw [leS_bytes, Bool.not_not, ← ByteArray.toList_eq, ← ByteArray.toList_eq]; exact .bool _
  · rename_i s u
    obtain ⟨s, rfl, rfl⟩ := ha.str_inv
    obtain ⟨u, rfl, rfl⟩ := hb.str_inv
    simp only [Option.some.injEq] at h
    subst h
    refine go (guard_ok _ _ _ _ _ _ w (by simp) (by simp)) ⟨.bool (Op.bytesLess s.toList u.toList || s.toList == u.toList), by simp only [binOp, Op.stringOp, Sem.run_pure], ?_⟩
    rw [bytesLess_total, leS_bytes, ← ByteArray.toList_eq, ← ByteArray.toList_eq]; exact .bool _
  · rename_i s u
    obtain ⟨s, rfl, rfl⟩ := ha.str_inv
    obtain ⟨u, rfl, rfl⟩ := hb.str_inv
    simp only [Option.some.injEq] at h
    subst h
    refine go (guard_ok _ _ _ _ _ _ w (by simp) (by simp)) ⟨.bool (!(Op.bytesLess s.toList u.toList || s.toList == u.toList)), by simp only [binOp, Op.stringOp, Sem.run_pure], ?_⟩
    rw [bytesLess_total, leS_bytes, ← ByteArray.toList_eq, ← ByteArray.toList_eq]; exact .bool _
  · rename_i s u
    obtain ⟨s, rfl, rfl⟩ := ha.str_inv
    obtain ⟨u, rfl, rfl⟩ := hb.str_inv
    simp only [Option.some.injEq] at h
    subst h
    refine go (guard_ok _ _ _ _ _ _ w (by simp) (by simp)) ⟨.bool (!Op.bytesLess s.toList u.toList), by simp only [binOp, Op.stringOp, Sem.run_pure], ?_⟩
    rw [leS_bytes, ← ByteArray.toList_eq, ← ByteArray.toList_eq]; exact .bool _
  · rename_i hne1 hne2
    cases he : eqA P tb t a b (isConst x || isConst y) with
    | none => rw [he] at h; simp at h
    | some r =>
      rw [he] at h
      simp only [Option.map_some, Option.some.injEq] at h
      subst h
      obtain ⟨h1, h2, h3⟩ := eqA_ok (P := P) hT he ha hb w
      refine go (guard_ok _ _ _ _ _ _ w h2 h3) ⟨.bool r, ?_, .bool r⟩
      have hbin : binOp .eql t a' b' = (do pure (.bool (← Op.equal t a' b'))) := by
        unfold eqA at he
        split at he <;> first | (simp at he; done) | skip
        all_goals (cases ha <;> cases hb <;> first | rfl | (simp_all [binOp]; done))
      rw [hbin]
      simp only [Sem.run_bind, h1, Result.andThen_ok, Sem.run_pure]
  · rename_i hne1 hne2
    cases he : eqA P tb t a b (isConst x || isConst y) with
    | none => rw [he] at h; simp at h
    | some r =>
      rw [he] at h
      simp only [Option.map_some, Option.some.injEq] at h
      subst h
      obtain ⟨h1, h2, h3⟩ := eqA_ok (P := P) hT he ha hb w
      refine go (guard_ok _ _ _ _ _ _ w h2 h3) ⟨.bool (!r), ?_, .bool _⟩
      have hbin : binOp .neq t a' b' = (do pure (.bool (!(← Op.equal t a' b')))) := by
        unfold eqA at he
        split at he <;> first | (simp at he; done) | skip
        all_goals (cases ha <;> cases hb <;> first | rfl | (simp_all [binOp]; done))
      rw [hbin]
      simp only [Sem.run_bind, h1, Result.andThen_ok, Sem.run_pure]
  · simp at h
theorem unA_ok {op : UnOp} {a v : AV} (h : unA op a = some v) {a' : Value} (ha : VR φ a a') (w : World) : ∃ v', (Op.unary op a').run P w = .ok v' w ∧ VR φ v v' := by
  have xorAny : ∀ {k : IntKind} (n : Int), ∃ v', (Op.unary .xor (.int k n)).run P w = .ok v' w ∧ VR φ (.any k) v' := by
    intro k n
    obtain ⟨v', h1, h2⟩ := bits_ok (P := P) (φ := φ) (show bitsI .xor k (if k.signed then -1 else k.max) n = some _ from rfl) w
    refine ⟨v', by simpa [Op.unary] using h1, ?_⟩
    rw [h2.int_inv]
    exact .any _ _
  unfold unA at h
  split at h
  · rw [ha.int_inv]
    simp only [Option.some.injEq] at h
    subst h
    exact ⟨_, by simp only [Op.unary, Op.intArith]; first | rfl | (simp; done) | (simp; rfl), .int _ _⟩
  · rw [ha.int_inv]
    obtain ⟨v', h1, h2⟩ := bits_ok (P := P) (φ := φ) h w
    exact ⟨v', by simpa [Op.unary] using h1, h2⟩
  · obtain ⟨n, rfl⟩ := ha.any_inv
    simp only [Option.some.injEq] at h
    subst h
    exact ⟨_, by simp only [Op.unary, Op.intArith]; first | rfl | (simp; done) | (simp; rfl), .any _ _⟩
  · obtain ⟨n, rfl⟩ := ha.any_inv
    simp only [Option.some.injEq] at h
    subst h
    exact xorAny n
  · obtain ⟨n, rfl, _⟩ := ha.sym_inv
    simp only [Option.some.injEq] at h
    subst h
    exact ⟨_, by simp only [Op.unary, Op.intArith]; first | rfl | (simp; done) | (simp; rfl), .any _ _⟩
  · obtain ⟨n, rfl, _⟩ := ha.sym_inv
    simp only [Option.some.injEq] at h
    subst h
    exact xorAny n
  · obtain ⟨b, rfl⟩ := ha.anyb_inv
    simp only [Option.some.injEq] at h
    subst h
    exact ⟨_, by simp only [Op.unary]; first | rfl | (simp; done) | (simp; rfl), .anyb _⟩
  · rw [ha.bool_inv]
    simp only [Option.some.injEq] at h
    subst h
    exact ⟨_, by simp only [Op.unary]; first | rfl | (simp; done) | (simp; rfl), .bool _⟩
  · simp at h
end
end Go.Ab
end

section
namespace Go.Ab
variable [Val]
section
variable {P : Program} {G : Nat} {φ : Phi} {h : H} {w : World}
theorem natOf_ok {a : AV} {n : Nat} (hn : natOf a = some n) {a' : Value} (ha : VR φ a a') : ∃ k i, a' = .int k i ∧ 0 ≤ i ∧ n = i.toNat := by
 unfold natOf at hn
 split at hn
 ·split at hn
  ·rename_i hi
   exact ⟨_, _, ha.int_inv, hi, by simpa using hn.symm⟩
  ·simp at hn
 ·simp at hn
def BR (x' : Option Value) (n dflt : Nat) : Prop := (x' = none ∧ n = dflt) ∨ ∃ k i, x' = some (.int k i) ∧ 0 ≤ i ∧ n = i.toNat
theorem bound_ok {ρ : Operand → AV} {ρ' : Operand → Value} (hρ : ∀ x, VR φ (ρ x) (ρ' x)) {x : Option Operand} {d n : Nat} (hb : bound (x.map ρ) d = some n) : BR (x.map ρ') n d := by
 cases x with
 | none => simp only [bound, Option.map_none, Option.some.injEq] at hb; exact .inl ⟨rfl, hb.symm⟩
 | some x =>
  simp only [bound, Option.map_some] at hb
  obtain ⟨k, i, e, h0, hn⟩ := natOf_ok hb (hρ x)
  exact .inr ⟨k, i, by simp [e], h0, hn⟩
omit [Val] in
theorem run_sliceBound {k : IntKind} {i : Int} {y : Nat} (code : BoundsCode) (h0 : 0 ≤ i) (hy : i.toNat ≤ y) : (Instr.sliceBound (.int k i) y code).run P w = .ok i.toNat w := by
 have : 0 ≤ i ∧ i ≤ (y : Int) := ⟨h0, by omega⟩
 simp [Instr.sliceBound, asIntOf, this]
omit [Val] in
theorem run_sliceBounds {isSlice : Bool} {len cap l hh : Nat} {lo hi : Option Value} (hl : BR lo l 0) (hhi : BR hi hh len) (h1 : l ≤ hh) (h2 : hi = none ∨ hh ≤ cap) :
  (Instr.sliceBounds isSlice len cap lo hi none).run P w = .ok (l, hh, cap) w := by
 rcases hl with ⟨rfl, rfl⟩ | ⟨k, i, rfl, hi0, rfl⟩ <;> rcases hhi with ⟨rfl, rfl⟩ | ⟨k', i', rfl, hi0', rfl⟩
 ·simp [Instr.sliceBounds]
 ·have h2' : i'.toNat ≤ cap := h2.resolve_left (by simp)
  simp [Instr.sliceBounds, run_sliceBound _ hi0' h2']
 ·simp [Instr.sliceBounds, run_sliceBound _ hi0 h1]
 ·have h2' : i'.toNat ≤ cap := h2.resolve_left (by simp)
  simp [Instr.sliceBounds, run_sliceBound _ hi0' h2', run_sliceBound _ hi0 h1]
omit [Val] in
theorem run_sliceBounds3 {isSlice : Bool} {len cap l hh m : Nat} {lo hi mx : Option Value} (hl : BR lo l 0) (hhi : BR hi hh len) (his : hi.isSome = true) {k : IntKind} {i : Int}
  (hm : mx = some (.int k i)) (h0 : 0 ≤ i) (hmi : m = i.toNat) (h1 : l ≤ hh) (h2 : hh ≤ m) (h3 : m ≤ cap) :
  (Instr.sliceBounds isSlice len cap lo hi mx).run P w = .ok (l, hh, m) w := by
 subst hm hmi
 rcases hhi with ⟨rfl, rfl⟩ | ⟨k', i', rfl, hi0', rfl⟩
 ·simp at his
 ·rcases hl with ⟨rfl, rfl⟩ | ⟨k2, i2, rfl, hi0, rfl⟩
  ·simp [Instr.sliceBounds, run_sliceBound _ h0 h3, run_sliceBound _ hi0' h2]
  ·simp [Instr.sliceBounds, run_sliceBound _ h0 h3, run_sliceBound _ hi0' h2, run_sliceBound _ hi0 h1]
theorem slice_vr {id off cap esz b base cs o c l hh m : Nat} {ex' : Bool} (hp : φ id = some (b, base, cs)) (ho : o = base + off ∨ c = 0) (hc : cap ≤ c)
  (hcs : o + c * esz ≤ cs) (hz : 0 < esz) (h1 : l ≤ hh) (h2 : hh ≤ cap) {cap' : Nat} (hm : cap' ≤ m - l) (hml : hh ≤ m) (hmc : m ≤ c) (hex : ex' = true → m - l = cap') (hlen : hh - l ≤ cap') :
  VR φ (.slice id (off + l * esz) (hh - l) cap' ex' esz) (.slice (if m = l then some ⟨b, o, none⟩ else (some (⟨b, o, none⟩ : Addr)).map (·.add (l * esz))) (hh - l) (m - l)) := by
 by_cases e : m = l
 ·rw [if_pos e]
  have e0 : m - l = 0 := by omega
  refine .slice hp (.inr e0) hlen hm (fun x => hex x) ?_ hz
  rw [e0]
  have : c * esz ≥ 0 := Nat.zero_le _
  omega
 ·rw [if_neg e]
  simp only [Option.map_some, add_none]
  refine .slice hp (.inl ?_) hlen hm (fun x => hex x) ?_ hz
  ·rcases ho with ho | ho <;> omega
  ·have e1 : l * esz + (m - l) * esz = m * esz := by rw [← Nat.add_mul]; congr 1; omega
   have e2 : m * esz ≤ c * esz := Nat.mul_le_mul_right _ hmc
   omega
omit [Val] in
theorem drop_take_eq {α : Type} (s : List α) (l hh : Nat) : (s.take hh).drop l = (s.drop l).take (hh - l) := by
 rw [List.drop_take]
theorem roomA_ok (hr : HR G φ h w) {id b base cs k : Nat} (hp : φ id = some (b, base, cs)) (hk : roomA h id k = true) : base + k ≤ cs := by
 unfold roomA at hk
 split at hk
 ·rename_i m dep d t hg
  have := obj_cells hr hg hp
  have := Nat.le_of_ble_eq_true hk
  omega
 ·simp at hk
omit [Val] in
theorem size_some {t : TypeId} {n : Nat} (h : size? P t = some n) : ∃ i, P.info? t = some i ∧ i.size = n := by
 unfold size? at h
 cases hi : P.info? t with
 | none => rw [hi] at h; simp at h
 | some i => rw [hi] at h; exact ⟨i, rfl, by simpa using h⟩
theorem sliceV_ok (hr : HR G φ h w) {ρ : Operand → AV} {ρ' : Operand → Value} (hρ : ∀ x, VR φ (ρ x) (ρ' x)) {t : TypeId} {id : Nat} {off len : E} {x' : Value} {lo hi : Option Operand} {v : AV}
  (hx : VR φ (.vsl id off len) x') (hs : sliceV P t id off len (lo.map ρ) (hi.map ρ) h = some v) : ∃ v', (Instr.sliceAt t x' (lo.map ρ') (hi.map ρ') none).run P w = .ok v' w ∧ VR φ v v' := by
 unfold sliceV at hs
 split at hs
 ·rename_i e k l lh le n nh hu ha hn
  split at hs
  ·rename_i hsz hhi
   obtain rfl : hi = none := by cases hi <;> simp_all
   split at hs
   ·rename_i s1 s2
    simp only [Option.some.injEq] at hs
    subst hs
    obtain ⟨m, hbr, hle, hl1, hl2⟩ : ∃ m : Int, BR (lo.map ρ') m.toNat 0 ∧ le.eval Val.σ = m ∧ (0 ≤ m) ∧ m ≤ len.eval Val.σ := by
     have hn' := E.rng_ok Val.σ hn
     cases lo with
     | none =>
      simp only [Option.map_none, Option.getD_none, asSym, Option.some.injEq, Prod.mk.injEq] at ha
      obtain ⟨rfl, rfl, rfl, rfl⟩ := ha
      have q2 := symLt_ok Val.σ hr.fct s2 rfl hn'.1 hn'.2 rfl (Int.le_refl _) (Int.le_refl _)
      have q2 := of_decide_eq_false q2
      refine ⟨0, .inl ⟨rfl, rfl⟩, rfl, Int.le_refl _, ?_⟩
      simp only [E.eval] at q2
      omega
     | some y =>
      simp only [Option.map_some, Option.getD_some] at ha
      obtain ⟨m, hm, e1, e2, e3⟩ := asSym_vr ha (hρ y)
      have q1 := of_decide_eq_false (symLt_ok Val.σ hr.fct s1 e1 e2 e3 (e₂ := .const 0) rfl (Int.le_refl (0 : Int)) (Int.le_refl (0 : Int)))
      simp only [E.eval] at q1
      have q2 := of_decide_eq_false (symLt_ok Val.σ hr.fct s2 rfl hn'.1 hn'.2 e1 e2 e3)
      exact ⟨m, .inr ⟨k, m, by simp [hm], by omega, rfl⟩, e1, by omega, by omega⟩
    have hoff : (off.plus le).eval Val.σ = off.eval Val.σ + m := by rw [E.plus_ok, hle]
    have hlen : (len.minus le).eval Val.σ = len.eval Val.σ - m := by rw [E.minus_ok, hle]
    rcases hx.vsl_inv with ⟨b, base, cs, o, n', c, hp, hn1, h0, ho, hcs, hc, rfl⟩ | ⟨h0, a0, c0, rfl⟩
    ·have hmn : m.toNat ≤ n' := by omega
     have hbs := run_sliceBounds (P := P) (w := w) (isSlice := true) (len := n') (cap := c) hbr (.inl ⟨rfl, rfl⟩ : BR (none : Option Value) n' n') hmn (.inl rfl)
     refine ⟨.slice (if c = m.toNat then some ⟨b, o, none⟩ else (some (⟨b, o, none⟩ : Addr)).map (·.add (m.toNat * 1))) (n' - m.toNat) (c - m.toNat), ?_, ?_⟩
     ·simp only [Instr.sliceAt, Sem.run_bind, run_und hu, Result.andThen_ok, Instr.slice, Option.map_none, hbs, run_size hsz, Sem.run_pure]
     ·by_cases e : c = m.toNat
      ·rw [if_pos e]
       exact .vsl hp (by rw [hlen]; omega) (by rw [hoff]; omega) (.inl (by omega)) (by omega) (by omega)
      ·rw [if_neg e]
       simp only [Option.map_some, add_none, Nat.mul_one]
       exact .vsl hp (by rw [hlen]; omega) (by rw [hoff]; omega) (by rw [hoff]; omega) (by omega) (by omega)
    ·have hm0 : m = 0 := by omega
     subst hm0
     have hbs := run_sliceBounds (P := P) (w := w) (isSlice := true) (len := 0) (cap := c0) hbr (.inl ⟨rfl, rfl⟩ : BR (none : Option Value) 0 0) (Nat.le_refl _) (.inl rfl)
     refine ⟨.slice (if c0 = (0 : Int).toNat then a0 else a0.map (·.add ((0 : Int).toNat * 1))) (0 - (0 : Int).toNat) (c0 - (0 : Int).toNat), ?_, .vsln (by rw [hlen]; omega)⟩
     simp only [Instr.sliceAt, Sem.run_bind, run_und hu, Result.andThen_ok, Instr.slice, Option.map_none, hbs, run_size hsz, Sem.run_pure]
   ·simp at hs
  ·simp at hs
 ·simp at hs
theorem sliceA_ok (hr : HR G φ h w) {ρ : Operand → AV} {ρ' : Operand → Value} (hρ : ∀ x, VR φ (ρ x) (ρ' x)) {t : TypeId} {x : Operand} {lo hi mx : Option Operand} {v : AV}
  (hs : sliceA P t (ρ x) (lo.map ρ) (hi.map ρ) (mx.map ρ) h = some v) : ∃ v', (Instr.sliceAt t (ρ' x) (lo.map ρ') (hi.map ρ') (mx.map ρ')).run P w = .ok v' w ∧ VR φ v v' := by
 have hx := hρ x
 have hiSome : (hi.map ρ').isSome = (hi.map ρ).isSome := by cases hi <;> rfl
 unfold sliceA at hs
 split at hs
 ·rename_i id off len hu hmx
  obtain rfl : mx = none := by cases mx <;> simp_all
  rw [hu] at hx
  exact sliceV_ok hr hρ hx hs
 unfold sliceK at hs
 split at hs
 ·rename_i s hu heq
  rw [heq] at hx
  obtain ⟨s, e, rfl⟩ := hx.str_inv
  rw [e]
  split at hs
  ·rename_i l hh hmx hlo hhi
   split at hs
   ·rename_i hle
    simp only [Option.some.injEq] at hs
    subst hs
    obtain rfl : mx = none := by cases mx <;> simp_all
    have b1 := bound_ok hρ hlo
    have b2 := bound_ok hρ hhi
    have hlen : (s.data.toList.map UInt8.toNat).length = s.size := by rw [List.length_map, Array.length_toList]; rfl
    rw [hlen] at b2 hle
    refine ⟨.string (s.extract l hh), ?_, ?_⟩
    ·simp only [Instr.sliceAt, Sem.run_bind, run_und hu, Result.andThen_ok, Instr.slice, Option.map_none, Option.isSome_none, Bool.false_eq_true, if_false, run_sliceBounds b1 b2 hle.1 (.inr hle.2), Sem.run_pure]
    ·have := VR.str (φ := φ) (s.extract l hh)
     rw [Lib.extract_data] at this
     rw [drop_take_eq]
     simpa [List.map_take, List.map_drop] using this
   ·simp at hs
  ·simp at hs
 ·rename_i e id off len cap ex esz hu heq
  rw [heq] at hx
  obtain ⟨b, base, cs, o, c, hp, ho, hl, hc, he, hcs, hz, e'⟩ := hx.slice_inv
  rw [e']
  split at hs
  ·rename_i sz l hh hsz hlo hhi
   have b1 := bound_ok hρ hlo
   have b2 := bound_ok hρ hhi
   split at hs
   ·rename_i hmx
    obtain rfl : mx = none := by cases mx <;> simp_all
    split at hs
    ·rename_i hle
     obtain ⟨rfl, h1, h2⟩ := hle
     simp only [Option.some.injEq] at hs
     subst hs
     refine ⟨_, ?_, slice_vr hp ho hc hcs hz h1 h2 (m := c) (cap' := cap - l) (by omega) (by omega) (Nat.le_refl _) (fun x => by rw [he x]) (by omega)⟩
     simp only [Instr.sliceAt, Sem.run_bind, run_und hu, Result.andThen_ok, Instr.slice, Option.map_none, run_sliceBounds (P := P) (w := w) (isSlice := true) (len := len) (cap := c) b1 b2 h1 (.inr (by omega)), run_size hsz, Sem.run_pure]
    ·simp at hs
   ·rename_i mv hmx
    split at hs
    ·rename_i m hm
     split at hs
     ·rename_i hle
      obtain ⟨rfl, hsome, h1, h2, h3⟩ := hle
      simp only [Option.some.injEq] at hs
      subst hs
      obtain ⟨mo, rfl, rfl⟩ : ∃ mo, mx = some mo ∧ mv = ρ mo := by cases mx <;> simp_all
      obtain ⟨k, i, e2, h0, hmi⟩ := natOf_ok hm (hρ mo)
      refine ⟨_, ?_, slice_vr hp ho hc hcs hz h1 (by omega) (m := m) (cap' := m - l) (Nat.le_refl _) (by omega) (by omega) (fun _ => rfl) (by omega)⟩
      simp only [Instr.sliceAt, Sem.run_bind, run_und hu, Result.andThen_ok, Instr.slice, Option.map_some,
       run_sliceBounds3 (P := P) (w := w) (isSlice := true) (len := len) (cap := c) (mx := some (ρ' mo)) b1 b2 (by rw [hiSome]; exact hsome) (k := k) (i := i) (by rw [e2]) h0 hmi h1 h2 (by omega), run_size hsz, Sem.run_pure]
     ·simp at hs
    ·simp at hs
  ·simp at hs
 ·rename_i e hu heq
  rw [heq] at hx
  rw [hx.nils_inv]
  split at hs
  ·rename_i sz hse hmx hlo hhi
   simp only [Option.some.injEq] at hs
   subst hs
   obtain rfl : mx = none := by cases mx <;> simp_all
   have b1 := bound_ok hρ hlo
   have b2 := bound_ok hρ hhi
   refine ⟨.slice none 0 0, ?_, .nils⟩
   simp only [Instr.sliceAt, Sem.run_bind, run_und hu, Result.andThen_ok, Instr.slice, Option.map_none, run_sliceBounds b1 b2 (Nat.le_refl _) (.inr (Nat.le_refl _)), run_size hse, Sem.run_pure, if_true, Nat.sub_self]
  ·simp at hs
 ·rename_i n e id off hu heq
  rw [heq] at hx
  obtain ⟨b, base, cs, hp, e'⟩ := hx.ptr_inv
  rw [e']
  split at hs
  ·rename_i sz l hh hsz hlo hhi hmx
   obtain rfl : mx = none := by cases mx <;> simp_all
   have b1 := bound_ok hρ hlo
   have b2 := bound_ok hρ hhi
   split at hs
   ·rename_i hle
    obtain ⟨h1, h2, h3⟩ := hle
    simp only [Option.some.injEq] at hs
    subst hs
    have hroom := roomA_ok hr hp h3
    refine ⟨_, ?_, slice_vr (o := base + off) (c := n) (cap := n) hp (.inl rfl) (Nat.le_refl _) (by omega) (by omega) h1 h2 (m := n) (cap' := n - l) (Nat.le_refl _) (by omega) (Nat.le_refl _) (fun _ => rfl) (by omega)⟩
    simp only [Instr.sliceAt, Sem.run_bind, run_und hu, Result.andThen_ok, Instr.sureAddr, Option.map_none, run_sliceBounds b1 b2 h1 (.inr h2), run_size hsz, Sem.run_pure, Option.map_some, add_none]
    congr 2
    split <;> rfl
   ·simp at hs
  ·simp at hs
 ·rename_i a id off hu heq
  rw [heq] at hx
  obtain ⟨b, base, cs, hp, e'⟩ := hx.ptr_inv
  rw [e']
  split at hs
  ·rename_i n e hua
   split at hs
   ·rename_i sz l hh hsz hlo hhi hmx
    obtain rfl : mx = none := by cases mx <;> simp_all
    have b1 := bound_ok hρ hlo
    have b2 := bound_ok hρ hhi
    split at hs
    ·rename_i hle
     obtain ⟨h1, h2, h3⟩ := hle
     simp only [Option.some.injEq] at hs
     subst hs
     have hroom := roomA_ok hr hp h3
     refine ⟨_, ?_, slice_vr (o := base + off) (c := n) (cap := n) hp (.inl rfl) (Nat.le_refl _) (by omega) (by omega) h1 h2 (m := n) (cap' := n - l) (Nat.le_refl _) (by omega) (Nat.le_refl _) (fun _ => rfl) (by omega)⟩
     simp only [Instr.sliceAt, Instr.slice, asAddr, Sem.run_bind, run_und hu, run_und hua, Result.andThen_ok, Option.map_none, run_sliceBounds b1 b2 h1 (.inr h2), run_size hsz, Sem.run_pure, Option.map_some, add_none]
     congr 2
     split <;> rfl
    ·simp at hs
   ·simp at hs
  ·simp at hs
 ·simp at hs
omit [Val] in
theorem field?_ok {s : TypeId} {f fo sz : Nat} {ft : TypeId} (hf : field? P s f = some (fo, ft, sz)) :
  ∃ fields x, P.underlying s = some (.struct fields) ∧ fields[f]? = some x ∧ x.offset = fo ∧ x.type = ft ∧ size? P ft = some sz ∧ 0 < sz := by
 unfold field? at hf
 split at hf
 ·rename_i fields hu
  split at hf
  ·rename_i x hx
   split at hf
   ·rename_i sz' hsz
    simp only [Option.some.injEq, Prod.mk.injEq] at hf
    obtain ⟨rfl, rfl, rfl⟩ := hf
    exact ⟨fields, x, hu, hx, rfl, rfl, hsz, by omega⟩
   ·simp at hf
  ·simp at hf
 ·simp at hf
theorem fieldAddr_ok {s : TypeId} {f fo sz : Nat} {ft : TypeId} (hf : field? P s f = some (fo, ft, sz)) {id off : Nat} {v : Value} (hv : VR φ (.ptr id off) v) :
  ∃ v', (Instr.fieldAt s v f).run P w = .ok v' w ∧ VR φ (.ptr id (off + fo)) v' := by
 obtain ⟨fields, x, hu, hx, rfl, rfl, hsz, hpos⟩ := field?_ok hf
 obtain ⟨b, base, cs, hp, rfl⟩ := hv.ptr_inv
 refine ⟨.pointer (some ⟨b, base + (off + x.offset), none⟩), ?_, .ptr hp⟩
 have hne : ¬ sz = 0 := by omega
 simp only [Instr.fieldAt, Sem.run_bind, run_und hu, Result.andThen_ok, hx, Instr.sureAddr, Sem.run_pure, fieldPlace, run_size hsz, hne, if_false, add_none, Nat.add_assoc]
theorem indexAddrA_ok (hT : ∀ f ∈ h.tb, f.holds Val.σ) {t : TypeId} {x i : AV} {r : AR} (hr : indexAddrA P t x i h = some r) {x' i' : Value} (hx : VR φ x x') (hi : VR φ i i') :
  ∃ v v', r = .val v h ∧ (Instr.indexAt t x' i').run P w = .ok v' w ∧ VR φ v v' := by
 unfold indexAddrA at hr
 split at hr
 ·rename_i id off len
  unfold indexAddrV at hr
  split at hr
  ·rename_i e k l hh ie hu ha
   split at hr
   ·rename_i ll lh hsz hn
    split at hr
    ·rename_i s1 s2
     simp only [Option.some.injEq] at hr
     subst hr
     obtain ⟨m, rfl, e1, e2, e3⟩ := asSym_vr ha hi
     have hn' := E.rng_ok Val.σ hn
     have q1 := of_decide_eq_true (symLt_ok Val.σ hT s1 (e₁ := .const (-1)) rfl (Int.le_refl (-1 : Int)) (Int.le_refl (-1 : Int)) e1 e2 e3)
     have q2 := of_decide_eq_true (symLt_ok Val.σ hT s2 e1 e2 e3 rfl hn'.1 hn'.2)
     simp only [E.eval] at q1
     rcases hx.vsl_inv with ⟨b, base, cs, o, n', c, hp, hn1, h0, ho, hcs, hc, rfl⟩ | ⟨h0, a0, c0, rfl⟩
     ·have hm0 : 0 ≤ m := by omega
      have hmn : m < n' := by omega
      have ho' : o = base + (off.eval Val.σ).toNat := by omega
      have hoff : (off.plus ie).eval Val.σ = off.eval Val.σ + m := by rw [E.plus_ok, e1]
      refine ⟨_, .pointer (some ⟨b, o + m.toNat, none⟩), rfl, ?_, .vptr hp (by rw [hoff]; omega) (by rw [hoff]; omega) (by omega)⟩
      simp only [Instr.indexAt, asIntOf, Sem.run_bind, Sem.run_pure, Result.andThen_ok, run_und hu, hm0, hmn, and_self, if_true, run_size hsz, add_none, Nat.mul_one]
     ·omega
    ·simp at hr
   ·simp at hr
  ·simp at hr
 rename_i hnv
 clear hnv
 unfold indexAddrK at hr
 split at hr
 ·rename_i k n
  obtain rfl := hi.int_inv
  split at hr
  ·rename_i len e id off hu
   obtain ⟨b, base, cs, hp, rfl⟩ := hx.ptr_inv
   split at hr
   ·rename_i sz hsz
    split at hr
    ·rename_i hle
     simp only [Option.some.injEq] at hr
     subst hr
     refine ⟨_, .pointer (some ⟨b, base + (off + n.toNat * (sz + 1)), none⟩), rfl, ?_, .ptr hp⟩
     simp only [Instr.indexAt, asIntOf, Sem.run_bind, Sem.run_pure, Result.andThen_ok, run_und hu, Instr.sureAddr, hle.1, hle.2, and_self, if_true, run_size hsz, add_none, Nat.add_assoc]
    ·simp at hr
   ·simp at hr
  ·rename_i e id off len cap ex esz hu
   obtain ⟨b, base, cs, o, c, hp, ho, hl, hc, he, hcs, hz, rfl⟩ := hx.slice_inv
   split at hr
   ·rename_i sz hsz
    split at hr
    ·rename_i hle
     obtain ⟨h0, h1, rfl⟩ := hle
     simp only [Option.some.injEq] at hr
     subst hr
     have ho' : o = base + off := by rcases ho with ho | ho <;> omega
     refine ⟨_, .pointer (some ⟨b, base + (off + n.toNat * (sz + 1)), none⟩), rfl, ?_, .ptr hp⟩
     simp only [Instr.indexAt, asIntOf, Sem.run_bind, Sem.run_pure, Result.andThen_ok, run_und hu, h0, h1, and_self, if_true, run_size hsz, add_none, ho', Nat.add_assoc]
    ·simp at hr
   ·simp at hr
  ·simp at hr
 ·simp at hr
theorem indexA_ok {t : TypeId} {x i v : AV} (hr : indexA P t x i = some v) {x' i' : Value} (hx : VR φ x x') (hi : VR φ i i') :
  ∃ v', (Instr.index t x' i').run P w = .ok v' w ∧ VR φ v v' := by
 unfold indexA at hr
 split at hr
 ·rename_i k n
  obtain rfl := hi.int_inv
  split at hr
  ·rename_i len e m dep d tr hu
   obtain ⟨a, _, _, _, _, rfl⟩ := hx.agg_inv
   split at hr
   ·rename_i sz hsz
    split at hr
    ·rename_i hle
     obtain ⟨v', hrun, hv⟩ := partA_ok hx hr w
     refine ⟨v', ?_, hv⟩
     simp only [Instr.index, asIntOf, Sem.run_bind, Sem.run_pure, Result.andThen_ok, run_und hu, hle.1, hle.2, and_self, if_true, run_size hsz, hrun]
    ·simp at hr
   ·simp at hr
  ·rename_i s hu
   obtain ⟨s, rfl, rfl⟩ := hx.str_inv
   split at hr
   ·rename_i h0
    cases hb : (s.data.toList.map UInt8.toNat)[n.toNat]? with
    | none => rw [hb] at hr; simp at hr
    | some c =>
     rw [hb] at hr
     simp only [Option.map_some, Option.some.injEq] at hr
     subst hr
     rw [List.getElem?_map] at hb
     cases hb2 : s.data.toList[n.toNat]? with
     | none => rw [hb2] at hb; simp at hb
     | some u =>
      rw [hb2] at hb
      simp only [Option.map_some, Option.some.injEq] at hb
      subst hb
      have hs2 : s[n.toNat]? = some u := by
       rw [Array.getElem?_toList] at hb2
       exact hb2
      refine ⟨.int .u8 u.toNat, ?_, .int _ _⟩
      simp only [Instr.index, asIntOf, Sem.run_bind, Sem.run_pure, Result.andThen_ok, run_und hu, h0, if_true, hs2]
   ·simp at hr
  ·simp at hr
 ·simp at hr
theorem lenOfA_ok (hr : HR G φ h w) {t : TypeId} {x v : AV} (hl : lenOfA P t x h = some v) {x' : Value} (hx : VR φ x x') {ts : Array TypeId} (ht : ts[0]? = some t) (ty : TypeId) :
  ∃ v', (Builtin.len_ ts ty #[x']).run P w = .ok v' w ∧ VR φ v v' := by
 unfold lenOfA at hl
 split at hl
 ·rename_i s hu
  obtain ⟨s, rfl, rfl⟩ := hx.str_inv
  simp only [Option.some.injEq] at hl
  subst hl
  refine ⟨.int .i64 s.size, by simp [Builtin.len_, ht, run_und hu, goInt], ?_⟩
  rw [List.length_map, Array.length_toList]
  exact .int _ _
 ·rename_i n e hu
  simp only [Option.some.injEq] at hl
  subst hl
  exact ⟨.int .i64 n, by simp [Builtin.len_, ht, run_und hu, goInt], .int _ _⟩
 ·rename_i e hu
  obtain rfl := hx.nils_inv
  simp only [Option.some.injEq] at hl
  subst hl
  exact ⟨.int .i64 0, by simp [Builtin.len_, ht, run_und hu, goInt], .int _ _⟩
 ·rename_i e id off len cap ex esz hu
  obtain ⟨b, base, cs, o, c, hp, ho, hl', hc, he, hcs, hz, rfl⟩ := hx.slice_inv
  simp only [Option.some.injEq] at hl
  subst hl
  exact ⟨.int .i64 len, by simp [Builtin.len_, ht, run_und hu, goInt], .int _ _⟩
 ·rename_i e id off len hu
  split at hl
  ·rename_i l hh hn
   have hn' := E.rng_ok Val.σ hn
   rcases hx.vsl_inv with ⟨b, base, cs, o, n', c, hp, hn1, h0, ho, hcs, hc, rfl⟩ | ⟨h0, a0, c0, rfl⟩
   ·obtain ⟨r1, r2, _⟩ := mkI_vr (φ := φ) hl (n := (n' : Int)) hn1 (by omega) (by omega)
    exact ⟨.int .i64 n', by simp [Builtin.len_, ht, run_und hu, goInt], r1⟩
   ·obtain ⟨r1, r2, _⟩ := mkI_vr (φ := φ) hl (n := (0 : Int)) h0 (by omega) (by omega)
    exact ⟨.int .i64 0, by simp [Builtin.len_, ht, run_und hu, goInt], r1⟩
  ·simp at hl
 ·rename_i k e hu
  obtain rfl := hx.nilm_inv
  simp only [Option.some.injEq] at hl
  subst hl
  exact ⟨.int .i64 0, by simp [Builtin.len_, ht, run_und hu, goInt], .int _ _⟩
 ·rename_i k e id hu
  obtain ⟨p, hp, rfl⟩ := hx.map_inv
  split at hl
  ·rename_i es clock hg
   simp only [Option.some.injEq] at hl
   subst hl
   obtain ⟨ents, hb, hsz, _⟩ := hr.obj _ _ _ hg hp
   refine ⟨.int .i64 ents.size, ?_, by rw [hsz]; exact .int _ _⟩
   simp [Builtin.len_, ht, run_und hu, goInt, getObj, Sem.run, hb]
  ·simp at hl
 ·simp at hl
theorem mm_ok {tb : List Fact} (hT : ∀ f ∈ tb, f.holds Val.σ) (mx : Bool) : ∀ (l : List AV) (x v : AV) (l' : List Value) (x' : Value), mm tb mx x l = some v → VR φ x x' → l'.length = l.length →
  (∀ i, i < l.length → VR φ (l.getD i .junk) (l'.getD i undef)) → ∃ v', (l'.foldlM (if mx then Builtin.max2 else Builtin.min2) x').run P w = .ok v' w ∧ VR φ v v' := by
 intro l
 induction l with
 | nil =>
  intro x v l' x' hm hx hl _
  obtain rfl : l' = [] := by simpa using hl
  simp only [mm, Option.some.injEq] at hm
  subst hm
  exact ⟨x', by simp, hx⟩
 | cons y l ih =>
  intro x v l' x' hm hx hl he
  cases l' with
  | nil => simp at hl
  | cons y' l' =>
   have hy : VR φ y y' := by simpa using he 0 (by simp)
   unfold mm at hm
   split at hm
   ·simp_all
   ·rename_i k a k' b r heq
    simp only [List.cons.injEq] at heq
    obtain ⟨rfl, rfl⟩ := heq
    obtain rfl := hx.int_inv
    obtain rfl := hy.int_inv
    obtain ⟨v', hrun, hv⟩ := ih _ v l' (.int k (if mx then (if b > a then b else a) else (if b < a then b else a))) hm (.int _ _) (by simpa using hl) (fun i hi => by
     have := he (i + 1) (by simp; omega)
     simpa using this)
    refine ⟨v', ?_, hv⟩
    rw [List.foldlM_cons, Sem.run_bind]
    cases mx
    ·simp only [Bool.false_eq_true, if_false] at hrun ⊢
     simp only [Builtin.min2, Sem.run_pure, Result.andThen_ok]
     exact hrun
    ·simp only [if_true] at hrun ⊢
     simp only [Builtin.max2, Sem.run_pure, Result.andThen_ok]
     exact hrun
   ·rename_i x0 y0 r0 _ heq
    simp only [List.cons.injEq] at heq
    obtain ⟨rfl, rfl⟩ := heq
    split at hm
    ·rename_i k l₁ h₁ e₁ k' l₂ h₂ e₂ ex ey
     obtain ⟨a, rfl, a1, a3, a4⟩ := asSym_vr ex hx
     obtain ⟨b, rfl, b1, b3, b4⟩ := asSym_vr ey hy
     have fin : ∀ {z : AV}, VR φ z (.int k (if mx then (if b > a then b else a) else (if b < a then b else a))) → mm tb mx z l = some v →
       ∃ v', (List.foldlM (if mx then Builtin.max2 else Builtin.min2) (.int k a) (.int k' b :: l')).run P w = .ok v' w ∧ VR φ v v' := by
      intro z hz hmz
      obtain ⟨v', hrun, hv⟩ := ih _ v l' _ hmz hz (by simpa using hl) (fun i hi => by
       have := he (i + 1) (by simp; omega)
       simpa using this)
      refine ⟨v', ?_, hv⟩
      rw [List.foldlM_cons, Sem.run_bind]
      cases mx
      ·simp only [Bool.false_eq_true, if_false] at hrun ⊢
       simp only [Builtin.min2, Sem.run_pure, Result.andThen_ok]
       exact hrun
      ·simp only [if_true] at hrun ⊢
       simp only [Builtin.max2, Sem.run_pure, Result.andThen_ok]
       exact hrun
     split at hm
     ·rename_i c hc
      have hc := symLt_ok Val.σ hT hc a1 a3 a4 b1 b3 b4
      refine fin ?_ hm
      cases mx <;> cases c <;> simp only [decide_eq_true_eq, decide_eq_false_iff_not] at hc <;>
       simp only [Bool.false_eq_true, if_false, if_true, Bool.xor_false, Bool.xor_true, Bool.not_true, Bool.not_false, cond_true, cond_false]
      ·rw [show (if b < a then b else a) = b by split <;> omega]; exact mkS_vr b1 b3 b4
      ·rw [show (if b < a then b else a) = a by split <;> omega]; exact mkS_vr a1 a3 a4
      ·rw [show (if b > a then b else a) = a by split <;> omega]; exact mkS_vr a1 a3 a4
      ·rw [show (if b > a then b else a) = b by split <;> omega]; exact mkS_vr b1 b3 b4
     split at hm
     ·rename_i c hc
      have hc : (c = true → a ≤ b) ∧ (c = false → b ≤ a) := by
       unfold mmSide at hc
       split at hc
       ·rename_i l h' hg
        have hg := E.gap_ok Val.σ hg
        rw [a1, b1] at hg
        cases d1 : decide (h' ≤ 0) with
        | true =>
         rw [d1] at hc
         simp only [cond_true, Option.some.injEq] at hc
         subst hc
         have := of_decide_eq_true d1
         exact ⟨fun _ => by omega, fun e => by simp at e⟩
        | false =>
         rw [d1] at hc
         simp only [cond_false] at hc
         cases d2 : decide (0 ≤ l) with
         | true =>
          rw [d2] at hc
          simp only [cond_true, Option.some.injEq] at hc
          subst hc
          have := of_decide_eq_true d2
          exact ⟨fun e => by simp at e, fun _ => by omega⟩
         | false => rw [d2] at hc; simp at hc
       ·simp at hc
      refine fin ?_ hm
      cases mx <;> cases c <;> simp only [true_implies, false_implies, and_true, true_and, Bool.false_eq_true, Bool.true_eq_false] at hc <;>
       simp only [Bool.false_eq_true, if_false, if_true, Bool.xor_false, Bool.xor_true, Bool.not_true, Bool.not_false, cond_true, cond_false]
      ·rw [show (if b < a then b else a) = b by split <;> omega]; exact mkS_vr b1 b3 b4
      ·rw [show (if b < a then b else a) = a by split <;> omega]; exact mkS_vr a1 a3 a4
      ·rw [show (if b > a then b else a) = a by split <;> omega]; exact mkS_vr a1 a3 a4
      ·rw [show (if b > a then b else a) = b by split <;> omega]; exact mkS_vr b1 b3 b4
     ·refine fin (mkS_vr (by
       cases mx
       ·simp only [Bool.false_eq_true, if_false, E.eval, a1, b1]
       ·simp only [if_true, E.eval, a1, b1]) (by
       cases mx
       ·simp only [Bool.false_eq_true, if_false]; split <;> split <;> omega
       ·simp only [if_true]; split <;> split <;> omega) (by
       cases mx
       ·simp only [Bool.false_eq_true, if_false]; split <;> split <;> omega
       ·simp only [if_true]; split <;> split <;> omega)) hm
    ·simp at hm
theorem typeAssertA_ok {x v : AV} {t : TypeId} {ok : Bool} (hr : typeAssertA P x t ok = some v) {x' : Value} (hx : VR φ x x') (xt : TypeId) :
  ∃ v', (Instr.typeAssert x' xt t ok).run P w = .ok v' w ∧ VR φ v v' := by
 unfold typeAssertA at hr
 split at hr
 ·simp at hr
 ·rename_i d u a hni hu
  obtain ⟨a', ha, rfl⟩ := hx.iface_inv
  split at hr
  ·rename_i e; subst e
   simp only [Option.some.injEq] at hr
   subst hr
   refine ⟨if ok then .tuple #[a', .bool true] else a', ?_, ?_⟩
   ·cases d <;> first | (exact absurd rfl (hni _)) | simp [Instr.typeAssert, run_und hu]
   ·cases ok
    ·exact ha
    ·exact (LR.two ha (.bool true)).tup
  ·rename_i hne
   split at hr
   ·rename_i hok
    subst hok
    cases hz : zero? P t with
    | none => rw [hz] at hr; simp at hr
    | some z =>
     rw [hz] at hr
     simp only [Option.map_some, Option.some.injEq] at hr
     subst hr
     obtain ⟨z', hzr, hzv⟩ := run_zero hz w φ
     refine ⟨.tuple #[z', .bool false], ?_, (LR.two hzv (.bool false)).tup⟩
     cases d <;> first | (exact absurd rfl (hni _)) | simp [Instr.typeAssert, run_und hu, hne, hzr]
   ·simp at hr
 ·rename_i d hni hu
  obtain rfl := hx.nili_inv
  split at hr
  ·rename_i hok
   subst hok
   cases hz : zero? P t with
   | none => rw [hz] at hr; simp at hr
   | some z =>
    rw [hz] at hr
    simp only [Option.map_some, Option.some.injEq] at hr
    subst hr
    obtain ⟨z', hzr, hzv⟩ := run_zero hz w φ
    refine ⟨.tuple #[z', .bool false], ?_, (LR.two hzv (.bool false)).tup⟩
    cases d <;> first | (exact absurd rfl (hni _)) | simp [Instr.typeAssert, run_und hu, hzr]
  ·simp at hr
 ·simp at hr
end
end Go.Ab
end

section
namespace Go.Ab
variable [Val]
inductive ERs (φ : Phi) : List (AV × AV × Nat) → List MapEntry → Prop
  | nil : ERs φ [] []
  | cons {e : AV × AV × Nat} {m : MapEntry} {es : List (AV × AV × Nat)} {ms : List MapEntry} (h : ER φ e m) (t : ERs φ es ms) : ERs φ (e :: es) (m :: ms)
namespace ERs
variable {φ : Phi}
theorem of_get : ∀ {es : List (AV × AV × Nat)} {ms : List MapEntry}, ms.length = es.length → (∀ i (h : i < es.length) (h' : i < ms.length), ER φ es[i] ms[i]) → ERs φ es ms
  | [], [], _, _ => .nil
  | [], _ :: _, h, _ => by simp at h
  | _ :: _, [], h, _ => by simp at h
  | e :: es, m :: ms, hl, he => .cons (he 0 (by simp) (by simp)) (of_get (by simpa using hl) fun i h h' => by
      have := he (i + 1) (by simp; omega) (by simp; omega)
      simpa using this)
theorem length {es : List (AV × AV × Nat)} {ms : List MapEntry} (h : ERs φ es ms) : ms.length = es.length := by
  induction h with
  | nil => rfl
  | cons _ _ ih => simp [ih]
theorem get {es : List (AV × AV × Nat)} {ms : List MapEntry} (h : ERs φ es ms) : ∀ i (h1 : i < es.length) (h2 : i < ms.length), ER φ es[i] ms[i] := by
  induction h with
  | nil => intro i h1; simp at h1
  | cons hd _ ih =>
    intro i h1 h2
    cases i with
    | zero => exact hd
    | succ i => simpa using ih i (by simpa using h1) (by simpa using h2)
theorem append {es es' : List (AV × AV × Nat)} {ms ms' : List MapEntry} (h : ERs φ es ms) (h' : ERs φ es' ms') : ERs φ (es ++ es') (ms ++ ms') := by
  induction h with
  | nil => exact h'
  | cons hd _ ih => exact .cons hd ih
theorem filter {es : List (AV × AV × Nat)} {ms : List MapEntry} (h : ERs φ es ms) {p : AV × AV × Nat → Bool} {q : MapEntry → Bool} (hpq : ∀ e m, ER φ e m → p e = q m) :
    ERs φ (es.filter p) (ms.filter q) := by
  induction h with
  | nil => exact .nil
  | cons hd _ ih =>
    simp only [List.filter_cons, hpq _ _ hd]
    split
    · exact .cons hd ih
    · exact ih
theorem all {es : List (AV × AV × Nat)} {ms : List MapEntry} (h : ERs φ es ms) {p : AV × AV × Nat → Bool} {q : MapEntry → Bool} (hpq : ∀ e m, ER φ e m → p e = q m) :
    es.all p = ms.all q := by
  induction h with
  | nil => rfl
  | cons hd _ ih => simp [hpq _ _ hd, ih]
theorem modify {es : List (AV × AV × Nat)} {ms : List MapEntry} (h : ERs φ es ms) {f : AV × AV × Nat → AV × AV × Nat} {g : MapEntry → MapEntry} (hfg : ∀ e m, ER φ e m → ER φ (f e) (g m)) :
    ∀ i, ERs φ (es.modify i f) (ms.modify i g) := by
  induction h with
  | nil => intro i; cases i <;> exact .nil
  | cons hd ht ih =>
    intro i
    cases i with
    | zero => simp only [List.modify_zero_cons]; exact .cons (hfg _ _ hd) ht
    | succ i => simp only [List.modify_succ_cons]; exact .cons hd (ih i)
theorem erase {es : List (AV × AV × Nat)} {ms : List MapEntry} (h : ERs φ es ms) : ∀ i, ERs φ (es.eraseIdx i) (ms.eraseIdx i) := by
  induction h with
  | nil => intro i; exact .nil
  | cons hd ht ih =>
    intro i
    cases i with
    | zero => exact ht
    | succ i => exact .cons hd (ih i)
theorem findIdx {es : List (AV × AV × Nat)} {ms : List MapEntry} (h : ERs φ es ms) {p : AV × AV × Nat → Bool} {q : MapEntry → Bool} (hpq : ∀ e m, ER φ e m → p e = q m) :
    es.findIdx? p = ms.findIdx? q := by
  induction h with
  | nil => rfl
  | cons hd _ ih => simp only [List.findIdx?_cons, hpq _ _ hd, ih]
theorem find {es : List (AV × AV × Nat)} {ms : List MapEntry} (h : ERs φ es ms) {p : AV × AV × Nat → Bool} {q : MapEntry → Bool} (hpq : ∀ e m, ER φ e m → p e = q m)
    {e : AV × AV × Nat} (hf : es.find? p = some e) : ∃ m, ms.find? q = some m ∧ ER φ e m := by
  induction h with
  | nil => simp at hf
  | cons hd _ ih =>
    simp only [List.find?_cons, hpq _ _ hd] at hf ⊢
    split at hf
    · simp only [Option.some.injEq] at hf
      subst hf
      exact ⟨_, rfl, hd⟩
    · exact ih hf
end ERs
section
variable {P : Program} {G : Nat} {φ : Phi} {h : H} {w : World}
omit [Val] in
theorem run_getObj {r : Nat} {o : Obj} (hb : w.heap[r]? = some o) (hc : ∀ c e f, o ≠ .cells c e f) : (getObj r).run P w = .ok o w := by
  cases o <;> first | exact absurd rfl (hc _ _ _) | simp only [getObj, Sem.run, hb]
omit [Val] in
theorem run_setObj {r : Nat} {o o' : Obj} (hb : w.heap[r]? = some o) (hc : ∀ c e f, o ≠ .cells c e f) : (setObj r o').run P w = .ok () (setBlk w r o') := by
  cases o <;> first | exact absurd rfl (hc _ _ _) | (simp only [setObj, Sem.run, hb]; rfl)
theorem obj_map (hr : HR G φ h w) {id : Nat} {p : Nat × Nat × Nat} {es : List (AV × AV × Nat)} {clock : Nat} (hg : h.get id = some (.map es clock)) (hp : φ id = some p) :
    ∃ ms : List MapEntry, w.heap[p.1]? = some (.map ms.toArray clock) ∧ ERs φ es ms := by
  obtain ⟨ents, hb, hsz, he⟩ := hr.obj _ _ _ hg hp
  exact ⟨ents.toList, by simpa using hb, .of_get (by simpa using hsz) fun i h1 h2 => by simpa using he i h1 (by simpa using h2)⟩
theorem map_or {es : List (AV × AV × Nat)} {ms : List MapEntry} (hes : ERs φ es ms) (clock : Nat) (p : Nat × Nat × Nat) : OR φ (.map es clock) p (some (.map ms.toArray clock)) :=
  ⟨ms.toArray, rfl, by simpa using hes.length, fun i h1 h2 => by simpa using hes.get i h1 (by simpa using h2)⟩
theorem findKey_run {tb : List Fact} (hT : ∀ f ∈ tb, f.holds Val.σ) {kt : TypeId} {k : AV} {k' : Value} (hk : VR φ k k') (hc : ckT P 8 kt k = true) (w : World) {es : List (AV × AV × Nat)} {ms : List MapEntry}
    {r : Option (Nat × AV × AV × Nat)} (hf : findA P tb kt k es 0 = some r) (hes : ERs φ es ms) :
    ∃ x, (Go.Instr.findKey kt k' ms).run P w = .ok x w ∧ Found r es ms 0 x := by
  have := findKey_ok (P := P) hT hk hc w (ms := ms.toArray) hf (by simpa using hes.length) (fun j h1 h2 => by simpa using hes.get j h1 (by simpa using h2))
  simpa using this
theorem lookupA_ok (hr : HR G φ h w) {t : TypeId} {x k v : AV} {ok : Bool} (hl : lookupA P t x k ok h = some v) {x' k' : Value} (hx : VR φ x x') (hk : VR φ k k') :
    ∃ v', (Go.Instr.lookup t x' k' ok).run P w = .ok v' w ∧ VR φ v v' := by
  unfold lookupA at hl
  split at hl
  · rename_i kt et hu
    split at hl
    · rename_i hck
      have key : ∀ (es : List (AV × AV × Nat)) (ms : List MapEntry), ERs φ es ms →
          (match findA P h.tb kt k es 0 with
            | some (some (_, _, v, _)) => some (if ok then .tup [v, .bool true] else v)
            | some none => (match zero? P et with
              | some z => some (if ok then .tup [z, .bool false] else z)
              | none => none)
            | none => none) = some v →
          (Go.Instr.checkKey ms.toArray.isEmpty 10000 kt k').run P w = .ok () w ∧
          ((∃ j u u', (Go.Instr.findKey kt k' ms).run P w = .ok (some (j, u')) w ∧ VR φ u u' ∧ v = if ok then .tup [u, .bool true] else u) ∨
           (∃ z z', (Go.Instr.findKey kt k' ms).run P w = .ok none w ∧ (zeroValue et).run P w = .ok z' w ∧ VR φ z z' ∧ v = if ok then .tup [z, .bool false] else z)) := by
        intro es ms hes hv
        refine ⟨ckT_ok (P := P) (φ := φ) ms.toArray.isEmpty 8 kt k hck hk 10000 w (by decide), ?_⟩
        split at hv
        · rename_i j ka va b hf
          simp only [Option.some.injEq] at hv
          obtain ⟨y, hy, h1, h2, _, h4, rfl⟩ := findKey_run (P := P) hr.fct hk hck w hf hes
          have her := hes.get (j - 0) h1 h2
          rw [h4] at her
          exact .inl ⟨j, va, _, hy, her.val, hv.symm⟩
        · rename_i hf
          split at hv
          · rename_i z hz
            simp only [Option.some.injEq] at hv
            obtain ⟨y, hy, rfl⟩ := findKey_run (P := P) hr.fct hk hck w hf hes
            obtain ⟨z', hzr, hzv⟩ := run_zero hz w φ
            exact .inr ⟨z, z', hy, hzr, hzv, hv.symm⟩
          · simp at hv
        · simp at hv
      cases x <;> simp only [reduceCtorEq] at hl
      case nilm =>
        obtain rfl := hx.nilm_inv
        obtain ⟨hc, ⟨j, u, u', h1, h2, rfl⟩ | ⟨z, z', h1, h2, h3, rfl⟩⟩ := key [] [] .nil hl
        · refine ⟨if ok then .tuple #[u', .bool true] else u', ?_, ?_⟩
          · simp only [Go.Instr.lookup, Sem.run_bind, run_und hu, Result.andThen_ok, Sem.run_pure, hc, h1]
          · cases ok
            · exact h2
            · exact (LR.two h2 (.bool true)).tup
        · refine ⟨if ok then .tuple #[z', .bool false] else z', ?_, ?_⟩
          · simp only [Go.Instr.lookup, Sem.run_bind, run_und hu, Result.andThen_ok, Sem.run_pure, hc, h1, h2]
          · cases ok
            · exact h3
            · exact (LR.two h3 (.bool false)).tup
      case map id =>
        obtain ⟨p, hp, rfl⟩ := hx.map_inv
        cases hg : h.get id with
        | none => rw [hg] at hl; simp at hl
        | some o =>
          rw [hg] at hl
          cases o <;> simp only [reduceCtorEq] at hl
          rename_i es clock
          obtain ⟨ms, hb, hes⟩ := obj_map hr hg hp
          obtain ⟨hc, ⟨j, u, u', h1, h2, rfl⟩ | ⟨z, z', h1, h2, h3, rfl⟩⟩ := key es ms hes hl
          · refine ⟨if ok then .tuple #[u', .bool true] else u', ?_, ?_⟩
            · simp only [Go.Instr.lookup, Sem.run_bind, run_und hu, Result.andThen_ok, run_getObj hb (by simp), Sem.run_pure, hc, h1]
            · cases ok
              · exact h2
              · exact (LR.two h2 (.bool true)).tup
          · refine ⟨if ok then .tuple #[z', .bool false] else z', ?_, ?_⟩
            · simp only [Go.Instr.lookup, Sem.run_bind, run_und hu, Result.andThen_ok, run_getObj hb (by simp), Sem.run_pure, hc, h1, h2]
            · cases ok
              · exact h3
              · exact (LR.two h3 (.bool false)).tup
    · simp at hl
  · simp at hl
theorem stays_ok {a b : AV} (hs : sameKey a b = true) {a' b' : Value} (ha : VR φ a a') (hb : VR φ b b') : (Go.Instr.keyThatStays a' b').run P w = .ok b' w := by
  have : Go.Instr.sameBits 10000 a' b' = true := sameKey_bits hs ha hb 9999
  simp only [Go.Instr.keyThatStays, this, if_true, Sem.run_pure]
theorem mapUpdateA_ok (hr : HR G φ h w) {t : TypeId} {x k v : AV} {h' : H} (hl : mapUpdateA P t x k v h = some h') {x' k' v' : Value} (hx : VR φ x x') (hk : VR φ k k') (hv : VR φ v v') :
    ∃ w', (Go.Instr.mapUpdate t x' k' v').run P w = .ok () w' ∧ HR G φ h' w' ∧ Post φ h w φ h' w' := by
  unfold mapUpdateA at hl
  split at hl
  · rename_i kt et id hu
    obtain ⟨p, hp, rfl⟩ := hx.map_inv
    split at hl
    · rename_i es clock hg
      obtain ⟨ms, hb, hes⟩ := obj_map hr hg hp
      split at hl
      · rename_i hck
        have hck' := ckT_ok (P := P) (φ := φ) false 8 kt k hck hk 10000 w (by decide)
        split at hl
        · rename_i j ka va b hf
          split at hl
          · rename_i hsame
            simp only [Option.some.injEq] at hl
            subst hl
            obtain ⟨y, hy, h1, h2, _, h4, rfl⟩ := findKey_run (P := P) hr.fct hk hck w hf hes
            simp only [Nat.sub_zero] at h1 h2 h4
            have her := hes.get j h1 h2
            rw [h4] at her
            refine ⟨_, ?_, set_ok hr hg rfl hp (map_or (hes.modify (f := fun e => (k, v, e.2.2)) (g := fun e => { e with key := k', val := v' }) (fun e m he => ⟨hk, hv, he.born⟩) j) clock p) (Like.not hb fun _ _ _ h => by cases h)⟩
            simp only [Go.Instr.mapUpdate, Sem.run_bind, run_und hu, Result.andThen_ok, run_getObj hb (by simp), hck', hy]
            have e1 : (ms.toArray[j]?.map (·.key)).getD k' = ms[j].key := by simp [h2]
            rw [e1, stays_ok (P := P) hsame her.key hk]
            simp only [Result.andThen_ok, run_setObj hb (by simp)]
            congr 2
            simp
          · simp at hl
        · rename_i hf
          simp only [Option.some.injEq] at hl
          subst hl
          obtain ⟨y, hy, rfl⟩ := findKey_run (P := P) hr.fct hk hck w hf hes
          refine ⟨_, ?_, set_ok hr hg rfl hp (map_or (hes.append (.cons (e := (k, v, clock)) (m := { key := k', val := v', born := clock }) ⟨hk, hv, rfl⟩ .nil)) (clock + 1) p) (Like.not hb fun _ _ _ h => by cases h)⟩
          simp only [Go.Instr.mapUpdate, Sem.run_bind, run_und hu, Result.andThen_ok, run_getObj hb (by simp), hck', hy, run_setObj hb (by simp)]
          congr 2
          simp
        · simp at hl
      · simp at hl
    · simp at hl
  · simp at hl
theorem mapEntryA_ok (hr : HR G φ h w) {t : TypeId} {x k v : AV} {h' : H} (hl : mapEntryA P t x k h = some (v, h')) {x' k' : Value} (hx : VR φ x x') (hk : VR φ k k') :
    ∃ v' w', (Go.Instr.mapEntry t x' k').run P w = .ok v' w' ∧ VR φ v v' ∧ HR G φ h' w' ∧ Post φ h w φ h' w' := by
  unfold mapEntryA at hl
  split at hl
  · rename_i kt et id hu
    obtain ⟨p, hp, rfl⟩ := hx.map_inv
    split at hl
    · rename_i es clock hg
      obtain ⟨ms, hb, hes⟩ := obj_map hr hg hp
      split at hl
      · rename_i hck
        have hck' := ckT_ok (P := P) (φ := φ) false 8 kt k hck hk 10000 w (by decide)
        split at hl
        · rename_i j ka va b hf
          split at hl
          · rename_i hsame
            simp only [Option.some.injEq, Prod.mk.injEq] at hl
            obtain ⟨rfl, rfl⟩ := hl
            obtain ⟨y, hy, h1, h2, _, h4, rfl⟩ := findKey_run (P := P) hr.fct hk hck w hf hes
            simp only [Nat.sub_zero] at h1 h2 h4
            have her := hes.get j h1 h2
            rw [h4] at her
            refine ⟨.tuple #[ms[j].val, .int .i64 ms[j].born], _, ?_, ?_, set_ok hr hg rfl hp (map_or (hes.modify (f := fun e => (k, e.2)) (g := fun e => { e with key := k' }) (fun e m he => ⟨hk, he.val, he.born⟩) j) clock p) (Like.not hb fun _ _ _ h => by cases h)⟩
            · simp only [Go.Instr.mapEntry, Sem.run_bind, run_und hu, Result.andThen_ok, run_getObj hb (by simp), hck', hy]
              have e1 : (ms.toArray[j]?.map (·.key)).getD k' = ms[j].key := by simp [h2]
              rw [e1, stays_ok (P := P) hsame her.key hk]
              simp only [Result.andThen_ok, run_setObj hb (by simp), Sem.run_pure, goInt, Nat.sub_zero]
              congr 2
              all_goals simp [h2]
            · refine (LR.two her.val ?_).tup
              rw [← her.born]
              exact .int _ _
          · simp at hl
        · rename_i hf
          split at hl
          · rename_i z hz
            simp only [Option.some.injEq, Prod.mk.injEq] at hl
            obtain ⟨rfl, rfl⟩ := hl
            obtain ⟨y, hy, rfl⟩ := findKey_run (P := P) hr.fct hk hck w hf hes
            obtain ⟨z', hzr, hzv⟩ := run_zero hz w φ
            refine ⟨.tuple #[z', .int .i64 clock], _, ?_, (LR.two hzv (.int _ _)).tup,
              set_ok hr hg rfl hp (map_or (hes.append (.cons (e := (k, z, clock)) (m := { key := k', val := z', born := clock }) ⟨hk, hzv, rfl⟩ .nil)) (clock + 1) p) (Like.not hb fun _ _ _ h => by cases h)⟩
            simp only [Go.Instr.mapEntry, Sem.run_bind, run_und hu, Result.andThen_ok, run_getObj hb (by simp), hck', hy, hzr, run_setObj hb (by simp), Sem.run_pure, goInt]
            congr 2
            simp
          · simp at hl
        · simp at hl
      · simp at hl
    · simp at hl
  · simp at hl
theorem entryStoreA_ok (hr : HR G φ h w) {t : TypeId} {x s v : AV} {h' : H} (hl : entryStoreA x s v h = some h') {x' s' v' : Value} (hx : VR φ x x') (hs : VR φ s s') (hv : VR φ v v') :
    ∃ w', (Go.Instr.entryStore t x' s' v').run P w = .ok () w' ∧ HR G φ h' w' ∧ Post φ h w φ h' w' := by
  unfold entryStoreA at hl
  split at hl
  · rename_i id k b
    obtain ⟨p, hp, rfl⟩ := hx.map_inv
    obtain rfl := hs.int_inv
    split at hl
    · rename_i es clock hg
      obtain ⟨ms, hb, hes⟩ := obj_map hr hg hp
      split at hl
      · rename_i i hi
        simp only [Option.some.injEq] at hl
        subst hl
        rw [hes.findIdx (q := fun e => (e.born : Int) == b) (fun e m he => by rw [he.born])] at hi
        refine ⟨_, ?_, set_ok hr hg rfl hp (map_or (hes.modify (f := fun e => (e.1, v, e.2.2)) (g := fun e => { e with val := v' }) (fun e m he => ⟨he.key, hv, he.born⟩) i) clock p) (Like.not hb fun _ _ _ h => by cases h)⟩
        have hi' : ms.toArray.findIdx? (fun e => (e.born : Int) == b) = some i := by rw [List.findIdx?_toArray]; exact hi
        simp only [Go.Instr.entryStore, asInt, asIntOf, Sem.run_bind, Result.andThen_ok, run_getObj hb (by simp), Sem.run_pure, hi', run_setObj hb (by simp)]
        congr 2
        simp
      · simp at hl
    · simp at hl
  · simp at hl
theorem deleteA_ok (hr : HR G φ h w) {t : TypeId} {x k : AV} {h' : H} (hl : deleteA P t x k h = some h') {x' k' : Value} (hx : VR φ x x') (hk : VR φ k k') {ts : Array TypeId}
    (ht : ts[0]? = some t) (ty : TypeId) : ∃ w', (Builtin.delete_ ts ty #[x', k']).run P w = .ok (.tuple #[]) w' ∧ HR G φ h' w' ∧ Post φ h w φ h' w' := by
  unfold deleteA at hl
  split at hl
  · rename_i kt et id hu
    obtain ⟨p, hp, rfl⟩ := hx.map_inv
    split at hl
    · rename_i es clock hg
      obtain ⟨ms, hb, hes⟩ := obj_map hr hg hp
      split at hl
      · rename_i hck
        have hck' := ckT_ok (P := P) (φ := φ) ms.toArray.isEmpty 8 kt k hck hk 10000 w (by decide)
        split at hl
        · rename_i j ka va b hf
          simp only [Option.some.injEq] at hl
          subst hl
          obtain ⟨y, hy, h1, h2, _, h4, rfl⟩ := findKey_run (P := P) hr.fct hk hck w hf hes
          refine ⟨_, ?_, set_ok hr hg rfl hp (map_or (hes.erase j) clock p) (Like.not hb fun _ _ _ h => by cases h)⟩
          simp only [Builtin.delete_, ht, List.getElem?_toArray, List.getElem?_cons_zero, List.getElem?_cons_succ, Sem.run_bind, run_und hu, Result.andThen_ok, run_getObj hb (by simp), hck', hy, run_setObj hb (by simp), Sem.run_pure]
          congr 2
          simp
        · rename_i hf
          simp only [Option.some.injEq] at hl
          subst hl
          obtain ⟨y, hy, rfl⟩ := findKey_run (P := P) hr.fct hk hck w hf hes
          refine ⟨w, ?_, hr, Post.refl _ _ _⟩
          simp only [Builtin.delete_, ht, List.getElem?_toArray, List.getElem?_cons_zero, List.getElem?_cons_succ, Sem.run_bind, run_und hu, Result.andThen_ok, run_getObj hb (by simp), hck', hy, run_setObj hb (by simp), Sem.run_pure, setBlk_self hb]
        · simp at hl
      · simp at hl
    · simp at hl
  · rename_i kt et hu
    obtain rfl := hx.nilm_inv
    split at hl
    · rename_i hck
      simp only [Option.some.injEq] at hl
      subst hl
      have hck' := ckT_ok (P := P) (φ := φ) true 8 kt k hck hk 10000 w (by decide)
      refine ⟨w, ?_, hr, Post.refl _ _ _⟩
      simp only [Builtin.delete_, ht, List.getElem?_toArray, List.getElem?_cons_zero, List.getElem?_cons_succ, Sem.run_bind, run_und hu, Result.andThen_ok, hck', Sem.run_pure]
    · simp at hl
  · simp at hl
end
end Go.Ab
end

section
namespace Go.Ab
variable [Val]
section
variable {P : Program} {G : Nat} {φ : Phi} {h : H} {w : World}
omit [Val] in
theorem run_newObj' (o : Obj) : (newObj o).run P w = .ok w.heap.size (w.alloc o) := rfl
theorem rangeA_ok (hr : HR G φ h w) {t : TypeId} {x v : AV} {h' : H} (hl : rangeA P t x h = some (v, h')) {x' : Value} (hx : VR φ x x') :
  ∃ φ' v' w', (Go.Instr.range t x').run P w = .ok v' w' ∧ VR φ' v v' ∧ HR G φ' h' w' ∧ Post φ h w φ' h' w' := by
 have fin : ∀ (o : AObj) (ob : Obj), (h.new o).map (fun (id, h) => (AV.ptr id 0, h)) = some (v, h') → (∀ φ' b, φ.le φ' → OR φ' o (b, 0, 0) (some ob)) →
   ∃ φ', VR φ' v (.pointer (some ⟨w.heap.size, 0, none⟩)) ∧ HR G φ' h' (w.alloc ob) ∧ Post φ h w φ' h' (w.alloc ob) := by
  intro o ob hn ho
  cases hnew : h.new o with
  | none => rw [hnew] at hn; simp at hn
  | some p =>
   obtain ⟨id, h2⟩ := p
   rw [hnew] at hn
   simp only [Option.map_some, Option.some.injEq, Prod.mk.injEq] at hn
   obtain ⟨rfl, rfl⟩ := hn
   have hnone : φ id = none := by
    obtain ⟨rfl, _⟩ := H.new_spec hnew
    cases e : φ h.nx with
    | none => rfl
    | some p => exact absurd (hr.dom _ _ e).1 (by omega)
   obtain ⟨a, b⟩ := alloc_ok hr hnew (ob := ob) (cs := 0) (ho _ _ (Phi.le_set _ hnone))
   exact ⟨_, .ptr (base := 0) (Phi.set_same _ _ _), a, b⟩
 unfold rangeA at hl
 dsimp only at hl
 split at hl
 ·rename_i o ho
  split at ho
  ·rename_i s hu
   simp only [Option.some.injEq] at ho
   subst ho
   obtain ⟨s, rfl, rfl⟩ := hx.str_inv
   obtain ⟨φ', h1, h2, h3⟩ := fin _ (.stringIter s 0) hl (fun _ _ _ => ⟨s, rfl, rfl⟩)
   refine ⟨φ', _, _, ?_, h1, h2, h3⟩
   simp only [Go.Instr.range, Sem.run_bind, run_und hu, Result.andThen_ok, Sem.run_pure, run_newObj']
  ·rename_i k e hu
   simp only [Option.some.injEq] at ho
   subst ho
   obtain rfl := hx.nilm_inv
   obtain ⟨φ', h1, h2, h3⟩ := fin _ (.mapIter none 0 #[] 0) hl (fun _ _ _ => ⟨rfl, none, rfl, rfl⟩)
   refine ⟨φ', _, _, ?_, h1, h2, h3⟩
   simp only [Go.Instr.range, Sem.run_bind, run_und hu, Result.andThen_ok, Sem.run_pure, run_newObj']
  ·rename_i k e id hu
   obtain ⟨p, hp, rfl⟩ := hx.map_inv
   split at ho
   ·rename_i es clock hg
    simp only [Option.some.injEq] at ho
    subst ho
    obtain ⟨ms, hb, hes⟩ := obj_map hr hg hp
    obtain ⟨φ', h1, h2, h3⟩ := fin _ (.mapIter (some p.1) clock #[] clock) hl (fun _ _ hle => ⟨rfl, some p.1, rfl, p, hle _ _ hp, rfl⟩)
    refine ⟨φ', _, _, ?_, h1, h2, h3⟩
    simp only [Go.Instr.range, Sem.run_bind, run_und hu, Result.andThen_ok, Sem.run_pure, run_newObj', run_getObj hb (by simp)]
   ·simp at ho
  ·simp at ho
 ·simp at hl
theorem nextA_ok (hr : HR G φ h w) {x v : AV} {s : Bool} {h' : H} (hl : nextA x s h = some (v, h')) {x' : Value} (hx : VR φ x x') (ty : TypeId) :
  ∃ v' w', (Go.Instr.next x' s ty).run P w = .ok v' w' ∧ VR φ v v' ∧ HR G φ h' w' ∧ Post φ h w φ h' w' := by
 unfold nextA at hl
 split at hl
 ·rename_i id
  obtain ⟨b, base, cs, hp, rfl⟩ := hx.ptr_inv
  split at hl
  ·rename_i since seen last hg
   simp only [Option.some.injEq, Prod.mk.injEq] at hl
   obtain ⟨rfl, rfl⟩ := hl
   obtain ⟨h0, m', hb, rfl⟩ := hr.obj _ _ _ hg hp
   simp only at h0 hb
   subst h0
   refine ⟨.tuple #[.bool false], w, ?_, (LR.one (.bool false)).tup, hr, Post.refl _ _ _⟩
   simp only [Go.Instr.next, Nat.add_zero, Sem.run_bind, run_getObj hb (by simp), Result.andThen_ok, Sem.run_pure]
  ·rename_i m since seen last hg
   obtain ⟨h0, m', hb, q, hq, rfl⟩ := hr.obj _ _ _ hg hp
   simp only at h0 hb
   subst h0
   split at hl
   ·rename_i es clock hgm
    obtain ⟨ms, hbm, hes⟩ := obj_map hr hgm hq
    split at hl
    ·simp at hl
    ·rename_i hc1
     have hc1' : (!seen.toArray.isEmpty && !ms.toArray.isEmpty && ms.toArray.all (·.born ≥ last)) = false := by
      have e1 : seen.toArray.isEmpty = seen.isEmpty := by simp
      have e2 : ms.toArray.isEmpty = es.isEmpty := by
       have := hes.length
       cases ms <;> cases es <;> simp_all
      have e3 : ms.toArray.all (·.born ≥ last) = es.all (fun e => Nat.ble last e.2.2) := by
       rw [List.all_toArray]
       refine (hes.all fun e m he => ?_).symm
       rw [he.born, Bool.eq_iff_iff, Nat.ble_eq]
       simp
      rw [e1, e2, e3]
      simpa using hc1
     have hleft : ERs φ (es.filter fun e => !seen.contains e.2.2) (ms.filter fun e => !seen.toArray.contains e.born) :=
      hes.filter fun e m he => by rw [he.born]; simp
     have hold : ERs φ ((es.filter fun e => !seen.contains e.2.2).filter fun e => Nat.blt e.2.2 since) ((ms.filter fun e => !seen.toArray.contains e.born).filter fun e => decide (e.born < since)) :=
      hleft.filter fun e m he => by
       rw [he.born, Bool.eq_iff_iff]
       simp [Nat.blt, Nat.succ_le_iff]
     have hnew : ERs φ ((es.filter fun e => !seen.contains e.2.2).filter fun e => Nat.ble since e.2.2) ((ms.filter fun e => !seen.toArray.contains e.born).filter fun e => decide (e.born ≥ since)) :=
      hleft.filter fun e m he => by
       rw [he.born, Bool.eq_iff_iff]
       simp
     dsimp only at hl
     generalize hO : (ms.filter fun e => !seen.toArray.contains e.born).filter (fun e => decide (e.born < since)) = O at hold
     generalize hN : (ms.filter fun e => !seen.toArray.contains e.born).filter (fun e => decide (e.born ≥ since)) = N at hnew
     have runs : ∀ {c : Option MapEntry}, ((if O.isEmpty then #[none] else #[]) ++ (O.toArray ++ N.toArray).map some : Array (Option MapEntry)) = #[c] →
       (Go.Instr.next (.pointer (some ⟨b, 0 + 0, none⟩)) false ty).run P w =
       (match c with
        | some e => .ok (.tuple #[.bool true, e.key, e.val]) (setBlk w b (.mapIter (some q.1) since (seen.toArray.push e.born) clock))
        | none => .ok (.tuple #[.bool false]) w) := by
      intro c hcand
      have hcand' : ((if ((ms.toArray.filter fun e => !seen.toArray.contains e.born).filter (·.born < since)).isEmpty then #[none] else #[]) ++
        (((ms.toArray.filter fun e => !seen.toArray.contains e.born).filter (·.born < since)) ++ ((ms.toArray.filter fun e => !seen.toArray.contains e.born).filter (·.born ≥ since))).map some : Array (Option MapEntry)) = #[c] := by
       rw [List.filter_toArray, List.filter_toArray, List.filter_toArray, hO, hN]
       simpa using hcand
      simp only [Go.Instr.next, Nat.add_zero, Sem.run_bind, run_getObj hb (by simp), run_getObj hbm (by simp), Result.andThen_ok, hc1', Bool.false_eq_true, if_false, hcand']
      cases c <;> simp [Question.forced, run_setObj hb]
     split at hl
     ·rename_i heq1 heq2
      rw [heq1] at hold
      rw [heq2] at hnew
      simp only [Option.some.injEq, Prod.mk.injEq] at hl
      obtain ⟨rfl, rfl⟩ := hl
      cases hold
      cases hnew
      refine ⟨.tuple #[.bool false], w, ?_, (LR.one (.bool false)).tup, hr, Post.refl _ _ _⟩
      rw [runs (c := none) (by simp)]
     ·rename_i e heq1 heq2
      rw [heq1] at hold
      rw [heq2] at hnew
      simp only [Option.some.injEq, Prod.mk.injEq] at hl
      obtain ⟨rfl, rfl⟩ := hl
      cases hnew
      cases hold with
      | cons he ht =>
       cases ht
       rename_i me
       have hset := set_ok hr hg rfl hp (o₂ := .miter (some m) since (seen ++ [e.2.2]) clock) (ob := .mapIter (some q.1) since (seen.toArray.push me.born) clock)
        ⟨rfl, some q.1, by rw [he.born]; simp, q, hq, rfl⟩ (Like.not hb fun _ _ _ h => by cases h)
       refine ⟨.tuple #[.bool true, me.key, me.val], _, ?_, (LR.three (.bool true) he.key he.val).tup, hset⟩
       rw [runs (c := some me) (by simp)]
     ·simp at hl
   ·simp at hl
  ·simp at hl
 ·simp at hl
theorem entryA_ok (hr : HR G φ h w) {x v : AV} (hl : entryA x h = some v) {x' : Value} (hx : VR φ x x') :
  ∃ v', (Go.Instr.entry x').run P w = .ok v' w ∧ VR φ v v' := by
 unfold entryA at hl
 split at hl
 ·rename_i id
  obtain ⟨b, base, cs, hp, rfl⟩ := hx.ptr_inv
  split at hl
  ·rename_i m since seen stepped hg
   obtain ⟨h0, m', hb, q, hq, rfl⟩ := hr.obj _ _ _ hg hp
   simp only at h0 hb
   subst h0
   split at hl
   ·rename_i stamp es clock hlast hgm
    obtain ⟨ms, hbm, hes⟩ := obj_map hr hgm hq
    split at hl
    ·rename_i hc
     subst hc
     split at hl
     ·rename_i e hf
      simp only [Option.some.injEq] at hl
      subst hl
      obtain ⟨me, hf', he⟩ := hes.find (q := fun e => e.born == stamp) (fun e m he => by rw [he.born]) hf
      refine ⟨.tuple #[me.key, me.val], ?_, (LR.two he.key he.val).tup⟩
      have hback : seen.toArray.back? = some stamp := by simpa using hlast
      have hf2 : ms.toArray.find? (fun e => e.born == stamp) = some me := by rw [List.find?_toArray]; exact hf'
      simp only [Go.Instr.entry, Nat.add_zero, Sem.run_bind, run_getObj hb (by simp), run_getObj hbm (by simp), Result.andThen_ok, hback, hf2, bne_self_eq_false, Bool.false_eq_true, if_false, Sem.run_pure]
     ·simp at hl
    ·simp at hl
   ·simp at hl
  ·simp at hl
 ·simp at hl
structure VecR (φ : Phi) (v : Vec) (c : Array Value) : Prop where
 size : c.size = v.n
 wf : v.Wf
 get : ∀ i, i < v.n → VR φ (v.get i) (c.getD i undef)
 plain : ∀ i, i < v.n → plainCell (c.getD i undef) = true
theorem VecR.of_vec {a : AV} {a' : Value} {v : Vec} (ha : VR φ a a') (hv : a.vec = some v) : VecR φ v a'.cells := by
 obtain ⟨h1, h2, h3, h4⟩ := vec_rel ha hv
 exact ⟨h1, h2, h3, h4⟩
theorem VecR.agg {v : Vec} {c : Array Value} (hv : VecR φ v c) : VR φ (.ofVec v) (.agg c) := .agg hv.size hv.wf.le hv.get hv.plain
theorem VecR.plainAll {v : Vec} {c : Array Value} (hv : VecR φ v c) : ∀ x ∈ c.toList, plainCell x = true := by
 intro x hx
 obtain ⟨i, hi, rfl⟩ := List.mem_iff_getElem.1 hx
 simp only [Array.length_toList] at hi
 have := hv.plain i (by rw [← hv.size]; exact hi)
 rw [Array.getD_eq_getD_getElem?, Array.getElem?_eq_getElem hi] at this
 simpa using this
theorem vec_new (hr : HR G φ h w) {v : Vec} {id : Nat} {h' : H} (hal : allocA h v = some (id, h')) (elem : TypeId) {c : Array Value} (hv : VecR φ v c) :
  HR G (φ.set id (w.heap.size, 0, c.size)) h' (w.alloc (.cells c elem)) ∧ Post φ h w (φ.set id (w.heap.size, 0, c.size)) h' (w.alloc (.cells c elem)) :=
 cells_new hr hal hv.wf elem (by rw [hv.size]; exact Nat.le_refl _) hv.get hv.plain
omit [Val] in
theorem zipIdx_foldl : ∀ (l : List Value) (k off : Nat) (c : Array Value), (l.zipIdx k).foldl (fun cs (x : Value × Nat) => cs.setIfInBounds (off + x.2) x.1) c = spl c (off + k) l := by
 intro l
 induction l with
 | nil => intro k off c; rfl
 | cons v l ih =>
  intro k off c
  simp only [List.zipIdx_cons, List.foldl_cons, spl]
  rw [ih (k + 1) off]
  rfl
omit [Val] in
theorem fill_step (c : Array Value) (off : Nat) (x : Array Value) :
  (x.zipIdx.foldl (fun cs (y : Value × Nat) => match y with | (v, j) => cs.setIfInBounds (off + j) v) c) = spl c off x.toList := by
 rw [← Array.foldl_toList, Array.toList_zipIdx]
 exact zipIdx_foldl x.toList 0 off c
theorem VecR.put {v : Vec} {c : Array Value} (hv : VecR φ v c) {xv : Vec} {x : Array Value} (hx : VecR φ xv x) {off : Nat} (hle : off + xv.n ≤ v.n) :
  VecR φ { v with t := setFrom v.dep v.t off (cellsFrom xv.dep xv.d xv.t 0 xv.n) } (spl c off x.toList) := by
 have hlen : x.toList.length = xv.n := by simpa using hx.size
 have hsz := hv.size
 have hwf := hv.wf.le
 refine ⟨by rw [spl_size]; exact hv.size, ⟨hwf⟩, fun i hi => ?_, fun i hi => ?_⟩
 ·have hi' : i < v.n := hi
  rw [spl_get _ _ _ _ (by omega)]
  show VR φ (cget v.dep v.d (setFrom v.dep v.t off (cellsFrom xv.dep xv.d xv.t 0 xv.n)) i) _
  rw [cget_setFrom _ _ _ _ _ _ (by rw [length_cellsFrom]; omega) (by omega), length_cellsFrom]
  by_cases hin : off ≤ i ∧ i < off + xv.n
  ·rw [if_pos hin, if_pos (by omega), getD_cellsFrom _ _ _ _ _ _ _ (by omega), Nat.zero_add, getD_toList]
   exact hx.get _ (by omega)
  ·rw [if_neg hin, if_neg (by omega)]
   exact hv.get i hi'
 ·have hi' : i < v.n := hi
  rw [spl_get _ _ _ _ (by omega)]
  split
  ·rw [getD_toList]
   exact hx.plain _ (by omega)
  ·exact hv.plain i hi'
theorem fillA_ok {esz : Nat} : ∀ (parts : List (Nat × AV)) (parts' : List (Nat × Value)) (v v2 : Vec) (c : Array Value), fillA esz v parts = some v2 → VecR φ v c →
  parts'.length = parts.length → (∀ i (h : i < parts.length) (h' : i < parts'.length), parts'[i].1 = parts[i].1 ∧ VR φ parts[i].2 parts'[i].2) →
  ∃ c2, Go.Instr.fill (fun i => some (i * esz, esz)) c parts' = some c2 ∧ VecR φ v2 c2 := by
 intro parts
 induction parts with
 | nil =>
  intro parts' v v2 c hf hv hl _
  obtain rfl : parts' = [] := by simpa using hl
  simp only [fillA, Option.some.injEq] at hf
  subst hf
  exact ⟨c, rfl, hv⟩
 | cons p parts ih =>
  intro parts' v v2 c hf hv hl he
  obtain ⟨i, x⟩ := p
  cases parts' with
  | nil => simp at hl
  | cons p' parts' =>
   obtain ⟨i', x'⟩ := p'
   obtain ⟨h1, h2⟩ := he 0 (by simp) (by simp)
   simp only [List.getElem_cons_zero] at h1 h2
   subst h1
   simp only [fillA] at hf
   split at hf
   ·rename_i xv hxv
    split at hf
    ·rename_i hc
     obtain ⟨hn, hle, hd⟩ := hc
     have hxr := VecR.of_vec h2 hxv
     have e : (i' + 1) * esz = i' * esz + esz := by rw [Nat.add_mul, Nat.one_mul]
     obtain ⟨c2, hc2, hr2⟩ := ih parts' _ v2 (spl c (i' * esz) x'.cells.toList) hf (hv.put hxr (by omega)) (by simpa using hl) (fun j a b => by
      have := he (j + 1) (by simp; omega) (by simp; omega)
      simpa using this)
     refine ⟨c2, ?_, hr2⟩
     have hs1 := hxr.size
     have hs2 := hv.size
     simp only [Go.Instr.fill]
     rw [if_neg (by simp; omega)]
     exact (congrArg (fun z => Go.Instr.fill _ z parts') (fill_step c _ _)).trans hc2
    ·simp at hf
   ·simp at hf
theorem fillS_ok {fields : Array Field} {places : Array (Nat × Nat)} (hp : ∀ (i : Nat) (f : Field) (sz : Nat), fields[i]? = some f → size? P f.type = some sz → places[i]? = some (f.offset, sz)) :
  ∀ (parts : List (Nat × AV)) (parts' : List (Nat × Value)) (v v2 : Vec) (c : Array Value), fillS P fields v parts = some v2 → VecR φ v c →
  parts'.length = parts.length → (∀ i (h : i < parts.length) (h' : i < parts'.length), parts'[i].1 = parts[i].1 ∧ VR φ parts[i].2 parts'[i].2) →
  ∃ c2, Go.Instr.fill (places[·]?) c parts' = some c2 ∧ VecR φ v2 c2 := by
 intro parts
 induction parts with
 | nil =>
  intro parts' v v2 c hf hv hl _
  obtain rfl : parts' = [] := by simpa using hl
  simp only [fillS, Option.some.injEq] at hf
  subst hf
  exact ⟨c, rfl, hv⟩
 | cons p parts ih =>
  intro parts' v v2 c hf hv hl he
  obtain ⟨i, x⟩ := p
  cases parts' with
  | nil => simp at hl
  | cons p' parts' =>
   obtain ⟨i', x'⟩ := p'
   obtain ⟨h1, h2⟩ := he 0 (by simp) (by simp)
   simp only [List.getElem_cons_zero] at h1 h2
   subst h1
   simp only [fillS] at hf
   split at hf
   ·rename_i f hfi
    split at hf
    ·rename_i xv sz hxv hsz
     split at hf
     ·rename_i hc
      obtain ⟨hn, hle, hd⟩ := hc
      have hxr := VecR.of_vec h2 hxv
      obtain ⟨c2, hc2, hr2⟩ := ih parts' _ v2 (spl c f.offset x'.cells.toList) hf (hv.put hxr (by omega)) (by simpa using hl) (fun j a b => by
       have := he (j + 1) (by simp; omega) (by simp; omega)
       simpa using this)
      refine ⟨c2, ?_, hr2⟩
      have hs1 := hxr.size
      have hs2 := hv.size
      simp only [Go.Instr.fill, hp _ _ _ hfi hsz]
      rw [if_neg (by simp; omega)]
      exact (congrArg (fun z => Go.Instr.fill _ z parts') (fill_step c _ _)).trans hc2
     ·simp at hf
    ·simp at hf
   ·simp at hf
omit [Val] in
theorem getBang (a : Array Value) (i : Nat) (h : i < a.size) : a[i]! = a.getD i undef := by
 rw [Array.getD_eq_getD_getElem?, Array.getElem?_eq_getElem h, getElem!_pos a i h]
 rfl
omit [Val] in
theorem repCells_length (z : List AV) : ∀ n, (repCells n z).length = n * z.length := by
 intro n
 induction n with
 | zero => simp [repCells]
 | succ n ih => simp [repCells, ih, Nat.add_mul, Nat.add_comm]
omit [Val] in
theorem repCells_get (z : List AV) (x : AV) : ∀ n i, i < n * z.length → (repCells n z).getD i x = z.getD (i % z.length) x := by
 intro n
 induction n with
 | zero => intro i hi; simp at hi
 | succ n ih =>
  intro i hi
  simp only [repCells]
  rcases Nat.lt_or_ge i z.length with h | h
  ·rw [List.getD_eq_getElem?_getD, List.getElem?_append_left h, Nat.mod_eq_of_lt h, ← List.getD_eq_getElem?_getD]
  ·rw [List.getD_eq_getElem?_getD, List.getElem?_append_right h, ← List.getD_eq_getElem?_getD, ih _ (by rw [Nat.add_mul, Nat.one_mul] at hi; omega)]
   congr 1
   conv => rhs; rw [← Nat.sub_add_cancel h, Nat.add_mod_right]
omit [Val] in
theorem zeroVec_spec (n : Nat) (z : Vec) (hpos : 0 < z.n) :
  (zeroVec n z).n = n * z.n ∧ (zeroVec n z).Wf ∧ ∀ i, i < n * z.n → (zeroVec n z).get i = z.get (i % z.n) := by
 unfold zeroVec
 split
 ·rename_i h1
  refine ⟨by simp [h1], ⟨le_depFor _⟩, fun i hi => ?_⟩
  simp only [Vec.get, cget, Tr.get_e, Option.getD_none]
  rw [h1, Nat.mod_one]
 ·split
  ·rename_i ht
   refine ⟨rfl, ⟨le_depFor _⟩, fun i hi => ?_⟩
   simp only [Vec.get, cget, Tr.get_e, Option.getD_none, ht]
  ·have hl : (cellsFrom z.dep z.d z.t 0 z.n).length = z.n := length_cellsFrom _ _ _ _ _
   refine ⟨by rw [vecOf_n, repCells_length, hl], vecOf_wf _, fun i hi => ?_⟩
   rw [vecOf_get _ _ (by rw [repCells_length, hl]; exact hi), repCells_get _ _ _ _ (by rw [hl]; exact hi), hl, getD_cellsFrom _ _ _ _ _ _ _ (Nat.mod_lt _ hpos), Nat.zero_add]
   rfl
theorem zeroVec_rel {n : Nat} {z : Vec} {c : Array Value} (hz : VecR φ z c) (hpos : 0 < z.n) :
  VecR φ (zeroVec n z) ((Array.range (n * z.n)).map (c[· % c.size]!)) := by
 obtain ⟨h1, h2, h3⟩ := zeroVec_spec n z hpos
 have hs := hz.size
 have g : ∀ i, i < n * z.n → ((Array.range (n * z.n)).map (c[· % c.size]!)).getD i undef = c.getD (i % z.n) undef := by
  intro i hi
  have hm : i % z.n < z.n := Nat.mod_lt _ hpos
  rw [Array.getD_eq_getD_getElem?, Array.getElem?_map, Array.getElem?_eq_getElem (by simpa using hi)]
  simp only [Array.getElem_range, Option.map_some, Option.getD_some, hs]
  exact getBang c _ (by omega)
 refine ⟨by rw [h1]; simp, h2, fun i hi => ?_, fun i hi => ?_⟩
 ·rw [h1] at hi
  rw [h3 i hi, g i hi]
  exact hz.get _ (Nat.mod_lt _ hpos)
 ·rw [h1] at hi
  rw [g i hi]
  exact hz.plain _ (Nat.mod_lt _ hpos)
omit [Val] in
theorem i64_small {n : Int} (h0 : 0 ≤ n) (h1 : n < 9223372036854775808) : IntKind.i64.wrap n = n := by
 have e : n % (2 ^ IntKind.i64.bits : Int) = n := Int.emod_eq_of_lt h0 (by show n < (2 : Int) ^ 64; omega)
 simp only [IntKind.wrap, e]
 rw [if_neg]
 simp only [IntKind.signed, IntKind.bits, Bool.true_and, ge_iff_le, decide_eq_true_eq]
 omega
theorem makeSliceA_ok (hr : HR G φ h w) {t : TypeId} {l c v : AV} {h' : H} (hm : makeSliceA P t l c h = some (v, h')) {l' c' : Value} (hl : VR φ l l') (hc : VR φ c c') :
  ∃ φ' v' w', (Go.Instr.makeSlice t l' c').run P w = .ok v' w' ∧ VR φ' v v' ∧ HR G φ' h' w' ∧ Post φ h w φ' h' w' := by
 unfold makeSliceA at hm
 split at hm
 ·rename_i e ln cn hu hln hcn
  split at hm
  ·rename_i sz z i hsz hz hi
   split at hm
   ·rename_i hle
    obtain ⟨hlc, hc1, hby⟩ := hle
    split at hm
    ·rename_i zv hzv
     split at hm
     ·rename_i hzn
      obtain ⟨k1, li, rfl, hl0, rfl⟩ := natOf_ok hln hl
      obtain ⟨k2, ci, rfl, hc0, rfl⟩ := natOf_ok hcn hc
      obtain ⟨z', hzr, hzrel⟩ := run_zero hz w φ
      have hzvr := VecR.of_vec hzrel hzv
      cases hal : allocA h (zeroVec ci.toNat zv) with
      | none => rw [hal] at hm; simp at hm
      | some p =>
       obtain ⟨id, h2⟩ := p
       rw [hal] at hm
       simp only [Option.map_some, Option.some.injEq, Prod.mk.injEq] at hm
       obtain ⟨rfl, rfl⟩ := hm
       have hvec := zeroVec_rel (n := ci.toNat) hzvr (by omega)
       obtain ⟨a, b⟩ := vec_new hr hal e hvec
       have hcsz := hvec.size
       have hn := (zeroVec_spec ci.toNat zv (by omega)).1
       refine ⟨_, .slice (some ⟨w.heap.size, 0, none⟩) li.toNat ci.toNat, _, ?_, ?_, a, b⟩
       ·have e1 : IntKind.i64.wrap li = li := i64_small hl0 (by omega)
        have e2 : IntKind.i64.wrap ci = ci := i64_small hc0 (by omega)
        have hbi : (i.bytes : Int) * ci ≤ 1000000000 := by
         have : ((i.bytes * ci.toNat : Nat) : Int) ≤ 1000000000 := by omega
         rw [Int.natCast_mul, Int.toNat_of_nonneg hc0] at this
         exact this
        have t1 : (ci < 0 || (i.bytes : Int) * ci > 2 ^ 48) = false := by
         rw [Bool.or_eq_false_iff]
         constructor
         ·simpa using hc0
         ·simp only [gt_iff_lt, decide_eq_false_iff_not]; omega
        have t2 : (li < 0) = False := by simpa using hl0
        have t3 : (li > ci) = False := by simp; omega
        have hiz : zv.n = sz + 1 := hzn
        simp only [Go.Instr.makeSlice, asInt, asIntOf, Sem.run_bind, Sem.run_pure, Result.andThen_ok, run_und hu, run_info hi, e1, e2, t1, t2, t3, decide_false, Bool.or_false, Bool.false_eq_true, if_false,
         run_askRoom, run_size hsz]
        by_cases hz0 : ci.toNat * (sz + 1) = 0
        ·have hci : ci.toNat = 0 := by
          rcases Nat.mul_eq_zero.1 hz0 with h | h
          ·exact h
          ·omega
         have z0 : ∀ f : Nat → Value, (Array.range 0).map f = #[] := fun f => by simp
         simp only [hci, Nat.zero_mul, if_true, Sem.run_pure, Result.andThen_ok, newRow, Sem.run_bind, run_newObj', z0]
        ·simp only [hz0, if_false, Sem.run_bind, hzr, Result.andThen_ok, Sem.run_pure, newRow, run_newObj']
         rw [hiz]
       ·refine .slice (Phi.set_same _ _ _) (.inl (by simp)) (by simpa using hlc) (Nat.le_refl _) (fun _ => rfl) ?_ (by omega)
        rw [hcsz, hn, hzn]
        omega
     ·simp at hm
    ·simp at hm
   ·simp at hm
  ·simp at hm
 ·simp at hm
theorem pairs_map {ρ : Operand → AV} {ρ' : Operand → Value} (hρ : ∀ x, VR φ (ρ x) (ρ' x)) (parts : Array (Nat × Operand)) :
  ((parts.map fun p => (p.1, ρ' p.2)).toList).length = (pairsA ρ parts).length ∧
  ∀ i (h : i < (pairsA ρ parts).length) (h' : i < ((parts.map fun p => (p.1, ρ' p.2)).toList).length),
   ((parts.map fun p => (p.1, ρ' p.2)).toList)[i].1 = (pairsA ρ parts)[i].1 ∧
   VR φ (pairsA ρ parts)[i].2 ((parts.map fun p => (p.1, ρ' p.2)).toList)[i].2 := by
 refine ⟨by simp [pairsA], fun i h h' => ?_⟩
 simp only [pairsA, Array.toList_map, List.getElem_map]
 exact ⟨trivial, hρ _⟩
omit [Val] in
theorem run_places (fields : List Field) (hall : fields.all fun f => (size? P f.type).isSome) :
  (fields.mapM (fun f => do pure (f.offset, ← sizeOf f.type) : Field → Sem (Nat × Nat))).run P w = .ok (fields.map fun f => (f.offset, (size? P f.type).getD 0)) w := by
 induction fields with
 | nil => rfl
 | cons f fs ih =>
  simp only [List.all_cons, Bool.and_eq_true] at hall
  obtain ⟨sz, hsz⟩ := Option.isSome_iff_exists.1 hall.1
  rw [List.mapM_cons]
  simp only [Sem.run_bind, run_size hsz, Result.andThen_ok, Sem.run_pure, ih hall.2, List.map_cons, hsz, Option.getD_some]
theorem buildA_ok {ρ : Operand → AV} {ρ' : Operand → Value} (hρ : ∀ x, VR φ (ρ x) (ρ' x)) {t : TypeId} {parts : Array (Nat × Operand)} {v : AV}
  (hb : buildA P t (pairsA ρ parts) = some v) : ∃ v', (Go.Instr.build t (parts.map fun p => (p.1, ρ' p.2))).run P w = .ok v' w ∧ VR φ v v' := by
 obtain ⟨hl, he⟩ := pairs_map hρ parts
 unfold buildA at hb
 split at hb
 ·rename_i z hz
  obtain ⟨z', hzr, hzrel⟩ := run_zero hz w φ
  split at hb
  ·rename_i zv fields hzv hu
   have hzvr := VecR.of_vec hzrel hzv
   split at hb
   ·rename_i hall
    cases hf : fillS P fields zv (pairsA ρ parts) with
    | none => rw [hf] at hb; simp at hb
    | some v2 =>
     rw [hf] at hb
     simp only [Option.map_some, Option.some.injEq] at hb
     subst hb
     obtain ⟨c2, hc2, hr2⟩ := fillS_ok (φ := φ) (places := (fields.toList.map fun f => (f.offset, (size? P f.type).getD 0)).toArray) (fun i f sz hfi hsz => by
      rw [List.getElem?_toArray, List.getElem?_map, Array.getElem?_toList, hfi]
      simp [hsz]) _ _ zv v2 z'.cells hf hzvr hl he
     refine ⟨.agg c2, ?_, hr2.agg⟩
     have hm : (fields.mapM (fun f => do pure (f.offset, ← sizeOf f.type) : Field → Sem (Nat × Nat))).run P w = .ok ((fields.toList.map fun f => (f.offset, (size? P f.type).getD 0)).toArray) w := by
      rw [Array.mapM_eq_mapM_toList, Sem.run_map, run_places fields.toList hall]
      rfl
     simp only [Go.Instr.build, Sem.run_bind, hzr, Result.andThen_ok, run_und hu, hm]
     rw [hc2]
     rfl
   ·simp at hb
  ·rename_i zv len e hzv hu
   have hzvr := VecR.of_vec hzrel hzv
   split at hb
   ·rename_i sz hsz
    cases hf : fillA sz zv (pairsA ρ parts) with
    | none => rw [hf] at hb; simp at hb
    | some v2 =>
     rw [hf] at hb
     simp only [Option.map_some, Option.some.injEq] at hb
     subst hb
     obtain ⟨c2, hc2, hr2⟩ := fillA_ok (φ := φ) _ _ zv v2 z'.cells hf hzvr hl he
     refine ⟨.agg c2, ?_, hr2.agg⟩
     simp only [Go.Instr.build, Sem.run_bind, hzr, Result.andThen_ok, run_und hu, run_size hsz]
     rw [hc2]
     rfl
   ·simp at hb
  ·simp at hb
 ·simp at hb
theorem buildSliceA_ok (hr : HR G φ h w) {ρ : Operand → AV} {ρ' : Operand → Value} (hρ : ∀ x, VR φ (ρ x) (ρ' x)) {t : TypeId} {len : Nat} {parts : Array (Nat × Operand)} {v : AV} {h' : H}
  (hb : buildSliceA P t len (pairsA ρ parts) h = some (v, h')) :
  ∃ φ' v' w', (Go.Instr.buildSlice t len (parts.map fun p => (p.1, ρ' p.2))).run P w = .ok v' w' ∧ VR φ' v v' ∧ HR G φ' h' w' ∧ Post φ h w φ' h' w' := by
 obtain ⟨hl, he⟩ := pairs_map hρ parts
 unfold buildSliceA at hb
 split at hb
 ·rename_i e hu
  split at hb
  ·rename_i sz z hsz hz
   obtain ⟨z', hzr, hzrel⟩ := run_zero hz w φ
   split at hb
   ·rename_i zv hzv
    have hzvr := VecR.of_vec hzrel hzv
    split at hb
    ·rename_i hc
     obtain ⟨hzn, hlim⟩ := hc
     split at hb
     ·rename_i v2 hf
      cases hal : allocA h v2 with
      | none => rw [hal] at hb; simp at hb
      | some p =>
       obtain ⟨id, h2⟩ := p
       rw [hal] at hb
       simp only [Option.map_some, Option.some.injEq, Prod.mk.injEq] at hb
       obtain ⟨rfl, rfl⟩ := hb
       have hvec := zeroVec_rel (n := len) hzvr (by omega)
       have hn := (zeroVec_spec len zv (by omega)).1
       obtain ⟨c2, hc2, hr2⟩ := fillA_ok (φ := φ) _ _ _ v2 _ hf hvec hl he
       obtain ⟨a, b⟩ := vec_new hr hal e hr2
       have hsize : c2.size = len * (sz + 1) := by
        have key : ∀ (ps : List (Nat × Value)) (c c2 : Array Value), Go.Instr.fill (fun i => some (i * (sz + 1), sz + 1)) c ps = some c2 → c2.size = c.size := by
         intro ps
         induction ps with
         | nil => intro c c2 hq; simp only [Go.Instr.fill, Option.some.injEq] at hq; rw [hq]
         | cons p ps ih =>
          intro c c2 hq
          obtain ⟨i, x⟩ := p
          simp only [Go.Instr.fill] at hq
          split at hq
          ·simp at hq
          ·have := ih _ _ hq
           rw [this]
           exact (congrArg Array.size (fill_step c _ _)).trans (spl_size _ _ _)
        rw [key _ _ _ hc2]
        simp [hzn]
       refine ⟨_, .slice (some ⟨w.heap.size, 0, none⟩) len len, _, ?_, ?_, a, b⟩
       ·have hlim' : ¬ len * (sz + 1) > 2 ^ 24 := by omega
        have hsz' : size? P e = some (sz + 1) := hsz
        have z0 : ∀ f : Nat → Value, (Array.range 0).map f = #[] := fun f => by simp
        simp only [Go.Instr.buildSlice, Sem.run_bind, run_und hu, Result.andThen_ok, run_size hsz', hlim', if_false]
        by_cases hz0 : len * (sz + 1) = 0
        ·have e0 : len * zv.n = 0 := by rw [hzn]; exact hz0
         rw [e0, z0] at hc2
         simp only [hz0, if_true, Sem.run_bind, Sem.run_pure, Result.andThen_ok, z0]
         rw [hc2]
         simp only [newRow, Sem.run_bind, run_newObj', Result.andThen_ok, Sem.run_pure]
        ·simp only [hz0, if_false, Sem.run_bind, hzr, Result.andThen_ok, Sem.run_pure]
         rw [hzn] at hc2
         rw [hc2]
         simp only [newRow, Sem.run_bind, run_newObj', Result.andThen_ok, Sem.run_pure]
       ·refine .slice (Phi.set_same _ _ _) (.inl (by simp)) (Nat.le_refl _) (Nat.le_refl _) (fun _ => rfl) ?_ (by omega)
        rw [hsize]
        omega
     ·simp at hb
    ·simp at hb
   ·simp at hb
  ·simp at hb
 ·simp at hb
end
end Go.Ab
end

section
namespace Go.Ab
variable [Val]
section
variable {P : Program} {G : Nat} {φ : Phi} {h : H} {w : World}
structure CellsR (φ : Phi) (l : List AV) (a : Array Value) : Prop where
 size : a.size = l.length
 get : ∀ i, i < l.length → VR φ (l.getD i .junk) (a.getD i undef)
 plain : ∀ i, i < l.length → plainCell (a.getD i undef) = true
theorem CellsR.all {l : List AV} {a : Array Value} (hc : CellsR φ l a) : ∀ x ∈ a.toList, plainCell x = true := by
 intro x hx
 obtain ⟨i, hi, rfl⟩ := List.mem_iff_getElem.1 hx
 simp only [Array.length_toList] at hi
 have := hc.plain i (by rw [← hc.size]; exact hi)
 rw [Array.getD_eq_getD_getElem?, Array.getElem?_eq_getElem hi] at this
 simpa using this
theorem CellsR.vec {l : List AV} {a : Array Value} (hc : CellsR φ l a) : VecR φ (vecOf l) a :=
 ⟨by rw [vecOf_n]; exact hc.size, vecOf_wf _, fun i hi => by rw [vecOf_n] at hi; rw [vecOf_get _ _ hi]; exact hc.get i hi, fun i hi => by rw [vecOf_n] at hi; exact hc.plain i hi⟩
theorem bytes_cells (s : ByteArray) (n : Nat) (hn : n ≤ s.size) : CellsR φ (((s.data.toList.map UInt8.toNat).take n).map fun b => .int .u8 (b : Nat)) ((s.extract 0 n).data.map fun b => .int .u8 b.toNat) := by
 have hlist : (s.extract 0 n).data.toList = s.data.toList.take n := by rw [Lib.extract_data]; simp
 have hsz : (s.extract 0 n).data.size = n := by
  rw [← Array.length_toList, hlist, List.length_take, Array.length_toList]
  have : s.data.size = s.size := rfl
  omega
 have hlen : (((s.data.toList.map UInt8.toNat).take n).map fun b => (AV.int .u8 (b : Nat))).length = n := by
  simp only [List.length_map, List.length_take, Array.length_toList]
  have : s.data.size = s.size := rfl
  omega
 have g : ∀ i, i < n → ∃ u : UInt8, (((s.data.toList.map UInt8.toNat).take n).map fun b => (AV.int .u8 (b : Nat))).getD i .junk = .int .u8 (u.toNat : Nat) ∧
   ((s.extract 0 n).data.map fun b => Value.int .u8 b.toNat).getD i undef = .int .u8 u.toNat := by
  intro i hi
  have hi2 : i < s.data.toList.length := by rw [Array.length_toList]; have : s.data.size = s.size := rfl; omega
  refine ⟨s.data.toList[i], ?_, ?_⟩
  ·rw [List.getD_eq_getElem?_getD, List.getElem?_map, List.getElem?_take_of_lt hi, List.getElem?_map, List.getElem?_eq_getElem hi2]
   rfl
  ·rw [Array.getD_eq_getD_getElem?, Array.getElem?_map, ← Array.getElem?_toList, hlist, List.getElem?_take_of_lt hi, List.getElem?_eq_getElem hi2]
   rfl
 refine ⟨by rw [hlen]; simpa using hsz, fun i hi => ?_, fun i hi => ?_⟩
 ·rw [hlen] at hi
  obtain ⟨u, h1, h2⟩ := g i hi
  rw [h1, h2]
  exact .int _ _
 ·rw [hlen] at hi
  obtain ⟨u, h1, h2⟩ := g i hi
  rw [h2]
  rfl
theorem cells_ok (hr : HR G φ h w) {id n dep b base cs : Nat} {d : AV} {t : Tr AV} (hg : h.get id = some (.cells n dep d t)) (hp : φ id = some (b, base, cs)) {off k : Nat} (hk : off + k ≤ n) :
  ∃ a : Array Value, (loadCells ⟨b, base + off, none⟩ k).run P w = .ok a w ∧ CellsR φ (cellsFrom dep d t off k) a := by
 obtain ⟨a, h1, h2, h3, h4⟩ := cells_read (P := P) hr hg hp hk
 refine ⟨a, h1, by rw [length_cellsFrom]; exact h2, fun i hi => ?_, fun i hi => ?_⟩
 ·rw [length_cellsFrom] at hi
  rw [getD_cellsFrom _ _ _ _ _ _ _ hi]
  exact h3 i hi
 ·rw [length_cellsFrom] at hi
  exact h4 i hi
theorem srcCells_ok (hr : HR G φ h w) {esz n : Nat} {x : AV} {l : List AV} (hs : srcCells h esz n x = some l) {x' : Value} (hx : VR φ x x') (hlen : n ≤ (lenA x).getD 0) :
  ∃ a : Array Value, (Builtin.firstCells esz n x').run P w = .ok a w ∧ CellsR φ l a ∧ l.length = n * esz := by
 unfold srcCells at hs
 split at hs
 ·obtain rfl := hx.nils_inv
  simp only [Option.some.injEq] at hs
  subst hs
  have hn : n = 0 := by simpa [lenA] using hlen
  refine ⟨#[], rfl, ⟨rfl, fun i hi => absurd hi (by simp), fun i hi => absurd hi (by simp)⟩, by simp [hn]⟩
 ·rename_i id off len cap ex e
  obtain ⟨b, base, cs, o, c, hp, ho, hl, hc, he, hcs, hz, rfl⟩ := hx.slice_inv
  split at hs
  ·rename_i m dep d t hg
   split at hs
   ·rename_i hle
    obtain ⟨rfl, hn, hm⟩ := hle
    simp only [Option.some.injEq] at hs
    subst hs
    rcases ho with rfl | ho
    ·obtain ⟨a, h1, h2⟩ := cells_ok (P := P) hr hg hp hm
     exact ⟨a, h1, h2, length_cellsFrom _ _ _ _ _⟩
    ·have hn0 : n = 0 := by omega
     subst hn0
     refine ⟨#[], ?_, ⟨by simp [cellsFrom], fun i hi => absurd hi (by simp [cellsFrom]), fun i hi => absurd hi (by simp [cellsFrom])⟩, by simp [cellsFrom]⟩
     simp [Builtin.firstCells, loadCells, loadCellsFrom]
   ·simp at hs
  ·simp at hs
 ·rename_i s
  obtain ⟨s, rfl, rfl⟩ := hx.str_inv
  split at hs
  ·rename_i hle
   obtain ⟨rfl, hn⟩ := hle
   simp only [Option.some.injEq] at hs
   subst hs
   have hlen2 : (s.data.toList.map UInt8.toNat).length = s.size := by rw [List.length_map, Array.length_toList]; rfl
   rw [hlen2] at hn
   refine ⟨_, rfl, bytes_cells s n hn, ?_⟩
   simp only [List.length_map, List.length_take, Array.length_toList]
   have : s.data.size = s.size := rfl
   omega
  ·simp at hs
 ·simp at hs
theorem lenA_ok {x : AV} {n : Nat} (hl : lenA x = some n) {x' : Value} (hx : VR φ x x') : (Builtin.lenOf x').run P w = .ok n w := by
 unfold lenA at hl
 split at hl
 ·obtain rfl := hx.nils_inv
  simp only [Option.some.injEq] at hl
  subst hl
  rfl
 ·obtain ⟨b, base, cs, o, c, hp, ho, hl', hc, he, hcs, hz, rfl⟩ := hx.slice_inv
  simp only [Option.some.injEq] at hl
  subst hl
  rfl
 ·obtain ⟨s, rfl, rfl⟩ := hx.str_inv
  simp only [Option.some.injEq] at hl
  subst hl
  rw [List.length_map, Array.length_toList]
  rfl
 ·simp at hl
omit [Val] in
theorem grown_spec (n dep : Nat) (d : AV) (t : Tr AV) (off cnt : Nat) (new : List AV) :
  (grown n dep d t off cnt new).n = cnt + new.length ∧ (grown n dep d t off cnt new).Wf ∧
  ∀ i, i < cnt + new.length → (grown n dep d t off cnt new).get i = if i < cnt then cget dep d t (off + i) else new.getD (i - cnt) .junk := by
 have gen : ∀ (dep' : Nat) (d' : AV), cnt + new.length ≤ 2 ^ dep' → ∀ i, i < cnt + new.length → cget dep' d' (setFrom dep' .e 0 (cellsFrom dep d t off cnt ++ new)) i =
   if i < cnt then cget dep d t (off + i) else new.getD (i - cnt) .junk := by
  intro dep' d' hle i hi
  have hl : (cellsFrom dep d t off cnt ++ new).length = cnt + new.length := by rw [List.length_append, length_cellsFrom]
  rw [cget_setFrom _ _ _ _ _ _ (by rw [hl]; omega) (by omega), hl, if_pos (by omega), Nat.sub_zero]
  by_cases h : i < cnt
  ·rw [if_pos h, List.getD_eq_getElem?_getD, List.getElem?_append_left (by rw [length_cellsFrom]; exact h), ← List.getD_eq_getElem?_getD, getD_cellsFrom _ _ _ _ _ _ _ h]
  ·rw [if_neg h, List.getD_eq_getElem?_getD, List.getElem?_append_right (by rw [length_cellsFrom]; omega), length_cellsFrom, ← List.getD_eq_getElem?_getD]
 unfold grown
 split
 ·rename_i hc
  obtain ⟨rfl, rfl, hd⟩ := hc
  dsimp only
  cases hb : Nat.ble (cnt + new.length) (2 ^ dep) with
  | true =>
   have hle := Nat.le_of_ble_eq_true hb
   simp only [cond_true]
   refine ⟨trivial, ⟨hle⟩, fun i hi => ?_⟩
   simp only [Vec.get]
   rw [cget_setFrom _ _ _ _ _ _ hle (by omega)]
   by_cases h : i < cnt
   ·rw [if_neg (by omega), if_pos h, Nat.zero_add]
   ·rw [if_pos (by omega), if_neg h]
  | false =>
   simp only [cond_false]
   refine ⟨trivial, ⟨le_depFor _⟩, fun i hi => ?_⟩
   exact gen _ _ (le_depFor _) i hi
 ·have hl : (cellsFrom dep d t off cnt ++ new).length = cnt + new.length := by rw [List.length_append, length_cellsFrom]
  refine ⟨by rw [vecOf_n, hl], vecOf_wf _, fun i hi => ?_⟩
  rw [vecOf_get _ _ (by rw [hl]; exact hi)]
  by_cases h : i < cnt
  ·rw [if_pos h, List.getD_eq_getElem?_getD, List.getElem?_append_left (by rw [length_cellsFrom]; exact h), ← List.getD_eq_getElem?_getD, getD_cellsFrom _ _ _ _ _ _ _ h]
  ·rw [if_neg h, List.getD_eq_getElem?_getD, List.getElem?_append_right (by rw [length_cellsFrom]; omega), length_cellsFrom, ← List.getD_eq_getElem?_getD]
omit [Val] in
theorem growBy_le (n c : Nat) : Builtin.growBy n 4 c ≤ 4 * c + 3000 := by
 simp only [Builtin.growBy]
 (repeat' split) <;> omega
omit [Val] in
theorem nextcap_le (need cap : Nat) (h : cap < need) : Builtin.nextslicecap need cap ≤ 4 * need + 5000 := by
 unfold Builtin.nextslicecap
 split
 ·omega
 ·split
  ·omega
  ·have := growBy_le need cap
   omega
omit [Val] in
theorem append_head {ts : Array TypeId} {t e : TypeId} (ht0 : ts[0]? = some t) (hu : P.underlying t = some (.slice e)) {esz : Nat} (hsz : size? P e = some esz)
  (ht1 : ∀ u, ts[1]? = some u → ∃ d, P.underlying u = some d ∧ ∀ k, d ≠ .int k) (ty : TypeId) {base : Option Addr} {sLen sCap k : Nat} {x' : Value}
  (hlen : (Builtin.lenOf x').run P w = .ok k w) (R : Result Value)
  (hroom : sLen + k ≤ sCap → ((do
    let new ← Builtin.firstCells esz k x'
    if let some a := base then storeCells (a.add (sLen * esz)) new.toList
    pure (Value.slice base (sLen + k) sCap) : Sem Value).run P w) = R)
  (hnone : ¬ sLen + k ≤ sCap → ((do
    if ((sLen + k : Nat) : Int) > IntKind.i64.max ∧ (False ∨ (← typeInfo e).bytes = 0) then runtimePanic (.error "growslice: len out of range")
    if Builtin.nextslicecap (sLen + k) sCap * (← typeInfo e).bytes > 2 ^ 48 then (do
     if !(← Builtin.mayShare esz sLen k base x') then mark .noRoom
     unsupported (.resourceLimit "append: a slice or a string whose bytes no memory bears"))
    let newCap ← choose (.appendCap (sLen + k) sCap e)
    askRoom (newCap * (← typeInfo e).bytes)
    let old ← Builtin.firstCells esz sLen (.slice base sLen sCap)
    let new ← Builtin.firstCells esz k x'
    let rest := Builtin.zeroCells (← zeroValue e).cells (newCap - (sLen + k))
    pure (.slice (some (← newRow e (old ++ new ++ rest))) (sLen + k) newCap) : Sem Value).run P w) = R) :
  (Builtin.append_ ts ty #[.slice base sLen sCap, x']).run P w = R := by
 have key : ∀ zs : Sem Bool, (∀ w, zs.run P w = .ok false w) → True := fun _ _ => trivial
 clear key
 by_cases hr : sLen + k ≤ sCap
 ·rw [← hroom hr]
  cases h1 : ts[1]? with
  | none =>
   simp only [Builtin.append_, ht0, h1, List.getElem?_toArray, List.getElem?_cons_zero, List.getElem?_cons_succ, Sem.run_bind, run_und hu, run_size hsz, Result.andThen_ok, Sem.run_pure,
    Bool.false_eq_true, if_false, hlen, hr, if_true, Bool.not_false]
   rfl
  | some u =>
   obtain ⟨d, hd, hni⟩ := ht1 u h1
   simp only [Builtin.append_, ht0, h1, List.getElem?_toArray, List.getElem?_cons_zero, List.getElem?_cons_succ, Sem.run_bind, run_und hu, run_und hd, run_size hsz, Result.andThen_ok, Sem.run_pure]
   cases d <;> first
    | exact absurd rfl (hni _)
    | (simp only [Bool.false_eq_true, if_false, Sem.run_bind, hlen, Result.andThen_ok, hr, if_true, Bool.not_false]; rfl)
 ·rw [← hnone hr]
  cases h1 : ts[1]? with
  | none =>
   simp only [Builtin.append_, ht0, h1, List.getElem?_toArray, List.getElem?_cons_zero, List.getElem?_cons_succ, Sem.run_bind, run_und hu, run_size hsz, Result.andThen_ok, Sem.run_pure,
    Bool.false_eq_true, if_false, hlen, hr, Bool.not_false, if_true]
  | some u =>
   obtain ⟨d, hd, hni⟩ := ht1 u h1
   simp only [Builtin.append_, ht0, h1, List.getElem?_toArray, List.getElem?_cons_zero, List.getElem?_cons_succ, Sem.run_bind, run_und hu, run_und hd, run_size hsz, Result.andThen_ok, Sem.run_pure]
   cases d <;> first
    | exact absurd rfl (hni _)
    | (simp only [Bool.false_eq_true, if_false, Sem.run_bind, hlen, Result.andThen_ok, hr, Bool.not_false, if_true])
theorem append_new (hr : HR G φ h w) {e : TypeId} {esz : Nat} (hsz : size? P e = some esz) (hpos : 0 < esz) {i : TypeInfo} (hi : P.info? e = some i) {z : AV} (hz : zero? P e = some z)
  {zv : Vec} (hzv : z.vec = some zv) (hzn : zv.n = esz) {x' : Value} {sLen sCap k : Nat} {base : Option Addr}
  (hcap : sCap < sLen + k) (hbound : (4 * (sLen + k) + 5000) * i.bytes ≤ 1000000000000) (hby : 0 < i.bytes)
  {old new : List AV} {olda newa : Array Value}
  (hold : (Builtin.firstCells esz sLen (.slice base sLen sCap)).run P w.drew = .ok olda w.drew) (holdr : CellsR φ old olda) (holdn : old.length = sLen * esz)
  (hnew : (Builtin.firstCells esz k x').run P w.drew = .ok newa w.drew) (hnewr : CellsR φ new newa) (hnewn : new.length = k * esz) (hlen : (Builtin.lenOf x').run P w = .ok k w)
  {v : Vec} (hvn : v.n = (sLen + k) * esz) (hvw : v.Wf) (hvg : ∀ j, j < (sLen + k) * esz → v.get j = if j < sLen * esz then old.getD j .junk else new.getD (j - sLen * esz) .junk)
  {id : Nat} {h' : H} (hal : allocA h v = some (id, h')) {ts : Array TypeId} {t : TypeId} (ht0 : ts[0]? = some t) (hu : P.underlying t = some (.slice e))
  (ht1 : ∀ u, ts[1]? = some u → ∃ d, P.underlying u = some d ∧ ∀ k, d ≠ .int k) (ty : TypeId) (b : Bool) :
  ∃ φ' v' w', (Builtin.append_ ts ty #[.slice base sLen sCap, x']).run P w = .ok v' w' ∧ VR φ' (.slice id 0 (sLen + k) (sLen + k) false esz) v' ∧ HR G φ' (h'.noteIf b id e) w' ∧ Post φ h w φ' (h'.noteIf b id e) w' := by
 obtain ⟨z', hzr, hzrel⟩ := run_zero hz w.drew φ
 have hzs : z'.cells.size = esz := by rw [(VecR.of_vec hzrel hzv).size, hzn]
 generalize hcp : (Question.appendCap (sLen + k) sCap e).cut (w.tape w.drawn (.appendCap (sLen + k) sCap e)) = cap
 have hcapge : sLen + k ≤ cap := by
  rw [← hcp]
  show sLen + k ≤ (sLen + k) + _
  omega
 generalize hrest : Builtin.zeroCells z'.cells (cap - (sLen + k)) = rest
 have hrs : rest.size = (cap - (sLen + k)) * esz := by
  rw [← hrest]
  simp [Builtin.zeroCells, hzs]
 have hneed : sLen + k ≤ 1000000000000 := by
  have h1 : (4 * (sLen + k) + 5000) * 1 ≤ (4 * (sLen + k) + 5000) * i.bytes := Nat.mul_le_mul_left _ hby
  omega
 have ho := holdr.size
 have hn := hnewr.size
 have hcsz : (olda ++ newa ++ rest).size = cap * esz := by
  simp only [Array.size_append, ho, hn, holdn, hnewn, hrs]
  rw [← Nat.add_mul, ← Nat.add_mul]
  congr 1
  omega
 have hcs : (sLen + k) * esz ≤ (olda ++ newa ++ rest).size := by
  rw [hcsz]; exact Nat.mul_le_mul_right _ hcapge
 have hget : ∀ j, j < (sLen + k) * esz → (olda ++ newa ++ rest).getD j undef = if j < sLen * esz then olda.getD j undef else newa.getD (j - sLen * esz) undef := by
  intro j hj
  rw [Nat.add_mul] at hj
  by_cases hlt : j < sLen * esz
  ·rw [if_pos hlt, Array.getD_eq_getD_getElem?, Array.getD_eq_getD_getElem?, Array.getElem?_append_left (by rw [Array.size_append]; omega), Array.getElem?_append_left (by omega)]
  ·rw [if_neg hlt, Array.getD_eq_getD_getElem?, Array.getD_eq_getD_getElem?, Array.getElem?_append_left (by rw [Array.size_append]; omega), Array.getElem?_append_right (by omega), ho, holdn]
 have hcells := cells_new (hr.drew) hal hvw e (c := olda ++ newa ++ rest) (by rw [hvn]; exact hcs) (fun j hj => by
   rw [hvn] at hj
   rw [hvg j hj, hget j hj]
   split
   ·exact holdr.get j (by omega)
   ·exact hnewr.get _ (by rw [Nat.add_mul] at hj; omega)) (fun j hj => by
   rw [hvn] at hj
   rw [hget j hj]
   split
   ·exact holdr.plain j (by omega)
   ·exact hnewr.plain _ (by rw [Nat.add_mul] at hj; omega))
 obtain ⟨a, a'⟩ := hcells
 refine ⟨_, .slice (some ⟨w.heap.size, 0, none⟩) (sLen + k) cap, _, ?_, ?_, noteIf_ok a (fun _ => ⟨_, _, (0, 0), Phi.set_same _ _ _, rfl, by rw [alloc_block, if_pos rfl], rfl⟩), ((Post.drew φ h w).trans a').noteIf b id e (H.new_le hal)⟩
 ·refine append_head ht0 hu hsz ht1 ty hlen _ (fun hle => by omega) (fun _ => ?_)
  have c1 : ¬ (((sLen + k : Nat) : Int) > IntKind.i64.max ∧ (False ∨ i.bytes = 0)) := by
   rintro ⟨_, h | h⟩
   ·exact h
   ·omega
  have c2 : ¬ Builtin.nextslicecap (sLen + k) sCap * i.bytes > 2 ^ 48 := by
   have h1 := nextcap_le (sLen + k) sCap hcap
   have h2 : Builtin.nextslicecap (sLen + k) sCap * i.bytes ≤ (4 * (sLen + k) + 5000) * i.bytes := Nat.mul_le_mul_right _ h1
   omega
  have hf : (Question.appendCap (sLen + k) sCap e).forced = false := rfl
  simp only [Sem.run_bind, run_info hi, Result.andThen_ok, c1, if_false, Sem.run_pure, c2, run_choose, hf, Bool.false_eq_true, World.drew_eq, run_askRoom, hold, hnew, hzr, newRow, run_newObj']
  rw [← hcp] at hrest ⊢
  rw [← hrest]
  rfl
 ·refine .slice (Phi.set_same _ _ _) (.inl (by simp)) (Nat.le_refl _) hcapge (fun h => by simp at h) ?_ hpos
  rw [hcsz]
  omega
theorem ghost_ok (hr : HR G φ h w) {o : AObj} {id : Nat} {h' : H} (hn : h.new o = some (id, h')) : HR G φ h' w ∧ Post φ h w φ h' w := by
 obtain ⟨rfl, hlt, hnx, hget⟩ := H.new_spec hn
 have old : ∀ i p, φ i = some p → h'.get i = h.get i := by
  intro i p hp
  have h1 := (hr.dom i p hp).1
  rw [hget i (by omega), if_neg (by omega)]
 refine hr.go (H.new_ty hn) (H.new_tb hn) ⟨⟨fun i p hp => ⟨by have := (hr.dom i p hp).1; omega, (hr.dom i p hp).2⟩, fun i hi hge => ?_, by omega, hr.glob, fun i j oi oj p q hi hj ai aj hp hq hpq => ?_, fun i o' p hg hp => ?_⟩,
  ⟨φ.le_refl, Nat.le_refl _, rfl, rfl, rfl, by omega, fun b hb hno => ⟨rfl, ?_⟩, fun i hi hp => ⟨?_, hp⟩, fun _ => Like.rfl' _, fun x hx => .inl (H.new_ty hn ▸ hx), H.new_tb hn, fun i o' p hg hp _ => by
   rw [old i p hp] at hg
   exact .inl ⟨o', hg, hp⟩⟩⟩
 ·rw [hget i hi, if_neg (by omega)]
  exact hr.lt i hi (by omega)
 ·rw [old i p hp] at hi
  rw [old j q hq] at hj
  exact hr.inj i j oi oj p q hi hj ai aj hp hq hpq
 ·rw [old i p hp] at hg
  exact hr.obj i o' p hg hp
 ·rintro ⟨i, o', p, hg, hraw, hp, rfl⟩
  rw [old i p hp] at hg
  exact hno ⟨i, o', p, hg, hraw, hp, rfl⟩
 ·have := hr.nx
  rw [hget i (by omega), if_neg (by omega)]
theorem raw_read (hr : HR G φ h w) {id v b base cs : Nat} {isB : Bool} (hg : h.get id = some (.raw v isB)) (hp : φ id = some (b, base, cs)) {o n : Nat} (ho : n = 0 ∨ ∃ j, o = base + j) (hle : o + n ≤ cs) :
  (loadCells ⟨b, o, none⟩ n).run P w = .ok ((List.range n).map fun i => rawV Val.σ v isB (o - base + i)).toArray w := by
 obtain ⟨_, hbc, c, e, fz, hb, hcs, hv⟩ := hr.obj _ _ _ hg hp
 refine run_loadCells w ⟨b, o, none⟩ n (fun i => rawV Val.σ v isB (o - base + i)) ?_
 intro j hj
 rcases ho with ho | ⟨k, rfl⟩
 ·omega
 ·rw [add_none, cell_of hb]
  have := hv (k + j) (by simp only at hle ⊢; omega)
  simp only at this
  rw [show base + k + j = base + (k + j) by omega, this, show base + k - base + j = k + j by omega]
theorem appendV_ok (hr : HR G φ h w) {t : TypeId} {id : Nat} {off len : E} {v : AV} {h' : H} (ha : appendV P t id off len h = some (v, h')) {x' : Value} (hx : VR φ (.vsl id off len) x')
  {ts : Array TypeId} (ht0 : ts[0]? = some t) (ht1 : ∀ u, ts[1]? = some u → ∃ d, P.underlying u = some d ∧ ∀ k, d ≠ .int k) (ty : TypeId) :
  ∃ φ' v' w', (Builtin.append_ ts ty #[.slice none 0 0, x']).run P w = .ok v' w' ∧ VR φ' v v' ∧ HR G φ' h' w' ∧ Post φ h w φ' h' w' := by
 unfold appendV at ha
 split at ha
 ·rename_i e o v0 isB hu hg
  split at ha
  ·rename_i i zv l hh hsz hi hzv0 hrng
   obtain ⟨z, hz, hzv⟩ : ∃ z, zero? P e = some z ∧ z.vec = some zv := by
    cases hz : zero? P e with
    | none => rw [hz] at hzv0; simp at hzv0
    | some z => rw [hz] at hzv0; exact ⟨z, rfl, hzv0⟩
   split at ha
   ·rename_i hcond
    obtain ⟨hzn, hbound, hby⟩ := hcond
    cases hnew : h.new (.raw (v0 + o) isB) with
    | none => rw [hnew] at ha; simp at ha
    | some q =>
     obtain ⟨id', h2⟩ := q
     rw [hnew] at ha
     simp only [Option.map_some, Option.some.injEq, Prod.mk.injEq] at ha
     obtain ⟨rfl, rfl⟩ := ha
     have hl2 := (E.rng_ok Val.σ hrng).2
     rcases hx.vsl_inv with ⟨b, base, cs, a, n, c, hp, hn1, h0, hao, hcs, hc, rfl⟩ | ⟨h0, a0, c0, rfl⟩
     ·have hlen : (Builtin.lenOf (.slice (some ⟨b, a, none⟩) n c)).run P w = .ok n w := by simp [Builtin.lenOf]
      rcases Nat.eq_zero_or_pos n with hn0 | hnpos
      ·subst hn0
       obtain ⟨g1, g2⟩ := ghost_ok hr hnew
       refine ⟨φ, .slice none 0 0, w, ?_, .vsln (by omega), g1, g2⟩
       refine append_head ht0 hu hsz ht1 ty hlen _ (fun _ => ?_) (fun hn => by omega)
       simp [Builtin.firstCells, loadCells, loadCellsFrom]
      ·have hoff : a = base + o := by
        have : (E.const (.ofNat o)).eval Val.σ = (o : Int) := rfl
        rw [this] at hao
        omega
       have hread : ∀ w1 : World, HR G φ h w1 → (Builtin.firstCells 1 n (.slice (some ⟨b, a, none⟩) n c)).run P w1 = .ok ((List.range n).map fun i => rawV Val.σ v0 isB (o + i)).toArray w1 := by
        intro w1 hr1
        have := raw_read (P := P) hr1 hg hp (o := a) (n := n) (.inr ⟨o, hoff⟩) hcs
        rw [hoff, show base + o - base = o by omega] at this
        simp only [Builtin.firstCells, Nat.mul_one, hoff]
        exact this
       obtain ⟨z', hzr, hzrel⟩ := run_zero hz w.drew φ
       have hzs : z'.cells.size = 1 := by rw [(VecR.of_vec hzrel hzv).size, hzn]
       generalize hcp : (Question.appendCap (0 + n) 0 e).cut (w.tape w.drawn (.appendCap (0 + n) 0 e)) = cap
       have hcapge : 0 + n ≤ cap := by
        rw [← hcp]
        show 0 + n ≤ (0 + n) + _
        omega
       generalize hrest : Builtin.zeroCells z'.cells (cap - (0 + n)) = rest
       generalize hnewa : ((List.range n).map fun i => rawV Val.σ v0 isB (o + i)).toArray = newa
       have hns : newa.size = n := by rw [← hnewa]; simp
       obtain ⟨hvb, hbc, c0, e0, fz0, hb0, hcs0, hv0⟩ := hr.obj _ _ _ hg hp
       obtain ⟨k1, k2⟩ := alloc_ok hr.drew hnew (ob := .cells (#[] ++ newa ++ rest) e (0, 0)) (cs := n)
        ⟨by omega, Nat.zero_le _, _, _, _, rfl, by simp [hns], fun j hj => by
         simp only [Nat.zero_add] at hj ⊢
         rw [Array.getElem?_append_left (by simp [hns]; omega)]
         rw [← hnewa]
         simp [hj, rawV, Nat.add_assoc]⟩
       have hle := Phi.le_set (φ := φ) (id := id') (w.heap.size, 0, n) (by
        obtain ⟨rfl, _, _, _⟩ := H.new_spec hnew
        cases e : φ h.nx with
        | none => rfl
        | some p => exact absurd (hr.dom _ _ e).1 (by omega))
       refine ⟨_, .slice (some ⟨w.heap.size, 0, none⟩) (0 + n) cap, _, ?_, ?_, k1, (Post.drew φ h w).trans k2⟩
       ·refine append_head ht0 hu hsz ht1 ty hlen _ (fun hle => by omega) (fun _ => ?_)
        have hbd : (4 * (0 + n) + 5000) * i.bytes ≤ 1000000000000 := by
         have : (4 * (0 + n) + 5000) * i.bytes ≤ (4 * hh.toNat + 5000) * i.bytes := Nat.mul_le_mul_right _ (by omega)
         omega
        have c1 : ¬ (((0 + n : Nat) : Int) > IntKind.i64.max ∧ (False ∨ i.bytes = 0)) := by
         rintro ⟨_, h | h⟩
         ·exact h
         ·omega
        have c2 : ¬ Builtin.nextslicecap (0 + n) 0 * i.bytes > 2 ^ 48 := by
         have h1 := nextcap_le (0 + n) 0 (by omega)
         have h2 : Builtin.nextslicecap (0 + n) 0 * i.bytes ≤ (4 * (0 + n) + 5000) * i.bytes := Nat.mul_le_mul_right _ h1
         omega
        have hf : (Question.appendCap (0 + n) 0 e).forced = false := rfl
        have hold : (Builtin.firstCells 1 0 (.slice none 0 0)).run P w.drew = .ok #[] w.drew := by simp [Builtin.firstCells]
        have hnw := hread w.drew hr.drew
        rw [hnewa] at hnw
        simp only [Sem.run_bind, run_info hi, Result.andThen_ok, c1, if_false, Sem.run_pure, c2, run_choose, hf, Bool.false_eq_true, World.drew_eq, run_askRoom, hold, hnw, hzr, newRow, run_newObj']
        rw [← hcp] at hrest ⊢
        rw [← hrest]
        rfl
       ·refine .vsl (Phi.set_same _ _ _) (by rw [hn1]; omega) (Int.le_refl _) (.inr (by simp [E.eval])) (by omega) hcapge
     ·have hlen : (Builtin.lenOf (.slice a0 0 c0)).run P w = .ok 0 w := by simp [Builtin.lenOf]
      obtain ⟨g1, g2⟩ := ghost_ok hr hnew
      refine ⟨φ, .slice none 0 0, w, ?_, .vsln h0, g1, g2⟩
      refine append_head ht0 hu hsz ht1 ty hlen _ (fun _ => ?_) (fun hn => by omega)
      cases a0 <;> simp [Builtin.firstCells, loadCells, loadCellsFrom]
   ·simp at ha
  ·simp at ha
 ·simp at ha
theorem appendA_ok (hr : HR G φ h w) {t : TypeId} {s x v : AV} {h' : H} (ha : appendA P t s x h = some (v, h')) {s' x' : Value} (hs : VR φ s s') (hx : VR φ x x')
  {ts : Array TypeId} (ht0 : ts[0]? = some t) (ht1 : ∀ u, ts[1]? = some u → ∃ d, P.underlying u = some d ∧ ∀ k, d ≠ .int k) (ty : TypeId) :
  ∃ φ' v' w', (Builtin.append_ ts ty #[s', x']).run P w = .ok v' w' ∧ VR φ' v v' ∧ HR G φ' h' w' ∧ Post φ h w φ' h' w' := by
 unfold appendA at ha
 split at ha
 ·rename_i e hu
  split at ha
  ·rename_i sz i zv hsz hi hzv0
   have hsz : size? P e = some (sz + 1) := hsz
   obtain ⟨z, hz, hzv⟩ : ∃ z, zero? P e = some z ∧ z.vec = some zv := by
    cases hz : zero? P e with
    | none => rw [hz] at hzv0; simp at hzv0
    | some z => rw [hz] at hzv0; exact ⟨z, rfl, hzv0⟩
   split at ha
   ·simp at ha
   ·rename_i hzn0
    have hzn : zv.n = sz + 1 := by simpa using hzn0
    split at ha
    ·rename_i k hk
     have hlen := lenA_ok (P := P) (w := w) hk hx
     split at ha
     ·rename_i new hnew
      have hkle : k ≤ (lenA x).getD 0 := by rw [hk]; exact Nat.le_refl _
      obtain ⟨newa, hnr, hnrel, hnl⟩ := srcCells_ok (P := P) hr hnew hx hkle
      obtain ⟨newa2, hnr2, hnrel2, _⟩ := srcCells_ok (P := P) hr.drew hnew hx hkle
      split at ha
      ·
       obtain rfl := hs.nils_inv
       split at ha
       ·rename_i hk0
        subst hk0
        simp only [Option.some.injEq, Prod.mk.injEq] at ha
        obtain ⟨rfl, rfl⟩ := ha
        refine ⟨φ, .slice none 0 0, w, ?_, .nils, hr, Post.refl _ _ _⟩
        refine append_head ht0 hu hsz ht1 ty hlen _ (fun _ => ?_) (fun hn => by omega)
        simp only [Sem.run_bind, hnr, Result.andThen_ok, Sem.run_pure, Nat.add_zero]
       ·rename_i hk0
        split at ha
        ·rename_i hb
         cases hal : allocA h (vecOf new) with
         | none => rw [hal] at ha; simp at ha
         | some p =>
          obtain ⟨id, h2⟩ := p
          rw [hal] at ha
          simp only [Option.map_some, Option.some.injEq, Prod.mk.injEq] at ha
          obtain ⟨rfl, rfl⟩ := ha
          have := append_new (P := P) hr hsz (by omega) hi hz hzv hzn (x' := x') (sLen := 0) (sCap := 0) (k := k) (base := none) (by omega) (by rw [Nat.zero_add]; exact hb.1) hb.2
           (old := []) (olda := #[]) (new := new) (newa := newa2) rfl ⟨rfl, fun i hi => absurd hi (by simp), fun i hi => absurd hi (by simp)⟩ (by simp) hnr2 hnrel2 hnl hlen
           (v := vecOf new) (by rw [vecOf_n, hnl, Nat.zero_add]) (vecOf_wf _) (fun j hj => by
            rw [Nat.zero_add] at hj
            rw [vecOf_get _ _ (by rw [hnl]; exact hj), if_neg (by simp)]
            simp) hal ht0 hu ht1 ty true
          simpa [H.noteIf] using this
        ·simp at ha
      ·rename_i id off len cap ex esz
       obtain ⟨b, base, cs, o, c, hp, ho, hl, hc, he, hcs, hz0, rfl⟩ := hs.slice_inv
       split at ha
       ·rename_i hesz
        subst hesz
        split at ha
        ·rename_i hk0
         subst hk0
         simp only [Option.some.injEq, Prod.mk.injEq] at ha
         obtain ⟨rfl, rfl⟩ := ha
         refine ⟨φ, .slice (some ⟨b, o, none⟩) len c, w, ?_, hs, hr, Post.refl _ _ _⟩
         refine append_head ht0 hu hsz ht1 ty hlen _ (fun _ => ?_) (fun hn => by omega)
         have hn0 : newa.toList = [] := by
          have := hnrel.size
          rw [hnl, Nat.zero_mul] at this
          exact List.eq_nil_of_length_eq_zero (by simpa using this)
         simp only [Sem.run_bind, hnr, Result.andThen_ok, hn0, storeCells, Sem.run_pure, Nat.add_zero]
        ·rename_i hk0
         split at ha
         ·
          rename_i hroom
          cases hst : storeA h id (off + len * (sz + 1)) (vecOf new) with
          | none => rw [hst] at ha; simp at ha
          | some h2 =>
           rw [hst] at ha
           simp only [Option.map_some, Option.some.injEq, Prod.mk.injEq] at ha
           obtain ⟨rfl, rfl⟩ := ha
           have ho' : o = base + off := by rcases ho with h | h <;> omega
           have hv := hnrel.vec
           obtain ⟨w', hrun, hr', hpost⟩ := store_ok (P := P) hr hp hst hv.wf (vals := newa.toList) (by simpa using hv.size) (fun j hj => by rw [getD_toList]; exact hv.get j hj) hnrel.all
           refine ⟨φ, .slice (some ⟨b, o, none⟩) (len + k) c, w', ?_, .slice hp ho (by omega) hc he hcs hz0, hr', hpost⟩
           refine append_head ht0 hu hsz ht1 ty hlen _ (fun _ => ?_) (fun hn => by omega)
           simp only [Sem.run_bind, hnr, Result.andThen_ok, add_none]
           rw [ho', Nat.add_assoc, hrun]
           simp only [Result.andThen_ok, Sem.run_pure]
         ·rename_i hroom
          split at ha
          ·rename_i hb
           split at ha
           ·rename_i n dep d tr hg
            split at ha
            ·rename_i hle
             obtain ⟨gn, gw, gg⟩ := grown_spec n dep d tr off (len * (sz + 1)) new
             have hvn : (grown n dep d tr off (len * (sz + 1)) new).n = (len + k) * (sz + 1) := by rw [gn, hnl, Nat.add_mul]
             have hvg : ∀ j, j < (len + k) * (sz + 1) → (grown n dep d tr off (len * (sz + 1)) new).get j =
               if j < len * (sz + 1) then (cellsFrom dep d tr off (len * (sz + 1))).getD j .junk else new.getD (j - len * (sz + 1)) .junk := by
              intro j hj
              rw [gg j (by rw [hnl]; rw [Nat.add_mul] at hj; exact hj)]
              split
              ·rename_i hlt; rw [getD_cellsFrom _ _ _ _ _ _ _ hlt]
              ·rfl
             have holdc : ∀ {w2 : World}, HR G φ h w2 → ∃ a, (Builtin.firstCells (sz + 1) len (.slice (some ⟨b, o, none⟩) len c)).run P w2 = .ok a w2 ∧ CellsR φ (cellsFrom dep d tr off (len * (sz + 1))) a := by
              intro w2 hr2
              rcases ho with rfl | ho
              ·exact cells_ok (P := P) hr2 hg hp hle
              ·have hl0 : len = 0 := by omega
               subst hl0
               rw [Nat.zero_mul]
               exact ⟨#[], by simp [Builtin.firstCells, loadCells, loadCellsFrom], ⟨rfl, fun i hi => absurd hi (by simp [cellsFrom]), fun i hi => absurd hi (by simp [cellsFrom])⟩⟩
             by_cases hneed : len + k ≤ c
             ·
              have hex : ex = false := by
               cases ex with
               | false => rfl
               | true => have := he rfl; omega
              subst hex
              simp only [Bool.false_eq_true, if_false] at ha
              cases hal : allocA (h.set id .dead) (grown n dep d tr off (len * (sz + 1)) new) with
              | none => rw [hal] at ha; simp at ha
              | some p =>
               obtain ⟨id', h2⟩ := p
               rw [hal] at ha
               simp only [Option.map_some, Option.some.injEq, Prod.mk.injEq] at ha
               obtain ⟨rfl, rfl⟩ := ha
               have ho' : o = base + off := by rcases ho with h | h <;> omega
               subst ho'
               obtain ⟨hn, hle2, c0, e0, fz, hblk, hc0, hfz, hcv, hcp⟩ := obj_cells hr hg hp
               have hroomc : base + off + (len + k) * (sz + 1) ≤ cs := by
                have : (len + k) * (sz + 1) ≤ c * (sz + 1) := Nat.mul_le_mul_right _ hneed
                omega
               rw [Nat.add_mul] at hroomc
               have hnsz : newa.toList.length = k * (sz + 1) := by rw [Array.length_toList, hnrel.size, hnl]
               have hrun := run_storeCells (P := P) b (base + off + len * (sz + 1)) e0 fz newa.toList 0 c0 w hblk (by rw [hc0]; exact hfz.no) (by rw [hnsz, hc0]; omega) hnrel.all
               obtain ⟨k1, k2⟩ := kill_ok hr hg rfl hp
               have hgd : (h.set id .dead).get id = some .dead := by rw [H.get_set _ (hr.id_lt hp) (hr.id_lt hp), if_pos rfl]
               have hfree : ∀ j oo q, (h.set id .dead).get j = some oo → oo.alive = true → φ j = some q → q.1 ≠ b := by
                intro j oo q hgj hal2 hq e
                rw [H.get_set _ (hr.id_lt hp) (hr.id_lt hq)] at hgj
                split at hgj
                ·simp only [Option.some.injEq] at hgj; subst hgj; simp [AObj.alive] at hal2
                ·rename_i hne
                 exact hne (hr.injL hg hgj rfl hal2 hp hq e.symm rfl)
               have hnone : φ id' = none := by
                obtain ⟨rfl, _⟩ := H.new_spec hal
                cases e : φ (h.set id .dead).nx with
                | none => rfl
                | some p => exact absurd (k1.dom _ _ e).1 (by omega)
               have hor : OR (φ.set id' (b, base + off, cs)) (.cells (grown n dep d tr off (len * (sz + 1)) new).n (grown n dep d tr off (len * (sz + 1)) new).dep
                 (grown n dep d tr off (len * (sz + 1)) new).d (grown n dep d tr off (len * (sz + 1)) new).t) (b, base + off, cs)
                 (some (.cells (spl c0 (base + off + len * (sz + 1) + 0) newa.toList) e0 fz)) := by
                have hmono : ∀ {a : AV} {a' : Value}, VR φ a a' → VR (φ.set id' (b, base + off, cs)) a a' := fun h => h.mono (Phi.le_set _ hnone)
                refine ⟨gw.le, by rw [hvn, Nat.add_mul]; exact hroomc, _, e0, fz, rfl, by rw [spl_size]; exact hc0, hfz, fun j hj => ?_, fun j hj => ?_⟩
                ·rw [hvn] at hj
                 have hgj := hvg j hj
                 unfold Vec.get at hgj
                 rw [hgj]
                 show VR _ _ ((spl c0 (base + off + len * (sz + 1) + 0) newa.toList).getD (base + off + j) undef)
                 rw [Nat.add_mul] at hj
                 rw [spl_get _ _ _ _ (by rw [hnsz, hc0]; omega)]
                 by_cases hlt : j < len * (sz + 1)
                 ·rw [if_pos hlt, if_neg (by omega), getD_cellsFrom _ _ _ _ _ _ _ hlt]
                  have := hcv (off + j) (by omega)
                  rw [← Nat.add_assoc] at this
                  exact hmono this
                 ·rw [if_neg hlt, if_pos (by omega), getD_toList]
                  rw [show base + off + j - (base + off + len * (sz + 1) + 0) = j - len * (sz + 1) by omega]
                  exact hmono (hnrel.get _ (by omega))
                ·rw [hvn] at hj
                 show plainCell ((spl c0 (base + off + len * (sz + 1) + 0) newa.toList).getD (base + off + j) undef) = true
                 rw [Nat.add_mul] at hj
                 rw [spl_get _ _ _ _ (by rw [hnsz, hc0]; omega)]
                 by_cases hlt : j < len * (sz + 1)
                 ·rw [if_neg (by omega)]
                  have := hcp (off + j) (by omega)
                  rw [← Nat.add_assoc] at this
                  exact this
                 ·rw [if_pos (by omega), getD_toList]
                  rw [show base + off + j - (base + off + len * (sz + 1) + 0) = j - len * (sz + 1) by omega]
                  exact hnrel.plain _ (by omega)
               obtain ⟨a1, a2⟩ := alias_ok k1 hgd hp hfree hal hor (Like.cells hblk (spl_size _ _ _))
               refine ⟨_, .slice (some ⟨b, base + off, none⟩) (len + k) c, _, ?_, ?_, noteIf_ok a1 (fun hc => ?_), (k2.trans a2).noteIf _ _ _ (show h.nx ≤ id' from H.new_le (h := h.set id .dead) hal)⟩
               ·refine append_head ht0 hu hsz ht1 ty hlen _ (fun _ => ?_) (fun hn => by omega)
                simp only [Sem.run_bind, hnr, Result.andThen_ok, add_none, hrun, Sem.run_pure]
               ·exact .slice (Phi.set_same _ _ _) (.inl rfl) (Nat.le_refl _) hneed (fun h => by simp at h) hcs hz0
               ·simp only [Bool.and_eq_true] at hc
                obtain ⟨q2, c2, f2, q3, q4⟩ := hr.kind hc.1 hp
                obtain rfl := Nat.eq_of_beq_eq_true hc.2
                have q5 := hblk.symm.trans q3
                simp only [Option.some.injEq, Obj.cells.injEq] at q5
                obtain ⟨rfl, rfl, rfl⟩ := q5
                exact ⟨_, _, _, Phi.set_same _ _ _, q2, by rw [setBlk_block _ _ _ _ (hr.dom _ _ hp).2, if_pos rfl], by rw [spl_size]; exact hc0⟩
             ·
              have hcap : c < len + k := by omega
              cases ex with
              | true =>
               simp only [if_true] at ha
               cases hal : allocA h (grown n dep d tr off (len * (sz + 1)) new) with
               | none => rw [hal] at ha; simp at ha
               | some p =>
                obtain ⟨id', h2⟩ := p
                rw [hal] at ha
                simp only [Option.map_some, Option.some.injEq, Prod.mk.injEq] at ha
                obtain ⟨rfl, rfl⟩ := ha
                obtain ⟨olda, hor, horel⟩ := holdc hr.drew
                exact append_new (P := P) hr hsz (by omega) hi hz hzv hzn hcap hb.1 hb.2 hor horel (length_cellsFrom _ _ _ _ _) hnr2 hnrel2 hnl hlen hvn gw hvg hal ht0 hu ht1 ty _
              | false =>
               simp only [Bool.false_eq_true, if_false] at ha
               cases hal : allocA (h.set id .dead) (grown n dep d tr off (len * (sz + 1)) new) with
               | none => rw [hal] at ha; simp at ha
               | some p =>
                obtain ⟨id', h2⟩ := p
                rw [hal] at ha
                simp only [Option.map_some, Option.some.injEq, Prod.mk.injEq] at ha
                obtain ⟨rfl, rfl⟩ := ha
                obtain ⟨olda, hor, horel⟩ := holdc hr.drew
                obtain ⟨k1, k2⟩ := kill_ok hr hg rfl hp
                obtain ⟨φ', v', w', r1, r2, r3, r4⟩ := append_new (P := P) k1 hsz (by omega) hi hz hzv hzn hcap hb.1 hb.2 hor horel (length_cellsFrom _ _ _ _ _) hnr2 hnrel2 hnl hlen hvn gw hvg hal ht0 hu ht1 ty _
                exact ⟨φ', v', w', r1, r2, r3, k2.trans r4⟩
            ·simp at ha
           ·simp at ha
          ·simp at ha
       ·simp at ha
      ·simp at ha
     ·simp at ha
    ·simp at ha
  ·simp at ha
 ·simp at ha
end
end Go.Ab
end

section
namespace Go.Ab
variable [Val]
section
variable {P : Program} {G : Nat} {φ : Phi} {h : H} {w : World}
theorem LR.one_inv {a : AV} {x : Array Value} (hx : LR φ [a] x) : ∃ a', x = #[a'] ∧ VR φ a a' := by
 have hs := hx.size
 match x, hs with
 | ⟨[a']⟩, _ => exact ⟨a', rfl, by simpa using hx.get 0 (by simp)⟩
theorem LR.two_inv {a b : AV} {x : Array Value} (hx : LR φ [a, b] x) : ∃ a' b', x = #[a', b'] ∧ VR φ a a' ∧ VR φ b b' := by
 have hs := hx.size
 match x, hs with
 | ⟨[a', b']⟩, _ => exact ⟨a', b', rfl, by simpa using hx.get 0 (by simp), by simpa using hx.get 1 (by simp)⟩
omit [Val] in
theorem beq_byte (x : UInt8) {c : Nat} (hc : c < 256) : Nat.beq x.toNat c = (x == UInt8.ofNat c) := by
 rw [Bool.eq_iff_iff, beq_iff_eq]
 constructor
 ·intro h
  have := Nat.eq_of_beq_eq_true h
  rw [← this]
  simp
 ·rintro rfl
  have e : (UInt8.ofNat c).toNat = c := by rw [UInt8.toNat_ofNat']; omega
  rw [e]
  exact Nat.beq_refl _
omit [Val] in
theorem countB_eq {c : Nat} (hc : c < 256) : ∀ l : List UInt8, countB c (l.map UInt8.toNat) = Lib.countByte l (UInt8.ofNat c)
 | [] => rfl
 | x :: l => by
  have ih := countB_eq hc l
  unfold Lib.countByte at ih ⊢
  rw [List.map_cons, List.count_cons]
  unfold countB
  rw [beq_byte x hc, ih]
  cases e : x == UInt8.ofNat c <;> simp
omit [Val] in
theorem indexB_eq {c : Nat} (hc : c < 256) : ∀ (l : List UInt8) (i : Nat), placeOf (indexB c (l.map UInt8.toNat) i) =
  if Lib.indexByte l (UInt8.ofNat c) = -1 then -1 else Lib.indexByte l (UInt8.ofNat c) + i
 | [], i => by simp [indexB, Lib.indexByte, placeOf]
 | x :: l, i => by
  rw [List.map_cons]
  unfold indexB Lib.indexByte
  rw [beq_byte x hc]
  cases e : x == UInt8.ofNat c with
  | true => simp [placeOf]
  | false =>
   simp only [cond_false, Bool.false_eq_true, if_false]
   rw [indexB_eq hc l (i + 1)]
   have hge := Lib.indexByte_ge l (UInt8.ofNat c)
   by_cases hm : Lib.indexByte l (UInt8.ofNat c) = -1
   ·simp [hm]
   ·have hb : (Lib.indexByte l (UInt8.ofNat c) == -1) = false := by simpa using hm
    rw [if_neg hm, hb]
    simp only [Bool.false_eq_true, if_false]
    rw [if_neg (by omega)]
    simp only [Int.natCast_add, Int.natCast_one]
    omega
omit [Val] in
theorem none_of_lookup {fn : Func} {n : String} (hn : fn.name = n) (ho : fn.origin = "") (h1 : (Extern.allNextRows.lookup n).isNone = true) (h2 : (Extern.allNextRows.lookup "").isNone = true) :
  Extern.findNext fn = none := by
 unfold Extern.findNext
 dsimp only
 rw [hn, ho, Option.isNone_iff_eq_none.1 h1, Option.isNone_iff_eq_none.1 h2]
 rfl
omit [Val] in
theorem no_empty : (Extern.allNextRows.lookup "").isNone = true := by kernel_rfl
omit [Val] in
theorem next_count {fn : Func} (hn : fn.name = "internal/bytealg.CountString") (ho : fn.origin = "") : Extern.findNext fn = none := none_of_lookup hn ho (by kernel_rfl) no_empty
omit [Val] in
theorem next_index {fn : Func} (hn : fn.name = "internal/bytealg.IndexByteString") (ho : fn.origin = "") : Extern.findNext fn = none := none_of_lookup hn ho (by kernel_rfl) no_empty
omit [Val] in
theorem next_escape {fn : Func} (hn : fn.name = "internal/abi.NoEscape") (ho : fn.origin = "") : Extern.findNext fn = none := none_of_lookup hn ho (by kernel_rfl) no_empty
omit [Val] in
theorem next_make {fn : Func} (hn : fn.name = "internal/bytealg.MakeNoZero") (ho : fn.origin = "") : Extern.findNext fn = none := none_of_lookup hn ho (by kernel_rfl) no_empty
omit [Val] in
theorem find_count {fn : Func} (hn : fn.name = "internal/bytealg.CountString") : Extern.find fn = some Extern.BytealgCount.count := by unfold Extern.find; rw [hn]; rfl
omit [Val] in
theorem find_index {fn : Func} (hn : fn.name = "internal/bytealg.IndexByteString") : Extern.find fn = some Extern.BytealgIndexByte.indexByte := by unfold Extern.find; rw [hn]; rfl
omit [Val] in
theorem find_escape {fn : Func} (hn : fn.name = "internal/abi.NoEscape") : Extern.find fn = some Extern.AbiNoEscape.same := by unfold Extern.find; rw [hn]; rfl
omit [Val] in
theorem find_make {fn : Func} (hn : fn.name = "internal/bytealg.MakeNoZero") : Extern.find fn = some (Extern.BytealgMakeNoZero.makeNoZero fn.params fn.resultTypes) := by unfold Extern.find; rw [hn]; rfl
omit [Val] in
theorem digits_plain : ∀ (n t : Nat) (acc : Array Value), (∀ i, i < acc.size → plainCell (acc.getD i undef) = true) →
  ∀ i, i < acc.size + n → plainCell ((Extern.BytealgMakeNoZero.digits n t acc).getD i undef) = true
 | 0, _, _, h, i, hi => h i hi
 | n + 1, t, acc, h, i, hi => by
  rw [Extern.BytealgMakeNoZero.digits]
  refine digits_plain n _ _ (fun j hj => ?_) i (by simp; omega)
  rw [Array.getD_eq_getD_getElem?, Array.getElem?_push]
  split
  ·rfl
  ·rename_i hne
   have := h j (by simp at hj; omega)
   rwa [Array.getD_eq_getD_getElem?] at this
theorem makeNoZero_ok (hr : HR G φ h w) (ps : Array TypeId) {t e : TypeId} (ht : P.underlying t = some (.slice e)) {n : Nat} (h1 : n < 1000000) {id : Nat} {h' : H}
  (hn : h.new (.cells n (depFor n) .junk .e) = some (id, h')) :
  ∃ φ' v' w', (Extern.BytealgMakeNoZero.makeNoZero ps #[t] #[.int .i64 n]).run P w = .ok v' w' ∧ VR φ' (.slice id 0 n n false 1) v' ∧ HR G φ' (h'.note id e) w' ∧ Post φ h w φ' (h'.note id e) w' := by
 have hdef : Extern.BytealgMakeNoZero.makeNoZero ps #[t] #[.int .i64 n] =
   (do
    let .slice elem ← underlying t | stuck "bytealg.MakeNoZero: slice type expected"
    if (n : Int) < 0 || (n : Int) > 2 ^ 48 then runtimePanic (.error "makeslice: len out of range")
    let cap ← choose (.appendCap (n : Int).toNat 0 elem)
    askRoom cap
    let bytes ← choose (.extern "internal/bytealg.MakeNoZero.bytes" 0)
    let a ← newRow elem (Extern.BytealgMakeNoZero.digits cap bytes #[])
    pure (.slice (some a) (n : Int).toNat cap)) := rfl
 generalize hcp : (Question.appendCap n 0 e).cut (w.tape w.drawn (.appendCap n 0 e)) = cap
 generalize hbt : (Question.extern "internal/bytealg.MakeNoZero.bytes" 0).cut (w.tape (w.drawn + 1) (.extern "internal/bytealg.MakeNoZero.bytes" 0)) = bts
 have hcapge : n ≤ cap := by
  rw [← hcp]
  show n ≤ n + _
  omega
 have hsz : (Extern.BytealgMakeNoZero.digits cap bts #[]).size = cap := by rw [Lib.size_digits]; simp
 have hall := alloc_ok hr.drew.drew hn (ob := .cells (Extern.BytealgMakeNoZero.digits cap bts #[]) e) (cs := cap)
  ⟨le_depFor n, by show 0 + n ≤ cap; omega, _, e, (0, 0), rfl, hsz, Thaw.none _, fun i hi => by rw [show cget (depFor n) .junk .e i = AV.junk by unfold cget; rw [Tr.get_e]; rfl]; exact .junk _,
   fun i hi => digits_plain cap bts #[] (fun j hj => absurd hj (by simp)) _ (by show 0 + i < 0 + cap; omega)⟩
 obtain ⟨a, b⟩ := hall
 refine ⟨_, .slice (some ⟨w.heap.size, 0, none⟩) n cap, _, ?_, .slice (Phi.set_same _ _ _) (.inl rfl) (Nat.le_refl _) hcapge (fun h => by simp at h) (by show 0 + cap * 1 ≤ cap; omega) (by decide),
  note_ok a (Phi.set_same _ _ _) rfl (by rw [alloc_block, if_pos rfl]) hsz, (((Post.drew φ h w).trans (Post.drew φ h w.drew)).trans b).note id e (H.new_le hn)⟩
 rw [hdef]
 have n1 : ¬ (n : Int) < 0 := by omega
 have n2 : ¬ (281474976710656 : Int) < (n : Int) := by omega
 have hw : ({ heap := w.heap, tape := w.tape, drawn := w.drawn + 1, os := w.os, output := w.output } : World) = w.drew := rfl
 simp [run_und ht, n1, n2, Question.forced, newRow, hcp, hbt]
theorem externA_ok (hr : HR G φ h w) {f : FuncId} {fn : Func} (hf : P.funcs[f]? = some fn) (hname : ¬ (fn.name == "runtime.NumGoroutine") = true) (hb : fn.body = none) {args : List AV} {args' : Array Value}
  (ha : LR φ args args') {v : AV} {h' : H} (he : externA P fn args h = some (v, h')) :
  ∃ φ' v' w', (callFunc f args').run P w = .ok (.value v') w' ∧ VR φ' v v' ∧ HR G φ' h' w' ∧ Post φ h w φ' h' w' := by
 have hname' : (fn.name == "runtime.NumGoroutine") = false := by simpa using hname
 have hbn : fn.body.isNone = true := by rw [hb]; rfl
 unfold externA at he
 split at he
 ·rename_i ho
  have ho : fn.origin = "" := by simpa using ho
  split at he
  ·rename_i s c
   obtain ⟨a', b', rfl, h1, h2⟩ := ha.two_inv
   obtain ⟨s, rfl, rfl⟩ := h1.str_inv
   obtain rfl := h2.int_inv
   split at he
   ·rename_i hc
    have hcb : (Int.ofNat c).toNat.toUInt8 = UInt8.ofNat c := rfl
    split at he
    ·rename_i hnm
     have hnm : fn.name = "internal/bytealg.CountString" := by simpa using hnm
     simp only [Option.some.injEq, Prod.mk.injEq] at he
     obtain ⟨rfl, rfl⟩ := he
     refine ⟨φ, _, w, ?_, .int _ _, hr, Post.refl _ _ _⟩
     rw [run_callFunc_extern hf hname' hbn (next_count hnm ho) (find_count hnm), Lib.run_countString, Result.andThen_ok, hcb, ← countB_eq hc.1]
     rfl
    ·split at he
     ·rename_i hnm
      have hnm : fn.name = "internal/bytealg.IndexByteString" := by simpa using hnm
      simp only [Option.some.injEq, Prod.mk.injEq] at he
      obtain ⟨rfl, rfl⟩ := he
      refine ⟨φ, .int .i64 (Lib.indexByte s.data.toList (UInt8.ofNat c)), w, ?_, ?_, hr, Post.refl _ _ _⟩
      ·rw [run_callFunc_extern hf hname' hbn (next_index hnm ho) (find_index hnm), Lib.run_indexByteString, Result.andThen_ok, hcb]
      ·have := indexB_eq hc.1 s.data.toList 0
       rw [this]
       split
       ·rename_i e; rw [e]; exact .int _ _
       ·simp only [Int.natCast_zero, Int.add_zero]; exact .int _ _
     ·simp at he
   ·simp at he
  ·rename_i id off
   obtain ⟨a', rfl, h1⟩ := ha.one_inv
   split at he
   ·rename_i hnm
    have hnm : fn.name = "internal/abi.NoEscape" := by simpa using hnm
    simp only [Option.some.injEq, Prod.mk.injEq] at he
    obtain ⟨rfl, rfl⟩ := he
    refine ⟨φ, a', w, ?_, h1, hr, Post.refl _ _ _⟩
    rw [run_callFunc_extern hf hname' hbn (next_escape hnm ho) (find_escape hnm), Lib.run_noEscape, Result.andThen_ok]
   ·simp at he
  ·rename_i n
   obtain ⟨a', rfl, h1⟩ := ha.one_inv
   obtain rfl := h1.int_inv
   split at he
   ·rename_i hc
    have hnm : fn.name = "internal/bytealg.MakeNoZero" := by simpa using hc.1
    split at he
    ·rename_i t hrt
     split at he
     ·rename_i e hu
      cases hn : h.new (.cells n (depFor n) .junk .e) with
      | none => rw [hn] at he; simp at he
      | some p =>
       obtain ⟨id, h2⟩ := p
       rw [hn] at he
       simp only [Option.map_some, Option.some.injEq, Prod.mk.injEq] at he
       obtain ⟨rfl, rfl⟩ := he
       obtain ⟨φ', v', w', k1, k2, k3, k4⟩ := makeNoZero_ok (P := P) hr fn.params hu hc.2.2 hn
       refine ⟨φ', v', w', ?_, k2, k3, k4⟩
       have hra : fn.resultTypes = #[t] := by
        have := congrArg List.toArray hrt
        simpa using this
       rw [run_callFunc_extern hf hname' hbn (next_make hnm ho) (find_make hnm), hra]
       exact (congrArg (fun z : Result Value => z.andThen fun v w' => (Result.ok (Next.value v) w' : Result Next)) k1)
     ·simp at he
    ·simp at he
   ·simp at he
  ·simp at he
 ·simp at he
omit [Val] in
theorem liesAt_self {e : TypeId} {sz : Nat} (hc : P.cellsOf e = sz + 1) (count : Nat) (hn : 1 ≤ count) : liesAt P P.depth e count 0 e 1 = true := by
 have hd : P.depth = (2 * (P.types.size + Made.depth) + 1) + 1 := rfl
 rw [hd]
 simp only [liesAt, Bool.or_eq_true]
 left
 rw [hd]
 simp [rowAt, hc, hn, sameLayout]
omit [Val] in
theorem liesAt_from {e : TypeId} (hc : P.cellsOf e = 1) (count off n : Nat) (hn : off + n ≤ count) : liesAt P P.depth e count off e n = true := by
 have hd : P.depth = (2 * (P.types.size + Made.depth) + 1) + 1 := rfl
 rw [hd]
 simp only [liesAt, Bool.or_eq_true]
 left
 rw [hd]
 simp [rowAt, hc, hn, sameLayout, Nat.mod_one]
omit [Val] in
theorem cellsOf_size {t : TypeId} {n : Nat} (hs : size? P t = some n) : P.cellsOf t = n := by
 unfold Program.cellsOf
 unfold size? at hs
 rw [hs]; rfl
end
end Go.Ab
end

section
namespace Go.Ab
variable [Val]
section
variable {P : Program} {G : Nat} {φ : Phi} {h : H} {w : World}
theorem copyA_ok (hr : HR G φ h w) {t : TypeId} {d s v : AV} {h' : H} (ha : copyA P t d s h = some (v, h')) {d' s' : Value} (hd : VR φ d d') (hs : VR φ s s')
  {ts : Array TypeId} (ht0 : ts[0]? = some t) (ty : TypeId) :
  ∃ v' w', (Builtin.copy_ ts ty #[d', s']).run P w = .ok v' w' ∧ VR φ v v' ∧ HR G φ h' w' ∧ Post φ h w φ h' w' := by
 unfold copyA at ha
 split at ha
 ·rename_i e sl hu hsl
  have hlen := lenA_ok (P := P) (w := w) hsl hs
  split at ha
  ·rename_i sz id off dl cap ex esz hsz
   have hsz : size? P e = some (sz + 1) := hsz
   obtain ⟨b, base, cs, o, c, hp, ho, hl, hc, he, hcs, hz0, rfl⟩ := hd.slice_inv
   dsimp only at ha
   split at ha
   ·rename_i cells hcells
    have hnle : Nat.min sl dl ≤ (lenA s).getD 0 := by rw [hsl]; exact Nat.min_le_left _ _
    obtain ⟨a, hra, hrel, hll⟩ := srcCells_ok (P := P) hr hcells hs hnle
    split at ha
    ·rename_i hn0
     simp only [Option.some.injEq, Prod.mk.injEq] at ha
     obtain ⟨rfl, rfl⟩ := ha
     rw [hn0] at hra hll
     have ha0 : a.toList = [] := by
      have := hrel.size
      rw [hll, Nat.zero_mul] at this
      exact List.eq_nil_of_length_eq_zero (by simpa using this)
     refine ⟨.int .i64 0, w, ?_, .int _ _, hr, Post.refl _ _ _⟩
     simp only [Builtin.copy_, ht0, List.getElem?_toArray, List.getElem?_cons_zero, List.getElem?_cons_succ, Sem.run_bind, run_und hu, Result.andThen_ok, hlen, run_size hsz, hn0, hra, ha0, storeCells, Sem.run_pure, goInt]
     rfl
    ·rename_i hn0
     split at ha
     ·rename_i hesz
      subst hesz
      cases hst : storeA h id off (vecOf cells) with
      | none => rw [hst] at ha; simp at ha
      | some h2 =>
       rw [hst] at ha
       simp only [Option.map_some, Option.some.injEq, Prod.mk.injEq] at ha
       obtain ⟨rfl, rfl⟩ := ha
       have hmin : Nat.min sl dl ≤ dl := Nat.min_le_right _ _
       have ho' : o = base + off := by rcases ho with h | h <;> omega
       have hv := hrel.vec
       obtain ⟨w', hrun, hr', hpost⟩ := store_ok (P := P) hr hp hst hv.wf (vals := a.toList) (by simpa using hv.size) (fun j hj => by rw [getD_toList]; exact hv.get j hj) hrel.all
       refine ⟨.int .i64 (Nat.min sl dl : Nat), w', ?_, .int _ _, hr', hpost⟩
       simp only [Builtin.copy_, ht0, List.getElem?_toArray, List.getElem?_cons_zero, List.getElem?_cons_succ, Sem.run_bind, run_und hu, Result.andThen_ok, hlen, run_size hsz, hra, Sem.run_pure, goInt]
       rw [ho', hrun]
       rfl
     ·simp at ha
   ·simp at ha
  ·rename_i sz hsz
   have hsz : size? P e = some (sz + 1) := hsz
   obtain rfl := hd.nils_inv
   cases hcells : srcCells h (sz + 1) 0 s with
   | none => rw [hcells] at ha; simp at ha
   | some cells =>
    rw [hcells] at ha
    simp only [Option.map_some, Option.some.injEq, Prod.mk.injEq] at ha
    obtain ⟨rfl, rfl⟩ := ha
    obtain ⟨a, hra, hrel, hll⟩ := srcCells_ok (P := P) hr hcells hs (Nat.zero_le _)
    refine ⟨.int .i64 0, w, ?_, .int _ _, hr, Post.refl _ _ _⟩
    have hm : Nat.min sl 0 = 0 := Nat.min_zero _
    simp only [Builtin.copy_, ht0, List.getElem?_toArray, List.getElem?_cons_zero, List.getElem?_cons_succ, Sem.run_bind, run_und hu, Result.andThen_ok, hlen, run_size hsz, hm, hra, Sem.run_pure, goInt]
    rfl
  ·simp at ha
 ·simp at ha
theorem clearA_ok (hr : HR G φ h w) {t : TypeId} {x : AV} {h' : H} (ha : clearA P t x h = some h') {x' : Value} (hx : VR φ x x')
  {ts : Array TypeId} (ht0 : ts[0]? = some t) (ty : TypeId) :
  ∃ w', (Builtin.clear_ ts ty #[x']).run P w = .ok (.tuple #[]) w' ∧ HR G φ h' w' ∧ Post φ h w φ h' w' := by
 unfold clearA at ha
 split at ha
 ·rename_i e hu
  obtain rfl := hx.nils_inv
  simp only [Option.some.injEq] at ha
  subst ha
  refine ⟨w, ?_, hr, Post.refl _ _ _⟩
  simp only [Builtin.clear_, ht0, List.getElem?_toArray, List.getElem?_cons_zero, Sem.run_bind, run_und hu, Result.andThen_ok, Sem.run_pure]
 ·rename_i e id off len cap ex esz hu
  obtain ⟨b, base, cs, o, c, hp, ho, hl, hc, he, hcs, hz0, rfl⟩ := hx.slice_inv
  split at ha
  ·rename_i hl0
   subst hl0
   simp only [Option.some.injEq] at ha
   subst ha
   refine ⟨w, ?_, hr, Post.refl _ _ _⟩
   simp only [Builtin.clear_, ht0, List.getElem?_toArray, List.getElem?_cons_zero, Sem.run_bind, run_und hu, Result.andThen_ok, Sem.run_pure]
  ·rename_i hl0
   split at ha
   ·rename_i sz z hsz hz
    split at ha
    ·rename_i zv hzv
     split at ha
     ·rename_i hcnd
      obtain ⟨rfl, hzn⟩ := hcnd
      obtain ⟨z', hzr, hzrel⟩ := run_zero hz w φ
      have hzvr := VecR.of_vec hzrel hzv
      have hvec := zeroVec_rel (n := len) hzvr (by omega)
      have hn := (zeroVec_spec len zv (by omega)).1
      have ho' : o = base + off := by rcases ho with h | h <;> omega
      obtain ⟨w', hrun, hr', hpost⟩ := store_ok (P := P) hr hp ha hvec.wf (vals := ((Array.range (len * zv.n)).map (z'.cells[· % z'.cells.size]!)).toList)
       (by simpa using hvec.size) (fun j hj => by rw [getD_toList]; exact hvec.get j hj) hvec.plainAll
      refine ⟨w', ?_, hr', hpost⟩
      have hzc : Builtin.zeroCells z'.cells len = (Array.range (len * zv.n)).map (z'.cells[· % z'.cells.size]!) := by
       unfold Builtin.zeroCells
       rw [hzvr.size]
      cases len with
      | zero => exact absurd rfl hl0
      | succ len =>
       simp only [Builtin.clear_, ht0, List.getElem?_toArray, List.getElem?_cons_zero, Sem.run_bind, run_und hu, Result.andThen_ok, hzr, hzc, ho', hrun, Sem.run_pure]
     ·simp at ha
    ·simp at ha
   ·simp at ha
 ·rename_i k e hu
  obtain rfl := hx.nilm_inv
  simp only [Option.some.injEq] at ha
  subst ha
  refine ⟨w, ?_, hr, Post.refl _ _ _⟩
  simp only [Builtin.clear_, ht0, List.getElem?_toArray, List.getElem?_cons_zero, Sem.run_bind, run_und hu, Result.andThen_ok, Sem.run_pure]
 ·rename_i k e id hu
  obtain ⟨p, hp, rfl⟩ := hx.map_inv
  split at ha
  ·rename_i es clock hg
   simp only [Option.some.injEq] at ha
   subst ha
   obtain ⟨ms, hb, hes⟩ := obj_map hr hg hp
   refine ⟨_, ?_, set_ok hr hg rfl hp (map_or .nil clock p) (Like.not hb fun _ _ _ h => by cases h)⟩
   simp only [Builtin.clear_, ht0, List.getElem?_toArray, List.getElem?_cons_zero, Sem.run_bind, run_und hu, Result.andThen_ok, run_getObj hb (by simp), run_setObj hb (by simp), Sem.run_pure]
  ·simp at ha
 ·simp at ha
theorem bytesOf_ok : ∀ (l : List AV) (s : List Nat), bytesOf l = some s → ∀ (a : List Value), a.length = l.length → (∀ i, i < l.length → VR φ (l.getD i .junk) (a.getD i undef)) →
  ∀ (acc : ByteArray) (w : World), ∃ r : ByteArray, ((forIn a acc fun c (acc : ByteArray) => (do
    match c with
    | .int .u8 n => pure (ForInStep.yield (acc.push (UInt8.ofNat n.toNat)))
    | _ => stuck "bytesToString: byte expected" : Sem (ForInStep ByteArray))).run P w) = .ok r w ∧ r.data.toList.map UInt8.toNat = acc.data.toList.map UInt8.toNat ++ s := by
 intro l
 induction l with
 | nil =>
  intro s hs a hl _ acc w
  obtain rfl : a = [] := by simpa using hl
  simp only [bytesOf, Option.some.injEq] at hs
  subst hs
  exact ⟨acc, by simp, by simp⟩
 | cons x l ih =>
  intro s hs a hl he acc w
  cases a with
  | nil => simp at hl
  | cons x' a =>
   have hx : VR φ x x' := by simpa using he 0 (by simp)
   unfold bytesOf at hs
   split at hs
   ·simp_all
   ·rename_i n r heq
    simp only [List.cons.injEq] at heq
    obtain ⟨rfl, rfl⟩ := heq
    obtain rfl := hx.int_inv
    split at hs
    ·rename_i hn
     cases hb : bytesOf l with
     | none => rw [hb] at hs; simp at hs
     | some s2 =>
      rw [hb] at hs
      simp only [Option.map_some, Option.some.injEq] at hs
      subst hs
      obtain ⟨r, h1, h2⟩ := ih s2 hb a (by simpa using hl) (fun i hi => by simpa using he (i + 1) (by simp; omega)) (acc.push (UInt8.ofNat n.toNat)) w
      refine ⟨r, ?_, ?_⟩
      ·rw [List.forIn_cons]
       simp only [Sem.run_bind, Sem.run_pure, Result.andThen_ok]
       exact h1
      ·rw [h2]
       have e : (UInt8.ofNat n.toNat).toNat = n.toNat := by
        rw [UInt8.toNat_ofNat']
        omega
       simp [ByteArray.push, e]
    ·simp at hs
   ·simp at hs
omit [Val] in
theorem alloc_freeze (w : World) (c : Array Value) (e : TypeId) (n : Nat) :
  (w.alloc (.cells c e)).freeze { block := w.heap.size, off := n } 1 = w.alloc (.cells c e (n, n + 1)) := by
 unfold World.freeze
 rw [if_neg (by decide)]
 simp only [World.alloc]
 congr 1
 apply Array.ext_getElem?
 intro i
 rw [Array.getElem?_modify, Array.getElem?_push, Array.getElem?_push]
 by_cases hi : w.heap.size = i
 ·subst hi
  simp
 ·rw [if_neg hi, if_neg (fun e => hi e.symm), if_neg (fun e => hi e.symm)]
omit [Val] in
theorem strBytes_eq (l : List Nat) : strBytes l = (l.take l.length).map fun b => .int .u8 (b : Nat) := by
 rw [List.take_length]; rfl
theorem convertA_ok (hr : HR G φ h w) {src dst : TypeId} {x v : AV} {h' : H} (ha : convertA P src dst x h = some (v, h')) {x' : Value} (hx : VR φ x x') :
  ∃ φ' v' w', (convert src dst x').run P w = .ok v' w' ∧ VR φ' v v' ∧ HR G φ' h' w' ∧ Post φ h w φ' h' w' := by
 unfold convertA at ha
 split at ha
 ·rename_i ds k k' n hus hud
  obtain rfl := hx.int_inv
  simp only [Option.some.injEq, Prod.mk.injEq] at ha
  obtain ⟨rfl, rfl⟩ := ha
  refine ⟨φ, .int k (k.wrap n), w, ?_, .int _ _, hr, Post.refl _ _ _⟩
  simp only [convert, Sem.run_bind, run_und hus, run_und hud, Result.andThen_ok, Conv.intToInt, Sem.run_pure]
 ·rename_i ds k k' l hh e hus hud
  obtain ⟨n, rfl, e1, e3, e4⟩ := hx.sym_inv
  simp only [Option.some.injEq, Prod.mk.injEq] at ha
  obtain ⟨hv, rfl⟩ := ha
  have key : VR φ v (.int k (k.wrap n)) := by
   rw [← hv]
   cases hf : fits k l hh with
   | true =>
    simp only [cond_true]
    rw [(wrap_fits hf e3 e4).1]
    exact mkS_vr e1 e3 e4
   | false =>
    simp only [cond_false]
    cases hd : (decide (0 ≤ l) && !k.signed) with
    | false => exact .any _ _
    | true =>
     simp only [Bool.and_eq_true, decide_eq_true_eq, Bool.not_eq_true'] at hd
     simp only [cond_true]
     rw [wrap_unsigned hd.2]
     exact symRem_vr (Nat.two_pow_pos _) hd.1 e1 e3 e4
  refine ⟨φ, .int k (k.wrap n), w, ?_, key, hr, Post.refl _ _ _⟩
  simp only [convert, Sem.run_bind, run_und hus, run_und hud, Result.andThen_ok, Conv.intToInt, Sem.run_pure]
 ·rename_i ds k k' hus hud
  obtain ⟨n, rfl⟩ := hx.any_inv
  simp only [Option.some.injEq, Prod.mk.injEq] at ha
  obtain ⟨rfl, rfl⟩ := ha
  refine ⟨φ, .int k (k.wrap n), w, ?_, .any _ _, hr, Post.refl _ _ _⟩
  simp only [convert, Sem.run_bind, run_und hus, run_und hud, Result.andThen_ok, Conv.intToInt, Sem.run_pure]
 ·rename_i ds s hus hud
  obtain ⟨s, rfl, rfl⟩ := hx.str_inv
  simp only [Option.some.injEq, Prod.mk.injEq] at ha
  obtain ⟨rfl, rfl⟩ := ha
  refine ⟨φ, .string s, w, ?_, hx, hr, Post.refl _ _ _⟩
  simp only [convert, Sem.run_bind, run_und hus, run_und hud, Result.andThen_ok, Sem.run_pure]
 ·rename_i ds e s hus hud
  obtain ⟨s, rfl, rfl⟩ := hx.str_inv
  split at ha
  ·rename_i hue
   cases hal : allocA h (vecOf (strBytes (s.data.toList.map UInt8.toNat))) with
   | none => rw [hal] at ha; simp at ha
   | some p =>
    obtain ⟨id, h2⟩ := p
    rw [hal] at ha
    simp only [Option.map_some, Option.some.injEq, Prod.mk.injEq] at ha
    obtain ⟨rfl, rfl⟩ := ha
    have hlen : (s.data.toList.map UInt8.toNat).length = s.size := by rw [List.length_map, Array.length_toList]; rfl
    generalize hcp : (Question.appendCap s.size 0 e).cut (w.tape w.drawn (.appendCap s.size 0 e)) = cap
    have hcapge : s.size ≤ cap := by
     rw [← hcp]
     show s.size ≤ s.size + _
     omega
    have hb := bytes_cells (φ := φ) s s.size (Nat.le_refl _)
    rw [← hlen, ← strBytes_eq, hlen] at hb
    have hex : s.extract 0 s.size = s := by
     have : (s.extract 0 s.size).data.toList = s.data.toList := by
      rw [Lib.extract_data]
      simp only [List.drop_zero, Nat.sub_zero]
      exact List.take_of_length_le (by rw [Array.length_toList]; exact Nat.le_refl _)
     cases s with
     | mk d => exact congrArg ByteArray.mk (Array.toList_inj.1 this)
    rw [hex] at hb
    generalize hE : (s.data.map fun b => Value.int .u8 b.toNat) = E at hb
    generalize hL : strBytes (s.data.toList.map UInt8.toNat) = L at hb hal
    have hLl : L.length = s.size := by rw [← hL]; simp only [strBytes, List.length_map, Array.length_toList]; rfl
    have hEs : E.size = s.size := by rw [hb.size, hLl]
    have hcs : (E ++ Array.replicate (cap - s.size) (Value.int .u8 0)).size = cap := by
     rw [Array.size_append, Array.size_replicate, hEs]; omega
    have hnone : φ id = none := by
     obtain ⟨rfl, _⟩ := H.new_spec hal
     cases e : φ h.nx with
     | none => rfl
     | some p => exact absurd (hr.dom _ _ e).1 (by omega)
    have hgetc : ∀ i, i < s.size → (E ++ Array.replicate (cap - s.size) (Value.int .u8 0)).getD i undef = E.getD i undef := by
     intro i hi
     rw [Array.getD_eq_getD_getElem?, Array.getD_eq_getD_getElem?, Array.getElem?_append_left (by omega)]
    have hall := alloc_ok hr.drew hal (ob := .cells (E ++ Array.replicate (cap - s.size) (Value.int .u8 0)) e (cap, cap + 1)) (cs := cap)
     ⟨(vecOf_wf L).le, by rw [vecOf_n, hLl]; show 0 + s.size ≤ cap; omega, _, e, (cap, cap + 1), rfl, hcs, ⟨.inr (Nat.le_refl _), by simp⟩, (fun i hi => by
      rw [vecOf_n] at hi
      have hg := vecOf_get L i hi
      unfold Vec.get at hg
      rw [hg]
      show VR _ _ ((E ++ Array.replicate (cap - s.size) (Value.int .u8 0)).getD (0 + i) undef)
      rw [Nat.zero_add, hgetc i (by omega)]
      exact (hb.get i hi).mono (Phi.le_set _ hnone)), (fun i hi => by
      rw [vecOf_n] at hi
      show plainCell ((E ++ Array.replicate (cap - s.size) (Value.int .u8 0)).getD (0 + i) undef) = true
      rw [Nat.zero_add, hgetc i (by omega)]
      exact hb.plain i hi)⟩
    obtain ⟨a, b⟩ := hall
    refine ⟨_, .slice (some ⟨w.heap.size, 0, none⟩) s.size cap, _, ?_, ?_, a, (Post.drew φ h w).trans b⟩
    ·have hf : (Question.appendCap s.size 0 e).forced = false := rfl
     have hshape : ∀ (c : Array Value), (w.drew.alloc (.cells c e)).shape? w.drew.heap.size = some (e, c.size) := by
      intro c
      unfold World.shape?
      rw [alloc_block, if_pos rfl]
     have hds : w.drew.heap.size = w.heap.size := rfl
     simp only [convert, Sem.run_bind, run_und hus, run_und hud, run_und hue, Result.andThen_ok, Conv.stringToBytes, run_choose, hf, Bool.false_eq_true, if_false, World.drew_eq, hcp, hE, newRow, run_newObj', Sem.run_pure,
      markStringish, run_shape, hshape, hcs, run_freeze, alloc_freeze]
     rfl
    ·rw [hlen]
     refine .slice (Phi.set_same _ _ _) (.inl (by simp)) (Nat.le_refl _) hcapge (fun h => by simp at h) ?_ (by decide)
     omega
  ·simp at ha
 ·rename_i e1 e id off len cp ex esz hus hud
  split at ha
  ·rename_i hsd
   split at ha
   ·rename_i n dep d t hue hg
    simp only [Option.some.injEq, Prod.mk.injEq] at ha
    obtain ⟨rfl, rfl⟩ := ha
    subst hsd
    obtain rfl : e1 = e := by
     have := hus.symm.trans hud
     simpa using this
    cases hx with
    | @slice _ _ _ _ _ b base cs o c _ hp ho hl hc he hcs hz =>
     obtain ⟨hn, hle, cc, ee, fz, hb, hcc, hfz, hv, hpl⟩ := obj_cells hr hg hp
     have hob : OR φ (.cells n dep d t) (b, base, cs) (some (.cells cc ee (if fz.1 == fz.2 then (cs, cs + 1) else (min fz.1 cs, max fz.2 (cs + 1))))) := by
      refine ⟨hn, hle, cc, ee, _, rfl, hcc, ?_, hv, hpl⟩
      obtain ⟨h1, h2⟩ := hfz
      by_cases e : fz.1 = fz.2
      ·rw [if_pos (by simpa using e)]; exact ⟨.inr (Nat.le_refl _), by simp⟩
      ·rw [if_neg (by simpa using e)]
       have h1' := h1.resolve_left e
       exact ⟨.inr (by show cs ≤ min fz.1 cs; omega), by show min fz.1 cs ≤ max fz.2 (cs + 1); omega⟩
     obtain ⟨a, b'⟩ := blk_ok hr hg rfl hp hob (Like.cells hb rfl)
     refine ⟨φ, .slice (some ⟨b, o, none⟩) len c, _, ?_, .slice hp ho hl hc he hcs hz, a, b'⟩
     have hsh : w.shape? b = some (ee, cs) := by unfold World.shape?; rw [hb]; simp [hcc]
     have hfreeze : w.freeze { block := b, off := cs } 1 = setBlk w b (.cells cc ee (if fz.1 == fz.2 then (cs, cs + 1) else (min fz.1 cs, max fz.2 (cs + 1)))) := by
      unfold World.freeze setBlk
      rw [if_neg (by decide)]
      congr 1
      apply Array.ext_getElem?
      intro i
      rw [Array.getElem?_modify, Array.getElem?_setIfInBounds]
      have hblt : b < w.heap.size := (hr.dom _ _ hp).2
      by_cases hi : b = i
      ·subst hi
       rw [hb]
       simp [hblt]
      ·simp [hi]
     simp only [convert, Sem.run_bind, run_und hus, run_und hue, Result.andThen_ok, beq_self_eq_true, markStringish, run_shape, hsh, run_freeze, hfreeze, Sem.run_pure]
   ·simp at ha
  ·simp at ha
 ·rename_i e hus hud
  obtain rfl := hx.nils_inv
  split at ha
  ·rename_i hue
   simp only [Option.some.injEq, Prod.mk.injEq] at ha
   obtain ⟨rfl, rfl⟩ := ha
   refine ⟨φ, .string .empty, w, ?_, VR.str (φ := φ) .empty, hr, Post.refl _ _ _⟩
   simp only [convert, Sem.run_bind, run_und hus, run_und hud, run_und hue, Result.andThen_ok, Conv.bytesToString, Sem.run_pure]
  ·simp at ha
 ·rename_i e id off len cap ex esz hus hud
  obtain ⟨b, base, cs, o, c, hp, ho, hl, hc, he, hcs, hz0, rfl⟩ := hx.slice_inv
  split at ha
  ·rename_i n dep d t hue hg
   split at ha
   ·rename_i hcnd
    obtain ⟨rfl, hle⟩ := hcnd
    cases hb : bytesOf (cellsFrom dep d t off len) with
    | none => rw [hb] at ha; simp at ha
    | some s =>
     rw [hb] at ha
     simp only [Option.map_some, Option.some.injEq, Prod.mk.injEq] at ha
     obtain ⟨rfl, rfl⟩ := ha
     obtain ⟨a, hra, hrel⟩ : ∃ a, (loadCells ⟨b, o, none⟩ len).run P w = .ok a w ∧ CellsR φ (cellsFrom dep d t off len) a := by
      rcases ho with rfl | ho
      ·exact cells_ok (P := P) hr hg hp hle
      ·have hl0 : len = 0 := by omega
       subst hl0
       exact ⟨#[], by simp [loadCells, loadCellsFrom], ⟨rfl, fun i hi => absurd hi (by simp [cellsFrom]), fun i hi => absurd hi (by simp [cellsFrom])⟩⟩
     obtain ⟨r, hrr, hrb⟩ := bytesOf_ok (P := P) (φ := φ) _ _ hb a.toList (by simpa using hrel.size) (fun i hi => by rw [getD_toList]; exact hrel.get i hi) ByteArray.empty w
     have hrb' : r.data.toList.map UInt8.toNat = s := by rw [hrb]; rfl
     refine ⟨φ, .string r, w, ?_, ?_, hr, Post.refl _ _ _⟩
     ·simp only [convert, Sem.run_bind, run_und hus, run_und hud, run_und hue, Result.andThen_ok, Conv.bytesToString, hra]
      rw [← Array.forIn_toList]
      exact (congrArg (fun z : Result ByteArray => z.andThen fun s w' => (pure (Value.string s) : Sem Value).run P w') hrr)
     ·rw [← hrb']; exact .str r
   ·simp at ha
  ·simp at ha
 ·rename_i t id off hus hud
  obtain ⟨b, base, cs, hp, rfl⟩ := hx.ptr_inv
  split at ha
  ·rename_i n dep d tr sz hg hsz
   split at ha
   ·rename_i hlt
    simp only [Option.some.injEq, Prod.mk.injEq] at ha
    obtain ⟨rfl, rfl⟩ := ha
    obtain ⟨hn, hle, c, e, fz, hb, hcs, _⟩ := obj_cells hr hg hp
    obtain ⟨info, hi, his⟩ := size_some hsz
    have hsh : w.shape? b = some (e, cs) := by unfold World.shape?; rw [hb]; simp [hcs]
    exact ⟨φ, _, w, Lib.run_to_unsafe w ⟨b, base + off, none⟩ hus hud hi (by omega) hsh (by show base + off < cs; omega), hx, hr, Post.refl _ _ _⟩
   ·simp at ha
  ·simp at ha
 ·rename_i u id hus hud
  obtain ⟨b, base, cs, hp, rfl⟩ := hx.ptr_inv
  split at ha
  ·rename_i n dep d tr sz hg hk hsz
   split at ha
   ·rename_i hle1
    simp only [Option.some.injEq, Prod.mk.injEq] at ha
    obtain ⟨rfl, rfl⟩ := ha
    obtain ⟨hn, hle, _⟩ := obj_cells hr hg hp
    obtain ⟨q2, c, fz, q3, q4⟩ := hr.kind hk hp
    simp only at q2 q3 q4
    subst q2
    obtain ⟨info, hi, his⟩ := size_some hsz
    have hsh : w.shape? b = some (u, cs) := by unfold World.shape?; rw [q3]; simp [q4]
    refine ⟨φ, _, w, Lib.run_from_unsafe w ⟨b, 0 + 0, none⟩ hus hud hi hsh ?_, hx, hr, Post.refl _ _ _⟩
    rw [cellsOf_size hsz]
    exact liesAt_self (cellsOf_size hsz) _ (Nat.div_pos (by have hle' : 0 + n ≤ cs := hle; omega) (by omega))
   ·simp at ha
  ·simp at ha
 ·simp at ha
structure DefR (φ : Phi) (d : ADef) (d' : Deferred) : Prop where
 target : ∃ fn' cap', d'.target = .fn fn' cap' ∧ FnR φ d.fn fn' ∧ LR φ d.cap cap'
 args : LR φ d.args d'.args
def OpR (P : Program) (G : Nat) (φ : Phi) (h : H) (w : World) (res : Result Next) : AR → Prop
 | .val v h' => ∃ φ' nx v' w', res = .ok nx w' ∧ (nx = .value v' ∨ (nx = .skip ∧ v' = undef)) ∧ VR φ' v v' ∧ HR G φ' h' w' ∧ Post φ h w φ' h' w'
 | .enter f args h' => ∃ args', res = .ok (.enter f args') w ∧ LR φ args args' ∧ h' = h ∧ ∃ fn, P.funcs[f]? = some fn ∧ fn.body.isSome = true
 | .round l args h' => ∃ args' p, φ l = some p ∧ res = (Go.Instr.yield p.1 args').run P w ∧ LR φ args args' ∧ h' = h
 | .defer d h' => ∃ d', res = .ok (.defer d') w ∧ DefR φ d d' ∧ h' = h
 | .recover h' => res = .ok .recover w ∧ h' = h
 | .panic v h' => ∃ v', res = .halt (.panic v') w ∧ VR φ v v' ∧ h' = h
theorem OpR.value {s : Sem Value} {v : AV} {h' : H} (hh : ∃ φ' v' w', s.run P w = .ok v' w' ∧ VR φ' v v' ∧ HR G φ' h' w' ∧ Post φ h w φ' h' w') :
  OpR P G φ h w ((do pure (.value (← s)) : Sem Next).run P w) (.val v h') := by
 obtain ⟨φ', v', w', h1, h2, h3, h4⟩ := hh
 exact ⟨φ', .value v', v', w', by simp only [Sem.run_bind, h1, Result.andThen_ok, Sem.run_pure], .inl rfl, h2, h3, h4⟩
theorem OpR.value0 (hr : HR G φ h w) {s : Sem Value} {v : AV} (hh : ∃ v', s.run P w = .ok v' w ∧ VR φ v v') : OpR P G φ h w ((do pure (.value (← s)) : Sem Next).run P w) (.val v h) := by
 obtain ⟨v', h1, h2⟩ := hh
 exact .value ⟨φ, v', w, h1, h2, hr, Post.refl _ _ _⟩
theorem OpR.unit {s : Sem Unit} {h' : H} (hh : ∃ w', s.run P w = .ok () w' ∧ HR G φ h' w' ∧ Post φ h w φ h' w') :
  OpR P G φ h w ((do s; pure .skip : Sem Next).run P w) (.val (.tup []) h') := by
 obtain ⟨w', h1, h3, h4⟩ := hh
 exact ⟨φ, .skip, undef, w', by simp only [Sem.run_bind, h1, Result.andThen_ok, Sem.run_pure], .inr ⟨rfl, rfl⟩, (LR.nil φ).tup, h3, h4⟩
omit [Val] in
theorem valH_inv {v : Option AV} {r : AR} (hr : valH v h = some r) : ∃ a, v = some a ∧ r = .val a h := by
 cases v with
 | none => simp [valH] at hr
 | some a => exact ⟨a, rfl, by simpa [valH] using hr.symm⟩
omit [Val] in
theorem val2_inv {v : Option (AV × H)} {r : AR} (hr : val2 v = some r) : ∃ a h', v = some (a, h') ∧ r = .val a h' := by
 cases v with
 | none => simp [val2] at hr
 | some a => exact ⟨a.1, a.2, rfl, by simpa [val2] using hr.symm⟩
omit [Val] in
theorem skipH_inv {v : Option H} {r : AR} (hr : skipH v = some r) : ∃ h', v = some h' ∧ r = .val (.tup []) h' := by
 cases v with
 | none => simp [skipH] at hr
 | some a => exact ⟨a, rfl, by simpa [skipH] using hr.symm⟩
theorem resolveA_ok {ρ : Operand → AV} {ρ' : Operand → Value} (hρ : ∀ x, VR φ (ρ x) (ρ' x)) {c : Call} {d : ADef} (hd : resolveA ρ c = some d) (ty : TypeId) :
  ∃ d', (resolve ρ' c ty).run P w = .ok d' w ∧ DefR φ d d' := by
 unfold resolveA at hd
 split at hd
 ·rename_i f hc
  have hf := hρ f
  split at hd
  ·rename_i fn first cap heq
   rw [heq] at hf
   obtain ⟨fn', a₁, a₂, h1, h2, h3, h4⟩ := hf.fn_inv
   simp only [Option.some.injEq] at hd
   subst hd
   refine ⟨{ target := .fn fn' a₂, args := a₁ ++ c.args.map ρ' }, ?_, ⟨fn', a₂, rfl, h1, h3⟩, h2.append (LR.map hρ c.args)⟩
   simp only [resolve, hc, h4, Deferred.ofValue]
   rfl
  ·simp at hd
 ·simp at hd
theorem callA_ok (hR : HR G φ h w) {d : ADef} {d' : Deferred} (hd : DefR φ d d') {r : AR} (hr : callA P d h = some r) : OpR P G φ h w ((invoke d'.target d'.args).run P w) r := by
 obtain ⟨⟨fn', cap', ht, hfn, hcap⟩, hargs⟩ := hd
 rw [ht]
 unfold callA at hr
 split at hr
 ·rename_i f heq
  rw [heq] at hfn
  cases hfn
  split at hr
  ·rename_i fn hf
   split at hr
   ·simp at hr
   ·rename_i hname
    split at hr
    ·rename_i c hb
     simp only [Option.some.injEq] at hr
     subst hr
     refine ⟨d'.args ++ cap', ?_, hargs.append hcap, rfl, fn, hf, by rw [hb]; rfl⟩
     simp only [invoke, callFunc, Sem.run_bind, run_program, Result.andThen_ok, hf, hname, hb, Option.isNone_some, Bool.false_eq_true, if_false, Sem.run_pure]
    ·rename_i hb
     split at hr
     ·rename_i v h2 he
      simp only [Option.some.injEq] at hr
      subst hr
      obtain ⟨φ', v', w', k1, k2, k3, k4⟩ := externA_ok hR hf hname hb (hargs.append hcap) he
      exact ⟨φ', _, v', w', k1, .inl rfl, k2, k3, k4⟩
     ·simp at hr
  ·simp at hr
 ·rename_i l heq
  rw [heq] at hfn
  cases hfn
  rename_i p hp
  simp only [Option.some.injEq] at hr
  subst hr
  exact ⟨d'.args, p, hp, rfl, hargs, rfl⟩
 ·simp at hr
end
end Go.Ab
end

section
namespace Go.Ab
variable [Val]
section
variable {P : Program} {G : Nat} {φ : Phi} {h : H} {w : World}
omit [Val] in
theorem bytesOf_get : ∀ (l : List AV) (s : List Nat), bytesOf l = some s → s.length = l.length ∧ ∀ i, i < l.length → l.getD i .junk = .int .u8 (s.getD i 0 : Nat) ∧ s.getD i 0 < 256
 | [], s, h => by
  simp only [bytesOf, Option.some.injEq] at h
  subst h
  exact ⟨rfl, fun i hi => absurd hi (by simp)⟩
 | x :: l, s, h => by
  unfold bytesOf at h
  split at h
  ·simp_all
  ·rename_i n r heq
   simp only [List.cons.injEq] at heq
   obtain ⟨rfl, rfl⟩ := heq
   split at h
   ·rename_i hn
    cases hb : bytesOf l with
    | none => rw [hb] at h; simp at h
    | some s2 =>
     rw [hb] at h
     simp only [Option.map_some, Option.some.injEq] at h
     subst h
     obtain ⟨h1, h2⟩ := bytesOf_get l s2 hb
     refine ⟨by simp [h1], fun i hi => ?_⟩
     cases i with
     | zero =>
      simp only [List.getD_cons_zero]
      refine ⟨?_, by omega⟩
      congr 1
      omega
     | succ i =>
      simp only [List.getD_cons_succ]
      exact h2 i (by simpa using hi)
   ·simp at h
  ·simp at h
omit [Val] in
theorem freeze_blk {w : World} {b : Nat} {c : Array Value} {e : TypeId} {fz : Nat × Nat} (hb : w.heap[b]? = some (.cells c e fz)) (off n : Nat) :
  ∃ fz', w.freeze ⟨b, off, none⟩ n = setBlk w b (.cells c e fz') := by
 by_cases hn : n = 0
 ·refine ⟨fz, ?_⟩
  unfold World.freeze
  rw [if_pos hn, setBlk_self hb]
 ·refine ⟨if fz.1 == fz.2 then (off, off + n) else (min fz.1 off, max fz.2 (off + n)), ?_⟩
  unfold World.freeze setBlk
  rw [if_neg hn]
  congr 1
  apply Array.ext_getElem?
  intro i
  rw [Array.getElem?_modify, Array.getElem?_setIfInBounds]
  have hlt := block_lt hb
  by_cases hi : b = i
  ·subst hi
   rw [hb]
   simp [hlt]
  ·simp [hi]
theorem unsafeStringA_ok (hr : HR G φ h w) {t : TypeId} {p n v : AV} {h' : H} (ha : unsafeStringA P t p n h = some (v, h')) {p' n' : Value} (hp : VR φ p p') (hn : VR φ n n')
  {ts : Array TypeId} (h0 : ts[0]? = some t) (ty : TypeId) :
  ∃ φ' v' w', (Builtin.unsafeString_ ts ty #[p', n']).run P w = .ok v' w' ∧ VR φ' v v' ∧ HR G φ' h' w' ∧ Post φ h w φ' h' w' := by
 have hmax : IntKind.i64.max = 9223372036854775807 := rfl
 unfold unsafeStringA at ha
 split at ha
 ·rename_i e hu
  obtain rfl := hp.nilp_inv
  obtain rfl := hn.int_inv
  simp only [Option.some.injEq, Prod.mk.injEq] at ha
  obtain ⟨rfl, rfl⟩ := ha
  refine ⟨φ, .string .empty, w, ?_, VR.str (φ := φ) .empty, hr, Post.refl _ _ _⟩
  have hdef : Builtin.unsafeString_ ts ty #[.pointer none, .int .i64 0] =
    (do
     let n ← asInt (.int .i64 0)
     let some pt := ts[0]? | stuck "unsafe.String: no argument types"
     if n < 0 then runtimePanic (.error "unsafe.String: len out of range")
     if n > IntKind.i64.max then unsupported (.unsafePointer "String: a length above the largest int")
     if n = 0 then pure (.string .empty)
     else runtimePanic (.error "unsafe.String: ptr is nil and len is not zero")) := rfl
  rw [hdef, h0]
  simp [asInt, asIntOf, hmax]
 ·rename_i e id off len hu
  obtain ⟨b, base, cs, hp', rfl⟩ := hp.ptr_inv
  obtain rfl := hn.int_inv
  split at ha
  ·rename_i n dep d tr hg hk hsz
   split at ha
   ·rename_i hle
    cases hb : bytesOf (cellsFrom dep d tr off (len + 1)) with
    | none => rw [hb] at ha; simp at ha
    | some s =>
     rw [hb] at ha
     simp only [Option.map_some, Option.some.injEq, Prod.mk.injEq] at ha
     obtain ⟨rfl, rfl⟩ := ha
     obtain ⟨hn1, hle2, c, e2, fz, hblk, hcs, hf, hv, hpl⟩ := obj_cells hr hg hp'
     obtain ⟨q2, c3, fz3, q3, q4⟩ := hr.kind hk hp'
     have q5 := hblk.symm.trans q3
     simp only [Option.some.injEq, Obj.cells.injEq] at q5
     obtain ⟨rfl, rfl, rfl⟩ := q5
     have q2' : base = 0 := q2
     subst q2'
     obtain ⟨hsl, hsg⟩ := bytesOf_get _ _ hb
     rw [length_cellsFrom] at hsl hsg
     obtain ⟨fz', hfz⟩ := freeze_blk hblk (0 + off) (len + 1)
     obtain ⟨a, b'⟩ := set_ok hr hg rfl hp' (o₂ := .dead) (ob := .cells c e2 fz') trivial (Like.cells hblk rfl)
     have hsh : w.shape? b = some (e2, cs) := by unfold World.shape?; rw [hblk]; simp [hcs]
     have hstr : (s.map UInt8.ofNat).map UInt8.toNat = s := by
      apply List.ext_getElem
      ·simp
      ·intro i h1 h2
       simp only [List.getElem_map]
       have := (hsg i (by omega)).2
       rw [List.getD_eq_getElem?_getD, List.getElem?_eq_getElem h2] at this
       simp only [Option.getD_some] at this
       rw [UInt8.toNat_ofNat']
       omega
     have hlen : (s.map UInt8.ofNat).length = len + 1 := by simp [hsl]
     have hcell : ∀ j x, (s.map UInt8.ofNat)[j]? = some x → w.cell? ((⟨b, 0 + off, none⟩ : Addr).add j) = some (.int .u8 x.toNat) := by
      intro j x hx
      have hj : j < len + 1 := by
       rcases Nat.lt_or_ge j (len + 1) with h' | h'
       ·exact h'
       ·rw [List.getElem?_eq_none (by omega)] at hx; simp at hx
      have hcv := hv (off + j) (by omega)
      have hgd := getD_cellsFrom dep d tr .junk (len + 1) off j hj
      obtain ⟨g1, g2⟩ := hsg j hj
      rw [hgd] at g1
      rw [g1] at hcv
      have hval := hcv.int_inv
      rw [add_none, cell_of hblk, getElem?_of_lt (by have h2' : 0 + n ≤ cs := hle2; omega)]
      have hxj : x = UInt8.ofNat (s.getD j 0) := by
       rw [List.getElem?_map] at hx
       rw [List.getD_eq_getElem?_getD]
       cases e' : s[j]? with
       | none => rw [e'] at hx; simp at hx
       | some y => rw [e'] at hx; simpa using hx.symm
      rw [hxj]
      have e3 : (UInt8.ofNat (s.getD j 0)).toNat = s.getD j 0 := by rw [UInt8.toNat_ofNat']; omega
      rw [e3, ← hval]
      congr 2
      show 0 + off + j = 0 + (off + j)
      omega
     have hlb := Lib.run_loadBytes (P := P) w (s.map UInt8.ofNat) ⟨b, 0 + off, none⟩ .empty hcell
     rw [hlen] at hlb
     have hlies := liesAt_from (P := P) (cellsOf_size hsz) (cs / P.cellsOf e2) (0 + off) (len + 1) (by rw [cellsOf_size hsz, Nat.div_one]; have h2' : 0 + n ≤ cs := hle2; omega)
     refine ⟨φ, .string ⟨#[] ++ (s.map UInt8.ofNat).toArray⟩, w.freeze ⟨b, 0 + off, none⟩ (len + 1), ?_, ?_, ?_, ?_⟩
     ·have hdef : Builtin.unsafeString_ ts ty #[.pointer (some ⟨b, 0 + off, none⟩), .int .i64 (Int.ofNat (len + 1))] =
        (do
         let n ← asInt (.int .i64 (Int.ofNat (len + 1)))
         let some pt := ts[0]? | stuck "unsafe.String: no argument types"
         if n < 0 then runtimePanic (.error "unsafe.String: len out of range")
         if n > IntKind.i64.max then unsupported (.unsafePointer "String: a length above the largest int")
         if n = 0 then pure (.string .empty)
         else if ← variablesAt ⟨b, 0 + off, none⟩ (← elemOf pt) n.toNat then do
          let s ← loadBytes ⟨b, 0 + off, none⟩ .empty n.toNat
          freeze ⟨b, 0 + off, none⟩ n.toNat
          pure (.string s)
         else unsupported (.unsafePointer "String: not so many bytes at ptr")) := rfl
      rw [hdef, h0]
      have n1 : ¬ ((len : Int) + 1 < 0) := by omega
      have n2 : ¬ (9223372036854775807 : Int) < (len : Int) + 1 := by omega
      have n3 : ¬ ((len : Int) + 1 = 0) := by omega
      have n4 : ((len : Int) + 1).toNat = len + 1 := by omega
      simp only [Nat.zero_add] at hlies hlb ⊢
      simp [asInt, asIntOf, hmax, n1, n2, n3, n4, variablesAt, hsh, elemOf, run_und hu, hlies, hlb]
     ·have := VR.str (φ := φ) (⟨#[] ++ (s.map UInt8.ofNat).toArray⟩ : ByteArray)
      have e4 : ((⟨#[] ++ (s.map UInt8.ofNat).toArray⟩ : ByteArray).data.toList.map UInt8.toNat) = s := by
       simp only [Array.toList_append, List.nil_append]
       exact hstr
      rwa [e4] at this
     ·rw [hfz]; exact a
     ·rw [hfz]; exact b'
   ·simp at ha
  ·simp at ha
 ·simp at ha
end
end Go.Ab
end
