/-
  The abstract machine's operations on numbers, texts, keys; parts of aggregates: they come to what the model's come to.
  Conditions: those that each lemma names.
-/
import Derived.Test.YtiajkflemnaabaaGreatBbE
import Derived.Laws.StructEq
import Derived.ChangeKeysEq
import Derived.WideKeyRuns
namespace Go.Ab
variable [Val]

section inv
variable {φ : Phi}
theorem VR.bool_inv {b : Bool} {v : Value} (h : VR φ (.bool b) v) : v = .bool b := by cases h; rfl
theorem VR.int_inv {k : IntKind} {n : Int} {v : Value} (h : VR φ (.int k n) v) : v = .int k n := by cases h; rfl
theorem VR.sym_inv {k : IntKind} {lo hi : Int} {e : E} {v : Value} (h : VR φ (.sym k lo hi e) v) : ∃ n, v = .int k n ∧ e.eval Val.σ = n ∧ e.ok Val.σ ∧ lo ≤ n ∧ n ≤ hi := by
  cases h with
  | sym he ho hl hh => exact ⟨_, rfl, he, ho, hl, hh⟩
theorem VR.str_inv {l : List Nat} {v : Value} (h : VR φ (.str l) v) : ∃ s : ByteArray, v = .string s ∧ l = s.data.toList.map UInt8.toNat := by cases h; exact ⟨_, rfl, rfl⟩
theorem VR.nilp_inv {v : Value} (h : VR φ .nilp v) : v = .pointer none := by cases h; rfl
theorem VR.ptr_inv {id off : Nat} {v : Value} (h : VR φ (.ptr id off) v) : ∃ b base cs, φ id = some (b, base, cs) ∧ v = .pointer (some ⟨b, base + off, none⟩) := by
  cases h; exact ⟨_, _, _, ‹_›, rfl⟩
theorem VR.nils_inv {v : Value} (h : VR φ .nils v) : v = .slice none 0 0 := by cases h; rfl
theorem VR.slice_inv {id off len cap esz : Nat} {ex : Bool} {v : Value} (h : VR φ (.slice id off len cap ex esz) v) : ∃ b base cs o c, φ id = some (b, base, cs) ∧
    (o = base + off ∨ c = 0) ∧ len ≤ cap ∧ cap ≤ c ∧ (ex = true → c = cap) ∧ o + c * esz ≤ cs ∧ 0 < esz ∧ v = .slice (some ⟨b, o, none⟩) len c := by
  cases h; exact ⟨_, _, _, _, _, ‹_›, ‹_›, ‹_›, ‹_›, ‹_›, ‹_›, ‹_›, rfl⟩
theorem VR.nilm_inv {v : Value} (h : VR φ .nilm v) : v = .map none := by cases h; rfl
theorem VR.map_inv {id : Nat} {v : Value} (h : VR φ (.map id) v) : ∃ p, φ id = some p ∧ v = .map (some p.1) := by cases h; exact ⟨_, ‹_›, rfl⟩
theorem VR.fn_inv {f : Fn} {l₁ l₂ : List AV} {v : Value} (h : VR φ (.fn f l₁ l₂) v) : ∃ f' a₁ a₂, FnR φ f f' ∧ LR φ l₁ a₁ ∧ LR φ l₂ a₂ ∧ v = .func f' a₁ a₂ := by
  cases h; exact ⟨_, _, _, ‹_›, ⟨‹_›, ‹_›⟩, ⟨‹_›, ‹_›⟩, rfl⟩
theorem VR.nilf_inv {v : Value} (h : VR φ .nilf v) : v = .nilFunc := by cases h; rfl
theorem VR.iface_inv {t : TypeId} {a : AV} {v : Value} (h : VR φ (.iface t a) v) : ∃ v', VR φ a v' ∧ v = .iface t v' := by cases h; exact ⟨_, ‹_›, rfl⟩
theorem VR.nili_inv {v : Value} (h : VR φ .nili v) : v = .nilIface := by cases h; rfl
theorem VR.agg_inv {n dep : Nat} {d : AV} {t : Tr AV} {v : Value} (h : VR φ (.agg n dep d t) v) : ∃ a : Array Value, a.size = n ∧ n ≤ 2 ^ dep ∧
    (∀ i, i < n → VR φ (cget dep d t i) (a.getD i undef)) ∧ (∀ i, i < n → plainCell (a.getD i undef) = true) ∧ v = .agg a := by
  cases h; exact ⟨_, ‹_›, ‹_›, ‹_›, ‹_›, rfl⟩
theorem VR.tup_inv {l : List AV} {v : Value} (h : VR φ (.tup l) v) : ∃ a, LR φ l a ∧ v = .tuple a := by cases h; exact ⟨_, ⟨‹_›, ‹_›⟩, rfl⟩
end inv

theorem LR.tup {φ : Phi} {l : List AV} {a : Array Value} (h : LR φ l a) : VR φ (.tup l) (.tuple a) := .tup h.size h.get

theorem LR.one {φ : Phi} {v : AV} {v' : Value} (h : VR φ v v') : LR φ [v] #[v'] := by
  refine ⟨rfl, fun i hi => ?_⟩
  obtain rfl : i = 0 := by simpa using hi
  exact h

theorem LR.two {φ : Phi} {v u : AV} {v' u' : Value} (h : VR φ v v') (k : VR φ u u') : LR φ [v, u] #[v', u'] := LR.cons h (LR.one k)
theorem LR.three {φ : Phi} {v u x : AV} {v' u' x' : Value} (h : VR φ v v') (k : VR φ u u') (l : VR φ x x') : LR φ [v, u, x] #[v', u', x'] := LR.cons h (LR.two k l)

theorem LR.map {φ : Phi} {ρ : Operand → AV} {ρ' : Operand → Value} (h : ∀ x, VR φ (ρ x) (ρ' x)) (a : Array Operand) : LR φ (a.toList.map ρ) (a.map ρ') := by
  refine ⟨by simp, fun i hi => ?_⟩
  simp only [List.length_map, Array.length_toList] at hi
  rw [List.getD_eq_getElem?_getD, Array.getD_eq_getD_getElem?]
  simp only [List.getElem?_map, Array.getElem?_map, Array.getElem?_toList, Array.getElem?_eq_getElem hi, Option.map_some, Option.getD_some]
  exact h _

omit [Val] in
theorem extract_getD (a : Array Value) (off n i : Nat) (hi : i < n) (hle : off + n ≤ a.size) : (a.extract off (off + n)).getD i undef = a.getD (off + i) undef := by
  rw [Array.getD_eq_getD_getElem?, Array.getD_eq_getD_getElem?, Array.getElem?_extract_of_lt (by omega), Array.getElem?_eq_getElem (by omega)]

section
variable {P : Program} {φ : Phi}

/-- A part of an aggregate. -/
theorem partA_ok {t : TypeId} {n dep off : Nat} {d : AV} {tr : Tr AV} {a : Array Value} {v : AV} (h : VR φ (.agg n dep d tr) (.agg a)) (hp : partA P t n dep d tr off = some v)
    (w : World) : ∃ v', (part t a off).run P w = .ok v' w ∧ VR φ v v' := by
  obtain ⟨a', hs, hn, hv, hpl, e⟩ := h.agg_inv
  simp only [Value.agg.injEq] at e
  subst e
  unfold partA at hp
  split at hp
  · rename_i sz ha hsz
    split at hp
    · rename_i hle
      simp only [Option.some.injEq] at hp
      subst hp
      refine ⟨.agg (a.extract off (off + sz)), ?_, ?_⟩
      · simp only [part, Sem.run_bind, run_isAgg ha, Result.andThen_ok, if_true, run_size hsz, Sem.run_pure]
      · refine .agg (by rw [subVec_n]; simp; omega) (subVec_wf _ _ _ _ _ _ hn).le (fun i hi => ?_) (fun i hi => ?_)
        · rw [subVec_n] at hi
          have := subVec_get n dep d tr off sz i hi
          unfold Vec.get at this
          rw [this, extract_getD _ _ _ _ hi (by omega)]
          exact hv _ (by omega)
        · rw [subVec_n] at hi
          rw [extract_getD _ _ _ _ hi (by omega)]
          exact hpl _ (by omega)
    · simp at hp
  · rename_i ha
    split at hp
    · rename_i hlt
      simp only [Option.some.injEq] at hp
      subst hp
      refine ⟨a.getD off undef, ?_, hv _ hlt⟩
      simp only [part, Sem.run_bind, run_isAgg ha, Result.andThen_ok, Bool.false_eq_true, if_false]
      rw [getElem?_of_lt (by omega)]
      rfl
    · simp at hp
  · simp at hp

omit [Val] in
theorem bytes_inj {s t : ByteArray} (h : s.data.toList.map UInt8.toNat = t.data.toList.map UInt8.toNat) : s = t := by
  have : s.data.toList = t.data.toList := List.map_inj_right (fun a b hab => UInt8.toNat_inj.1 hab) |>.1 h
  cases s; cases t
  simp only [ByteArray.mk.injEq]
  exact Array.toList_inj.1 this

omit [Val] in
theorem bytes_beq (s t : ByteArray) : (s.data.toList.map UInt8.toNat == t.data.toList.map UInt8.toNat) = (s.toList == t.toList) := by
  rw [ByteArray.toList_eq, ByteArray.toList_eq, Bool.eq_iff_iff]
  simp only [beq_iff_eq]
  constructor
  · intro h; rw [bytes_inj h]
  · intro h; rw [h]

omit [Val] in
theorem underlying_fieldsOf {t : TypeId} {fs : Array Field} (hu : P.underlying t = some (.struct fs)) : P.fieldsOf t = fs := by simp [Program.fieldsOf, hu]

theorem eqT_ok : ∀ (f : Nat) (t : TypeId) (x y : AV) (r : Bool), eqT P f t x y = some r → ∀ {x' y' : Value}, VR φ x x' → VR φ y y' → ∀ (dd : Nat) (w : World), f ≤ dd →
    (Op.equalIn dd t x' y').run P w = .ok r w := by
  intro f
  induction f with
  | zero => intro t x y r h; simp [eqT] at h
  | succ f ih =>
    intro t x y r h x' y' hx hy dd w hdd
    obtain ⟨dd, rfl⟩ : ∃ m, dd = m + 1 := ⟨dd - 1, by omega⟩
    unfold eqT at h
    split at h
    · rename_i a b hu
      rw [hx.bool_inv, hy.bool_inv, run_equalIn_bool w dd t a b hu]
      simpa using h
    · rename_i k' k a k'' b hu
      split at h
      · rename_i e; subst e
        rw [hx.int_inv, hy.int_inv, run_equalIn_int w dd t k k' a b hu]
        simpa using h
      · simp at h
    · rename_i kk k l h1 e k' l' h1' e' hu
      split at h
      · rename_i ek; subst ek
        obtain ⟨n, rfl, he, ho, hl, hh⟩ := hx.sym_inv
        obtain ⟨n', rfl, he', ho', hl', hh'⟩ := hy.sym_inv
        rw [run_equalIn_int w dd t k kk n n' hu]
        cases hs : e.same e' with
        | true =>
          rw [hs] at h
          simp only [cond_true, Option.some.injEq] at h
          obtain rfl := E.eq_of_same hs
          rw [← h, ← he, ← he']
          simp
        | false =>
          rw [hs] at h
          simp only [cond_false] at h
          cases hd : (decide (h1 < l') || decide (h1' < l)) with
          | true =>
            rw [hd] at h
            simp only [cond_true, Option.some.injEq] at h
            simp only [Bool.or_eq_true, decide_eq_true_eq] at hd
            rw [← h, show (n == n') = false by simp; omega]
          | false => rw [hd] at h; simp at h
      · simp at h
    · rename_i kk k l h1 e k' b hu
      split at h
      · rename_i ek; subst ek
        obtain ⟨n, rfl, he, ho, hl, hh⟩ := hx.sym_inv
        rw [hy.int_inv, run_equalIn_int w dd t k kk n b hu]
        cases hd : (decide (h1 < b) || decide (b < l)) with
        | true =>
          rw [hd] at h
          simp only [cond_true, Option.some.injEq] at h
          simp only [Bool.or_eq_true, decide_eq_true_eq] at hd
          rw [← h, show (n == b) = false by simp; omega]
        | false => rw [hd] at h; simp at h
      · simp at h
    · rename_i kk k a k' l h1 e hu
      split at h
      · rename_i ek; subst ek
        obtain ⟨n, rfl, he, ho, hl, hh⟩ := hy.sym_inv
        rw [hx.int_inv, run_equalIn_int w dd t k kk a n hu]
        cases hd : (decide (h1 < a) || decide (a < l)) with
        | true =>
          rw [hd] at h
          simp only [cond_true, Option.some.injEq] at h
          simp only [Bool.or_eq_true, decide_eq_true_eq] at hd
          rw [← h, show (a == n) = false by simp; omega]
        | false => rw [hd] at h; simp at h
      · simp at h
    · rename_i a b hu
      obtain ⟨s, rfl, rfl⟩ := hx.str_inv
      obtain ⟨s', rfl, rfl⟩ := hy.str_inv
      rw [run_equalIn_string w dd t s s' hu, ← bytes_beq]
      simpa using h
    · rename_i fs n dep d tr m dep' d' tr' hu
      split at h
      · simp at h
      · rename_i hst
        obtain ⟨a, _, _, _, _, rfl⟩ := hx.agg_inv
        obtain ⟨b, _, _, _, _, rfl⟩ := hy.agg_inv
        rw [run_equalIn_struct w dd t a b (by rw [underlying_fieldsOf hu]; exact hu) (by simpa using hst), underlying_fieldsOf hu]
        generalize fs.toList = l at h ⊢
        induction l with
        | nil => simp only [eqFields, Option.some.injEq] at h; subst h; rfl
        | cons fd l ihl =>
          simp only [eqFields] at h
          simp only [Op.eqFields]
          split at h
          · rename_i hname
            simp only [hname, ne_eq, not_false_eq_true, if_true]
            split at h
            · rename_i pa pb hpa hpb
              obtain ⟨va, hra, hva⟩ := partA_ok hx hpa w
              obtain ⟨vb, hrb, hvb⟩ := partA_ok hy hpb w
              simp only [Sem.run_bind, hra, hrb, Result.andThen_ok]
              split at h
              · rename_i hrec
                rw [ih _ _ _ _ hrec hva hvb dd w (by omega)]
                simp only [Result.andThen_ok, Bool.not_true, Bool.false_eq_true, if_false]
                exact ihl h
              · rename_i hrec
                rw [ih _ _ _ _ hrec hva hvb dd w (by omega)]
                simp only [Option.some.injEq] at h
                subst h
                simp
              · simp at h
            · simp at h
          · rename_i hname
            simp only [ne_eq, Decidable.not_not] at hname
            simp only [hname, ne_eq, not_true_eq_false, if_false]
            exact ihl h
    · rename_i len e n dep d tr m dep' d' tr' hu
      split at h
      · rename_i sz hsz
        obtain ⟨a, _, _, _, _, rfl⟩ := hx.agg_inv
        obtain ⟨b, _, _, _, _, rfl⟩ := hy.agg_inv
        obtain ⟨i, hi⟩ : ∃ i, P.info? e = some i := by
          unfold size? at hsz
          cases hi : P.info? e with
          | none => rw [hi] at hsz; simp at hsz
          | some i => exact ⟨i, rfl⟩
        have hc : P.cellsOf e = sz := by
          unfold size? at hsz
          rw [hi] at hsz
          simpa [Program.cellsOf, hi] using hsz
        rw [run_equalIn_array w dd a b hu hi, hc]
        generalize List.range len = l at h ⊢
        induction l with
        | nil => simp only [eqItems, Option.some.injEq] at h; subst h; rfl
        | cons j l ihl =>
          simp only [eqItems] at h
          simp only [Op.eqItems]
          split at h
          · rename_i pa pb hpa hpb
            obtain ⟨va, hra, hva⟩ := partA_ok hx hpa w
            obtain ⟨vb, hrb, hvb⟩ := partA_ok hy hpb w
            simp only [Sem.run_bind, hra, hrb, Result.andThen_ok]
            split at h
            · rename_i hrec
              rw [ih _ _ _ _ hrec hva hvb dd w (by omega)]
              simp only [Result.andThen_ok, Bool.not_true, Bool.false_eq_true, if_false]
              exact ihl h
            · rename_i hrec
              rw [ih _ _ _ _ hrec hva hvb dd w (by omega)]
              simp only [Option.some.injEq] at h
              subst h
              simp
            · simp at h
          · simp at h
      · simp at h
    · simp at h

def Instr.ckFields (em : Bool) (n : Nat) (xs : Array Value) : List Field → Sem Unit
  | [] => pure ()
  | f :: fs =>
    if f.name ≠ "_" then do
      let a ← part f.type xs f.offset
      Go.Instr.checkKey em n f.type a
      Instr.ckFields em n xs fs
    else Instr.ckFields em n xs fs

omit [Val] in
theorem run_checkKey_struct (em : Bool) (n : Nat) (t : TypeId) (xs : Array Value) (fs : Array Field) (hu : P.underlying t = some (.struct fs)) (w : World) :
    (Go.Instr.checkKey em (n + 1) t (.agg xs)).run P w = (Instr.ckFields em n xs fs.toList).run P w := by
  simp only [Go.Instr.checkKey, Sem.run_bind, run_und hu, Result.andThen_ok]
  rw [← Array.forIn_toList]
  generalize fs.toList = l
  clear hu
  induction l generalizing w with
  | nil => simp [Instr.ckFields]
  | cons f l ih =>
    simp only [List.forIn_cons, Instr.ckFields, Sem.run_bind, Sem.run_ite]
    split
    · generalize (part f.type xs f.offset).run P w = r1
      cases r1 with
      | ok a w1 =>
        simp only [Result.andThen_ok]
        generalize (Go.Instr.checkKey em n f.type a).run P w1 = r2
        cases r2 with
        | ok b w2 =>
          simp only [Result.andThen_ok, Sem.run_pure]
          exact ih w2
        | halt x w2 => simp [Result.andThen]
      | halt x w1 => simp [Result.andThen]
    · simp only [Sem.run_pure, Result.andThen_ok]
      exact ih w

theorem ckT_ok (em : Bool) : ∀ (f : Nat) (t : TypeId) (x : AV), ckT P f t x = true → ∀ {x' : Value}, VR φ x x' → ∀ (dd : Nat) (w : World), f ≤ dd →
    (Go.Instr.checkKey em dd t x').run P w = .ok () w := by
  intro f
  induction f with
  | zero => intro t x h; simp [ckT] at h
  | succ f ih =>
    intro t x h x' hx dd w hdd
    obtain ⟨dd, rfl⟩ : ∃ m, dd = m + 1 := ⟨dd - 1, by omega⟩
    unfold ckT at h
    split at h
    · rename_i b hu
      rw [hx.bool_inv]
      simp [Go.Instr.checkKey, run_und hu]
    · rename_i k' k n hu
      rw [hx.int_inv]
      simp [Go.Instr.checkKey, run_und hu]
    · rename_i k' k l h1 e hu
      obtain ⟨n, rfl, _⟩ := hx.sym_inv
      simp [Go.Instr.checkKey, run_und hu]
    · rename_i s hu
      obtain ⟨s, rfl, rfl⟩ := hx.str_inv
      simp [Go.Instr.checkKey, run_und hu]
    · rename_i fs n dep d tr hu
      obtain ⟨a, _, _, _, _, rfl⟩ := hx.agg_inv
      rw [run_checkKey_struct em dd t a fs hu]
      generalize fs.toList = l at h ⊢
      induction l with
      | nil => rfl
      | cons fd l ihl =>
        simp only [ckFields] at h
        simp only [Instr.ckFields]
        split at h
        · rename_i hname
          simp only [hname, ne_eq, not_false_eq_true, if_true]
          split at h
          · rename_i pa hpa
            simp only [Bool.and_eq_true] at h
            obtain ⟨va, hra, hva⟩ := partA_ok hx hpa w
            simp only [Sem.run_bind, hra, Result.andThen_ok, ih _ _ h.1 hva dd w (by omega)]
            exact ihl h.2
          · simp at h
        · rename_i hname
          simp only [ne_eq, Decidable.not_not] at hname
          simp only [hname, ne_eq, not_true_eq_false, if_false]
          exact ihl h
    · simp at h

theorem sameScalar_bits {a b : AV} (h : sameScalar a b = true) {a' b' : Value} (ha : VR φ a a') (hb : VR φ b b') (n : Nat) : Go.Instr.sameBits n a' b' = true := by
  cases a <;> cases b <;> simp only [sameScalar, Bool.false_eq_true, Bool.and_eq_true, beq_iff_eq] at h
  · subst h; rw [ha.bool_inv, hb.bool_inv]; cases n <;> simp [Go.Instr.sameBits]
  · obtain ⟨rfl, rfl⟩ := h; rw [ha.int_inv, hb.int_inv]; cases n <;> simp [Go.Instr.sameBits]
  · obtain ⟨rfl, h⟩ := h
    obtain rfl := E.eq_of_same h
    obtain ⟨n1, rfl, he, _⟩ := ha.sym_inv
    obtain ⟨n2, rfl, he', _⟩ := hb.sym_inv
    obtain rfl := he.symm.trans he'
    cases n <;> simp [Go.Instr.sameBits]
  · subst h
    obtain ⟨s, rfl, e⟩ := ha.str_inv
    obtain ⟨s', rfl, e'⟩ := hb.str_inv
    have : s = s' := bytes_inj (e.symm.trans e')
    subst this
    have e2 : (s == s) = true := by rw [beq_toListBytes]; simp
    cases n <;> simp [Go.Instr.sameBits, e2]

theorem sameKey_bits {a b : AV} (h : sameKey a b = true) {a' b' : Value} (ha : VR φ a a') (hb : VR φ b b') (n : Nat) : Go.Instr.sameBits (n + 1) a' b' = true := by
  unfold sameKey at h
  split at h
  · rename_i n1 dep d t m dep' d' t'
    simp only [Bool.and_eq_true, beq_iff_eq] at h
    obtain ⟨rfl, h⟩ := h
    obtain ⟨xs, hs, _, hv, _, rfl⟩ := ha.agg_inv
    obtain ⟨ys, hs', _, hv', _, rfl⟩ := hb.agg_inv
    simp only [Go.Instr.sameBits, Bool.and_eq_true, beq_iff_eq]
    refine ⟨by rw [hs, hs'], List.all_eq_true.2 fun p hp => ?_⟩
    obtain ⟨i, hi, e⟩ := List.mem_iff_getElem.1 hp
    simp only [List.length_zip, Array.length_toList] at hi
    rw [List.getElem_zip] at e
    subst e
    have h1 := List.all_eq_true.1 h i (List.mem_range.2 (by omega))
    have e1 : xs.toList[i]'(by simp; omega) = xs.getD i undef := by
      rw [Array.getD_eq_getD_getElem?, Array.getElem?_eq_getElem (by omega)]; simp
    have e2 : ys.toList[i]'(by simp; omega) = ys.getD i undef := by
      rw [Array.getD_eq_getD_getElem?, Array.getElem?_eq_getElem (by omega)]; simp
    rw [e1, e2]
    exact sameScalar_bits h1 (hv i (by omega)) (hv' i (by omega)) n
  · exact sameScalar_bits h ha hb _

/-- A lookup's search. -/
def Found (r : Option (Nat × AV × AV × Nat)) (es : List (AV × AV × Nat)) (ms : List MapEntry) (i : Nat) (x : Option (Nat × Value)) : Prop :=
  match r with
  | none => x = none
  | some (j, ka, v, b) => ∃ (h : j - i < es.length) (h' : j - i < ms.length), i ≤ j ∧ es[j - i] = (ka, v, b) ∧ x = some (j, ms[j - i].val)

omit [Val] in
theorem Found.cons {r : Option (Nat × AV × AV × Nat)} {es : List (AV × AV × Nat)} {ms : List MapEntry} {i : Nat} {x : Option (Nat × Value)} (h : Found r es ms (i + 1) x)
    (e : AV × AV × Nat) (m : MapEntry) : Found r (e :: es) (m :: ms) i x := by
  cases r with
  | none => exact h
  | some y =>
    obtain ⟨j, ka', v', b'⟩ := y
    obtain ⟨h1, h2, h3, h4, h5⟩ := h
    have ej : j - i = (j - (i + 1)) + 1 := by omega
    refine ⟨by simp; omega, by simp; omega, by omega, ?_, ?_⟩
    · simp only [ej, List.getElem_cons_succ]; exact h4
    · rw [h5]; simp only [ej, List.getElem_cons_succ]

theorem findA_asks {kt : TypeId} {k : AV} {k' : Value} (hk : VR φ k k') (w : World) : ∀ (es : List (AV × AV × Nat)) (ms : List MapEntry) (i : Nat) (r : Option (Nat × AV × AV × Nat)),
    findA P kt k es i = some r → ms.length = es.length → (∀ j (h : j < es.length) (h' : j < ms.length), ER φ es[j] ms[j]) →
    ∃ x, (Go.Instr.findAsking kt k' ms i).run P w = .ok x w ∧ Found r es ms i x := by
  intro es
  induction es with
  | nil =>
    intro ms i r h hl _
    have : ms = [] := by simpa using hl
    subst this
    simp only [findA, Option.some.injEq] at h
    subst h
    exact ⟨none, by simp [Go.Instr.findAsking], rfl⟩
  | cons e es ih =>
    intro ms i r h hl he
    obtain ⟨ka, v, b⟩ := e
    cases ms with
    | nil => simp at hl
    | cons m ms =>
      have h0 := he 0 (by simp) (by simp)
      simp only [List.getElem_cons_zero] at h0
      simp only [findA] at h
      split at h
      · rename_i heq
        simp only [Option.some.injEq] at h
        subst h
        have hr := eqT_ok (P := P) 8 kt k ka true heq hk h0.key Op.maxDepth w (by decide)
        exact ⟨some (i, m.val), by simp [Go.Instr.findAsking, Op.equal, hr], by simp, by simp, Nat.le_refl _, by simp, by simp⟩
      · rename_i heq
        have hr := eqT_ok (P := P) 8 kt k ka false heq hk h0.key Op.maxDepth w (by decide)
        obtain ⟨x, hx, hrest⟩ := ih ms (i + 1) r h (by simpa using hl) (fun j h1 h2 => by
          have := he (j + 1) (by simp; omega) (by simp; omega)
          simpa using this)
        exact ⟨x, by simpa [Go.Instr.findAsking, Op.equal, hr] using hx, hrest.cons _ _⟩
      · simp at h

def narrow : TypeDesc → Bool
  | .bool | .int _ | .string => true
  | _ => false

theorem findA_now {kt : TypeId} {kd : TypeDesc} (hu : P.underlying kt = some kd) (hn : narrow kd = true) {k : AV} {k' : Value} (hk : VR φ k k') :
    ∀ (es : List (AV × AV × Nat)) (ms : List MapEntry) (i : Nat) (r : Option (Nat × AV × AV × Nat)),
    findA P kt k es i = some r → ms.length = es.length → (∀ j (h : j < es.length) (h' : j < ms.length), ER φ es[j] ms[j]) →
    ∃ x, Go.Instr.findNow kd k' ms i = some x ∧ Found r es ms i x := by
  intro es
  induction es with
  | nil =>
    intro ms i r h hl _
    have : ms = [] := by simpa using hl
    subst this
    simp only [findA, Option.some.injEq] at h
    subst h
    exact ⟨none, rfl, rfl⟩
  | cons e es ih =>
    intro ms i r h hl he
    obtain ⟨ka, v, b⟩ := e
    cases ms with
    | nil => simp at hl
    | cons m ms =>
      have h0 := he 0 (by simp) (by simp)
      simp only [List.getElem_cons_zero] at h0
      have same : ∀ r, eqT P 8 kt k ka = some r → Go.Instr.sameNow kd k' m.key = some r := by
        intro r hr
        unfold eqT at hr
        rw [hu] at hr
        cases kd <;> simp only [narrow, Bool.false_eq_true] at hn
        · cases k <;> simp only [reduceCtorEq] at hr
          cases ka <;> simp only [reduceCtorEq, Option.some.injEq] at hr
          rw [hk.bool_inv, h0.key.bool_inv]
          simp [Go.Instr.sameNow, hr]
        · cases k <;> simp only [reduceCtorEq] at hr
          · cases ka <;> simp only [reduceCtorEq] at hr
            · rw [hk.int_inv, h0.key.int_inv]
              split at hr
              · rename_i e; subst e
                simpa [Go.Instr.sameNow] using hr
              · simp at hr
            · rename_i kA a kB lo hi ee
              obtain ⟨n, e1, _, _, hl1, hh1⟩ := h0.key.sym_inv
              rw [hk.int_inv, e1]
              split at hr
              · rename_i e; subst e
                cases hd : (decide (hi < a) || decide (a < lo)) with
                | true =>
                  rw [hd] at hr
                  simp only [cond_true, Option.some.injEq] at hr
                  simp only [Bool.or_eq_true, decide_eq_true_eq] at hd
                  have : (a == n) = false := by simp; omega
                  simp [Go.Instr.sameNow, ← hr, this]
                | false => rw [hd] at hr; simp at hr
              · simp at hr
          · cases ka <;> simp only [reduceCtorEq] at hr
            · rename_i kA lo hi ee kB a
              obtain ⟨n, e1, _, _, hl1, hh1⟩ := hk.sym_inv
              rw [h0.key.int_inv, e1]
              split at hr
              · rename_i e; subst e
                cases hd : (decide (hi < a) || decide (a < lo)) with
                | true =>
                  rw [hd] at hr
                  simp only [cond_true, Option.some.injEq] at hr
                  simp only [Bool.or_eq_true, decide_eq_true_eq] at hd
                  have : (n == a) = false := by simp; omega
                  simp [Go.Instr.sameNow, ← hr, this]
                | false => rw [hd] at hr; simp at hr
              · simp at hr
            · rename_i kA lo hi ee kB lo' hi' ee'
              obtain ⟨n, e1, q1, _, hl1, hh1⟩ := hk.sym_inv
              obtain ⟨n', e2, q2, _, hl2, hh2⟩ := h0.key.sym_inv
              rw [e1, e2]
              split at hr
              · rename_i e; subst e
                cases hs : ee.same ee' with
                | true =>
                  rw [hs] at hr
                  simp only [cond_true, Option.some.injEq] at hr
                  obtain rfl := E.eq_of_same hs
                  obtain rfl := q1.symm.trans q2
                  simp [Go.Instr.sameNow, ← hr]
                | false =>
                  rw [hs] at hr
                  simp only [cond_false] at hr
                  cases hd : (decide (hi < lo') || decide (hi' < lo)) with
                  | true =>
                    rw [hd] at hr
                    simp only [cond_true, Option.some.injEq] at hr
                    simp only [Bool.or_eq_true, decide_eq_true_eq] at hd
                    have : (n == n') = false := by simp; omega
                    simp [Go.Instr.sameNow, ← hr, this]
                  | false => rw [hd] at hr; simp at hr
              · simp at hr
        · cases k <;> simp only [reduceCtorEq] at hr
          cases ka <;> simp only [reduceCtorEq, Option.some.injEq] at hr
          obtain ⟨s, rfl, rfl⟩ := hk.str_inv
          obtain ⟨s', e1, rfl⟩ := h0.key.str_inv
          rw [e1]
          rw [bytes_beq, ← beq_toListBytes] at hr
          simp [Go.Instr.sameNow, hr]
      simp only [findA] at h
      split at h
      · rename_i heq
        simp only [Option.some.injEq] at h
        subst h
        exact ⟨some (i, m.val), by simp [Go.Instr.findNow, same _ heq], by simp, by simp, Nat.le_refl _, by simp, by simp⟩
      · rename_i heq
        obtain ⟨x, hx, hrest⟩ := ih ms (i + 1) r h (by simpa using hl) (fun j h1 h2 => by
          have := he (j + 1) (by simp; omega) (by simp; omega)
          simpa using this)
        exact ⟨x, by simpa [Go.Instr.findNow, same _ heq] using hx, hrest.cons _ _⟩
      · simp at h

theorem findKey_ok {kt : TypeId} {k : AV} {k' : Value} (hk : VR φ k k') (hc : ckT P 8 kt k = true) (w : World) {es : List (AV × AV × Nat)} {ms : Array MapEntry}
    {r : Option (Nat × AV × AV × Nat)} (h : findA P kt k es 0 = some r) (hl : ms.size = es.length) (he : ∀ j (h : j < es.length) (h' : j < ms.size), ER φ es[j] ms[j]) :
    ∃ x, (Go.Instr.findKey kt k' ms.toList).run P w = .ok x w ∧ Found r es ms.toList 0 x := by
  have hl' : ms.toList.length = es.length := by simpa using hl
  have he' : ∀ j (h : j < es.length) (h' : j < ms.toList.length), ER φ es[j] ms.toList[j] := fun j h1 h2 => by
    have := he j h1 (by simpa using h2)
    simpa using this
  cases hu : P.underlying kt with
  | none => simp [ckT, hu] at hc
  | some kd =>
    cases hn : narrow kd with
    | true =>
      obtain ⟨x, hx, hf⟩ := findA_now hu hn hk es ms.toList 0 r h hl' he'
      exact ⟨x, by simp [Go.Instr.findKey, run_und hu, hx], hf⟩
    | false =>
      obtain ⟨x, hx, hf⟩ := findA_asks (P := P) hk w es ms.toList 0 r h hl' he'
      refine ⟨x, ?_, hf⟩
      simp only [Go.Instr.findKey, Sem.run_bind, run_und hu, Result.andThen_ok]
      obtain ⟨fs, rfl⟩ : ∃ fs, kd = .struct fs := by
        unfold ckT at hc
        rw [hu] at hc
        cases kd <;> first | exact ⟨_, rfl⟩ | (simp [narrow] at hn; done) | (cases k <;> simp at hc; done)
      cases hms : ms.toList with
      | nil =>
        rw [hms] at hx
        simp only [Go.Instr.findNow]
        simp only [Go.Instr.findAsking, Sem.run_pure, Result.ok.injEq, and_true] at hx
        subst hx
        rfl
      | cons m l =>
        rw [hms] at hx
        simp only [Go.Instr.findNow, Go.Instr.sameNow]
        exact hx

end
end Go.Ab
