/-
  The abstract machine's ways to places and parts (index, slice, field, length, conversion of kinds) come to what the model's come to.
  Conditions: those that each lemma names.
-/
import Derived.Test.YtiajkflemnaabaaGreatBbG
import Derived.Lib.Strings
namespace Go.Ab
variable [Val]

section
variable {P : Program} {G : Nat} {φ : Phi} {h : H} {w : World}

theorem natOf_ok {a : AV} {n : Nat} (hn : natOf a = some n) {a' : Value} (ha : VR φ a a') : ∃ k i, a' = .int k i ∧ 0 ≤ i ∧ n = i.toNat := by
  unfold natOf at hn
  split at hn
  · split at hn
    · rename_i hi
      exact ⟨_, _, ha.int_inv, hi, by simpa using hn.symm⟩
    · simp at hn
  · simp at hn

/-- An optional bound. -/
def BR (x' : Option Value) (n dflt : Nat) : Prop := (x' = none ∧ n = dflt) ∨ ∃ k i, x' = some (.int k i) ∧ 0 ≤ i ∧ n = i.toNat

theorem bound_ok {ρ : Operand → AV} {ρ' : Operand → Value} (hρ : ∀ x, VR φ (ρ x) (ρ' x)) {x : Option Operand} {d n : Nat} (hb : bound (x.map ρ) d = some n) : BR (x.map ρ') n d := by
  cases x with
  | none => simp only [bound, Option.map_none, Option.some.injEq] at hb; exact .inl ⟨rfl, hb.symm⟩
  | some x =>
    simp only [bound, Option.map_some] at hb
    obtain ⟨k, i, e, h0, hn⟩ := natOf_ok hb (hρ x)
    exact .inr ⟨k, i, by simp [e], h0, hn⟩

omit [Val] in
theorem run_sliceBound {k : IntKind} {i : Int} {y : Nat} (code : BoundsCode) (h0 : 0 ≤ i) (hy : i.toNat ≤ y) : (Instr.sliceBound (.int k i) y code).run P w = .ok i.toNat w := by
  have : 0 ≤ i ∧ i ≤ (y : Int) := ⟨h0, by omega⟩
  simp [Instr.sliceBound, asIntOf, this]

omit [Val] in
theorem run_sliceBounds {isSlice : Bool} {len cap l hh : Nat} {lo hi : Option Value} (hl : BR lo l 0) (hhi : BR hi hh len) (h1 : l ≤ hh) (h2 : hi = none ∨ hh ≤ cap) :
    (Instr.sliceBounds isSlice len cap lo hi none).run P w = .ok (l, hh, cap) w := by
  rcases hl with ⟨rfl, rfl⟩ | ⟨k, i, rfl, hi0, rfl⟩ <;> rcases hhi with ⟨rfl, rfl⟩ | ⟨k', i', rfl, hi0', rfl⟩
  · simp [Instr.sliceBounds]
  · have h2' : i'.toNat ≤ cap := h2.resolve_left (by simp)
    simp [Instr.sliceBounds, run_sliceBound _ hi0' h2']
  · simp [Instr.sliceBounds, run_sliceBound _ hi0 h1]
  · have h2' : i'.toNat ≤ cap := h2.resolve_left (by simp)
    simp [Instr.sliceBounds, run_sliceBound _ hi0' h2', run_sliceBound _ hi0 h1]

omit [Val] in
theorem run_sliceBounds3 {isSlice : Bool} {len cap l hh m : Nat} {lo hi mx : Option Value} (hl : BR lo l 0) (hhi : BR hi hh len) (his : hi.isSome = true) {k : IntKind} {i : Int}
    (hm : mx = some (.int k i)) (h0 : 0 ≤ i) (hmi : m = i.toNat) (h1 : l ≤ hh) (h2 : hh ≤ m) (h3 : m ≤ cap) :
    (Instr.sliceBounds isSlice len cap lo hi mx).run P w = .ok (l, hh, m) w := by
  subst hm hmi
  rcases hhi with ⟨rfl, rfl⟩ | ⟨k', i', rfl, hi0', rfl⟩
  · simp at his
  · rcases hl with ⟨rfl, rfl⟩ | ⟨k2, i2, rfl, hi0, rfl⟩
    · simp [Instr.sliceBounds, run_sliceBound _ h0 h3, run_sliceBound _ hi0' h2]
    · simp [Instr.sliceBounds, run_sliceBound _ h0 h3, run_sliceBound _ hi0' h2, run_sliceBound _ hi0 h1]

theorem slice_vr {id off cap esz b base cs o c l hh m : Nat} {ex' : Bool} (hp : φ id = some (b, base, cs)) (ho : o = base + off ∨ c = 0) (hc : cap ≤ c)
    (hcs : o + c * esz ≤ cs) (hz : 0 < esz) (h1 : l ≤ hh) (h2 : hh ≤ cap) {cap' : Nat} (hm : cap' ≤ m - l) (hml : hh ≤ m) (hmc : m ≤ c) (hex : ex' = true → m - l = cap') (hlen : hh - l ≤ cap') :
    VR φ (.slice id (off + l * esz) (hh - l) cap' ex' esz) (.slice (if m = l then some ⟨b, o, none⟩ else (some (⟨b, o, none⟩ : Addr)).map (·.add (l * esz))) (hh - l) (m - l)) := by
  by_cases e : m = l
  · rw [if_pos e]
    have e0 : m - l = 0 := by omega
    refine .slice hp (.inr e0) hlen hm (fun x => hex x) ?_ hz
    rw [e0]
    have : c * esz ≥ 0 := Nat.zero_le _
    omega
  · rw [if_neg e]
    simp only [Option.map_some, add_none]
    refine .slice hp (.inl ?_) hlen hm (fun x => hex x) ?_ hz
    · rcases ho with ho | ho <;> omega
    · have e1 : l * esz + (m - l) * esz = m * esz := by rw [← Nat.add_mul]; congr 1; omega
      have e2 : m * esz ≤ c * esz := Nat.mul_le_mul_right _ hmc
      omega

omit [Val] in
theorem drop_take_eq {α : Type} (s : List α) (l hh : Nat) : (s.take hh).drop l = (s.drop l).take (hh - l) := by
  rw [List.drop_take]

theorem roomA_ok (hr : HR G φ h w) {id b base cs k : Nat} (hp : φ id = some (b, base, cs)) (hk : roomA h id k = true) : base + k ≤ cs := by
  unfold roomA at hk
  split at hk
  · rename_i m dep d t hg
    have := obj_cells hr hg hp
    have := Nat.le_of_ble_eq_true hk
    omega
  · simp at hk

omit [Val] in
theorem size_some {t : TypeId} {n : Nat} (h : size? P t = some n) : ∃ i, P.info? t = some i ∧ i.size = n := by
  unfold size? at h
  cases hi : P.info? t with
  | none => rw [hi] at h; simp at h
  | some i => rw [hi] at h; exact ⟨i, rfl, by simpa using h⟩

theorem sliceA_ok (hr : HR G φ h w) {ρ : Operand → AV} {ρ' : Operand → Value} (hρ : ∀ x, VR φ (ρ x) (ρ' x)) {t : TypeId} {x : Operand} {lo hi mx : Option Operand} {v : AV}
    (hs : sliceA P t (ρ x) (lo.map ρ) (hi.map ρ) (mx.map ρ) h = some v) : ∃ v', (Instr.sliceAt t (ρ' x) (lo.map ρ') (hi.map ρ') (mx.map ρ')).run P w = .ok v' w ∧ VR φ v v' := by
  have hx := hρ x
  have hiSome : (hi.map ρ').isSome = (hi.map ρ).isSome := by cases hi <;> rfl
  unfold sliceA at hs
  split at hs
  · rename_i s hu heq
    rw [heq] at hx
    obtain ⟨s, e, rfl⟩ := hx.str_inv
    rw [e]
    split at hs
    · rename_i l hh hmx hlo hhi
      split at hs
      · rename_i hle
        simp only [Option.some.injEq] at hs
        subst hs
        obtain rfl : mx = none := by cases mx <;> simp_all
        have b1 := bound_ok hρ hlo
        have b2 := bound_ok hρ hhi
        have hlen : (s.data.toList.map UInt8.toNat).length = s.size := by rw [List.length_map, Array.length_toList]; rfl
        rw [hlen] at b2 hle
        refine ⟨.string (s.extract l hh), ?_, ?_⟩
        · simp only [Instr.sliceAt, Sem.run_bind, run_und hu, Result.andThen_ok, Instr.slice, Option.map_none, Option.isSome_none, Bool.false_eq_true, if_false, run_sliceBounds b1 b2 hle.1 (.inr hle.2), Sem.run_pure]
        · have := VR.str (φ := φ) (s.extract l hh)
          rw [Lib.extract_data] at this
          rw [drop_take_eq]
          simpa [List.map_take, List.map_drop] using this
      · simp at hs
    · simp at hs
  · rename_i e id off len cap ex esz hu heq
    rw [heq] at hx
    obtain ⟨b, base, cs, o, c, hp, ho, hl, hc, he, hcs, hz, e'⟩ := hx.slice_inv
    rw [e']
    split at hs
    · rename_i sz l hh hsz hlo hhi
      have b1 := bound_ok hρ hlo
      have b2 := bound_ok hρ hhi
      split at hs
      · rename_i hmx
        obtain rfl : mx = none := by cases mx <;> simp_all
        split at hs
        · rename_i hle
          obtain ⟨rfl, h1, h2⟩ := hle
          simp only [Option.some.injEq] at hs
          subst hs
          refine ⟨_, ?_, slice_vr hp ho hc hcs hz h1 h2 (m := c) (cap' := cap - l) (by omega) (by omega) (Nat.le_refl _) (fun x => by rw [he x]) (by omega)⟩
          simp only [Instr.sliceAt, Sem.run_bind, run_und hu, Result.andThen_ok, Instr.slice, Option.map_none, run_sliceBounds (P := P) (w := w) (isSlice := true) (len := len) (cap := c) b1 b2 h1 (.inr (by omega)), run_size hsz, Sem.run_pure]
        · simp at hs
      · rename_i mv hmx
        split at hs
        · rename_i m hm
          split at hs
          · rename_i hle
            obtain ⟨rfl, hsome, h1, h2, h3⟩ := hle
            simp only [Option.some.injEq] at hs
            subst hs
            obtain ⟨mo, rfl, rfl⟩ : ∃ mo, mx = some mo ∧ mv = ρ mo := by cases mx <;> simp_all
            obtain ⟨k, i, e2, h0, hmi⟩ := natOf_ok hm (hρ mo)
            refine ⟨_, ?_, slice_vr hp ho hc hcs hz h1 (by omega) (m := m) (cap' := m - l) (Nat.le_refl _) (by omega) (by omega) (fun _ => rfl) (by omega)⟩
            simp only [Instr.sliceAt, Sem.run_bind, run_und hu, Result.andThen_ok, Instr.slice, Option.map_some,
              run_sliceBounds3 (P := P) (w := w) (isSlice := true) (len := len) (cap := c) (mx := some (ρ' mo)) b1 b2 (by rw [hiSome]; exact hsome) (k := k) (i := i) (by rw [e2]) h0 hmi h1 h2 (by omega), run_size hsz, Sem.run_pure]
          · simp at hs
        · simp at hs
    · simp at hs
  · rename_i e hu heq
    rw [heq] at hx
    rw [hx.nils_inv]
    split at hs
    · rename_i sz hse hmx hlo hhi
      simp only [Option.some.injEq] at hs
      subst hs
      obtain rfl : mx = none := by cases mx <;> simp_all
      have b1 := bound_ok hρ hlo
      have b2 := bound_ok hρ hhi
      refine ⟨.slice none 0 0, ?_, .nils⟩
      simp only [Instr.sliceAt, Sem.run_bind, run_und hu, Result.andThen_ok, Instr.slice, Option.map_none, run_sliceBounds b1 b2 (Nat.le_refl _) (.inr (Nat.le_refl _)), run_size hse, Sem.run_pure, if_true, Nat.sub_self]
    · simp at hs
  · rename_i n e id off hu heq
    rw [heq] at hx
    obtain ⟨b, base, cs, hp, e'⟩ := hx.ptr_inv
    rw [e']
    split at hs
    · rename_i sz l hh hsz hlo hhi hmx
      obtain rfl : mx = none := by cases mx <;> simp_all
      have b1 := bound_ok hρ hlo
      have b2 := bound_ok hρ hhi
      split at hs
      · rename_i hle
        obtain ⟨h1, h2, h3⟩ := hle
        simp only [Option.some.injEq] at hs
        subst hs
        have hroom := roomA_ok hr hp h3
        refine ⟨_, ?_, slice_vr (o := base + off) (c := n) (cap := n) hp (.inl rfl) (Nat.le_refl _) (by omega) (by omega) h1 h2 (m := n) (cap' := n - l) (Nat.le_refl _) (by omega) (Nat.le_refl _) (fun _ => rfl) (by omega)⟩
        simp only [Instr.sliceAt, Sem.run_bind, run_und hu, Result.andThen_ok, Instr.sureAddr, Option.map_none, run_sliceBounds b1 b2 h1 (.inr h2), run_size hsz, Sem.run_pure, Option.map_some, add_none]
        congr 2
        split <;> rfl
      · simp at hs
    · simp at hs
  · rename_i a id off hu heq
    rw [heq] at hx
    obtain ⟨b, base, cs, hp, e'⟩ := hx.ptr_inv
    rw [e']
    split at hs
    · rename_i n e hua
      split at hs
      · rename_i sz l hh hsz hlo hhi hmx
        obtain rfl : mx = none := by cases mx <;> simp_all
        have b1 := bound_ok hρ hlo
        have b2 := bound_ok hρ hhi
        split at hs
        · rename_i hle
          obtain ⟨h1, h2, h3⟩ := hle
          simp only [Option.some.injEq] at hs
          subst hs
          have hroom := roomA_ok hr hp h3
          refine ⟨_, ?_, slice_vr (o := base + off) (c := n) (cap := n) hp (.inl rfl) (Nat.le_refl _) (by omega) (by omega) h1 h2 (m := n) (cap' := n - l) (Nat.le_refl _) (by omega) (Nat.le_refl _) (fun _ => rfl) (by omega)⟩
          simp only [Instr.sliceAt, Instr.slice, asAddr, Sem.run_bind, run_und hu, run_und hua, Result.andThen_ok, Option.map_none, run_sliceBounds b1 b2 h1 (.inr h2), run_size hsz, Sem.run_pure, Option.map_some, add_none]
          congr 2
          split <;> rfl
        · simp at hs
      · simp at hs
    · simp at hs
  · simp at hs

omit [Val] in
theorem field?_ok {s : TypeId} {f fo sz : Nat} {ft : TypeId} (hf : field? P s f = some (fo, ft, sz)) :
    ∃ fields x, P.underlying s = some (.struct fields) ∧ fields[f]? = some x ∧ x.offset = fo ∧ x.type = ft ∧ size? P ft = some sz ∧ 0 < sz := by
  unfold field? at hf
  split at hf
  · rename_i fields hu
    split at hf
    · rename_i x hx
      split at hf
      · rename_i sz' hsz
        simp only [Option.some.injEq, Prod.mk.injEq] at hf
        obtain ⟨rfl, rfl, rfl⟩ := hf
        exact ⟨fields, x, hu, hx, rfl, rfl, hsz, by omega⟩
      · simp at hf
    · simp at hf
  · simp at hf

theorem fieldAddr_ok {s : TypeId} {f fo sz : Nat} {ft : TypeId} (hf : field? P s f = some (fo, ft, sz)) {id off : Nat} {v : Value} (hv : VR φ (.ptr id off) v) :
    ∃ v', (Instr.fieldAt s v f).run P w = .ok v' w ∧ VR φ (.ptr id (off + fo)) v' := by
  obtain ⟨fields, x, hu, hx, rfl, rfl, hsz, hpos⟩ := field?_ok hf
  obtain ⟨b, base, cs, hp, rfl⟩ := hv.ptr_inv
  refine ⟨.pointer (some ⟨b, base + (off + x.offset), none⟩), ?_, .ptr hp⟩
  have hne : ¬ sz = 0 := by omega
  simp only [Instr.fieldAt, Sem.run_bind, run_und hu, Result.andThen_ok, hx, Instr.sureAddr, Sem.run_pure, fieldPlace, run_size hsz, hne, if_false, add_none, Nat.add_assoc]

theorem indexAddrA_ok {t : TypeId} {x i : AV} {r : AR} (hr : indexAddrA P t x i h = some r) {x' i' : Value} (hx : VR φ x x') (hi : VR φ i i') :
    ∃ v v', r = .val v h ∧ (Instr.indexAt t x' i').run P w = .ok v' w ∧ VR φ v v' := by
  unfold indexAddrA at hr
  split at hr
  · rename_i k n
    obtain rfl := hi.int_inv
    split at hr
    · rename_i len e id off hu
      obtain ⟨b, base, cs, hp, rfl⟩ := hx.ptr_inv
      split at hr
      · rename_i sz hsz
        split at hr
        · rename_i hle
          simp only [Option.some.injEq] at hr
          subst hr
          refine ⟨_, .pointer (some ⟨b, base + (off + n.toNat * (sz + 1)), none⟩), rfl, ?_, .ptr hp⟩
          simp only [Instr.indexAt, asIntOf, Sem.run_bind, Sem.run_pure, Result.andThen_ok, run_und hu, Instr.sureAddr, hle.1, hle.2, and_self, if_true, run_size hsz, add_none, Nat.add_assoc]
        · simp at hr
      · simp at hr
    · rename_i e id off len cap ex esz hu
      obtain ⟨b, base, cs, o, c, hp, ho, hl, hc, he, hcs, hz, rfl⟩ := hx.slice_inv
      split at hr
      · rename_i sz hsz
        split at hr
        · rename_i hle
          obtain ⟨h0, h1, rfl⟩ := hle
          simp only [Option.some.injEq] at hr
          subst hr
          have ho' : o = base + off := by rcases ho with ho | ho <;> omega
          refine ⟨_, .pointer (some ⟨b, base + (off + n.toNat * (sz + 1)), none⟩), rfl, ?_, .ptr hp⟩
          simp only [Instr.indexAt, asIntOf, Sem.run_bind, Sem.run_pure, Result.andThen_ok, run_und hu, h0, h1, and_self, if_true, run_size hsz, add_none, ho', Nat.add_assoc]
        · simp at hr
      · simp at hr
    · simp at hr
  · simp at hr

theorem indexA_ok {t : TypeId} {x i v : AV} (hr : indexA P t x i = some v) {x' i' : Value} (hx : VR φ x x') (hi : VR φ i i') :
    ∃ v', (Instr.index t x' i').run P w = .ok v' w ∧ VR φ v v' := by
  unfold indexA at hr
  split at hr
  · rename_i k n
    obtain rfl := hi.int_inv
    split at hr
    · rename_i len e m dep d tr hu
      obtain ⟨a, _, _, _, _, rfl⟩ := hx.agg_inv
      split at hr
      · rename_i sz hsz
        split at hr
        · rename_i hle
          obtain ⟨v', hrun, hv⟩ := partA_ok hx hr w
          refine ⟨v', ?_, hv⟩
          simp only [Instr.index, asIntOf, Sem.run_bind, Sem.run_pure, Result.andThen_ok, run_und hu, hle.1, hle.2, and_self, if_true, run_size hsz, hrun]
        · simp at hr
      · simp at hr
    · rename_i s hu
      obtain ⟨s, rfl, rfl⟩ := hx.str_inv
      split at hr
      · rename_i h0
        cases hb : (s.data.toList.map UInt8.toNat)[n.toNat]? with
        | none => rw [hb] at hr; simp at hr
        | some c =>
          rw [hb] at hr
          simp only [Option.map_some, Option.some.injEq] at hr
          subst hr
          rw [List.getElem?_map] at hb
          cases hb2 : s.data.toList[n.toNat]? with
          | none => rw [hb2] at hb; simp at hb
          | some u =>
            rw [hb2] at hb
            simp only [Option.map_some, Option.some.injEq] at hb
            subst hb
            have hs2 : s[n.toNat]? = some u := by
              rw [Array.getElem?_toList] at hb2
              exact hb2
            refine ⟨.int .u8 u.toNat, ?_, .int _ _⟩
            simp only [Instr.index, asIntOf, Sem.run_bind, Sem.run_pure, Result.andThen_ok, run_und hu, h0, if_true, hs2]
      · simp at hr
    · simp at hr
  · simp at hr

theorem lenOfA_ok (hr : HR G φ h w) {t : TypeId} {x v : AV} (hl : lenOfA P t x h = some v) {x' : Value} (hx : VR φ x x') {ts : Array TypeId} (ht : ts[0]? = some t) (ty : TypeId) :
    ∃ v', (Builtin.len_ ts ty #[x']).run P w = .ok v' w ∧ VR φ v v' := by
  unfold lenOfA at hl
  split at hl
  · rename_i s hu
    obtain ⟨s, rfl, rfl⟩ := hx.str_inv
    simp only [Option.some.injEq] at hl
    subst hl
    refine ⟨.int .i64 s.size, by simp [Builtin.len_, ht, run_und hu, goInt], ?_⟩
    rw [List.length_map, Array.length_toList]
    exact .int _ _
  · rename_i n e hu
    simp only [Option.some.injEq] at hl
    subst hl
    exact ⟨.int .i64 n, by simp [Builtin.len_, ht, run_und hu, goInt], .int _ _⟩
  · rename_i e hu
    obtain rfl := hx.nils_inv
    simp only [Option.some.injEq] at hl
    subst hl
    exact ⟨.int .i64 0, by simp [Builtin.len_, ht, run_und hu, goInt], .int _ _⟩
  · rename_i e id off len cap ex esz hu
    obtain ⟨b, base, cs, o, c, hp, ho, hl', hc, he, hcs, hz, rfl⟩ := hx.slice_inv
    simp only [Option.some.injEq] at hl
    subst hl
    exact ⟨.int .i64 len, by simp [Builtin.len_, ht, run_und hu, goInt], .int _ _⟩
  · rename_i k e hu
    obtain rfl := hx.nilm_inv
    simp only [Option.some.injEq] at hl
    subst hl
    exact ⟨.int .i64 0, by simp [Builtin.len_, ht, run_und hu, goInt], .int _ _⟩
  · rename_i k e id hu
    obtain ⟨p, hp, rfl⟩ := hx.map_inv
    split at hl
    · rename_i es clock hg
      simp only [Option.some.injEq] at hl
      subst hl
      obtain ⟨ents, hb, hsz, _⟩ := hr.obj _ _ _ hg hp
      refine ⟨.int .i64 ents.size, ?_, by rw [hsz]; exact .int _ _⟩
      simp [Builtin.len_, ht, run_und hu, goInt, getObj, Sem.run, hb]
    · simp at hl
  · simp at hl

theorem mm_ok (mx : Bool) : ∀ (l : List AV) (x v : AV) (l' : List Value) (x' : Value), mm mx x l = some v → VR φ x x' → l'.length = l.length →
    (∀ i, i < l.length → VR φ (l.getD i .junk) (l'.getD i undef)) → ∃ v', (l'.foldlM (if mx then Builtin.max2 else Builtin.min2) x').run P w = .ok v' w ∧ VR φ v v' := by
  intro l
  induction l with
  | nil =>
    intro x v l' x' hm hx hl _
    obtain rfl : l' = [] := by simpa using hl
    simp only [mm, Option.some.injEq] at hm
    subst hm
    exact ⟨x', by simp, hx⟩
  | cons y l ih =>
    intro x v l' x' hm hx hl he
    cases l' with
    | nil => simp at hl
    | cons y' l' =>
      have hy : VR φ y y' := by simpa using he 0 (by simp)
      unfold mm at hm
      split at hm
      · simp_all
      · rename_i k a k' b r heq
        simp only [List.cons.injEq] at heq
        obtain ⟨rfl, rfl⟩ := heq
        obtain rfl := hx.int_inv
        obtain rfl := hy.int_inv
        obtain ⟨v', hrun, hv⟩ := ih _ v l' (.int k (if mx then (if b > a then b else a) else (if b < a then b else a))) hm (.int _ _) (by simpa using hl) (fun i hi => by
          have := he (i + 1) (by simp; omega)
          simpa using this)
        refine ⟨v', ?_, hv⟩
        rw [List.foldlM_cons, Sem.run_bind]
        cases mx
        · simp only [Bool.false_eq_true, if_false] at hrun ⊢
          simp only [Builtin.min2, Sem.run_pure, Result.andThen_ok]
          exact hrun
        · simp only [if_true] at hrun ⊢
          simp only [Builtin.max2, Sem.run_pure, Result.andThen_ok]
          exact hrun
      · rename_i x0 y0 r0 _ heq
        simp only [List.cons.injEq] at heq
        obtain ⟨rfl, rfl⟩ := heq
        split at hm
        · rename_i k l₁ h₁ e₁ k' l₂ h₂ e₂ ex ey
          obtain ⟨a, rfl, a1, a2, a3, a4⟩ := asSym_vr ex hx
          obtain ⟨b, rfl, b1, b2, b3, b4⟩ := asSym_vr ey hy
          obtain ⟨v', hrun, hv⟩ := ih _ v l' (.int k (if mx then (if b > a then b else a) else (if b < a then b else a))) hm (mkS_vr (by
              cases mx
              · simp only [Bool.false_eq_true, if_false, E.eval, a1, b1]
              · simp only [if_true, E.eval, a1, b1]) (by cases mx <;> exact ⟨a2, b2⟩) (by
              cases mx
              · simp only [Bool.false_eq_true, if_false]; split <;> split <;> omega
              · simp only [if_true]; split <;> split <;> omega) (by
              cases mx
              · simp only [Bool.false_eq_true, if_false]; split <;> split <;> omega
              · simp only [if_true]; split <;> split <;> omega)) (by simpa using hl) (fun i hi => by
            have := he (i + 1) (by simp; omega)
            simpa using this)
          refine ⟨v', ?_, hv⟩
          rw [List.foldlM_cons, Sem.run_bind]
          cases mx
          · simp only [Bool.false_eq_true, if_false] at hrun ⊢
            simp only [Builtin.min2, Sem.run_pure, Result.andThen_ok]
            exact hrun
          · simp only [if_true] at hrun ⊢
            simp only [Builtin.max2, Sem.run_pure, Result.andThen_ok]
            exact hrun
        · simp at hm

theorem typeAssertA_ok {x v : AV} {t : TypeId} {ok : Bool} (hr : typeAssertA P x t ok = some v) {x' : Value} (hx : VR φ x x') (xt : TypeId) :
    ∃ v', (Instr.typeAssert x' xt t ok).run P w = .ok v' w ∧ VR φ v v' := by
  unfold typeAssertA at hr
  split at hr
  · simp at hr
  · rename_i d u a hni hu
    obtain ⟨a', ha, rfl⟩ := hx.iface_inv
    split at hr
    · rename_i e; subst e
      simp only [Option.some.injEq] at hr
      subst hr
      refine ⟨if ok then .tuple #[a', .bool true] else a', ?_, ?_⟩
      · cases d <;> first | (exact absurd rfl (hni _)) | simp [Instr.typeAssert, run_und hu]
      · cases ok
        · exact ha
        · exact (LR.two ha (.bool true)).tup
    · rename_i hne
      split at hr
      · rename_i hok
        subst hok
        cases hz : zero? P t with
        | none => rw [hz] at hr; simp at hr
        | some z =>
          rw [hz] at hr
          simp only [Option.map_some, Option.some.injEq] at hr
          subst hr
          obtain ⟨z', hzr, hzv⟩ := run_zero hz w φ
          refine ⟨.tuple #[z', .bool false], ?_, (LR.two hzv (.bool false)).tup⟩
          cases d <;> first | (exact absurd rfl (hni _)) | simp [Instr.typeAssert, run_und hu, hne, hzr]
      · simp at hr
  · rename_i d hni hu
    obtain rfl := hx.nili_inv
    split at hr
    · rename_i hok
      subst hok
      cases hz : zero? P t with
      | none => rw [hz] at hr; simp at hr
      | some z =>
        rw [hz] at hr
        simp only [Option.map_some, Option.some.injEq] at hr
        subst hr
        obtain ⟨z', hzr, hzv⟩ := run_zero hz w φ
        refine ⟨.tuple #[z', .bool false], ?_, (LR.two hzv (.bool false)).tup⟩
        cases d <;> first | (exact absurd rfl (hni _)) | simp [Instr.typeAssert, run_und hu, hzr]
    · simp at hr
  · simp at hr
end
end Go.Ab
