/-
  Every operation that the abstract machine carries out comes to what the model's comes to.
  Conditions: those that each lemma names.
-/
import Derived.Test.YtiajkflemnaabaaGreatBbL
namespace Go.Ab
variable [Val]

section
variable {P : Program} {G : Nat} {φ : Phi} {h : H} {w : World}

omit [Val] in
theorem args1 {ρ : Operand → AV} {a : Array Operand} {x : AV} (h : a.toList.map ρ = [x]) : ∃ o, a = #[o] ∧ x = ρ o := by
  cases a with
  | mk l => match l, h with
    | [o], h => exact ⟨o, rfl, by simpa using h.symm⟩

omit [Val] in
theorem args2 {ρ : Operand → AV} {a : Array Operand} {x y : AV} (h : a.toList.map ρ = [x, y]) : ∃ o p, a = #[o, p] ∧ x = ρ o ∧ y = ρ p := by
  cases a with
  | mk l => match l, h with
    | [o, p], h => simp only [List.map_cons, List.map_nil, List.cons.injEq, and_true] at h; exact ⟨o, p, rfl, h.1.symm, h.2.symm⟩

omit [Val] in
theorem args0 {ρ : Operand → AV} {a : Array Operand} (h : a.toList.map ρ = []) : a = #[] := by
  cases a with
  | mk l => match l, h with
    | [], h => rfl

omit [Val] in
theorem argsC {ρ : Operand → AV} {a : Array Operand} {x : AV} {r : List AV} (h : a.toList.map ρ = x :: r) : ∃ o l, a = (o :: l).toArray ∧ x = ρ o ∧ r = l.map ρ := by
  cases a with
  | mk l => match l, h with
    | o :: l, h => simp only [List.map_cons, List.cons.injEq] at h; exact ⟨o, l, rfl, h.1.symm, h.2.symm⟩

omit [Val] in
theorem map1 (f : Operand → Value) (o : Operand) : (#[o] : Array Operand).map f = #[f o] := by simp
omit [Val] in
theorem map2 (f : Operand → Value) (o p : Operand) : (#[o, p] : Array Operand).map f = #[f o, f p] := by simp

theorem builtinA_ok (hr : HR G φ h w) {ρ : Operand → AV} {ρ' : Operand → Value} (hρ : ∀ x, VR φ (ρ x) (ρ' x)) {b : Builtin} {c : Call} {r : AR} (hb : builtinA P ρ b c h = some r)
    (ty : TypeId) (consts : Array Bool) : OpR P G φ h w ((builtin b c.argTypes ty consts (c.args.map ρ')).run P w) r := by
  unfold builtinA at hb
  dsimp only at hb
  split at hb
  · rename_i s x hargs
    obtain ⟨o, p, he, rfl, rfl⟩ := args2 hargs
    have fin : ∀ t, c.argTypes[0]? = some t → (∀ u, c.argTypes[1]? = some u → ∃ d, P.underlying u = some d ∧ ∀ k, d ≠ .int k) → val2 (appendA P t (ρ o) (ρ p) h) = some r →
        OpR P G φ h w ((builtin .append c.argTypes ty consts (c.args.map ρ')).run P w) r := by
      intro t h0 h1 hv
      obtain ⟨a, h', ha, rfl⟩ := val2_inv hv
      rw [he, map2]
      exact .value (appendA_ok hr ha (hρ o) (hρ p) h0 h1 ty)
    split at hb
    · rename_i t u h0 h1
      split at hb
      · simp at hb
      · rename_i d hni hu
        exact fin t h0 (fun u' hu' => by rw [h1] at hu'; obtain rfl := Option.some.inj hu'; exact ⟨d, hu, hni⟩) hb
      · simp at hb
    · rename_i t h0 h1
      exact fin t h0 (fun u' hu' => by rw [h1] at hu'; simp at hu') hb
    · simp at hb
  · rename_i x hargs
    obtain ⟨o, he, rfl⟩ := args1 hargs
    split at hb
    · rename_i t h0
      obtain ⟨a, ha, rfl⟩ := valH_inv hb
      rw [he, map1]
      exact .value0 hr (lenOfA_ok hr ha (hρ o) h0 ty)
    · simp at hb
  · rename_i x hargs
    obtain ⟨o, he, rfl⟩ := args1 hargs
    have ho := hρ o
    split at hb
    · rename_i t id off len cap esz h0 heq
      rw [heq] at ho
      obtain ⟨b, base, cs, oo, cc, hp, _, hl, hc, hex, hcs, hz, e⟩ := ho.slice_inv
      split at hb
      · rename_i el hu
        simp only [Option.some.injEq] at hb
        subst hb
        rw [he, map1]
        refine .value0 hr ⟨.int .i64 cc, ?_, by rw [hex rfl]; exact .int _ _⟩
        simp only [e, Builtin.cap_, h0, List.getElem?_toArray, List.getElem?_cons_zero, Sem.run_bind, run_und hu, Result.andThen_ok, Sem.run_pure, goInt]
      · simp at hb
    · rename_i t h0 heq
      rw [heq] at ho
      have e := ho.nils_inv
      split at hb
      · rename_i el hu
        simp only [Option.some.injEq] at hb
        subst hb
        rw [he, map1]
        refine .value0 hr ⟨.int .i64 0, ?_, .int _ _⟩
        simp only [e, Builtin.cap_, h0, List.getElem?_toArray, List.getElem?_cons_zero, Sem.run_bind, run_und hu, Result.andThen_ok, Sem.run_pure, goInt]
        rfl
      · simp at hb
    · simp at hb
  · rename_i d s hargs
    obtain ⟨o, p, he, rfl, rfl⟩ := args2 hargs
    split at hb
    · rename_i t h0
      obtain ⟨a, h', ha, rfl⟩ := val2_inv hb
      rw [he, map2]
      obtain ⟨v', w', h1, h2, h3, h4⟩ := copyA_ok (P := P) hr ha (hρ o) (hρ p) h0 ty
      exact .value ⟨φ, v', w', h1, h2, h3, h4⟩
    · simp at hb
  · rename_i m k hargs
    obtain ⟨o, p, he, rfl, rfl⟩ := args2 hargs
    split at hb
    · rename_i t h0
      obtain ⟨h', ha, rfl⟩ := skipH_inv hb
      rw [he, map2]
      obtain ⟨w', h1, h3, h4⟩ := deleteA_ok (P := P) hr ha (hρ o) (hρ p) h0 ty
      exact .value ⟨φ, _, w', h1, (LR.nil φ).tup, h3, h4⟩
    · simp at hb
  · rename_i x hargs
    obtain ⟨o, he, rfl⟩ := args1 hargs
    split at hb
    · rename_i t h0
      obtain ⟨h', ha, rfl⟩ := skipH_inv hb
      rw [he, map1]
      obtain ⟨w', h1, h3, h4⟩ := clearA_ok (P := P) hr ha (hρ o) h0 ty
      exact .value ⟨φ, _, w', h1, (LR.nil φ).tup, h3, h4⟩
    · simp at hb
  · rename_i x r' hargs
    obtain ⟨o, l, he, rfl, rfl⟩ := argsC hargs
    obtain ⟨a, ha, rfl⟩ := valH_inv hb
    rw [he]
    refine .value0 hr ?_
    obtain ⟨v', h1, h2⟩ := mm_ok (P := P) (w := w) true _ _ a (l.map ρ') (ρ' o) ha (hρ o) (by simp) (fun i hi => by
      simp only [List.length_map] at hi
      rw [List.getD_eq_getElem?_getD, List.getD_eq_getElem?_getD, List.getElem?_map, List.getElem?_map, List.getElem?_eq_getElem hi]
      exact hρ _)
    refine ⟨v', ?_, h2⟩
    simpa [Builtin.max_] using h1
  · rename_i x r' hargs
    obtain ⟨o, l, he, rfl, rfl⟩ := argsC hargs
    obtain ⟨a, ha, rfl⟩ := valH_inv hb
    rw [he]
    refine .value0 hr ?_
    obtain ⟨v', h1, h2⟩ := mm_ok (P := P) (w := w) false _ _ a (l.map ρ') (ρ' o) ha (hρ o) (by simp) (fun i hi => by
      simp only [List.length_map] at hi
      rw [List.getD_eq_getElem?_getD, List.getD_eq_getElem?_getD, List.getElem?_map, List.getElem?_map, List.getElem?_eq_getElem hi]
      exact hρ _)
    refine ⟨v', ?_, h2⟩
    simpa [Builtin.min_] using h1
  · simp only [Option.some.injEq] at hb
    subst hb
    exact ⟨rfl, rfl⟩
  · rename_i x hargs
    obtain ⟨o, he, rfl⟩ := args1 hargs
    have ho := hρ o
    split at hb
    · rename_i t a heq
      rw [heq] at ho
      obtain ⟨v', hv, e⟩ := ho.iface_inv
      simp only [Option.some.injEq] at hb
      subst hb
      rw [he, map1]
      refine ⟨.iface t v', ?_, by rw [heq]; exact .iface hv, rfl⟩
      simp only [e, builtin]
      rfl
    · simp at hb
  · simp at hb

theorem opR_ok (hr : HR G φ h w) {ρ : Operand → AV} {ρ' : Operand → Value} (hρ : ∀ x, VR φ (ρ x) (ρ' x)) {o : Oper} {r : AR} (ho : opR P ρ o h = some r) :
    OpR P G φ h w ((execOp ρ' o).run P w) r := by
  obtain ⟨dst, op, type, pos, after, guard⟩ := o
  unfold opR at ho
  unfold execOp
  cases op <;> dsimp only at ho ⊢
  case move x =>
    simp only [Option.some.injEq] at ho
    subst ho
    exact ⟨φ, _, ρ' x, w, rfl, .inl rfl, hρ x, hr, Post.refl _ _ _⟩
  case assign x =>
    simp only [Option.some.injEq] at ho
    subst ho
    exact ⟨φ, _, ρ' x, w, rfl, .inl rfl, hρ x, hr, Post.refl _ _ _⟩
  case pick c a b =>
    have hc := hρ c
    split at ho
    · rename_i t heq
      rw [heq] at hc
      have e := hc.bool_inv
      simp only [Option.some.injEq] at ho
      subst ho
      refine ⟨φ, .value (if t then ρ' a else ρ' b), if t then ρ' a else ρ' b, w, ?_, .inl rfl, ?_, hr, Post.refl _ _ _⟩
      · simp only [Sem.run_bind, asBool, e, Sem.run_pure, Result.andThen_ok]
      · cases t
        · exact hρ b
        · exact hρ a
    · simp at ho
  case alloc e =>
    split at ho
    · rename_i z hz
      split at ho
      · rename_i v hv
        cases hal : allocA h v with
        | none => rw [hal] at ho; simp at ho
        | some p =>
          obtain ⟨id, h2⟩ := p
          rw [hal] at ho
          simp only [Option.map_some, Option.some.injEq] at ho
          subst ho
          obtain ⟨z', hzr, hzrel⟩ := run_zero hz w φ
          obtain ⟨a, b⟩ := vec_new hr hal e (VecR.of_vec hzrel hv)
          refine .value ⟨_, .pointer (some ⟨w.heap.size, 0, none⟩), _, ?_, .ptr (base := 0) (Phi.set_same _ _ _), a, b⟩
          simp only [Go.Instr.alloc, Sem.run_bind, hzr, Result.andThen_ok, newVar, newRow, run_newObj', Sem.run_pure]
      · simp at ho
    · simp at ho
  case box e x =>
    split at ho
    · rename_i v hv
      cases hal : allocA h v with
      | none => rw [hal] at ho; simp at ho
      | some p =>
        obtain ⟨id, h2⟩ := p
        rw [hal] at ho
        simp only [Option.map_some, Option.some.injEq] at ho
        subst ho
        obtain ⟨a, b⟩ := vec_new hr hal e (VecR.of_vec (hρ x) hv)
        refine .value ⟨_, .pointer (some ⟨w.heap.size, 0, none⟩), _, ?_, .ptr (base := 0) (Phi.set_same _ _ _), a, b⟩
        simp only [Go.Instr.box, Sem.run_bind, Result.andThen_ok, newVar, newRow, run_newObj', Sem.run_pure]
    · simp at ho
  case build t parts =>
    obtain ⟨a, ha, rfl⟩ := valH_inv ho
    exact .value0 hr (buildA_ok hρ ha)
  case buildSlice t len parts =>
    obtain ⟨a, h', ha, rfl⟩ := val2_inv ho
    exact .value (buildSliceA_ok hr hρ ha)
  case load t a =>
    have hp := hρ a
    split at ho
    · rename_i id off heq
      rw [heq] at hp
      obtain ⟨b, base, cs, hφ, e⟩ := hp.ptr_inv
      obtain ⟨v, hv, rfl⟩ := valH_inv ho
      refine .value0 hr ?_
      obtain ⟨v', h1, h2⟩ := load_ok (P := P) hr hφ hv
      exact ⟨v', by simp only [Go.Instr.loadAt, e, Go.Instr.sureAddr, Sem.run_bind, Sem.run_pure, Result.andThen_ok, h1], h2⟩
    · simp at ho
  case store t a x =>
    have hp := hρ a
    split at ho
    · rename_i id off heq
      rw [heq] at hp
      obtain ⟨b, base, cs, hφ, e⟩ := hp.ptr_inv
      split at ho
      · rename_i v hv
        split at ho
        · rename_i hsz
          obtain ⟨h', hst, rfl⟩ := skipH_inv ho
          have hvec := VecR.of_vec (hρ x) hv
          refine .unit ?_
          obtain ⟨w', h1, h2, h3⟩ := store_ok (P := P) hr hφ hst hvec.wf (vals := (ρ' x).cells.toList) (by simpa using hvec.size) (fun j hj => by rw [getD_toList]; exact hvec.get j hj) hvec.plainAll
          refine ⟨w', ?_, h2, h3⟩
          have hne : ¬ (ρ' x).cells.size ≠ v.n := by rw [hvec.size]; simp
          simp only [Go.Instr.storeAt, e, Go.Instr.sureAddr, Sem.run_bind, Sem.run_pure, Result.andThen_ok, storeVar, run_size hsz, hne, if_false, h1]
        · simp at ho
      · simp at ho
    · simp at ho
  case nilCheck x =>
    have hx := hρ x
    have hx2 := hx
    generalize ρ x = a at hx hx2 ho
    generalize ρ' x = v at hx hx2 ⊢
    cases hx <;> (try simp only [Option.some.injEq, reduceCtorEq] at ho)
    case nilp => subst ho; exact ⟨_, rfl, .iface (.str _), rfl⟩
    case nili => subst ho; exact ⟨_, rfl, .iface (.str _), rfl⟩
    case nilf => subst ho; exact ⟨_, rfl, .iface (.str _), rfl⟩
    case fn hf hs1 hs2 h1 h2 =>
      cases hf
      all_goals
        have ho' := Option.some.inj ho
        subst ho'
        exact ⟨φ, _, _, w, rfl, .inl rfl, hx2, hr, Post.refl _ _ _⟩
    all_goals (subst ho; exact ⟨φ, _, _, w, rfl, .inl rfl, hx2, hr, Post.refl _ _ _⟩)
  case binOp op t x y yt =>
    obtain ⟨a, ha, rfl⟩ := valH_inv ho
    exact .value0 hr (binA_ok ha (hρ x) (hρ y) w)
  case unOp op t x =>
    obtain ⟨a, ha, rfl⟩ := valH_inv ho
    exact .value0 hr (unA_ok ha (hρ x) w)
  case convert s d x =>
    obtain ⟨a, h', ha, rfl⟩ := val2_inv ho
    exact .value (convertA_ok hr ha (hρ x))
  case sliceToArrayPointer t x =>
    have hx := hρ x
    split at ho
    · rename_i n e id off len cap ex esz hu heq
      rw [heq] at hx
      obtain ⟨b, base, cs, oo, c, hp, hoo, hl, hc, he, hcs, hz, e'⟩ := hx.slice_inv
      split at ho
      · rename_i hle
        simp only [Option.some.injEq] at ho
        subst ho
        have ho' : oo = base + off := by rcases hoo with h | h <;> omega
        refine .value0 hr ⟨.pointer (some ⟨b, base + off, none⟩), ?_, .ptr hp⟩
        have hlt : ¬ len < n + 1 := by omega
        simp only [Go.Instr.arrayAt, e', Sem.run_bind, run_und hu, Result.andThen_ok, hlt, if_false, Sem.run_pure, ho']
      · simp at ho
    · simp at ho
  case makeInterface t x =>
    have hx := hρ x
    split at ho
    · simp at ho
    · simp at ho
    · rename_i d hni hu hnj
      simp only [Option.some.injEq] at ho
      subst ho
      refine .value0 hr ⟨.iface t (ρ' x), ?_, .iface hx⟩
      cases d <;> first | (exact absurd rfl (hni _)) | simp [Go.Instr.makeInterface, run_und hu]
    · simp at ho
  case makeFunc fn first cap =>
    split at ho
    · rename_i f
      simp only [Option.some.injEq] at ho
      subst ho
      have l1 := LR.map hρ first
      have l2 := LR.map hρ cap
      exact .value0 hr ⟨.func (.func f) (first.map ρ') (cap.map ρ'), rfl, .fn (.func f) l1.size l1.get l2.size l2.get⟩
    · simp at ho
  case makeMap t rs =>
    have fin : (h.new (.map [] 0)).map (fun (id, h) => AR.val (.map id) h) = some r →
        ∃ id h', r = .val (.map id) h' ∧ VR (φ.set id (w.heap.size, 0, 0)) (.map id) (.map (some w.heap.size)) ∧ HR G (φ.set id (w.heap.size, 0, 0)) h' (w.alloc (.map #[] 0)) ∧
          Post φ h w (φ.set id (w.heap.size, 0, 0)) h' (w.alloc (.map #[] 0)) := by
      intro hn
      cases hnew : h.new (.map [] 0) with
      | none => rw [hnew] at hn; simp at hn
      | some p =>
        obtain ⟨id, h2⟩ := p
        rw [hnew] at hn
        simp only [Option.map_some, Option.some.injEq] at hn
        subst hn
        obtain ⟨a, b⟩ := alloc_ok hr hnew (ob := .map #[] 0) (cs := 0) ⟨#[], rfl, rfl, fun i hi => absurd hi (by simp)⟩
        exact ⟨id, h2, rfl, .map (p := (w.heap.size, 0, 0)) (Phi.set_same _ _ _), a, b⟩
    split at ho
    · obtain ⟨id, h', rfl, h1, h2, h3⟩ := fin ho
      refine .value ⟨_, _, _, ?_, h1, h2, h3⟩
      simp only [Go.Instr.makeMap, Option.map_none, Sem.run_bind, run_newObj', Result.andThen_ok, Sem.run_pure]
    · rename_i x
      have hx := hρ x
      split at ho
      · rename_i k n kt et heq hu
        rw [heq] at hx
        have e := hx.int_inv
        obtain ⟨id, h', rfl, h1, h2, h3⟩ := fin ho
        refine .value ⟨_, _, _, ?_, h1, h2, h3⟩
        simp only [Go.Instr.makeMap, Option.map_some, e, asInt, asIntOf, Sem.run_bind, run_und hu, run_newObj', Result.andThen_ok, Sem.run_pure]
      · simp at ho
  case makeSlice t l c =>
    obtain ⟨a, h', ha, rfl⟩ := val2_inv ho
    exact .value (makeSliceA_ok hr ha (hρ l) (hρ c))
  case slice t x lo hi mx =>
    obtain ⟨a, ha, rfl⟩ := valH_inv ho
    exact .value0 hr (sliceA_ok hr hρ ha)
  case fieldAddr s x f =>
    have hx := hρ x
    split at ho
    · rename_i id off fo ft sz heq hf
      rw [heq] at hx
      simp only [Option.some.injEq] at ho
      subst ho
      exact .value0 hr (fieldAddr_ok hf hx)
    · simp at ho
  case field s x f =>
    have hx := hρ x
    split at ho
    · rename_i n dep d t fo ft sz heq hf
      rw [heq] at hx
      obtain ⟨a, ha, rfl⟩ := valH_inv ho
      obtain ⟨fields, y, hu, hy, rfl, rfl, _, _⟩ := field?_ok hf
      obtain ⟨c, _, _, _, _, e⟩ := hx.agg_inv
      rw [e] at hx
      refine .value0 hr ?_
      obtain ⟨v', h1, h2⟩ := partA_ok (P := P) hx ha w
      refine ⟨v', ?_, h2⟩
      simp only [Go.Instr.field, e, Sem.run_bind, run_und hu, Result.andThen_ok, hy, asAgg, Sem.run_pure, h1]
    · simp at ho
  case indexAddr t x i =>
    obtain ⟨v, v', rfl, h1, h2⟩ := indexAddrA_ok (P := P) (w := w) ho (hρ x) (hρ i)
    exact .value0 hr ⟨v', h1, h2⟩
  case index t x i =>
    obtain ⟨a, ha, rfl⟩ := valH_inv ho
    exact .value0 hr (indexA_ok ha (hρ x) (hρ i))
  case lookup t x k ok =>
    obtain ⟨a, ha, rfl⟩ := valH_inv ho
    exact .value0 hr (lookupA_ok hr ha (hρ x) (hρ k))
  case mapUpdate t m k x =>
    obtain ⟨h', ha, rfl⟩ := skipH_inv ho
    exact .unit (mapUpdateA_ok hr ha (hρ m) (hρ k) (hρ x))
  case insert t m k x =>
    obtain ⟨h', ha, rfl⟩ := skipH_inv ho
    exact .unit (mapUpdateA_ok hr ha (hρ m) (hρ k) (hρ x))
  case mapEntry t m k =>
    obtain ⟨a, h', ha, rfl⟩ := val2_inv ho
    obtain ⟨v', w', h1, h2, h3, h4⟩ := mapEntryA_ok (P := P) hr ha (hρ m) (hρ k)
    exact .value ⟨φ, v', w', h1, h2, h3, h4⟩
  case entryStore t m s x =>
    obtain ⟨h', ha, rfl⟩ := skipH_inv ho
    exact .unit (entryStoreA_ok hr ha (hρ m) (hρ s) (hρ x))
  case range t x =>
    obtain ⟨a, h', ha, rfl⟩ := val2_inv ho
    exact .value (rangeA_ok hr ha (hρ x))
  case next it isString =>
    obtain ⟨a, h', ha, rfl⟩ := val2_inv ho
    obtain ⟨v', w', h1, h2, h3, h4⟩ := nextA_ok (P := P) hr ha (hρ it) type
    exact .value ⟨φ, v', w', h1, h2, h3, h4⟩
  case entry it =>
    obtain ⟨a, ha, rfl⟩ := valH_inv ho
    exact .value0 hr (entryA_ok hr ha (hρ it))
  case typeAssert x xt t ok =>
    obtain ⟨a, ha, rfl⟩ := valH_inv ho
    exact .value0 hr (typeAssertA_ok ha (hρ x) xt)
  case extract x i =>
    have hx := hρ x
    split at ho
    · rename_i l heq
      rw [heq] at hx
      obtain ⟨a, hl, e⟩ := hx.tup_inv
      cases hi : l[i]? with
      | none => rw [hi] at ho; simp at ho
      | some u =>
        rw [hi] at ho
        simp only [Option.map_some, Option.some.injEq] at ho
        subst ho
        have hlt : i < l.length := by
          rcases Nat.lt_or_ge i l.length with h | h
          · exact h
          · rw [List.getElem?_eq_none h] at hi; simp at hi
        have hg := hl.get i hlt
        rw [List.getD_eq_getElem?_getD, hi] at hg
        refine .value0 hr ⟨a.getD i undef, ?_, hg⟩
        have ha : a[i]? = some (a.getD i undef) := getElem?_of_lt (by rw [hl.size]; exact hlt)
        simp only [Go.Instr.extract, e, ha, Sem.run_pure]
    · simp at ho
  case call c =>
    split at ho
    · rename_i b hc
      have : (resolve ρ' c type).run P w = .ok { target := .builtin b c.argTypes type (c.args.map fun | .const _ => true | _ => false), args := c.args.map ρ' } w := by
        simp only [resolve, hc, Sem.run_pure]
        rfl
      simp only [Sem.run_bind, this, Result.andThen_ok, invoke]
      exact builtinA_ok hr hρ ho type _
    · cases hd : resolveA ρ c with
      | none => rw [hd] at ho; simp at ho
      | some d =>
        rw [hd] at ho
        simp only [Option.bind_some] at ho
        obtain ⟨d', h1, h2⟩ := resolveA_ok (P := P) (w := w) hρ hd type
        simp only [Sem.run_bind, h1, Result.andThen_ok]
        exact callA_ok h2 ho
    · simp at ho
  case defer c =>
    split at ho
    · cases hd : resolveA ρ c with
      | none => rw [hd] at ho; simp at ho
      | some d =>
        rw [hd] at ho
        simp only [Option.map_some, Option.some.injEq] at ho
        subst ho
        obtain ⟨d', h1, h2⟩ := resolveA_ok (P := P) (w := w) hρ hd type
        exact ⟨d', by simp only [Sem.run_bind, h1, Result.andThen_ok, Sem.run_pure], h2, rfl⟩
    · simp at ho
  case panic x =>
    have hx := hρ x
    split at ho
    · rename_i t a heq
      rw [heq] at hx
      obtain ⟨v', hv, e⟩ := hx.iface_inv
      simp only [Option.some.injEq] at ho
      subst ho
      refine ⟨.iface t v', ?_, .iface hv, rfl⟩
      rw [e]
      rfl
    · simp at ho
  all_goals simp at ho
end
end Go.Ab
