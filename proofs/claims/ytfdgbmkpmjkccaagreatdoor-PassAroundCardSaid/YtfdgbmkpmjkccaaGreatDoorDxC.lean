/-
  The machine with patterns, part 3 of 5: a program's calls run over small memories, with unknown numbers; each answer is proved to be the model's.
  Conditions: those that each lemma names.
-/
import Derived.Test.YtfdgbmkpmjkccaaGreatDoorDxB
import Derived.Recover
import Derived.RangeFuncNested
section
namespace Go.Ab
variable [Val]
section
variable {P : Program} {G : Nat} {φ : Phi} {h : H} {w : World}
omit [Val] in
theorem args1 {ρ : Operand → AV} {a : Array Operand} {x : AV} (h : a.toList.map ρ = [x]) : ∃ o, a = #[o] ∧ x = ρ o := by
 cases a with
 | mk l => match l, h with
  | [o], h => exact ⟨o, rfl, by simpa using h.symm⟩
omit [Val] in
theorem args2 {ρ : Operand → AV} {a : Array Operand} {x y : AV} (h : a.toList.map ρ = [x, y]) : ∃ o p, a = #[o, p] ∧ x = ρ o ∧ y = ρ p := by
 cases a with
 | mk l => match l, h with
  | [o, p], h => simp only [List.map_cons, List.map_nil, List.cons.injEq, and_true] at h; exact ⟨o, p, rfl, h.1.symm, h.2.symm⟩
omit [Val] in
theorem args0 {ρ : Operand → AV} {a : Array Operand} (h : a.toList.map ρ = []) : a = #[] := by
 cases a with
 | mk l => match l, h with
  | [], h => rfl
omit [Val] in
theorem argsC {ρ : Operand → AV} {a : Array Operand} {x : AV} {r : List AV} (h : a.toList.map ρ = x :: r) : ∃ o l, a = (o :: l).toArray ∧ x = ρ o ∧ r = l.map ρ := by
 cases a with
 | mk l => match l, h with
  | o :: l, h => simp only [List.map_cons, List.cons.injEq] at h; exact ⟨o, l, rfl, h.1.symm, h.2.symm⟩
omit [Val] in
theorem map1 (f : Operand → Value) (o : Operand) : (#[o] : Array Operand).map f = #[f o] := by simp
omit [Val] in
theorem map2 (f : Operand → Value) (o p : Operand) : (#[o, p] : Array Operand).map f = #[f o, f p] := by simp
theorem rawE_ok {tb : List Fact} (hf : ∀ f ∈ tb, f.holds Val.σ) {v : Nat} {e x : E} (h : rawE tb v e = some x) : x.eval Val.σ = clampI 0 255 (Val.σ (v + (e.eval Val.σ).toNat)) := by
 unfold rawE at h
 split at h
 ·rename_i k hk
  simp only [Option.some.injEq] at h
  subst h
  have hm := List.mem_of_find?_eq_some hk
  have hp := List.find?_some hk
  have hh := hf k hm
  obtain ⟨keq, ka, kb, kv⟩ := k
  simp only [Bool.and_eq_true] at hp
  obtain ⟨rfl, rfl, h3⟩ := hp
  split at h3
  ·rename_i v' l h e'
   simp only [Bool.and_eq_true, decide_eq_true_eq] at h3
   obtain ⟨hv, rfl, rfl, hz⟩ := h3
   have hv := Nat.eq_of_beq_eq_true hv
   subst hv
   have hz := E.zero_ok Val.σ hz
   have he : e.eval Val.σ = e'.eval Val.σ := by
    have : e.eval Val.σ - e'.eval Val.σ = 0 := hz
    omega
   have hh : decide ((E.cell v' 0 255 e').eval Val.σ = kb.eval Val.σ) = true := hh
   have hh := of_decide_eq_true hh
   rw [he]
   exact hh.symm
  ·simp at h3
 ·simp at h
theorem rawAV_ok {φ : Phi} {tb : List Fact} (hf : ∀ f ∈ tb, f.holds Val.σ) {v : Nat} {e : E} {n : Int} (hn : n = clampI 0 255 (Val.σ (v + (e.eval Val.σ).toNat))) : VR φ (rawAV tb v e) (.int .u8 n) := by
 have hb2 := clampI_le (l := 0) (h := 255) (by decide) (Val.σ (v + (e.eval Val.σ).toNat))
 rw [← hn] at hb2
 unfold rawAV
 split
 ·rename_i m hx
  have := (rawE_ok hf hx).trans hn.symm
  have : m = n := this
  subst this
  exact .int _ _
 ·rename_i x hx _
  have hx := (rawE_ok hf ‹_›).trans hn.symm
  split
  ·rename_i l u hr
   have h2 := E.rng_ok Val.σ hr
   rw [hx] at h2
   refine .sym hx ?_ ?_
   ·cases hd : decide (l < 0)
    ·exact h2.1
    ·exact hb2.1
   ·cases hd : decide (255 < u)
    ·exact h2.2
    ·exact hb2.2
  ·exact .sym hx hb2.1 hb2.2
 ·exact .sym hn.symm hb2.1 hb2.2
theorem loadV_ok (hr : HR G φ h w) {t : TypeId} {id : Nat} {e : E} {v : AV} (hl : loadV P t id e h = some v) {a' : Value} (ha : VR φ (.vptr id e) a') :
  ∃ v', (Go.Instr.loadAt t a').run P w = .ok v' w ∧ VR φ v v' := by
 obtain ⟨b, base, cs, o, hp, h0, ho, hcs, rfl⟩ := ha.vptr_inv
 unfold loadV at hl
 split at hl
 ·rename_i v0 isB hg
  obtain ⟨_, hbc, c, e0, fz, hb, hle, hv⟩ := hr.obj _ _ _ hg hp
  have hc := hv (e.eval Val.σ).toNat (by simp only; omega)
  simp only at hc
  rw [← ho] at hc
  have key : ∀ d, P.underlying t = some d → (∀ fs, d ≠ .struct fs) → (∀ n e, d ≠ .array n e) → (Go.Instr.loadAt t (.pointer (some ⟨b, o, none⟩))).run P w = .ok (rawV Val.σ v0 isB (e.eval Val.σ).toNat) w := by
   intro d hd hns hna
   have ha : isAgg? P t = some false := by
    unfold isAgg?
    rw [hd]
    cases d <;> simp_all
   simp only [Go.Instr.loadAt, Go.Instr.sureAddr, Sem.run_bind, Sem.run_pure, Result.andThen_ok, loadVar, run_isAgg ha, Bool.false_eq_true, if_false]
   rw [run_load, cell_of hb, hc]
  split at hl
  ·rename_i hu
   cases hs : symEq h.tb 0 1 (.cell v0 0 1 e) 1 1 (.const 1) with
   | none => rw [hs] at hl; simp at hl
   | some x =>
    rw [hs] at hl
    simp only [Option.map_some, Option.some.injEq] at hl
    subst hl
    have hb2 := clampI_le (l := 0) (h := 1) (by decide) (Val.σ (v0 + (e.eval Val.σ).toNat))
    have := symEq_ok Val.σ hr.fct hs (a := clampI 0 1 (Val.σ (v0 + (e.eval Val.σ).toNat))) (b := 1) rfl hb2.1 hb2.2 rfl (Int.le_refl _) (Int.le_refl _)
    refine ⟨_, key _ hu (by simp) (by simp), ?_⟩
    simp only [rawV, if_true, this]
    exact .bool _
  ·rename_i hu
   simp only [Option.some.injEq] at hl
   subst hl
   refine ⟨_, key _ hu (by simp) (by simp), ?_⟩
   simp only [rawV, Bool.false_eq_true, if_false]
   exact rawAV_ok hr.fct rfl
  ·simp at hl
 ·simp at hl
theorem builtinA_ok (hr : HR G φ h w) {ρ : Operand → AV} {ρ' : Operand → Value} (hρ : ∀ x, VR φ (ρ x) (ρ' x)) {b : Builtin} {c : Call} {r : AR} (hb : builtinA P ρ b c h = some r)
  (ty : TypeId) (consts : Array Bool) : OpR P G φ h w ((builtin b c.argTypes ty consts (c.args.map ρ')).run P w) r := by
 unfold builtinA at hb
 dsimp only at hb
 split at hb
 ·rename_i id off len hargs
  obtain ⟨o, p, he, e1, e2⟩ := args2 hargs
  split at hb
  ·rename_i t h0 h1
   obtain ⟨a, h', ha, rfl⟩ := val2_inv hb
   have k1 := hρ o
   have k2 := hρ p
   rw [← e1] at k1
   rw [← e2] at k2
   rw [he, map2, k1.nils_inv]
   exact .value (appendV_ok hr ha k2 h0 (fun u' hu' => by rw [h1] at hu'; simp at hu') ty)
  ·simp at hb
 ·rename_i s x hargs
  obtain ⟨o, p, he, rfl, rfl⟩ := args2 hargs
  have fin : ∀ t, c.argTypes[0]? = some t → (∀ u, c.argTypes[1]? = some u → ∃ d, P.underlying u = some d ∧ ∀ k, d ≠ .int k) → val2 (appendA P t (ρ o) (ρ p) h) = some r →
    OpR P G φ h w ((builtin .append c.argTypes ty consts (c.args.map ρ')).run P w) r := by
   intro t h0 h1 hv
   obtain ⟨a, h', ha, rfl⟩ := val2_inv hv
   rw [he, map2]
   exact .value (appendA_ok hr ha (hρ o) (hρ p) h0 h1 ty)
  split at hb
  ·rename_i t u h0 h1
   split at hb
   ·simp at hb
   ·rename_i d hni hu
    exact fin t h0 (fun u' hu' => by rw [h1] at hu'; obtain rfl := Option.some.inj hu'; exact ⟨d, hu, hni⟩) hb
   ·simp at hb
  ·rename_i t h0 h1
   exact fin t h0 (fun u' hu' => by rw [h1] at hu'; simp at hu') hb
  ·simp at hb
 ·rename_i x hargs
  obtain ⟨o, he, rfl⟩ := args1 hargs
  split at hb
  ·rename_i t h0
   obtain ⟨a, ha, rfl⟩ := valH_inv hb
   rw [he, map1]
   exact .value0 hr (lenOfA_ok hr ha (hρ o) h0 ty)
  ·simp at hb
 ·rename_i x hargs
  obtain ⟨o, he, rfl⟩ := args1 hargs
  have ho := hρ o
  split at hb
  ·rename_i t id off len cap esz h0 heq
   rw [heq] at ho
   obtain ⟨b, base, cs, oo, cc, hp, _, hl, hc, hex, hcs, hz, e⟩ := ho.slice_inv
   split at hb
   ·rename_i el hu
    simp only [Option.some.injEq] at hb
    subst hb
    rw [he, map1]
    refine .value0 hr ⟨.int .i64 cc, ?_, by rw [hex rfl]; exact .int _ _⟩
    simp only [e, Builtin.cap_, h0, List.getElem?_toArray, List.getElem?_cons_zero, Sem.run_bind, run_und hu, Result.andThen_ok, Sem.run_pure, goInt]
   ·simp at hb
  ·rename_i t h0 heq
   rw [heq] at ho
   have e := ho.nils_inv
   split at hb
   ·rename_i el hu
    simp only [Option.some.injEq] at hb
    subst hb
    rw [he, map1]
    refine .value0 hr ⟨.int .i64 0, ?_, .int _ _⟩
    simp only [e, Builtin.cap_, h0, List.getElem?_toArray, List.getElem?_cons_zero, Sem.run_bind, run_und hu, Result.andThen_ok, Sem.run_pure, goInt]
    rfl
   ·simp at hb
  ·simp at hb
 ·rename_i d s hargs
  obtain ⟨o, p, he, rfl, rfl⟩ := args2 hargs
  split at hb
  ·rename_i t h0
   obtain ⟨a, h', ha, rfl⟩ := val2_inv hb
   rw [he, map2]
   obtain ⟨v', w', h1, h2, h3, h4⟩ := copyA_ok (P := P) hr ha (hρ o) (hρ p) h0 ty
   exact .value ⟨φ, v', w', h1, h2, h3, h4⟩
  ·simp at hb
 ·rename_i m k hargs
  obtain ⟨o, p, he, rfl, rfl⟩ := args2 hargs
  split at hb
  ·rename_i t h0
   obtain ⟨h', ha, rfl⟩ := skipH_inv hb
   rw [he, map2]
   obtain ⟨w', h1, h3, h4⟩ := deleteA_ok (P := P) hr ha (hρ o) (hρ p) h0 ty
   exact .value ⟨φ, _, w', h1, (LR.nil φ).tup, h3, h4⟩
  ·simp at hb
 ·rename_i x hargs
  obtain ⟨o, he, rfl⟩ := args1 hargs
  split at hb
  ·rename_i t h0
   obtain ⟨h', ha, rfl⟩ := skipH_inv hb
   rw [he, map1]
   obtain ⟨w', h1, h3, h4⟩ := clearA_ok (P := P) hr ha (hρ o) h0 ty
   exact .value ⟨φ, _, w', h1, (LR.nil φ).tup, h3, h4⟩
  ·simp at hb
 ·rename_i x r' hargs
  obtain ⟨o, l, he, rfl, rfl⟩ := argsC hargs
  obtain ⟨a, ha, rfl⟩ := valH_inv hb
  rw [he]
  refine .value0 hr ?_
  obtain ⟨v', h1, h2⟩ := mm_ok (P := P) (w := w) hr.fct true _ _ a (l.map ρ') (ρ' o) ha (hρ o) (by simp) (fun i hi => by
   simp only [List.length_map] at hi
   rw [List.getD_eq_getElem?_getD, List.getD_eq_getElem?_getD, List.getElem?_map, List.getElem?_map, List.getElem?_eq_getElem hi]
   exact hρ _)
  refine ⟨v', ?_, h2⟩
  simpa [Builtin.max_] using h1
 ·rename_i x r' hargs
  obtain ⟨o, l, he, rfl, rfl⟩ := argsC hargs
  obtain ⟨a, ha, rfl⟩ := valH_inv hb
  rw [he]
  refine .value0 hr ?_
  obtain ⟨v', h1, h2⟩ := mm_ok (P := P) (w := w) hr.fct false _ _ a (l.map ρ') (ρ' o) ha (hρ o) (by simp) (fun i hi => by
   simp only [List.length_map] at hi
   rw [List.getD_eq_getElem?_getD, List.getD_eq_getElem?_getD, List.getElem?_map, List.getElem?_map, List.getElem?_eq_getElem hi]
   exact hρ _)
  refine ⟨v', ?_, h2⟩
  simpa [Builtin.min_] using h1
 ·rename_i x hargs
  obtain ⟨o, he, rfl⟩ := args1 hargs
  have ho := hρ o
  split at hb
  ·rename_i id off len cap ex esz heq
   rw [heq] at ho
   split at hb
   ·rename_i hc
    simp only [Option.some.injEq] at hb
    subst hb
    obtain ⟨b, base, cs, oo, cc, hp, hoo, hl, hcc, _, hcs, hz, e⟩ := ho.slice_inv
    rw [he, map1, e]
    have hoo' : oo = base + off := by rcases hoo with h | h <;> omega
    subst hoo'
    exact .value ⟨φ, _, w, Lib.run_unsafeSliceData_row w _ _ ⟨b, base + off, none⟩ len cc (by omega), .ptr hp, hr, Post.refl _ _ _⟩
   ·simp at hb
  ·rename_i heq
   rw [heq] at ho
   simp only [Option.some.injEq] at hb
   subst hb
   have e := ho.nils_inv
   rw [he, map1, e]
   exact .value ⟨φ, _, w, Lib.run_unsafeSliceData_nil w _ _ 0 0, .nilp, hr, Post.refl _ _ _⟩
  ·simp at hb
 ·rename_i p n hargs
  obtain ⟨o, q, he, rfl, rfl⟩ := args2 hargs
  split at hb
  ·rename_i t h0
   obtain ⟨a, h', ha, rfl⟩ := val2_inv hb
   rw [he, map2]
   exact .value (unsafeStringA_ok hr ha (hρ o) (hρ q) h0 ty)
  ·simp at hb
 ·simp only [Option.some.injEq] at hb
  subst hb
  exact ⟨rfl, rfl⟩
 ·rename_i x hargs
  obtain ⟨o, he, rfl⟩ := args1 hargs
  have ho := hρ o
  split at hb
  ·rename_i t a heq
   rw [heq] at ho
   obtain ⟨v', hv, e⟩ := ho.iface_inv
   simp only [Option.some.injEq] at hb
   subst hb
   rw [he, map1]
   refine ⟨.iface t v', ?_, by rw [heq]; exact .iface hv, rfl⟩
   simp only [e, builtin]
   rfl
  ·simp at hb
 ·simp at hb
theorem opR_ok (hr : HR G φ h w) {ρ : Operand → AV} {ρ' : Operand → Value} (hρ : ∀ x, VR φ (ρ x) (ρ' x)) {o : Oper} {r : AR} (ho : opR P ρ o h = some r) :
  OpR P G φ h w ((execOp ρ' o).run P w) r := by
 obtain ⟨dst, op, type, pos, after, guard⟩ := o
 unfold opR at ho
 unfold execOp
 cases op <;> dsimp only at ho ⊢
 case move x =>
  simp only [Option.some.injEq] at ho
  subst ho
  exact ⟨φ, _, ρ' x, w, rfl, .inl rfl, hρ x, hr, Post.refl _ _ _⟩
 case assign x =>
  simp only [Option.some.injEq] at ho
  subst ho
  exact ⟨φ, _, ρ' x, w, rfl, .inl rfl, hρ x, hr, Post.refl _ _ _⟩
 case pick c a b =>
  have hc := hρ c
  split at ho
  ·rename_i t heq
   rw [heq] at hc
   have e := hc.bool_inv
   simp only [Option.some.injEq] at ho
   subst ho
   refine ⟨φ, .value (if t then ρ' a else ρ' b), if t then ρ' a else ρ' b, w, ?_, .inl rfl, ?_, hr, Post.refl _ _ _⟩
   ·simp only [Sem.run_bind, asBool, e, Sem.run_pure, Result.andThen_ok]
   ·cases t
    ·exact hρ b
    ·exact hρ a
  ·simp at ho
 case alloc e =>
  split at ho
  ·rename_i z hz
   split at ho
   ·rename_i v hv
    cases hal : allocA h v with
    | none => rw [hal] at ho; simp at ho
    | some p =>
     obtain ⟨id, h2⟩ := p
     rw [hal] at ho
     simp only [Option.map_some, Option.some.injEq] at ho
     subst ho
     obtain ⟨z', hzr, hzrel⟩ := run_zero hz w φ
     obtain ⟨a, b⟩ := vec_new hr hal e (VecR.of_vec hzrel hv)
     refine .value ⟨_, .pointer (some ⟨w.heap.size, 0, none⟩), _, ?_, .ptr (base := 0) (Phi.set_same _ _ _), note_ok a (Phi.set_same _ _ _) rfl (by rw [alloc_block, if_pos rfl]) rfl, b.note id e (H.new_le hal)⟩
     simp only [Go.Instr.alloc, Sem.run_bind, hzr, Result.andThen_ok, newVar, newRow, run_newObj', Sem.run_pure]
   ·simp at ho
  ·simp at ho
 case box e x =>
  split at ho
  ·rename_i v hv
   cases hal : allocA h v with
   | none => rw [hal] at ho; simp at ho
   | some p =>
    obtain ⟨id, h2⟩ := p
    rw [hal] at ho
    simp only [Option.map_some, Option.some.injEq] at ho
    subst ho
    obtain ⟨a, b⟩ := vec_new hr hal e (VecR.of_vec (hρ x) hv)
    refine .value ⟨_, .pointer (some ⟨w.heap.size, 0, none⟩), _, ?_, .ptr (base := 0) (Phi.set_same _ _ _), note_ok a (Phi.set_same _ _ _) rfl (by rw [alloc_block, if_pos rfl]) rfl, b.note id e (H.new_le hal)⟩
    simp only [Go.Instr.box, Sem.run_bind, Result.andThen_ok, newVar, newRow, run_newObj', Sem.run_pure]
  ·simp at ho
 case build t parts =>
  obtain ⟨a, ha, rfl⟩ := valH_inv ho
  exact .value0 hr (buildA_ok hρ ha)
 case buildSlice t len parts =>
  obtain ⟨a, h', ha, rfl⟩ := val2_inv ho
  exact .value (buildSliceA_ok hr hρ ha)
 case load t a =>
  have hp := hρ a
  split at ho
  ·rename_i id off heq
   rw [heq] at hp
   obtain ⟨b, base, cs, hφ, e⟩ := hp.ptr_inv
   obtain ⟨v, hv, rfl⟩ := valH_inv ho
   refine .value0 hr ?_
   obtain ⟨v', h1, h2⟩ := load_ok (P := P) hr hφ hv
   exact ⟨v', by simp only [Go.Instr.loadAt, e, Go.Instr.sureAddr, Sem.run_bind, Sem.run_pure, Result.andThen_ok, h1], h2⟩
  ·rename_i id e heq
   rw [heq] at hp
   obtain ⟨v, hv, rfl⟩ := valH_inv ho
   refine .value0 hr ?_
   obtain ⟨v', h1, h2⟩ := loadV_ok (P := P) hr hv hp
   exact ⟨v', h1, h2⟩
  ·simp at ho
 case store t a x =>
  have hp := hρ a
  split at ho
  ·rename_i id off heq
   rw [heq] at hp
   obtain ⟨b, base, cs, hφ, e⟩ := hp.ptr_inv
   split at ho
   ·rename_i v hv
    split at ho
    ·rename_i hsz
     obtain ⟨h', hst, rfl⟩ := skipH_inv ho
     have hvec := VecR.of_vec (hρ x) hv
     refine .unit ?_
     obtain ⟨w', h1, h2, h3⟩ := store_ok (P := P) hr hφ hst hvec.wf (vals := (ρ' x).cells.toList) (by simpa using hvec.size) (fun j hj => by rw [getD_toList]; exact hvec.get j hj) hvec.plainAll
     refine ⟨w', ?_, h2, h3⟩
     have hne : ¬ (ρ' x).cells.size ≠ v.n := by rw [hvec.size]; simp
     simp only [Go.Instr.storeAt, e, Go.Instr.sureAddr, Sem.run_bind, Sem.run_pure, Result.andThen_ok, storeVar, run_size hsz, hne, if_false, h1]
    ·simp at ho
   ·simp at ho
  ·simp at ho
 case nilCheck x =>
  have hx := hρ x
  have hx2 := hx
  generalize ρ x = a at hx hx2 ho
  generalize ρ' x = v at hx hx2 ⊢
  cases hx <;> (try simp only [Option.some.injEq, reduceCtorEq] at ho)
  case nilp => subst ho; exact ⟨_, rfl, .iface (.str _), rfl⟩
  case nili => subst ho; exact ⟨_, rfl, .iface (.str _), rfl⟩
  case nilf => subst ho; exact ⟨_, rfl, .iface (.str _), rfl⟩
  case fn hf hs1 hs2 h1 h2 =>
   cases hf
   all_goals
    have ho' := Option.some.inj ho
    subst ho'
    exact ⟨φ, _, _, w, rfl, .inl rfl, hx2, hr, Post.refl _ _ _⟩
  all_goals (subst ho; exact ⟨φ, _, _, w, rfl, .inl rfl, hx2, hr, Post.refl _ _ _⟩)
 case binOp op t x y yt =>
  obtain ⟨a, ha, rfl⟩ := valH_inv ho
  exact .value0 hr (binA_ok hr.fct ha (hρ x) (hρ y) w)
 case unOp op t x =>
  obtain ⟨a, ha, rfl⟩ := valH_inv ho
  exact .value0 hr (unA_ok ha (hρ x) w)
 case convert s d x =>
  obtain ⟨a, h', ha, rfl⟩ := val2_inv ho
  exact .value (convertA_ok hr ha (hρ x))
 case sliceToArrayPointer t x =>
  have hx := hρ x
  split at ho
  ·rename_i n e id off len cap ex esz hu heq
   rw [heq] at hx
   obtain ⟨b, base, cs, oo, c, hp, hoo, hl, hc, he, hcs, hz, e'⟩ := hx.slice_inv
   split at ho
   ·rename_i hle
    simp only [Option.some.injEq] at ho
    subst ho
    have ho' : oo = base + off := by rcases hoo with h | h <;> omega
    refine .value0 hr ⟨.pointer (some ⟨b, base + off, none⟩), ?_, .ptr hp⟩
    have hlt : ¬ len < n + 1 := by omega
    simp only [Go.Instr.arrayAt, e', Sem.run_bind, run_und hu, Result.andThen_ok, hlt, if_false, Sem.run_pure, ho']
   ·simp at ho
  ·simp at ho
 case makeInterface t x =>
  have hx := hρ x
  split at ho
  ·simp at ho
  ·simp at ho
  ·rename_i d hni hu hnj
   simp only [Option.some.injEq] at ho
   subst ho
   refine .value0 hr ⟨.iface t (ρ' x), ?_, .iface hx⟩
   cases d <;> first | (exact absurd rfl (hni _)) | simp [Go.Instr.makeInterface, run_und hu]
  ·simp at ho
 case makeFunc fn first cap =>
  split at ho
  ·rename_i f
   simp only [Option.some.injEq] at ho
   subst ho
   have l1 := LR.map hρ first
   have l2 := LR.map hρ cap
   exact .value0 hr ⟨.func (.func f) (first.map ρ') (cap.map ρ'), rfl, .fn (.func f) l1.size l1.get l2.size l2.get⟩
  ·simp at ho
 case makeMap t rs =>
  have fin : (h.new (.map [] 0)).map (fun (id, h) => AR.val (.map id) h) = some r →
    ∃ id h', r = .val (.map id) h' ∧ VR (φ.set id (w.heap.size, 0, 0)) (.map id) (.map (some w.heap.size)) ∧ HR G (φ.set id (w.heap.size, 0, 0)) h' (w.alloc (.map #[] 0)) ∧
     Post φ h w (φ.set id (w.heap.size, 0, 0)) h' (w.alloc (.map #[] 0)) := by
   intro hn
   cases hnew : h.new (.map [] 0) with
   | none => rw [hnew] at hn; simp at hn
   | some p =>
    obtain ⟨id, h2⟩ := p
    rw [hnew] at hn
    simp only [Option.map_some, Option.some.injEq] at hn
    subst hn
    obtain ⟨a, b⟩ := alloc_ok hr hnew (ob := .map #[] 0) (cs := 0) ⟨#[], rfl, rfl, fun i hi => absurd hi (by simp)⟩
    exact ⟨id, h2, rfl, .map (p := (w.heap.size, 0, 0)) (Phi.set_same _ _ _), a, b⟩
  split at ho
  ·obtain ⟨id, h', rfl, h1, h2, h3⟩ := fin ho
   refine .value ⟨_, _, _, ?_, h1, h2, h3⟩
   simp only [Go.Instr.makeMap, Option.map_none, Sem.run_bind, run_newObj', Result.andThen_ok, Sem.run_pure]
  ·rename_i x
   have hx := hρ x
   split at ho
   ·rename_i k n kt et heq hu
    rw [heq] at hx
    have e := hx.int_inv
    obtain ⟨id, h', rfl, h1, h2, h3⟩ := fin ho
    refine .value ⟨_, _, _, ?_, h1, h2, h3⟩
    simp only [Go.Instr.makeMap, Option.map_some, e, asInt, asIntOf, Sem.run_bind, run_und hu, run_newObj', Result.andThen_ok, Sem.run_pure]
   ·simp at ho
 case makeSlice t l c =>
  obtain ⟨a, h', ha, rfl⟩ := val2_inv ho
  exact .value (makeSliceA_ok hr ha (hρ l) (hρ c))
 case slice t x lo hi mx =>
  obtain ⟨a, ha, rfl⟩ := valH_inv ho
  exact .value0 hr (sliceA_ok hr hρ ha)
 case fieldAddr s x f =>
  have hx := hρ x
  split at ho
  ·rename_i id off fo ft sz heq hf
   rw [heq] at hx
   simp only [Option.some.injEq] at ho
   subst ho
   exact .value0 hr (fieldAddr_ok hf hx)
  ·simp at ho
 case field s x f =>
  have hx := hρ x
  split at ho
  ·rename_i n dep d t fo ft sz heq hf
   rw [heq] at hx
   obtain ⟨a, ha, rfl⟩ := valH_inv ho
   obtain ⟨fields, y, hu, hy, rfl, rfl, _, _⟩ := field?_ok hf
   obtain ⟨c, _, _, _, _, e⟩ := hx.agg_inv
   rw [e] at hx
   refine .value0 hr ?_
   obtain ⟨v', h1, h2⟩ := partA_ok (P := P) hx ha w
   refine ⟨v', ?_, h2⟩
   simp only [Go.Instr.field, e, Sem.run_bind, run_und hu, Result.andThen_ok, hy, asAgg, Sem.run_pure, h1]
  ·simp at ho
 case indexAddr t x i =>
  obtain ⟨v, v', rfl, h1, h2⟩ := indexAddrA_ok (P := P) (w := w) hr.fct ho (hρ x) (hρ i)
  exact .value0 hr ⟨v', h1, h2⟩
 case index t x i =>
  obtain ⟨a, ha, rfl⟩ := valH_inv ho
  exact .value0 hr (indexA_ok ha (hρ x) (hρ i))
 case lookup t x k ok =>
  obtain ⟨a, ha, rfl⟩ := valH_inv ho
  exact .value0 hr (lookupA_ok hr ha (hρ x) (hρ k))
 case mapUpdate t m k x =>
  obtain ⟨h', ha, rfl⟩ := skipH_inv ho
  exact .unit (mapUpdateA_ok hr ha (hρ m) (hρ k) (hρ x))
 case insert t m k x =>
  obtain ⟨h', ha, rfl⟩ := skipH_inv ho
  exact .unit (mapUpdateA_ok hr ha (hρ m) (hρ k) (hρ x))
 case mapEntry t m k =>
  obtain ⟨a, h', ha, rfl⟩ := val2_inv ho
  obtain ⟨v', w', h1, h2, h3, h4⟩ := mapEntryA_ok (P := P) hr ha (hρ m) (hρ k)
  exact .value ⟨φ, v', w', h1, h2, h3, h4⟩
 case entryStore t m s x =>
  obtain ⟨h', ha, rfl⟩ := skipH_inv ho
  exact .unit (entryStoreA_ok hr ha (hρ m) (hρ s) (hρ x))
 case range t x =>
  obtain ⟨a, h', ha, rfl⟩ := val2_inv ho
  exact .value (rangeA_ok hr ha (hρ x))
 case next it isString =>
  obtain ⟨a, h', ha, rfl⟩ := val2_inv ho
  obtain ⟨v', w', h1, h2, h3, h4⟩ := nextA_ok (P := P) hr ha (hρ it) type
  exact .value ⟨φ, v', w', h1, h2, h3, h4⟩
 case entry it =>
  obtain ⟨a, ha, rfl⟩ := valH_inv ho
  exact .value0 hr (entryA_ok hr ha (hρ it))
 case typeAssert x xt t ok =>
  obtain ⟨a, ha, rfl⟩ := valH_inv ho
  exact .value0 hr (typeAssertA_ok ha (hρ x) xt)
 case extract x i =>
  have hx := hρ x
  split at ho
  ·rename_i l heq
   rw [heq] at hx
   obtain ⟨a, hl, e⟩ := hx.tup_inv
   cases hi : l[i]? with
   | none => rw [hi] at ho; simp at ho
   | some u =>
    rw [hi] at ho
    simp only [Option.map_some, Option.some.injEq] at ho
    subst ho
    have hlt : i < l.length := by
     rcases Nat.lt_or_ge i l.length with h | h
     ·exact h
     ·rw [List.getElem?_eq_none h] at hi; simp at hi
    have hg := hl.get i hlt
    rw [List.getD_eq_getElem?_getD, hi] at hg
    refine .value0 hr ⟨a.getD i undef, ?_, hg⟩
    have ha : a[i]? = some (a.getD i undef) := getElem?_of_lt (by rw [hl.size]; exact hlt)
    simp only [Go.Instr.extract, e, ha, Sem.run_pure]
  ·simp at ho
 case call c =>
  split at ho
  ·rename_i b hc
   have : (resolve ρ' c type).run P w = .ok { target := .builtin b c.argTypes type (c.args.map fun | .const _ => true | _ => false), args := c.args.map ρ' } w := by
    simp only [resolve, hc, Sem.run_pure]
    rfl
   simp only [Sem.run_bind, this, Result.andThen_ok, invoke]
   exact builtinA_ok hr hρ ho type _
  ·cases hd : resolveA ρ c with
   | none => rw [hd] at ho; simp at ho
   | some d =>
    rw [hd] at ho
    simp only [Option.bind_some] at ho
    obtain ⟨d', h1, h2⟩ := resolveA_ok (P := P) (w := w) hρ hd type
    simp only [Sem.run_bind, h1, Result.andThen_ok]
    exact callA_ok hr h2 ho
  ·simp at ho
 case defer c =>
  split at ho
  ·cases hd : resolveA ρ c with
   | none => rw [hd] at ho; simp at ho
   | some d =>
    rw [hd] at ho
    simp only [Option.map_some, Option.some.injEq] at ho
    subst ho
    obtain ⟨d', h1, h2⟩ := resolveA_ok (P := P) (w := w) hρ hd type
    exact ⟨d', by simp only [Sem.run_bind, h1, Result.andThen_ok, Sem.run_pure], h2, rfl⟩
  ·simp at ho
 case panic x =>
  have hx := hρ x
  split at ho
  ·rename_i t a heq
   rw [heq] at hx
   obtain ⟨v', hv, e⟩ := hx.iface_inv
   simp only [Option.some.injEq] at ho
   subst ho
   refine ⟨.iface t v', ?_, .iface hv, rfl⟩
   rw [e]
   rfl
  ·simp at ho
 all_goals simp at ho
end
end Go.Ab
end

section
namespace Go.Ab
variable [Val]
def mkF (b : Frame) (tmps : Array Value) (df : List Deferred) (todo : List Item) : Frame :=
  { fn := b.fn, tmps, todo, defers := df, mode := .run, kind := b.kind, roundOf := b.roundOf }
inductive ChainR (φ : Phi) : List APanic → List PanicEntry → Prop
  | nil : ChainR φ [] []
  | cons {v : AV} {v' : Value} {r : Bool} {l : List APanic} {l' : List PanicEntry} (h : VR φ v v') (t : ChainR φ l l') : ChainR φ ((v, r) :: l) ({ v := v', recovered := r } :: l')
theorem ChainR.mono {φ φ' : Phi} (hle : φ.le φ') {l : List APanic} {l' : List PanicEntry} (h : ChainR φ l l') : ChainR φ' l l' := by
  induction h with
  | nil => exact .nil
  | cons h _ ih => exact .cons (h.mono hle) ih
theorem ChainR.append {φ : Phi} {l m : List APanic} {l' m' : List PanicEntry} (h : ChainR φ l l') (h' : ChainR φ m m') : ChainR φ (l ++ m) (l' ++ m') := by
  induction h with
  | nil => exact h'
  | cons h _ ih => exact .cons h ih
theorem ChainR.noExit {φ : Phi} {l : List APanic} {l' : List PanicEntry} (h : ChainR φ l l') : l'.dropWhile (!·.goexit) = [] := by
  induction h with
  | nil => rfl
  | cons h _ ih => simpa using ih
inductive DFs (φ : Phi) : List ADefer → List Deferred → Prop
  | nil : DFs φ [] []
  | call {d : ADef} {d' : Deferred} {l : List ADefer} {l' : List Deferred} (h : DefR φ d d') (t : DFs φ l l') : DFs φ (.call d :: l) (d' :: l')
  | mark {id : Nat} {p : Nat × Nat × Nat} {l : List ADefer} {l' : List Deferred} (h : φ id = some p) (t : DFs φ l l') : DFs φ (.mark id :: l) ({ target := .collected p.1, args := #[] } :: l')
theorem DefR.mono {φ φ' : Phi} (hle : φ.le φ') {d : ADef} {d' : Deferred} (h : DefR φ d d') : DefR φ' d d' := by
  obtain ⟨⟨fn', cap', h1, h2, h3⟩, h4⟩ := h
  exact ⟨⟨fn', cap', h1, h2.mono hle, h3.mono hle⟩, h4.mono hle⟩
theorem DFs.mono {φ φ' : Phi} (hle : φ.le φ') {l : List ADefer} {l' : List Deferred} (h : DFs φ l l') : DFs φ' l l' := by
  induction h with
  | nil => exact .nil
  | call h _ ih => exact .call (h.mono hle) ih
  | mark h _ ih => exact .mark (hle _ _ h) ih
inductive ModeR (φ : Phi) : AMode → FrameMode → Prop
  | returning : ModeR φ .returning .returning
  | panicking {l : List APanic} {l' : List PanicEntry} (h : ChainR φ l l') : ModeR φ (.panicking l) (.panicking l')
theorem ModeR.mono {φ φ' : Phi} (hle : φ.le φ') {u : AMode} {m : FrameMode} (h : ModeR φ u m) : ModeR φ' u m := by
  cases h with
  | returning => exact .returning
  | panicking h => exact .panicking (h.mono hle)
inductive URel (φ : Phi) (b : Frame) (cs0 : List Frame) : AMode → List Frame → Prop
  | normal (hk : b.kind = .normal) (hr : b.roundOf = none) : URel φ b cs0 .normal cs0
  | round (hk : b.kind = .normal) {l : Nat} (hr : b.roundOf = some l) : URel φ b cs0 .round cs0
  | deferred {u : AMode} {m : FrameMode} {c : Frame} {rest : List Frame} (hk : b.kind = .deferred) (hr : b.roundOf = none) (hc : cs0 = c :: rest) (hm : ModeR φ u m) :
      URel φ b cs0 u ({ c with mode := m } :: rest)
theorem URel.mono {φ φ' : Phi} (hle : φ.le φ') {b : Frame} {cs0 cs : List Frame} {u : AMode} (h : URel φ b cs0 u cs) : URel φ' b cs0 u cs := by
  cases h with
  | normal hk hr => exact .normal hk hr
  | round hk hr => exact .round hk hr
  | deferred hk hr hc hm => exact .deferred hk hr hc (hm.mono hle)
structure SR (G : Nat) (φ : Phi) (fi : FI) (s : S) (b : Frame) (tmps : Array Value) (df : List Deferred) (cs0 cs : List Frame) (w : World) : Prop where
  hr : HR G φ s.h w
  rr : RR φ fi s.regs tmps
  dr : DFs φ s.df df
  ur : URel φ b cs0 s.u cs
  fG : fi.G = G
def Arr (P : Program) (G : Nat) (m : Machine) (fi : FI) (b : Frame) (k : List Item) (cs0 : List Frame) (φ : Phi) (h : H) (w : World) : Res → Prop
  | .nor s => ∃ φ' tmps df cs w', SR G φ' fi s b tmps df cs0 cs w' ∧ Post φ h w φ' s.h w' ∧ Steps P m (lone (mkF b tmps df k) cs w')
  | .ext id s => ∃ φ' tmps df cs w' k0, SR G φ' fi s b tmps df cs0 cs w' ∧ Post φ h w φ' s.h w' ∧ exitTo id k0 = exitTo id k ∧ Steps P m (lone (mkF b tmps df (.code (.exit id) :: k0)) cs w')
  | .ret s => ∃ φ' tmps df cs w' k0, SR G φ' fi s b tmps df cs0 cs w' ∧ Post φ h w φ' s.h w' ∧ Steps P m (lone (mkF b tmps df (.code .ret :: k0)) cs w')
  | .pan chain s => ∃ φ' tmps df cs w' todo chain', SR G φ' fi s b tmps df cs0 cs w' ∧ Post φ h w φ' s.h w' ∧ ChainR φ' chain chain' ∧
      Steps P m (lone { mkF b tmps df todo with mode := .panicking chain' } cs w')
theorem Arr.pre {P : Program} {G : Nat} {m m₁ : Machine} {fi : FI} {b : Frame} {k : List Item} {cs0 : List Frame} {φ φ₁ : Phi} {h h₁ : H} {w w₁ : World} {r : Res}
    (hs : Steps P m m₁) (hp : Post φ h w φ₁ h₁ w₁) (ha : Arr P G m₁ fi b k cs0 φ₁ h₁ w₁ r) : Arr P G m fi b k cs0 φ h w r := by
  cases r with
  | nor s => obtain ⟨φ', t, d, c, w', h1, h2, h3⟩ := ha; exact ⟨φ', t, d, c, w', h1, hp.trans h2, hs.trans h3⟩
  | ext id s => obtain ⟨φ', t, d, c, w', k0, h1, h2, h3, h4⟩ := ha; exact ⟨φ', t, d, c, w', k0, h1, hp.trans h2, h3, hs.trans h4⟩
  | ret s => obtain ⟨φ', t, d, c, w', k0, h1, h2, h3⟩ := ha; exact ⟨φ', t, d, c, w', k0, h1, hp.trans h2, hs.trans h3⟩
  | pan ch s => obtain ⟨φ', t, d, c, w', td, ch', h1, h2, h3, h4⟩ := ha; exact ⟨φ', t, d, c, w', td, ch', h1, hp.trans h2, h3, hs.trans h4⟩
def EndR (P : Program) (G : Nat) (m : Machine) (c : Frame) (cs : List Frame) (φ : Phi) (h : H) (w : World) (h' : H) : AEnd → Prop
  | .ret v => ∃ φ' v' w', VR φ' v v' ∧ HR G φ' h' w' ∧ Post φ h w φ' h' w' ∧ Steps P m (lone (c.finish v') cs w')
  | .pan chain => ∃ φ' chain' w', ChainR φ' chain chain' ∧ HR G φ' h' w' ∧ Post φ h w φ' h' w' ∧ Steps P m (lone (c.raise chain') cs w')
def CallSim (P : Program) (G : Nat) (cl : CallFn) : Prop :=
  ∀ (f : FuncId) (args : List AV) (h h' : H) (e : AEnd), cl f args h = some (e, h') → (∃ fn, P.funcs[f]? = some fn ∧ fn.body.isSome = true) →
  ∀ (φ : Phi) (w : World) (args' : Array Value) (c : Frame) (cs : List Frame), HR G φ h w → LR φ args args' →
    EndR P G (lone (Frame.enter P f args' .normal) (c :: cs) w) c cs φ h w h' e
def RoundSim (P : Program) (G : Nat) (rn : RoundFn) : Prop :=
  ∀ (l : Nat) (args : List AV) (h h' : H) (e : AEnd), rn l args h = some (e, h') →
  ∀ (φ : Phi) (w : World) (args' : Array Value) (p : Nat × Nat × Nat) (c : Frame) (cs : List Frame), HR G φ h w → LR φ args args' → φ l = some p →
    ∃ fn tmps asg body, (Go.Instr.yield p.1 args').run P w = .ok (.round p.1 fn tmps asg body) w ∧
      EndR P G (lone (Frame.round p.1 fn tmps asg body .normal) (c :: cs) w) c cs φ h w h' e
def DeferSim (P : Program) (G : Nat) (dc : DeferFn) : Prop :=
  ∀ (f : FuncId) (args : List AV) (u u' : AMode) (h h' : H) (e : AEnd), dc f args u h = some (e, u', h') → (∃ fn, P.funcs[f]? = some fn ∧ fn.body.isSome = true) →
  ∀ (φ : Phi) (w : World) (args' : Array Value) (c : Frame) (cs : List Frame) (m : FrameMode), HR G φ h w → LR φ args args' → ModeR φ u m →
    ∃ φ' w' m' , HR G φ' h' w' ∧ Post φ h w φ' h' w' ∧ ModeR φ' u' m' ∧
      (match e with
       | .ret _ => Steps P (lone (Frame.enter P f args' .deferred) ({ c with mode := m } :: cs) w) (lone { c with mode := settle m' } cs w')
       | .pan chain => ∃ chain', ChainR φ' chain chain' ∧ Steps P (lone (Frame.enter P f args' .deferred) ({ c with mode := m } :: cs) w) (lone { c with mode := raised m' chain' } cs w'))
section
variable {P : Program} {G : Nat}
omit [Val] in
theorem mkF_finish (b : Frame) (tmps : Array Value) (df : List Deferred) (ops : Array Oper) (i : Nat) (rest : List Nat) (k : List Item) (v : Value) :
    (mkF b tmps df (.inRegion ops (i :: rest) :: k)).finish v =
      mkF b (match (ops[i]?).bind (·.dst) with | some d => tmps.setIfInBounds d v | none => tmps) df (.inRegion ops rest :: k) := rfl
omit [Val] in
theorem stepG_op' {b : Frame} {tmps : Array Value} {df : List Deferred} {ops : Array Oper} {i : Nat} {rest : List Nat} {k : List Item} {cs : List Frame} {w : World} {o : Oper}
    (ho : ops[i]? = some o) (hw : Region.wanted o (yielded ops tmps) = true) (hd : b.roundOf = none ∨ ∀ c, o.op ≠ .defer c) :
    stepG P true { frame := mkF b tmps df (.inRegion ops (i :: rest) :: k), callers := cs, status := .running, dying := none } w =
      stepG.apply P true (mkF b tmps df (.inRegion ops (i :: rest) :: k)) cs none (execOp (mkF b tmps df (.inRegion ops (i :: rest) :: k)).eval o) w := by
  simp only [stepG, stepG.exec, mkF, ho, Option.map_some, Option.getD_some, hw, if_true, stepG.oper, Frame.oper?]
  rcases hd with hd | hd
  · rw [hd]
  · cases hro : b.roundOf with
    | none => rfl
    | some l =>
      obtain ⟨dst, op, type, pos, after, guard⟩ := o
      cases op <;> first | rfl | exact absurd rfl (hd _)
omit [Val] in
theorem step_skip' {b : Frame} {tmps : Array Value} {df : List Deferred} {ops : Array Oper} {i : Nat} {rest : List Nat} {k : List Item} {cs : List Frame} {w : World}
    (hw : ((ops[i]?).map (Region.wanted · (yielded ops tmps))).getD false = false) :
    step P (lone (mkF b tmps df (.inRegion ops (i :: rest) :: k)) cs w) =
      .next (lone ((mkF b tmps df (.inRegion ops (i :: rest) :: k)).finish undef) cs w) :=
  step_lone_go (by
    have h' := hw
    simp only [mkF] at *
    simp [stepG, stepG.exec, h'])
omit [Val] in
theorem step_region_end' {b : Frame} {tmps : Array Value} {df : List Deferred} {ops : Array Oper} {k : List Item} {cs : List Frame} {w : World} :
    step P (lone (mkF b tmps df (.inRegion ops [] :: k)) cs w) = .next (lone (mkF b tmps df k) cs w) :=
  step_lone_go (by simp [stepG, stepG.exec, mkF])
theorem wantedA_ok {φ : Phi} {fi : FI} {regs : Tr AV} {tmps : Array Value} (hrr : RR φ fi regs tmps) {ops : Array Oper} {o : Oper} {r : Bool} (hw : wantedA ops.toList fi regs o = some r) :
    Region.wanted o (yielded ops tmps) = r := by
  unfold wantedA at hw
  unfold Region.wanted
  cases hg : o.guard with
  | none => rw [hg] at hw; simpa using hw
  | some gw =>
    obtain ⟨j, want⟩ := gw
    rw [hg] at hw
    dsimp only at hw ⊢
    unfold yielded
    have ej : ops.toList[j]? = ops[j]? := by simp
    rw [ej] at hw
    cases ht : (ops[j]?).bind (·.dst) with
    | none =>
      rw [ht] at hw
      simp only [Option.some.injEq] at hw
      subst hw
      rfl
    | some t =>
      rw [ht] at hw
      dsimp only at hw
      simp only [Option.bind_some]
      have hev : VR φ (ev fi regs (.tmp t)) (tmps.getD t undef) ∧ (ev fi regs (.tmp t) ≠ .junk → t < tmps.size) := by
        simp only [ev]
        cases hlt : Nat.blt t fi.sz with
        | true =>
          simp only [cond_true]
          unfold Nat.blt at hlt
          have hlt' : t < fi.sz := Nat.le_of_ble_eq_true hlt
          exact ⟨hrr.get t hlt', fun _ => by rw [hrr.size]; exact hlt'⟩
        | false => exact ⟨.junk _, fun h => absurd rfl h⟩
      obtain ⟨hv, hne⟩ := hev
      split at hw
      · rename_i c heq
        rw [heq] at hv
        have hlt := hne (by rw [heq]; simp)
        have e := hv.bool_inv
        rw [Array.getD_eq_getD_getElem?, Array.getElem?_eq_getElem hlt] at e
        simp only [Option.getD_some] at e
        rw [Array.getElem?_eq_getElem hlt, e]
        simp only [Option.some.injEq] at hw
        subst hw
        cases c <;> cases want <;> rfl
      · rename_i l heq
        rw [heq] at hv
        have hlt := hne (by rw [heq]; simp)
        obtain ⟨a, _, e⟩ := hv.tup_inv
        rw [Array.getD_eq_getD_getElem?, Array.getElem?_eq_getElem hlt] at e
        simp only [Option.getD_some] at e
        rw [Array.getElem?_eq_getElem hlt, e]
        simp only [Option.some.injEq] at hw
        subst hw
        rfl
      · simp at hw
end
end Go.Ab
end

section
namespace Go.Ab
variable [Val]
def putT (dst : Option Tmp) (v : Value) (tmps : Array Value) : Array Value :=
 match dst with
 | some d => tmps.setIfInBounds d v
 | none => tmps
omit [Val] in
theorem mkF_finish' {b : Frame} {tmps : Array Value} {df : List Deferred} {ops : Array Oper} {i : Nat} {rest : List Nat} {k : List Item} {o : Oper} (ho : ops[i]? = some o) (v : Value) :
  (mkF b tmps df (.inRegion ops (i :: rest) :: k)).finish v = mkF b (putT o.dst v tmps) df (.inRegion ops rest :: k) := by
 rw [mkF_finish, ho]; rfl
omit [Val] in
theorem mkF_raise (b : Frame) (tmps : Array Value) (df : List Deferred) (todo : List Item) (l : List PanicEntry) :
  (mkF b tmps df todo).raise l = { mkF b tmps df todo with mode := .panicking l } := rfl
def StepOut (P : Program) (G : Nat) (fi : FI) (o : Oper) (s : S) (b : Frame) (tmps : Array Value) (df : List Deferred) (ops : Array Oper) (i : Nat) (rest : List Nat) (k : List Item)
  (cs0 cs : List Frame) (φ : Phi) (w : World) : Sum S Res → Prop
 | .inl s' => ∃ v, s'.regs = putReg fi s.regs o.dst v ∧ ∃ φ' v' df' cs' w', VR φ' v v' ∧ HR G φ' s'.h w' ∧ Post φ s.h w φ' s'.h w' ∧ DFs φ' s'.df df' ∧ URel φ' b cs0 s'.u cs' ∧
   Steps P (lone (mkF b tmps df (.inRegion ops (i :: rest) :: k)) cs w) (lone (mkF b (putT o.dst v' tmps) df' (.inRegion ops rest :: k)) cs' w')
 | .inr (.pan chain s') => s'.regs = s.regs ∧ s'.df = s.df ∧ s'.u = s.u ∧ ∃ φ' chain' w', ChainR φ' chain chain' ∧ HR G φ' s'.h w' ∧ Post φ s.h w φ' s'.h w' ∧
   Steps P (lone (mkF b tmps df (.inRegion ops (i :: rest) :: k)) cs w) (lone { mkF b tmps df (.inRegion ops (i :: rest) :: k) with mode := .panicking chain' } cs w')
 | .inr _ => False
section
variable {P : Program} {G : Nat} {cl : CallFn} {rn : RoundFn}
omit [Val] in
theorem op_defer {o : Oper} {ρ : Operand → AV} {h : H} (h' : ∀ d h₂, opR P ρ o h ≠ some (.defer d h₂)) (hsome : (opR P ρ o h).isSome = true) : ∀ c, o.op ≠ .defer c := by
 intro c hc
 unfold opR at h' hsome
 rw [hc] at h' hsome
 dsimp only at h' hsome
 split at hsome
 ·rename_i f hf
  rw [hf] at h'
  cases hd : resolveA ρ c with
  | none => rw [hd] at hsome; simp at hsome
  | some d =>
   rw [hd] at h'
   exact h' d h rfl
 ·simp at hsome
theorem step_core (hcl : CallSim P G cl) (hrn : RoundSim P G rn) {fi : FI} {o : Oper} {s : S} {r : Sum S Res} (hs : stepA P cl rn fi o s = some r)
  {b : Frame} {tmps : Array Value} {df : List Deferred} {ops : Array Oper} {i : Nat} {rest : List Nat} {k : List Item} {cs0 cs : List Frame} {φ : Phi} {w : World}
  {ρ : Operand → AV} (hcong : opA P fi s.regs o s.h = opR P ρ o s.h)
  (hρ : ∀ x, VR φ (ρ x) ((mkF b tmps df (.inRegion ops (i :: rest) :: k)).eval x)) (ho : ops[i]? = some o) (hw : Region.wanted o (yielded ops tmps) = true)
  (hr : HR G φ s.h w) (hd : DFs φ s.df df) (hu : URel φ b cs0 s.u cs) : StepOut P G fi o s b tmps df ops i rest k cs0 cs φ w r := by
 obtain ⟨regs, sdf, h, u⟩ := s
 dsimp only at hcong hr hd hu
 unfold stepA at hs
 dsimp only at hs
 rw [hcong] at hs
 have hne : b.kind ≠ .early := by
  cases hu with
  | normal hk _ => rw [hk]; simp
  | round hk _ => rw [hk]; simp
  | deferred hk _ _ _ => rw [hk]; simp
 generalize hop : opR P ρ o h = oar at hs
 cases oar with
 | none => simp at hs
 | some ar =>
  have hok := opR_ok hr hρ hop
  have nd : (∀ d h₂, ar ≠ .defer d h₂) → ∀ c, o.op ≠ .defer c := fun hn =>
   op_defer (P := P) (ρ := ρ) (h := h) (fun d h₂ he => hn d h₂ (by rw [hop] at he; exact Option.some.inj he)) (by rw [hop]; rfl)
  cases ar with
  | val v h' =>
   simp only [Option.some.injEq] at hs
   subst hs
   obtain ⟨φ', nx, v', w', hrun, hnx, hv, hhr, hp⟩ := hok
   refine ⟨v, rfl, φ', v', df, cs, w', hv, hhr, hp, hd.mono hp.le, hu.mono hp.le, .one (step_lone_go ?_)⟩
   rw [stepG_op' ho hw (.inr (nd (by simp)))]
   rcases hnx with rfl | ⟨rfl, rfl⟩
   ·rw [← mkF_finish' ho]
    simp [stepG.apply, hrun]
   ·rw [← mkF_finish' ho]
    simp [stepG.apply, hrun]
  | enter f args h' =>
   obtain ⟨args', hrun, hargs, rfl, hfn⟩ := hok
   have henter : step P (lone (mkF b tmps df (.inRegion ops (i :: rest) :: k)) cs w) =
     .next (lone (Frame.enter P f args' .normal) (mkF b tmps df (.inRegion ops (i :: rest) :: k) :: cs) w) :=
    step_lone_go (by rw [stepG_op' ho hw (.inr (nd (by simp)))]; simp [stepG.apply, hrun]; simp [mkF])
   dsimp only at hs
   generalize hc : cl f args h' = oc at hs
   cases oc with
   | none => simp at hs
   | some p =>
    obtain ⟨e, h2⟩ := p
    have hend := hcl f args h' h2 e hc hfn φ w args' (mkF b tmps df (.inRegion ops (i :: rest) :: k)) cs hr hargs
    cases e with
    | ret v =>
     simp only [Option.some.injEq] at hs
     subst hs
     obtain ⟨φ', v', w', hv, hhr, hp, hst⟩ := hend
     rw [mkF_finish' ho] at hst
     exact ⟨v, rfl, φ', v', df, cs, w', hv, hhr, hp, hd.mono hp.le, hu.mono hp.le, .head henter hst⟩
    | pan chain =>
     simp only [Option.some.injEq] at hs
     subst hs
     obtain ⟨φ', chain', w', hv, hhr, hp, hst⟩ := hend
     exact ⟨rfl, rfl, rfl, φ', chain', w', hv, hhr, hp, .head henter hst⟩
  | round l args h' =>
   obtain ⟨args', p, hφ, hrun, hargs, rfl⟩ := hok
   dsimp only at hs
   generalize hc : rn l args h' = oc at hs
   cases oc with
   | none => simp at hs
   | some pp =>
    obtain ⟨e, h2⟩ := pp
    obtain ⟨fn, tm, asg, body, hy, hend⟩ := hrn l args h' h2 e hc φ w args' p (mkF b tmps df (.inRegion ops (i :: rest) :: k)) cs hr hargs hφ
    have henter : step P (lone (mkF b tmps df (.inRegion ops (i :: rest) :: k)) cs w) =
      .next (lone (Frame.round p.1 fn tm asg body .normal) (mkF b tmps df (.inRegion ops (i :: rest) :: k) :: cs) w) :=
     step_lone_go (by rw [stepG_op' ho hw (.inr (nd (by simp)))]; simp [stepG.apply, hrun, hy])
    cases e with
    | ret v =>
     simp only [Option.some.injEq] at hs
     subst hs
     obtain ⟨φ', v', w', hv, hhr, hp, hst⟩ := hend
     rw [mkF_finish' ho] at hst
     exact ⟨v, rfl, φ', v', df, cs, w', hv, hhr, hp, hd.mono hp.le, hu.mono hp.le, .head henter hst⟩
    | pan chain =>
     simp only [Option.some.injEq] at hs
     subst hs
     obtain ⟨φ', chain', w', hv, hhr, hp, hst⟩ := hend
     exact ⟨rfl, rfl, rfl, φ', chain', w', hv, hhr, hp, .head henter hst⟩
  | defer d h' =>
   obtain ⟨d', hrun, hdr, rfl⟩ := hok
   dsimp only at hs
   cases hin : u.inRound with
   | true => rw [hin] at hs; simp at hs
   | false =>
    rw [hin] at hs
    simp only [cond_false, Option.some.injEq] at hs
    subst hs
    have hro : b.roundOf = none := by
     cases hu with
     | normal _ h => exact h
     | round _ _ => simp [AMode.inRound] at hin
     | deferred _ h _ _ => exact h
    refine ⟨.tup [], rfl, φ, undef, d' :: df, cs, w, .tup (by simp) (fun i hi => absurd hi (by simp)), hr, Post.refl _ _ _, .call hdr hd, hu, .one (step_lone_go ?_)⟩
    rw [stepG_op' ho hw (.inl hro)]
    have := mkF_finish' (b := b) (tmps := tmps) (df := d' :: df) (rest := rest) (k := k) ho undef
    rw [← this]
    simp [stepG.apply, hrun]
    rfl
  | recover h' =>
   obtain ⟨hrun, rfl⟩ := hok
   dsimp only at hs
   have hkind : (mkF b tmps df (.inRegion ops (i :: rest) :: k)).kind = b.kind := rfl
   have hround : (mkF b tmps df (.inRegion ops (i :: rest) :: k)).roundOf = b.roundOf := rfl
   cases hu with
   | round _ _ => simp [recoverA] at hs
   | normal hk hro =>
    simp only [recoverA, Option.some.injEq] at hs
    subst hs
    refine ⟨.nili, rfl, φ, .nilIface, df, _, w, .nili, hr, Post.refl _ _ _, hd, .normal hk hro, .one (step_lone_go ?_)⟩
    rw [stepG_op' ho hw (.inr (nd (by simp))), ← mkF_finish' ho]
    have htr : ∀ cs, tryRecover (mkF b tmps df (.inRegion ops (i :: rest) :: k)) cs = none := by
     intro cs
     unfold tryRecover
     rw [hkind, hk]
    simp [stepG.apply, hrun, htr, hround, hro]
   | deferred hk hro hc hm =>
    have htr := fun cs => tryRecover_deferred (fr := mkF b tmps df (.inRegion ops (i :: rest) :: k)) (hkind.trans hk) cs
    cases hm with
    | returning =>
     simp only [recoverA, Option.some.injEq] at hs
     subst hs
     refine ⟨.nili, rfl, φ, .nilIface, df, _, w, .nili, hr, Post.refl _ _ _, hd, .deferred hk hro hc .returning, .one (step_lone_go ?_)⟩
     rw [stepG_op' ho hw (.inr (nd (by simp))), ← mkF_finish' ho]
     simp [stepG.apply, hrun, htr, hround, hro, recoverD]
    | panicking hch =>
     cases hch with
     | nil =>
      simp only [recoverA, Option.some.injEq] at hs
      subst hs
      refine ⟨.nili, rfl, φ, .nilIface, df, _, w, .nili, hr, Post.refl _ _ _, hd, .deferred hk hro hc (.panicking .nil), .one (step_lone_go ?_)⟩
      rw [stepG_op' ho hw (.inr (nd (by simp))), ← mkF_finish' ho]
      simp [stepG.apply, hrun, htr, hround, hro, recoverD]
     | @cons v v' rec l l' hv ht =>
      cases rec with
      | true =>
       simp only [recoverA, Option.some.injEq] at hs
       subst hs
       refine ⟨.nili, rfl, φ, .nilIface, df, _, w, .nili, hr, Post.refl _ _ _, hd, .deferred hk hro hc (.panicking (.cons hv ht)), .one (step_lone_go ?_)⟩
       rw [stepG_op' ho hw (.inr (nd (by simp))), ← mkF_finish' ho]
       simp [stepG.apply, hrun, htr, hround, hro, recoverD]
      | false =>
       simp only [recoverA, Option.some.injEq] at hs
       subst hs
       refine ⟨v, rfl, φ, v', df, _, w, hv, hr, Post.refl _ _ _, hd, .deferred hk hro hc (.panicking (.cons (r := true) hv ht)), .one (step_lone_go ?_)⟩
       rw [stepG_op' ho hw (.inr (nd (by simp))), ← mkF_finish' ho]
       simp [stepG.apply, hrun, htr, hround, hro, recoverD]
  | panic v h' =>
   obtain ⟨v', hrun, hv, rfl⟩ := hok
   simp only [Option.some.injEq] at hs
   subst hs
   refine ⟨rfl, rfl, rfl, φ, [{ v := v', recovered := false }], w, .cons hv .nil, hr, Post.refl _ _ _, .one (step_lone_go ?_)⟩
   rw [stepG_op' ho hw (.inr (nd (by simp))), ← mkF_raise]
   simp [stepG.apply, hrun]
end
end Go.Ab
end

section
namespace Go.Ab
variable [Val]
section
variable {P : Program} {G : Nat} {cl : CallFn} {rn : RoundFn}
theorem VR.undef (φ : Phi) : VR φ (.tup []) undef := .tup (by simp) (fun i hi => absurd hi (by simp))
theorem SR.eval {φ : Phi} {fi : FI} {s : S} {b : Frame} {tmps : Array Value} {df : List Deferred} {cs0 cs : List Frame} {w : World} (hs : SR G φ fi s b tmps df cs0 cs w) (df' : List Deferred) (todo : List Item)
  (x : Operand) : VR φ (ev fi s.regs x) ((mkF b tmps df' todo).eval x) := ev_rel hs.fG hs.hr hs.rr _ rfl x
theorem putT_rel {φ : Phi} {fi : FI} {regs : Tr AV} {tmps : Array Value} (hrr : RR φ fi regs tmps) (dst : Option Tmp) {v : AV} {v' : Value} (hv : VR φ v v') :
  RR φ fi (putReg fi regs dst v) (putT dst v' tmps) := putReg_rel hrr dst hv
theorem runOps_sim (hcl : CallSim P G cl) (hrn : RoundSim P G rn) {fi : FI} {ops : Array Oper} {b : Frame} {k : List Item} {cs0 : List Frame} :
  ∀ (idx : List Nat) (l : List Oper) (s : S) (r : Res) (φ : Phi) (tmps : Array Value) (df : List Deferred) (cs : List Frame) (w : World), idx.map (ops[·]?) = l.map some →
   runOps P cl rn ops.toList fi l s = some r → SR G φ fi s b tmps df cs0 cs w → Arr P G (lone (mkF b tmps df (.inRegion ops idx :: k)) cs w) fi b k cs0 φ s.h w r := by
 intro idx
 induction idx with
 | nil =>
  intro l s r φ tmps df cs w hl hrun hs
  cases l with
  | cons _ _ => simp at hl
  | nil =>
   simp only [runOps, Option.some.injEq] at hrun
   subst hrun
   exact ⟨φ, tmps, df, cs, w, hs, Post.refl _ _ _, .one step_region_end'⟩
 | cons i rest ih =>
  intro l s r φ tmps df cs w hl hrun hs
  cases l with
  | nil => simp at hl
  | cons o l =>
   simp only [List.map_cons, List.cons.injEq] at hl
   obtain ⟨ho, hl⟩ := hl
   unfold runOps at hrun
   generalize hwa : wantedA ops.toList fi s.regs o = wa at hrun
   cases wa with
   | none => simp at hrun
   | some t =>
    have hw := wantedA_ok hs.rr hwa
    cases t with
    | false =>
     simp only at hrun
     have hst : step P (lone (mkF b tmps df (.inRegion ops (i :: rest) :: k)) cs w) = .next (lone (mkF b (putT o.dst undef tmps) df (.inRegion ops rest :: k)) cs w) := by
      rw [← mkF_finish' ho]
      exact step_skip' (by rw [ho]; simpa using hw)
     have := ih l _ r φ (putT o.dst undef tmps) df cs w hl hrun ⟨hs.hr, putT_rel hs.rr o.dst (VR.undef φ), hs.dr, hs.ur, hs.fG⟩
     exact this.pre (.one hst) (Post.refl _ _ _)
    | true =>
     simp only at hrun
     generalize hsa : stepA P cl rn fi o s = sa at hrun
     cases sa with
     | none => simp at hrun
     | some x =>
      have hout := step_core (rest := rest) (k := k) hcl hrn hsa (ρ := ev fi s.regs) (opA_eq P fi s.regs o s.h) (hs.eval df _) ho hw hs.hr hs.dr hs.ur
      cases x with
      | inl s' =>
       simp only at hrun
       obtain ⟨v, hregs, φ', v', df', cs', w', hv, hhr, hp, hdf, hur, hst⟩ := hout
       refine (ih l s' r φ' (putT o.dst v' tmps) df' cs' w' hl hrun ⟨hhr, ?_, hdf, hur, hs.fG⟩).pre hst hp
       rw [hregs]
       exact putT_rel (hs.rr.mono hp.le) o.dst hv
      | inr q =>
       simp only [Option.some.injEq] at hrun
       subst hrun
       cases q with
       | pan chain s' =>
        obtain ⟨e1, e2, e3, φ', chain', w', hch, hhr, hp, hst⟩ := hout
        refine ⟨φ', tmps, df, cs, w', _, chain', ⟨hhr, ?_, ?_, ?_, hs.fG⟩, hp, hch, hst⟩
        ·rw [e1]; exact hs.rr.mono hp.le
        ·rw [e2]; exact hs.dr.mono hp.le
        ·rw [e3]; exact hs.ur.mono hp.le
       | nor _ => exact hout.elim
       | ext _ _ => exact hout.elim
       | ret _ => exact hout.elim
omit [Val] in
theorem step_region' {b : Frame} {tmps : Array Value} {df : List Deferred} {id : Nat} {ops : Array Oper} {k : List Item} {cs : List Frame} {w : World} :
  step P (lone (mkF b tmps df (.code (.region id ops false) :: k)) cs w) = .next (lone (mkF b tmps df (.inRegion ops (List.range ops.size) :: k)) cs w) :=
 step_lone_go (by simp [stepG, stepG.exec, mkF])
omit [Val] in
theorem range_map (ops : Array Oper) : (List.range ops.size).map (ops[·]?) = ops.toList.map some := by
 apply List.ext_getElem?
 intro i
 simp only [List.getElem?_map]
 rcases Nat.lt_or_ge i ops.size with h | h
 ·simp [h]
 ·simp [Nat.not_lt.2 h]
theorem region_text (hcl : CallSim P G cl) (hrn : RoundSim P G rn) {fi : FI} {id : Nat} {ops : Array Oper} {b : Frame} {k : List Item} {cs0 : List Frame} {s : S} {r : Res} {φ : Phi} {tmps : Array Value}
  {df : List Deferred} {cs : List Frame} {w : World} (h : runRegion P cl rn ops false fi s = some r) (hs : SR G φ fi s b tmps df cs0 cs w) :
  Arr P G (lone (mkF b tmps df (.code (.region id ops false) :: k)) cs w) fi b k cs0 φ s.h w r := by
 simp only [runRegion, cond_false] at h
 exact (runOps_sim hcl hrn _ _ s r φ tmps df cs w (range_map ops) h hs).pre (.one step_region') (Post.refl _ _ _)
end
end Go.Ab
end

section
namespace Go.Ab
variable [Val]
def AroundR (φ : Phi) (around : Option Nat) (b : Frame) : Prop :=
 match around with
 | none => b.roundOf = none
 | some l => ∃ p, φ l = some p ∧ b.roundOf = some p.1
omit [Val] in
theorem AroundR.mono {φ φ' : Phi} (hle : φ.le φ') {around : Option Nat} {b : Frame} (h : AroundR φ around b) : AroundR φ' around b := by
 cases around with
 | none => exact h
 | some l => obtain ⟨p, hp, e⟩ := h; exact ⟨p, hle _ _ hp, e⟩
section
variable {P : Program} {G : Nat} {cl : CallFn} {rn : RoundFn}
theorem enter_ok {φ : Phi} {h h1 h2 : H} {w : World} (hr : HR G φ h w) {around : Option Nat} {b : Frame} (har : AroundR φ around b) {fi : FI} {regs : Tr AV} {tmps : Array Value}
  (hrr : RR φ fi regs tmps) {dfid l : Nat} {mark : List ADefer} (hmk : mkRange around h = some (dfid, mark, h1)) {fid : FuncId} {params : Array Tmp} {asg body : Code}
  (hn : h1.new (.loop .ready none fid fi regs params.toList asg body dfid) = some (l, h2)) :
  ∃ φ2 p mark' w2, (Instr.enterLoop fid tmps params asg body b.roundOf).run P w = .ok (p.1, mark') w2 ∧ HR G φ2 h2 w2 ∧ Post φ h w φ2 h2 w2 ∧ φ2 l = some p ∧
   ∀ sdf df, DFs φ sdf df → DFs φ2 (mark ++ sdf) (mark' ++ df) := by
 cases around with
 | none =>
  have har' : b.roundOf = none := har
  simp only [mkRange] at hmk
  cases hd : h.new (.dfr false) with
  | none => rw [hd] at hmk; simp at hmk
  | some q =>
   obtain ⟨r, h1'⟩ := q
   rw [hd] at hmk
   simp only [Option.map_some, Option.some.injEq, Prod.mk.injEq] at hmk
   obtain ⟨rfl, rfl, rfl⟩ := hmk
   obtain ⟨a1, b1⟩ := alloc_ok hr hd (ob := .deferred (some [])) (cs := 0) rfl
   have hsz : (w.alloc (.deferred (some []))).heap.size = w.heap.size + 1 := by simp
   have hrid : (φ.set r (w.heap.size, 0, 0)) r = some (w.heap.size, 0, 0) := Phi.set_same _ _ _
   obtain ⟨a2, b2⟩ := alloc_ok a1 hn (ob := .loop { state := .ready, pending := none, fn := fid, tmps := tmps, params := params, assign := asg, body := body, defers := w.heap.size }) (cs := 0)
    (by
     have hnone : (φ.set r (w.heap.size, 0, 0)) l = none := by
      obtain ⟨rfl, _, _, _⟩ := H.new_spec hn
      cases e : (φ.set r (w.heap.size, 0, 0)) h1'.nx with
      | none => rfl
      | some p => exact absurd (a1.dom _ _ e).1 (by omega)
     have hle := Phi.le_set (φ := φ.set r (w.heap.size, 0, 0)) (id := l) ((w.alloc (.deferred (some []))).heap.size, 0, 0) hnone
     exact ⟨tmps, (w.heap.size, 0, 0), (hrr.mono b1.le).mono hle, hle _ _ hrid, by simp⟩)
   refine ⟨_, _, [{ target := .collected w.heap.size, args := #[] }], _, ?_, a2, b1.trans b2, Phi.set_same _ _ _, fun sdf df hdf => ?_⟩
   ·rw [har', run_enterLoop_outer, hsz]
   ·exact .mark (b2.le _ _ hrid) (hdf.mono (b1.trans b2).le)
 | some l0 =>
  obtain ⟨p0, hp0, hro⟩ := har
  simp only [mkRange] at hmk
  split at hmk
  ·rename_i st pend fn0 fi0 regs0 params0 asg0 body0 df0 hg
   simp only [Option.some.injEq, Prod.mk.injEq] at hmk
   obtain ⟨rfl, rfl, rfl⟩ := hmk
   obtain ⟨tm0, q0, hrr0, hq0, hob⟩ := hr.obj l0 _ p0 hg hp0
   obtain ⟨a2, b2⟩ := alloc_ok hr hn (ob := .loop { state := .ready, pending := none, fn := fid, tmps := tmps, params := params, assign := asg, body := body, defers := q0.1 }) (cs := 0)
    (by
     have hnone : φ l = none := by
      obtain ⟨rfl, _, _, _⟩ := H.new_spec hn
      cases e : φ h.nx with
      | none => rfl
      | some p => exact absurd (hr.dom _ _ e).1 (by omega)
     have hle := Phi.le_set (φ := φ) (id := l) (w.heap.size, 0, 0) hnone
     exact ⟨tmps, q0, hrr.mono hle, hle _ _ hq0, by simp⟩)
   refine ⟨_, _, [], _, ?_, a2, b2, Phi.set_same _ _ _, fun sdf df hdf => hdf.mono b2.le⟩
   rw [hro, run_enterLoop_inner hob]
  ·simp at hmk
omit [Val] in
theorem mkF_todo (b : Frame) (tmps : Array Value) (df : List Deferred) (t t' : List Item) : { mkF b tmps df t with todo := t' } = mkF b tmps df t' := rfl
theorem range_sim (hcl : CallSim P G cl) {fid : FuncId} {fi : FI} {around : Option Nat} {f : Operand} {params : Array Tmp} {asg body : Code} {s : S} {r : Sum Res (Option Code × S)}
  (hrun : runRange P cl fid fi around f params asg body s = some r) {b : Frame} (hb : b.fn = fid) {k : List Item} {cs0 cs : List Frame} {φ : Phi} {tmps : Array Value} {df : List Deferred} {w : World}
  (hs : SR G φ fi s b tmps df cs0 cs w) (har : AroundR φ around b) :
  match r with
  | .inl q => Arr P G (lone (mkF b tmps df (.code (.rangeFunc f params asg body) :: k)) cs w) fi b k cs0 φ s.h w q
  | .inr (j, s') => ∃ φ' tmps' df' cs' w', SR G φ' fi s' b tmps' df' cs0 cs' w' ∧ Post φ s.h w φ' s'.h w' ∧
    Steps P (lone (mkF b tmps df (.code (.rangeFunc f params asg body) :: k)) cs w) (lone (mkF b tmps' df' ((j.map Item.code).toList ++ k)) cs' w') := by
 have hf := hs.eval df (.code (.rangeFunc f params asg body) :: k) f
 unfold runRange at hrun
 cases hmk : mkRange around s.h with
 | none => rw [hmk] at hrun; simp at hrun
 | some q =>
  obtain ⟨dfid, mark, h1⟩ := q
  rw [hmk] at hrun
  dsimp only at hrun
  cases hn : h1.new (.loop .ready none fid fi s.regs params.toList asg body dfid) with
  | none => rw [hn] at hrun; simp at hrun
  | some q =>
   obtain ⟨l, h2⟩ := q
   rw [hn] at hrun
   dsimp only at hrun
   obtain ⟨φ2, p, mark', w2, hent, hr2, hp2, hl2, hdf2⟩ := enter_ok (P := P) hs.hr har hs.rr hmk hn
   split at hrun
   ·rename_i g first cap heq
    rw [heq] at hf
    obtain ⟨f', a1, a2, hfr, hl1, hl3, hv⟩ := hf.fn_inv
    cases hfr
    split at hrun
    ·rename_i fn hfn
     split at hrun
     ·simp at hrun
     ·rename_i hname
      have hname1 : ¬ (fn.name == "runtime.NumGoroutine") = true := fun h => hname (.inl h)
      have hname2 : fn.body.isNone = false := by
       cases h : fn.body.isNone with
       | false => rfl
       | true => exact absurd (.inr h) hname
      have hbody : fn.body.isSome = true := by
       cases hh : fn.body with
       | none => rw [hh] at hname2; simp at hname2
       | some _ => rfl
      let args' : Array Value := a1 ++ #[.func (.yield p.1) #[] #[]] ++ a2
      have hargs : LR φ2 (first ++ [.fn (.yield l) [] []] ++ cap) args' :=
       ((hl1.mono hp2.le).append (LR.one (.fn (.yield hl2) rfl (fun i hi => absurd hi (by simp)) rfl (fun i hi => absurd hi (by simp))))).append (hl3.mono hp2.le)
      let fr : Frame := mkF b tmps (mark' ++ df) (.inRangeFunc p.1 :: k)
      have henter : step P (lone (mkF b tmps df (.code (.rangeFunc f params asg body) :: k)) cs w) = .next (lone (Frame.enter P g args' .normal) (fr :: cs) w2) := by
       refine step_lone_go ?_
       have hev : (mkF b tmps (mark' ++ df) (.inRangeFunc p.1 :: k)).eval f = .func (.func g) a1 a2 := by rw [← hv]; cases f <;> rfl
       have hres : (do let d ← resolve (mkF b tmps (mark' ++ df) (.inRangeFunc p.1 :: k)).eval { callee := .value f, args := #[.const (.func (.yield p.1) #[] #[])], argTypes := #[] } 0; invoke d.target d.args : Sem Next).run P w2 =
         .ok (.enter g args') w2 := by
        simp only [resolve, hev, Deferred.ofValue, invoke, callFunc, Sem.run_bind, Sem.run_pure, run_program, Result.andThen_ok, hfn, hname1, hname2, Bool.false_eq_true, if_false]
        simp [args', Frame.eval]
       have hent' : (Instr.enterLoop b.fn tmps params asg body b.roundOf).run P w = .ok (p.1, mark') w2 := by rw [hb]; exact hent
       have hro : (mkF b tmps df (.code (.rangeFunc f params asg body) :: k)).roundOf = b.roundOf := rfl
       simp only [mkF] at hres ⊢
       simp [stepG, stepG.exec, hent', stepG.apply, hres]
       rfl
      cases hc : cl g (first ++ [.fn (.yield l) [] []] ++ cap) h2 with
      | none => rw [hc] at hrun; simp at hrun
      | some q =>
       obtain ⟨e, h3⟩ := q
       rw [hc] at hrun
       have hend := hcl g _ h2 h3 e hc ⟨fn, hfn, hbody⟩ φ2 w2 args' fr cs hr2 hargs
       cases e with
       | pan chain =>
        simp only [Option.some.injEq] at hrun
        subst hrun
        obtain ⟨φ3, chain', w3, hch, hr3, hp3, hst⟩ := hend
        exact ⟨φ3, tmps, mark' ++ df, cs, w3, _, chain', ⟨hr3, hs.rr.mono (hp2.trans hp3).le, (hdf2 _ _ hs.dr).mono hp3.le, hs.ur.mono (hp2.trans hp3).le, hs.fG⟩, hp2.trans hp3, hch, .head henter hst⟩
       | ret v =>
        dsimp only at hrun
        obtain ⟨φ3, v', w3, hv3, hr3, hp3, hst⟩ := hend
        split at hrun
        ·rename_i st pend fid4 fi4 regs4 params4 asg4 body4 df4 hg
         split at hrun
         ·simp at hrun
         ·rename_i hnb
          simp only [Option.some.injEq] at hrun
          subst hrun
          have hl3' := hp3.le _ _ hl2
          obtain ⟨tm4, q4, hrr4, hq4, hob⟩ := hr3.obj l _ p hg hl3'
          obtain ⟨a5, b5⟩ := set_ok hr3 hg rfl hl3' (o₂ := .loop .exhausted pend fid4 fi4 regs4 params4 asg4 body4 df4)
           (ob := .loop { state := .exhausted, pending := pend, fn := fid4, tmps := tm4, params := params4.toArray, assign := asg4, body := body4, defers := q4.1 }) ⟨tm4, q4, hrr4, hq4, rfl⟩ (Like.not hob fun _ _ _ h => by cases h)
          have hstep : step P (lone (mkF b tmps (mark' ++ df) (.endRangeFunc p.1 :: k)) cs w3) = .next (lone (mkF b tmps (mark' ++ df) ((pend.map Item.code).toList ++ k)) cs
            (setBlk w3 p.1 (.loop { state := .exhausted, pending := pend, fn := fid4, tmps := tm4, params := params4.toArray, assign := asg4, body := body4, defers := q4.1 }))) := by
           refine step_lone_go ?_
           have := run_endLoop (P := P) hob hnb
           simp [stepG, stepG.exec, mkF, this]
           rfl
          have hfin : fr.finish v' = mkF b tmps (mark' ++ df) (.endRangeFunc p.1 :: k) := rfl
          rw [hfin] at hst
          refine ⟨φ3, tmps, mark' ++ df, cs, _, ⟨a5, hs.rr.mono (hp2.trans hp3).le, (hdf2 _ _ hs.dr).mono hp3.le, hs.ur.mono (hp2.trans hp3).le, hs.fG⟩, (hp2.trans hp3).trans b5, ?_⟩
          exact .head henter (hst.trans (.one hstep))
        ·simp at hrun
    ·simp at hrun
   ·simp at hrun
end
end Go.Ab
end

section
namespace Go.Ab
variable [Val]
section
variable {P : Program} {G : Nat} {cl : CallFn} {rn : RoundFn}
def DrawSim (P : Program) (G : Nat) (cl : CallFn) (rn : RoundFn) : Prop :=
 ∀ (fi : FI) (id : Nat) (ops : Array Oper) (b : Frame) (k : List Item) (cs0 : List Frame) (s : S) (r : Res) (φ : Phi) (tmps : Array Value) (df : List Deferred) (cs : List Frame) (w : World),
  runRegion P cl rn ops true fi s = some r → SR G φ fi s b tmps df cs0 cs w →
  Arr P G (lone (mkF b tmps df (.code (.region id ops true) :: k)) cs w) fi b k cs0 φ s.h w r
section moves
variable {b : Frame} {tmps : Array Value} {df : List Deferred} {k : List Item} {cs : List Frame} {w : World}
omit [Val] in
theorem stp_skip : step P (lone (mkF b tmps df (.code .skip :: k)) cs w) = .next (lone (mkF b tmps df k) cs w) := step_lone_go (by simp [stepG, stepG.exec, mkF])
omit [Val] in
theorem stp_label {l : Nat} : step P (lone (mkF b tmps df (.code (.label l) :: k)) cs w) = .next (lone (mkF b tmps df k) cs w) := step_lone_go (by simp [stepG, stepG.exec, mkF])
omit [Val] in
theorem stp_inBlock {l : Nat} : step P (lone (mkF b tmps df (.inBlock l :: k)) cs w) = .next (lone (mkF b tmps df k) cs w) := step_lone_go (by simp [stepG, stepG.exec, mkF])
omit [Val] in
theorem stp_inScope {c : Code} : step P (lone (mkF b tmps df (.inScope c :: k)) cs w) = .next (lone (mkF b tmps df k) cs w) := step_lone_go (by simp [stepG, stepG.exec, mkF])
omit [Val] in
theorem stp_seq {x y : Code} : step P (lone (mkF b tmps df (.code (.seq x y) :: k)) cs w) = .next (lone (mkF b tmps df (.code x :: .code y :: k)) cs w) :=
 step_lone_go (by simp [stepG, stepG.exec, mkF])
omit [Val] in
theorem stp_cond {c : Operand} {x y : Code} {t : Bool} (h : (mkF b tmps df (.code (.cond c x y) :: k)).eval c = .bool t) :
  step P (lone (mkF b tmps df (.code (.cond c x y) :: k)) cs w) = .next (lone (mkF b tmps df (.code (if t then x else y) :: k)) cs w) :=
 step_lone_go (by simp only [mkF] at h; simp [stepG, stepG.exec, mkF, h])
omit [Val] in
theorem stp_block {id : Nat} {c : Code} : step P (lone (mkF b tmps df (.code (.block id c) :: k)) cs w) = .next (lone (mkF b tmps df (.code c :: .inBlock id :: k)) cs w) :=
 step_lone_go (by simp [stepG, stepG.exec, mkF])
omit [Val] in
theorem stp_loop {c : Code} : step P (lone (mkF b tmps df (.code (.loop c) :: k)) cs w) = .next (lone (mkF b tmps df (.code c :: .inLoop c :: k)) cs w) :=
 step_lone_go (by simp [stepG, stepG.exec, mkF])
omit [Val] in
theorem stp_inLoop {c : Code} : step P (lone (mkF b tmps df (.inLoop c :: k)) cs w) = .next (lone (mkF b tmps df (.code c :: .inLoop c :: k)) cs w) :=
 step_lone_go (by simp [stepG, stepG.exec, mkF])
omit [Val] in
theorem stp_scope {c : Code} : step P (lone (mkF b tmps df (.code (.scope c) :: k)) cs w) = .next (lone (mkF b tmps df (.code c :: .inScope c :: k)) cs w) :=
 step_lone_go (by simp [stepG, stepG.exec, mkF])
omit [Val] in
theorem stp_exit {id : Nat} {k' : List Item} (h : exitTo id k = some k') : step P (lone (mkF b tmps df (.code (.exit id) :: k)) cs w) = .next (lone (mkF b tmps df k') cs w) :=
 step_lone_go (by simp [stepG, stepG.exec, mkF, h])
end moves
omit [Val] in
theorem exitTo_code {id : Nat} {c : Code} {k : List Item} : exitTo id (.code c :: k) = exitTo id k := rfl
omit [Val] in
theorem exitTo_inLoop {id : Nat} {c : Code} {k : List Item} : exitTo id (.inLoop c :: k) = exitTo id k := rfl
omit [Val] in
theorem exitTo_inScope {id : Nat} {c : Code} {k : List Item} : exitTo id (.inScope c :: k) = exitTo id k := rfl
theorem Arr.pass {m : Machine} {fi : FI} {b : Frame} {k k' : List Item} {cs0 : List Frame} {φ : Phi} {h : H} {w : World} {r : Res} (hk : ∀ id, exitTo id k' = exitTo id k)
  (hn : ∀ s, r ≠ .nor s) (ha : Arr P G m fi b k' cs0 φ h w r) : Arr P G m fi b k cs0 φ h w r := by
 cases r with
 | nor s => exact absurd rfl (hn s)
 | ext id s => obtain ⟨φ', t, d, c, w', k0, h1, h2, h3, h4⟩ := ha; exact ⟨φ', t, d, c, w', k0, h1, h2, h3.trans (hk id), h4⟩
 | ret s => exact ha
 | pan ch s => exact ha
omit [Val] in
theorem exec_succ (fid : FuncId) (fi : FI) (around : Option Nat) (n : Nat) (c : Code) (s : S) :
  exec P cl rn fid fi around (n + 1) c s = (match c with
   | .skip | .label _ => some (.nor s)
   | .region _ ops draw => runRegion P cl rn ops draw fi s
   | .seq a b => match exec P cl rn fid fi around n a s with
    | some (.nor s) => exec P cl rn fid fi around n b s
    | r => r
   | .cond c a b => match ev fi s.regs c with
    | .bool true => exec P cl rn fid fi around n a s
    | .bool false => exec P cl rn fid fi around n b s
    | _ => none
   | .block id b => match exec P cl rn fid fi around n b s with
    | some (.ext id' s) => if id' = id then some (.nor s) else some (.ext id' s)
    | r => r
   | .loop b => match exec P cl rn fid fi around n b s with
    | some (.nor s) => exec P cl rn fid fi around n (.loop b) s
    | r => r
   | .scope b => exec P cl rn fid fi around n b s
   | .exit id => some (.ext id s)
   | .ret => some (.ret s)
   | .rangeFunc f params asg body => match runRange P cl fid fi around f params asg body s with
    | none => none
    | some (.inl r) => some r
    | some (.inr (none, s)) => some (.nor s)
    | some (.inr (some c, s)) => exec P cl rn fid fi around n c s
   | .goto _ | .refuse _ => none) := by
 cases c <;> rfl
theorem exec_sim (hcl : CallSim P G cl) (hrn : RoundSim P G rn) (hdr : DrawSim P G cl rn) {fid : FuncId} {fi : FI} {around : Option Nat} {b : Frame} (hb : b.fn = fid) {cs0 : List Frame} :
  ∀ (n : Nat) (c : Code) (s : S) (r : Res), exec P cl rn fid fi around n c s = some r →
  ∀ (φ : Phi) (tmps : Array Value) (df : List Deferred) (cs : List Frame) (w : World) (k : List Item) (it : Item), (it = .code c ∨ ∃ b, c = .loop b ∧ it = .inLoop b) →
   SR G φ fi s b tmps df cs0 cs w → AroundR φ around b → Arr P G (lone (mkF b tmps df (it :: k)) cs w) fi b k cs0 φ s.h w r := by
 intro n
 induction n with
 | zero => intro c s r h; simp [exec] at h
 | succ n ih =>
  intro c s r hex φ tmps df cs w k it hit hs har
  rw [exec_succ] at hex
  have two : ∀ (c1 : Code) (r1 : Res) (x : Item), (∀ id, exitTo id (x :: k) = exitTo id k) → exec P cl rn fid fi around n c1 s = some r1 →
    Arr P G (lone (mkF b tmps df (.code c1 :: x :: k)) cs w) fi b (x :: k) cs0 φ s.h w r1 := fun c1 r1 x hx h1 => ih c1 s r1 h1 φ tmps df cs w (x :: k) _ (.inl rfl) hs har
  cases c with
  | skip =>
   obtain rfl | ⟨_, h, _⟩ := hit
   ·simp only [Option.some.injEq] at hex; subst hex
    exact ⟨φ, tmps, df, cs, w, hs, Post.refl _ _ _, .one stp_skip⟩
   ·simp at h
  | label l =>
   obtain rfl | ⟨_, h, _⟩ := hit
   ·simp only [Option.some.injEq] at hex; subst hex
    exact ⟨φ, tmps, df, cs, w, hs, Post.refl _ _ _, .one stp_label⟩
   ·simp at h
  | region id ops draw =>
   obtain rfl | ⟨_, h, _⟩ := hit
   ·cases draw with
    | false => exact region_text hcl hrn hex hs
    | true => exact hdr fi id ops b k cs0 s r φ tmps df cs w hex hs
   ·simp at h
  | seq x y =>
   obtain rfl | ⟨_, h, _⟩ := hit
   ·dsimp only at hex
    cases h1 : exec P cl rn fid fi around n x s with
    | none => rw [h1] at hex; simp at hex
    | some r1 =>
     rw [h1] at hex
     have ha := (two x r1 (.code y) (fun _ => rfl) h1).pre (.one stp_seq) (Post.refl _ _ _)
     cases r1 with
     | nor s1 =>
      dsimp only at hex
      obtain ⟨φ1, t1, d1, c1, w1, hs1, hp1, hst1⟩ := ha
      exact (ih y s1 r hex φ1 t1 d1 c1 w1 k _ (.inl rfl) hs1 (har.mono hp1.le)).pre hst1 hp1
     | ext id s1 => simp only [Option.some.injEq] at hex; subst hex; exact ha.pass (fun _ => rfl) (by simp)
     | ret s1 => simp only [Option.some.injEq] at hex; subst hex; exact ha.pass (fun _ => rfl) (by simp)
     | pan ch s1 => simp only [Option.some.injEq] at hex; subst hex; exact ha.pass (fun _ => rfl) (by simp)
   ·simp at h
  | cond x a d =>
   obtain rfl | ⟨_, h, _⟩ := hit
   ·dsimp only at hex
    have hv := hs.eval df (.code (.cond x a d) :: k) x
    split at hex
    ·rename_i heq
     rw [heq] at hv
     exact (ih a s r hex φ tmps df cs w k _ (.inl rfl) hs har).pre (.one (stp_cond hv.bool_inv)) (Post.refl _ _ _)
    ·rename_i heq
     rw [heq] at hv
     exact (ih d s r hex φ tmps df cs w k _ (.inl rfl) hs har).pre (.one (stp_cond hv.bool_inv)) (Post.refl _ _ _)
    ·simp at hex
   ·simp at h
  | block id x =>
   obtain rfl | ⟨_, h, _⟩ := hit
   ·dsimp only at hex
    cases h1 : exec P cl rn fid fi around n x s with
    | none => rw [h1] at hex; simp at hex
    | some r1 =>
     rw [h1] at hex
     have ha := (ih x s r1 h1 φ tmps df cs w (.inBlock id :: k) _ (.inl rfl) hs har).pre (.one stp_block) (Post.refl _ _ _)
     cases r1 with
     | nor s1 =>
      simp only [Option.some.injEq] at hex; subst hex
      obtain ⟨φ1, t1, d1, c1, w1, hs1, hp1, hst1⟩ := ha
      exact ⟨φ1, t1, d1, c1, w1, hs1, hp1, hst1.trans (.one stp_inBlock)⟩
     | ext id' s1 =>
      dsimp only at hex
      obtain ⟨φ1, t1, d1, c1, w1, k0, hs1, hp1, hk0, hst1⟩ := ha
      split at hex
      ·rename_i e
       subst e
       simp only [Option.some.injEq] at hex; subst hex
       have hk : exitTo id' k0 = some k := by rw [hk0]; simp [exitTo]
       exact ⟨φ1, t1, d1, c1, w1, hs1, hp1, hst1.trans (.one (stp_exit hk))⟩
      ·rename_i ne
       simp only [Option.some.injEq] at hex; subst hex
       have : (id == id') = false := by simp; exact fun h => ne h.symm
       exact ⟨φ1, t1, d1, c1, w1, k0, hs1, hp1, by rw [hk0]; simp [exitTo, this], hst1⟩
     | ret s1 => simp only [Option.some.injEq] at hex; subst hex; exact ha
     | pan ch s1 => simp only [Option.some.injEq] at hex; subst hex; exact ha
   ·simp at h
  | loop x =>
   have hstart : step P (lone (mkF b tmps df (it :: k)) cs w) = .next (lone (mkF b tmps df (.code x :: .inLoop x :: k)) cs w) := by
    obtain rfl | ⟨y, h, rfl⟩ := hit
    ·exact stp_loop
    ·simp only [Code.loop.injEq] at h; subst h; exact stp_inLoop
   dsimp only at hex
   cases h1 : exec P cl rn fid fi around n x s with
   | none => rw [h1] at hex; simp at hex
   | some r1 =>
    rw [h1] at hex
    have ha := (two x r1 (.inLoop x) (fun _ => rfl) h1).pre (.one hstart) (Post.refl _ _ _)
    cases r1 with
    | nor s1 =>
     dsimp only at hex
     obtain ⟨φ1, t1, d1, c1, w1, hs1, hp1, hst1⟩ := ha
     exact (ih (.loop x) s1 r hex φ1 t1 d1 c1 w1 k _ (.inr ⟨x, rfl, rfl⟩) hs1 (har.mono hp1.le)).pre hst1 hp1
    | ext id s1 => simp only [Option.some.injEq] at hex; subst hex; exact ha.pass (fun _ => rfl) (by simp)
    | ret s1 => simp only [Option.some.injEq] at hex; subst hex; exact ha.pass (fun _ => rfl) (by simp)
    | pan ch s1 => simp only [Option.some.injEq] at hex; subst hex; exact ha.pass (fun _ => rfl) (by simp)
  | scope x =>
   obtain rfl | ⟨_, h, _⟩ := hit
   ·dsimp only at hex
    have ha := (two x r (.inScope x) (fun _ => rfl) hex).pre (.one stp_scope) (Post.refl _ _ _)
    cases r with
    | nor s1 =>
     obtain ⟨φ1, t1, d1, c1, w1, hs1, hp1, hst1⟩ := ha
     exact ⟨φ1, t1, d1, c1, w1, hs1, hp1, hst1.trans (.one stp_inScope)⟩
    | ext id s1 => exact ha.pass (fun _ => rfl) (by simp)
    | ret s1 => exact ha.pass (fun _ => rfl) (by simp)
    | pan ch s1 => exact ha.pass (fun _ => rfl) (by simp)
   ·simp at h
  | exit id =>
   obtain rfl | ⟨_, h, _⟩ := hit
   ·simp only [Option.some.injEq] at hex; subst hex
    exact ⟨φ, tmps, df, cs, w, k, hs, Post.refl _ _ _, rfl, .refl _ _⟩
   ·simp at h
  | ret =>
   obtain rfl | ⟨_, h, _⟩ := hit
   ·simp only [Option.some.injEq] at hex; subst hex
    exact ⟨φ, tmps, df, cs, w, k, hs, Post.refl _ _ _, .refl _ _⟩
   ·simp at h
  | rangeFunc f params asg body =>
   obtain rfl | ⟨_, h, _⟩ := hit
   ·dsimp only at hex
    cases hrg : runRange P cl fid fi around f params asg body s with
    | none => rw [hrg] at hex; simp at hex
    | some q =>
     rw [hrg] at hex
     have hsim := range_sim (k := k) hcl hrg hb hs har
     cases q with
     | inl q => simp only [Option.some.injEq] at hex; subst hex; exact hsim
     | inr q =>
      obtain ⟨j, s1⟩ := q
      obtain ⟨φ1, t1, d1, c1, w1, hs1, hp1, hst1⟩ := hsim
      cases j with
      | none =>
       simp only [Option.some.injEq] at hex; subst hex
       exact ⟨φ1, t1, d1, c1, w1, hs1, hp1, hst1⟩
      | some c2 =>
       dsimp only at hex
       exact (ih c2 s1 r hex φ1 t1 d1 c1 w1 k _ (.inl rfl) hs1 (har.mono hp1.le)).pre hst1 hp1
   ·simp at h
  | goto l => simp at hex
  | refuse y => simp at hex
end
end Go.Ab
end

section
namespace Go.Ab
variable [Val]
section
variable {P : Program} {G : Nat}
theorem results_go {φ : Phi} {h : H} {w : World} (hr : HR G φ h w) {fi : FI} (hG : fi.G = G) {s : S} (hh : s.h = h) {tmps : Array Value} (hrr : RR φ fi s.regs tmps) {g : ResultVar → Sem Value}
  (g1 : ∀ t, g (.tmp t) = pure (tmps.getD t undef)) (g2 : ∀ a t, g (.cell a t) = (do loadVar t (← asAddr (tmps.getD a undef)))) :
  ∀ (l : List ResultVar) (vs : List AV), resultsA.go P fi s l = some vs → ∃ vs' : List Value, (l.mapM g).run P w = .ok vs' w ∧ LR φ vs vs'.toArray := by
 have hev : ∀ t, VR φ (ev fi s.regs (.tmp t)) (tmps.getD t undef) := fun t => ev_rel hG hr hrr { (default : Frame) with tmps := tmps } rfl (.tmp t)
 intro l
 induction l with
 | nil =>
  intro vs h
  simp only [resultsA.go, Option.some.injEq] at h
  subst h
  exact ⟨[], rfl, LR.nil φ⟩
 | cons x l ih =>
  intro vs h
  unfold resultsA.go at h
  dsimp only at h
  split at h
  ·rename_i v l2 hv hl
   simp only [Option.some.injEq] at h
   subst h
   obtain ⟨vs', h1, h2⟩ := ih l2 hl
   have key : ∃ v', (g x).run P w = .ok v' w ∧ VR φ v v' := by
    cases x with
    | tmp t =>
     simp only [Option.some.injEq] at hv
     subst hv
     exact ⟨_, by rw [g1]; rfl, hev t⟩
    | cell a t =>
     dsimp only at hv
     have ha := hev a
     split at hv
     ·rename_i id off heq
      rw [heq] at ha
      obtain ⟨b, base, cs, hp, e⟩ := ha.ptr_inv
      rw [hh] at hv
      obtain ⟨v', h1, h2⟩ := load_ok (P := P) hr hp hv
      refine ⟨v', ?_, h2⟩
      rw [g2]
      simp only [e, asAddr, Sem.run_bind, Sem.run_pure, Result.andThen_ok, h1]
     ·simp at hv
   obtain ⟨v', h3, h4⟩ := key
   refine ⟨v' :: vs', ?_, ?_⟩
   ·rw [List.mapM_cons]
    simp only [Sem.run_bind, h3, h1, Result.andThen_ok, Sem.run_pure]
   ·have := LR.cons h4 h2
    simpa using this
  ·simp at h
def resG (tmps : Array Value) : ResultVar → Sem Value
 | .tmp t => pure (tmps.getD t undef)
 | .cell a t => do loadVar t (← asAddr (tmps.getD a undef))
theorem results_ok {φ : Phi} {w : World} {fi : FI} (hG : fi.G = G) {s : S} (hr : HR G φ s.h w) {tmps : Array Value} (hrr : RR φ fi s.regs tmps) {fn : Func} {v : AV} (hv : resultsA P fi fn s = some v) :
  ∃ v', (results fn tmps).run P w = .ok v' w ∧ VR φ v v' := by
 unfold resultsA at hv
 have key : ∀ vs, resultsA.go P fi s fn.results.toList = some vs → ∃ vs' : List Value, LR φ vs vs'.toArray ∧
   (results fn tmps).run P w = .ok (if h : vs'.toArray.size = 1 then vs'.toArray[0] else .tuple vs'.toArray) w := by
  intro vs h
  obtain ⟨vs', h1, h2⟩ := results_go (P := P) hr hG rfl hrr (g := resG tmps) (fun _ => rfl) (fun _ _ => rfl) _ vs h
  refine ⟨vs', h2, ?_⟩
  have e : results fn tmps = (do let vs ← fn.results.mapM (resG tmps); pure (if h : vs.size = 1 then vs[0] else .tuple vs)) := by
   unfold results
   congr
  rw [e, Array.mapM_eq_mapM_toList, map_eq_pure_bind]
  simp only [Sem.run_bind, h1, Result.andThen_ok, Sem.run_pure]
 split at hv
 ·rename_i v2 hgo
  simp only [Option.some.injEq] at hv
  subst hv
  obtain ⟨vs', h2, h3⟩ := key _ hgo
  have hsz := h2.size
  refine ⟨_, h3, ?_⟩
  rw [dif_pos (by simpa using hsz)]
  have := h2.get 0 (by simp)
  rw [Array.getD_eq_getD_getElem?, Array.getElem?_eq_getElem (by rw [hsz]; simp)] at this
  simpa using this
 ·rename_i l hne hgo
  simp only [Option.some.injEq] at hv
  subst hv
  obtain ⟨vs', h2, h3⟩ := key _ hgo
  have hsz := h2.size
  refine ⟨_, h3, ?_⟩
  have hn : ¬ vs'.toArray.size = 1 := by
   rw [hsz]
   intro h1
   obtain ⟨x, rfl⟩ := List.length_eq_one_iff.1 h1
   exact hne x rfl
  rw [dif_neg hn]
  exact h2.tup
 ·simp at hv
theorem settle_ok {φ : Phi} {u : AMode} {m : FrameMode} (h : ModeR φ u m) : ModeR φ (settleA u) (settle m) := by
 cases h with
 | returning => exact .returning
 | panicking hch =>
  cases hch with
  | nil => exact .panicking .nil
  | @cons v v' rec l l' hv ht =>
   cases rec with
   | false => exact .panicking (.cons hv ht)
   | true =>
    have := ht.noExit
    simp only [settleA, settle, this]
    exact .returning
theorem raised_ok {φ : Phi} {u : AMode} {m : FrameMode} (h : ModeR φ u m) {l : List APanic} {l' : List PanicEntry} (hl : ChainR φ l l') : ModeR φ (raisedA u l) (raised m l') := by
 cases h with
 | returning => exact .panicking hl
 | panicking hch => exact .panicking (hl.append hch)
theorem ModeR.ne_run {φ : Phi} {u : AMode} {m : FrameMode} (h : ModeR φ u m) : m ≠ .run := by cases h <;> simp
def Left (P : Program) (G : Nat) (m : Machine) (b : Frame) (tmps : Array Value) (todo : List Item) (fn : Func) (cs : List Frame) (φ : Phi) (h : H) (w : World) (h' : H) : AEnd → Prop
 | .ret v => ∃ φ' v' w', VR φ' v v' ∧ HR G φ' h' w' ∧ Post φ h w φ' h' w' ∧ Steps P m (lone { mkF b tmps [] todo with mode := .returning } cs w') ∧ (results fn tmps).run P w' = .ok v' w'
 | .pan chain => ∃ φ' chain' w', ChainR φ' chain chain' ∧ HR G φ' h' w' ∧ Post φ h w φ' h' w' ∧ Steps P m (lone { mkF b tmps [] todo with mode := .panicking chain' } cs w')
theorem Left.pre {m m₁ : Machine} {b : Frame} {tmps : Array Value} {todo : List Item} {fn : Func} {cs : List Frame} {φ φ₁ : Phi} {h h₁ h' : H} {w w₁ : World} {e : AEnd}
  (hs : Steps P m m₁) (hp : Post φ h w φ₁ h₁ w₁) (ha : Left P G m₁ b tmps todo fn cs φ₁ h₁ w₁ h' e) : Left P G m b tmps todo fn cs φ h w h' e := by
 cases e with
 | ret v => obtain ⟨φ', v', w', h1, h2, h3, h4, h5⟩ := ha; exact ⟨φ', v', w', h1, h2, hp.trans h3, hs.trans h4, h5⟩
 | pan c => obtain ⟨φ', v', w', h1, h2, h3, h4⟩ := ha; exact ⟨φ', v', w', h1, h2, hp.trans h3, hs.trans h4⟩
theorem leave_sim {dc : DeferFn} (hdc : DeferSim P G dc) {fi : FI} (hG : fi.G = G) {fn : Func} {b : Frame} {tmps : Array Value} {todo : List Item} {cs : List Frame} :
  ∀ (ds : List ADefer) (u : AMode) (s : S) (e : AEnd) (h' : H), leaveA P dc fi fn ds u s = some (e, h') →
  ∀ (φ : Phi) (df : List Deferred) (m : FrameMode) (w : World), HR G φ s.h w → RR φ fi s.regs tmps → DFs φ ds df → ModeR φ u m →
   Left P G (lone { mkF b tmps df todo with mode := m } cs w) b tmps todo fn cs φ s.h w h' e := by
 intro ds
 induction ds with
 | nil =>
  intro u s e h' hl φ df m w hr hrr hd hm
  cases hd
  cases hm with
  | returning =>
   simp only [leaveA] at hl
   cases hv : resultsA P fi fn s with
   | none => rw [hv] at hl; simp at hl
   | some v =>
    rw [hv] at hl
    simp only [Option.map_some, Option.some.injEq, Prod.mk.injEq] at hl
    obtain ⟨rfl, rfl⟩ := hl
    obtain ⟨v', h1, h2⟩ := results_ok (P := P) hG hr hrr hv
    exact ⟨φ, v', w, h2, hr, Post.refl _ _ _, .refl _ _, h1⟩
  | panicking hch =>
   simp only [leaveA, Option.some.injEq, Prod.mk.injEq] at hl
   obtain ⟨rfl, rfl⟩ := hl
   exact ⟨φ, _, w, hch, hr, Post.refl _ _ _, .refl _ _⟩
 | cons d ds ih =>
  intro u s e h' hl φ df m w hr hrr hd hm
  cases hd with
  | @mark id p _ df2 hp hd2 =>
   simp only [leaveA] at hl
   split at hl
   ·rename_i hg
    have hob := hr.obj id _ p hg hp
    obtain ⟨a1, b1⟩ := set_ok hr hg rfl hp (o₂ := .dfr true) (ob := .deferred none) rfl (Like.not (show w.heap[p.1]? = some (.deferred (some [])) from hob) fun _ _ _ h => by cases h)
    have hob' : w.heap[p.1]? = some (.deferred (some [])) := hob
    have htake := run_takeDeferred (P := P) hob'
    have hstep : step P (lone { mkF b tmps ({ target := .collected p.1, args := #[] } :: df2) todo with mode := m } cs w) =
      .next (lone { mkF b tmps df2 todo with mode := m } cs (setBlk w p.1 (.deferred none))) := by
     refine step_lone_go ?_
     cases hm with
     | returning => simp [stepG, unwind, mkF, htake]; rfl
     | panicking _ => simp [stepG, unwind, mkF, htake]; rfl
    exact (ih u _ e h' hl φ df2 m _ a1 hrr hd2 hm).pre (.one hstep) b1
   ·simp at hl
  | @call d d' _ df2 hdr hd2 =>
   obtain ⟨⟨fn', cap', ht, hfn, hcap⟩, hargs⟩ := hdr
   simp only [leaveA] at hl
   split at hl
   ·rename_i f heq
    rw [heq] at hfn
    cases hfn
    split at hl
    ·rename_i g hf
     split at hl
     ·simp at hl
     ·rename_i hname
      have hname1 : ¬ (g.name == "runtime.NumGoroutine") = true := fun h => hname (.inl h)
      have hname2 : g.body.isNone = false := by
       cases h : g.body.isNone with
       | false => rfl
       | true => exact absurd (.inr h) hname
      have hbody : g.body.isSome = true := by
       cases hh : g.body with
       | none => rw [hh] at hname2; simp at hname2
       | some _ => rfl
      have hinv : (invoke d'.target d'.args).run P w = .ok (.enter f (d'.args ++ cap')) w := by
       rw [ht]
       simp only [invoke, callFunc, Sem.run_bind, run_program, Result.andThen_ok, hf, hname1, hname2, Bool.false_eq_true, if_false, Sem.run_pure]
      have hstep := step_defer (P := P) (fr := { mkF b tmps (d' :: df2) todo with mode := m }) (cs := cs) (w := w) (d := d') (ds := df2) (fv := .func f) (cap := cap') hm.ne_run rfl ht hinv
      cases hc : dc f (d.args ++ d.cap) u s.h with
      | none => rw [hc] at hl; simp at hl
      | some q =>
       obtain ⟨e2, u2, h2⟩ := q
       rw [hc] at hl
       obtain ⟨φ2, w2, m2, hr2, hp2, hm2, hst⟩ := hdc f _ u u2 s.h h2 e2 hc ⟨g, hf, hbody⟩ φ w (d'.args ++ cap') { mkF b tmps df2 todo with mode := m } cs m hr (hargs.append hcap) hm
       cases e2 with
       | ret v =>
        dsimp only at hl hst
        exact (ih (settleA u2) _ e h' hl φ2 df2 (settle m2) w2 hr2 (hrr.mono hp2.le) (hd2.mono hp2.le) (settle_ok hm2)).pre (.head hstep hst) hp2
       | pan chain =>
        dsimp only at hl hst
        obtain ⟨chain', hch, hst⟩ := hst
        exact (ih (raisedA u2 chain) _ e h' hl φ2 df2 (raised m2 chain') w2 hr2 (hrr.mono hp2.le) (hd2.mono hp2.le) (raised_ok hm2 hch)).pre (.head hstep hst) hp2
    ·simp at hl
   ·simp at hl
end
end Go.Ab
end

section
namespace Go.Ab
variable [Val]
section
variable {P : Program} {G : Nat} {cl : CallFn} {rn : RoundFn} {dc : DeferFn}
omit [Val] in
theorem argRegs_get {fi : FI} (hd : fi.sz ≤ 2 ^ fi.rd) : ∀ (l : List AV) (i : Nat) (t : Tr AV) (j : Nat), i + l.length ≤ fi.sz → j < fi.sz →
    (argRegs fi i l t).get fi.rd j = if i ≤ j ∧ j < i + l.length then some (l.getD (j - i) .junk) else t.get fi.rd j := by
  intro l
  induction l with
  | nil =>
    intro i t j _ _
    simp only [argRegs, List.length_nil, Nat.add_zero]
    rw [if_neg (by omega)]
  | cons v l ih =>
    intro i t j hi hj
    simp only [List.length_cons] at hi ⊢
    unfold argRegs
    rw [ih (i + 1) _ j (by omega) hj]
    have hlt : Nat.blt i fi.sz = true := by unfold Nat.blt; exact Nat.ble_eq_true_of_le (by omega)
    simp only [putReg, hlt, cond_true]
    by_cases h1 : i + 1 ≤ j ∧ j < i + 1 + l.length
    · rw [if_pos h1, if_pos (by omega)]
      have : j - i = (j - (i + 1)) + 1 := by omega
      rw [this, List.getD_cons_succ]
    · rw [if_neg h1, Tr.get_set_lt v t (by omega) (by omega)]
      by_cases h2 : i = j
      · subst h2
        rw [if_pos rfl, if_pos (by omega)]
        simp
      · rw [if_neg h2, if_neg (by omega)]
theorem argRegs_ok {φ : Phi} {args : List AV} {args' : Array Value} (ha : LR φ args args') (ntmps G : Nat) :
    RR φ ⟨depFor (Nat.max ntmps args.length), Nat.max ntmps args.length, G⟩ (argRegs ⟨depFor (Nat.max ntmps args.length), Nat.max ntmps args.length, G⟩ 0 args .e)
      (args' ++ Array.replicate (ntmps - args'.size) undef) := by
  have hsz := ha.size
  have hmax : Nat.max ntmps args.length = args'.size + (ntmps - args'.size) := by
    rw [hsz]
    show max ntmps args.length = _
    omega
  refine ⟨by simpa using hmax.symm, le_depFor _, fun t ht => ?_⟩
  rw [argRegs_get (le_depFor _) args 0 .e t (by simp only [Nat.zero_add]; exact Nat.le_max_right _ _) ht]
  by_cases h1 : t < args.length
  · rw [if_pos (by omega)]
    have : (args' ++ Array.replicate (ntmps - args'.size) undef).getD t undef = args'.getD t undef := by
      rw [Array.getD_eq_getD_getElem?, Array.getD_eq_getD_getElem?, Array.getElem?_append_left (by omega)]
    rw [this]
    exact ha.get t h1
  · rw [if_neg (by omega)]
    rw [Tr.get_e]
    exact .junk _
omit [Val] in
theorem stp_end {b : Frame} (hro : b.roundOf = none) {tmps : Array Value} {df : List Deferred} {cs : List Frame} {w : World} :
    step P (lone (mkF b tmps df []) cs w) = .next (lone { mkF b tmps df [] with mode := .returning } cs w) := step_lone_go (by simp [stepG, stepG.exec, mkF, hro])
omit [Val] in
theorem stp_ret {b : Frame} (hro : b.roundOf = none) {tmps : Array Value} {df : List Deferred} {k : List Item} {cs : List Frame} {w : World} :
    step P (lone (mkF b tmps df (.code .ret :: k)) cs w) = .next (lone { mkF b tmps df (.code .ret :: k) with mode := .returning } cs w) := step_lone_go (by simp [stepG, stepG.exec, mkF, hro])
theorem body_core (hcl : CallSim P P.globals.size cl) (hrn : RoundSim P P.globals.size rn) (hdr : DrawSim P P.globals.size cl rn) (hdc : DeferSim P P.globals.size dc) {fuel : Nat} {f : FuncId} {args : List AV}
    {u u' : AMode} {h h' : H} {e : AEnd} (hb : bodyA P cl rn dc fuel f args u h = some (e, u', h')) {kind : CallKind} {φ : Phi} {w : World} {args' : Array Value} {cs0 cs : List Frame}
    (hr : HR P.globals.size φ h w) (ha : LR φ args args') (hu : URel φ { (default : Frame) with fn := f, kind := kind } cs0 u cs) :
    ∃ fn φ1 h1 w1 tmps todo cs1, P.funcs[f]? = some fn ∧ URel φ1 { (default : Frame) with fn := f, kind := kind } cs0 u' cs1 ∧ Post φ h w φ1 h1 w1 ∧
      Left P P.globals.size (lone (Frame.enter P f args' kind) cs w) { (default : Frame) with fn := f, kind := kind } tmps todo fn cs1 φ1 h1 w1 h' e := by
  unfold bodyA at hb
  split at hb
  · simp at hb
  · rename_i fn hf
    split at hb
    · simp at hb
    · rename_i c hbody
      dsimp only at hb
      generalize hfi : (⟨depFor (Nat.max fn.ntmps args.length), Nat.max fn.ntmps args.length, P.globals.size⟩ : FI) = fi at hb
      have hG : fi.G = P.globals.size := by subst hfi; rfl
      have henter : Frame.enter P f args' kind = mkF { (default : Frame) with fn := f, kind := kind } (args' ++ Array.replicate (fn.ntmps - args'.size) undef) [] [.code c] := by
        simp [Frame.enter, mkF, hf, hbody]; rfl
      cases hex : exec P cl rn f fi none fuel c { regs := argRegs fi 0 args .e, df := [], h := h, u := u } with
      | none => rw [hex] at hb; simp at hb
      | some r =>
        rw [hex] at hb
        have hs : SR P.globals.size φ fi { regs := argRegs fi 0 args .e, df := [], h := h, u := u } { (default : Frame) with fn := f, kind := kind } (args' ++ Array.replicate (fn.ntmps - args'.size) undef) [] cs0 cs w :=
          ⟨hr, by subst hfi; exact argRegs_ok ha fn.ntmps P.globals.size, .nil, hu, hG⟩
        have harr := exec_sim (b := { (default : Frame) with fn := f, kind := kind }) hcl hrn hdr rfl fuel c _ r hex φ _ [] cs w [] _ (.inl rfl) hs rfl
        rw [henter]
        cases r with
        | ext id s => simp at hb
        | nor s =>
          dsimp only at hb
          obtain ⟨φ1, t1, d1, c1, w1, hs1, hp1, hst1⟩ := harr
          cases hl : leaveA P dc fi fn s.df .returning s with
          | none => rw [hl] at hb; simp at hb
          | some q =>
            rw [hl] at hb
            simp only [Option.map_some, Option.some.injEq, Prod.mk.injEq] at hb
            obtain ⟨rfl, rfl, rfl⟩ := hb
            have := leave_sim (P := P) (todo := []) (cs := c1) (b := { (default : Frame) with fn := f, kind := kind }) hdc hG s.df .returning s q.1 q.2 hl φ1 d1 .returning w1 hs1.hr hs1.rr hs1.dr .returning
            exact ⟨fn, φ1, s.h, w1, t1, [], c1, hf, hs1.ur, hp1, this.pre (hst1.trans (.one (stp_end rfl))) (Post.refl _ _ _)⟩
        | ret s =>
          dsimp only at hb
          obtain ⟨φ1, t1, d1, c1, w1, k0, hs1, hp1, hst1⟩ := harr
          cases hl : leaveA P dc fi fn s.df .returning s with
          | none => rw [hl] at hb; simp at hb
          | some q =>
            rw [hl] at hb
            simp only [Option.map_some, Option.some.injEq, Prod.mk.injEq] at hb
            obtain ⟨rfl, rfl, rfl⟩ := hb
            have := leave_sim (P := P) (todo := .code .ret :: k0) (cs := c1) (b := { (default : Frame) with fn := f, kind := kind }) hdc hG s.df .returning s q.1 q.2 hl φ1 d1 .returning w1 hs1.hr hs1.rr hs1.dr .returning
            exact ⟨fn, φ1, s.h, w1, t1, _, c1, hf, hs1.ur, hp1, this.pre (hst1.trans (.one (stp_ret rfl))) (Post.refl _ _ _)⟩
        | pan chain s =>
          dsimp only at hb
          obtain ⟨φ1, t1, d1, c1, w1, td, chain', hs1, hp1, hch, hst1⟩ := harr
          cases hl : leaveA P dc fi fn s.df (.panicking chain) s with
          | none => rw [hl] at hb; simp at hb
          | some q =>
            rw [hl] at hb
            simp only [Option.map_some, Option.some.injEq, Prod.mk.injEq] at hb
            obtain ⟨rfl, rfl, rfl⟩ := hb
            have := leave_sim (P := P) (todo := td) (cs := c1) (b := { (default : Frame) with fn := f, kind := kind }) hdc hG s.df (.panicking chain) s q.1 q.2 hl φ1 d1 (.panicking chain') w1 hs1.hr hs1.rr hs1.dr (.panicking hch)
            exact ⟨fn, φ1, s.h, w1, t1, td, c1, hf, hs1.ur, hp1, this.pre hst1 (Post.refl _ _ _)⟩
theorem body_calls (hcl : CallSim P P.globals.size cl) (hrn : RoundSim P P.globals.size rn) (hdr : DrawSim P P.globals.size cl rn) (hdc : DeferSim P P.globals.size dc) {fuel : Nat} {f : FuncId} {args : List AV}
    {u' : AMode} {h h' : H} {e : AEnd} (hb : bodyA P cl rn dc fuel f args .normal h = some (e, u', h')) {φ : Phi} {w : World} {args' : Array Value} {cs : List Frame}
    (hr : HR P.globals.size φ h w) (ha : LR φ args args') :
    ∃ φ' w' fr, HR P.globals.size φ' h' w' ∧ Post φ h w φ' h' w' ∧ Steps P (lone (Frame.enter P f args' .normal) cs w) (lone fr cs w') ∧ fr.fn = f ∧
      (match e with
       | .ret v => ∃ v', VR φ' v v' ∧ fr.leaving P w' (.returned v')
       | .pan chain => ∃ chain', ChainR φ' chain chain' ∧ fr.leaving P w' (.panicked chain')) := by
  obtain ⟨fn, φ1, h1, w1, tmps, todo, cs1, hf, hu1, hp1, hleft⟩ := body_core (kind := .normal) hcl hrn hdr hdc hb hr ha (.normal rfl rfl (cs0 := cs))
  cases e with
  | ret v =>
    obtain ⟨φ', v', w', hv, hr', hp', hst, hres⟩ := hleft
    cases hu1 with
    | normal _ _ => exact ⟨φ', w', _, hr', hp1.trans hp', hst, rfl, v', hv, rfl, rfl, rfl, fn, hf, hres⟩
    | round _ hro => simp at hro; exact absurd hro (by intro h; cases h)
    | deferred hk _ _ _ => simp at hk
  | pan chain =>
    obtain ⟨φ', chain', w', hv, hr', hp', hst⟩ := hleft
    cases hu1 with
    | normal _ _ => exact ⟨φ', w', _, hr', hp1.trans hp', hst, rfl, chain', hv, rfl, rfl, fn, hf⟩
    | round _ hro => simp at hro; exact absurd hro (by intro h; cases h)
    | deferred hk _ _ _ => simp at hk
theorem body_callSim (hcl : CallSim P P.globals.size cl) (hrn : RoundSim P P.globals.size rn) (hdr : DrawSim P P.globals.size cl rn) (hdc : DeferSim P P.globals.size dc) {fuel : Nat} :
    CallSim P P.globals.size fun f args h => (bodyA P cl rn dc fuel f args .normal h).map fun (e, _, h) => (e, h) := by
  intro f args h h' e hb _ φ w args' c cs hr ha
  dsimp only at hb
  cases hbody : bodyA P cl rn dc fuel f args .normal h with
  | none => rw [hbody] at hb; simp at hb
  | some q =>
    obtain ⟨e2, u2, h2⟩ := q
    rw [hbody] at hb
    simp only [Option.map_some, Option.some.injEq, Prod.mk.injEq] at hb
    obtain ⟨rfl, rfl⟩ := hb
    obtain ⟨φ', w', fr, hr', hp', hst, hfn, hend⟩ := body_calls (cs := c :: cs) hcl hrn hdr hdc hbody hr ha
    cases e2 with
    | ret v =>
      obtain ⟨v', hv, hl⟩ := hend
      exact ⟨φ', v', w', hv, hr', hp', hst.trans (.one (step_leave_returned hl))⟩
    | pan chain =>
      obtain ⟨chain', hv, hl⟩ := hend
      exact ⟨φ', chain', w', hv, hr', hp', hst.trans (.one (step_leave_panicked hl))⟩
theorem body_deferSim (hcl : CallSim P P.globals.size cl) (hrn : RoundSim P P.globals.size rn) (hdr : DrawSim P P.globals.size cl rn) (hdc : DeferSim P P.globals.size dc) {fuel : Nat} :
    DeferSim P P.globals.size fun f args u h => bodyA P cl rn dc fuel f args u h := by
  intro f args u u' h h' e hb _ φ w args' c cs m hr ha hm
  dsimp only at hb
  obtain ⟨fn, φ1, h1, w1, tmps, todo, cs1, hf, hu1, hp1, hleft⟩ := body_core (kind := .deferred) hcl hrn hdr hdc hb hr ha (.deferred rfl rfl (cs0 := c :: cs) rfl hm)
  cases hu1 with
  | normal hk _ => simp at hk
  | round hk _ => simp at hk
  | @deferred _ m' c2 rest _ _ hc hm' =>
    simp only [List.cons.injEq] at hc
    obtain ⟨rfl, rfl⟩ := hc
    cases e with
    | ret v =>
      obtain ⟨φ', v', w', hv, hr', hp', hst, hres⟩ := hleft
      refine ⟨φ', w', m', hr', hp1.trans hp', hm'.mono hp'.le, ?_⟩
      exact hst.trans (.one (step_going_returned (c := { c with mode := m' }) rfl ⟨rfl, rfl, fn, hf, hres⟩))
    | pan chain =>
      obtain ⟨φ', chain', w', hv, hr', hp', hst⟩ := hleft
      refine ⟨φ', w', m', hr', hp1.trans hp', hm'.mono hp'.le, chain', hv, ?_⟩
      exact hst.trans (.one (step_going_panicked (c := { c with mode := m' }) ⟨rfl, rfl, fn, hf⟩))
end
end Go.Ab
end

section
namespace Go.Ab
variable [Val]
section
variable {P : Program} {G : Nat} {cl : CallFn} {rn : RoundFn} {dc : DeferFn}
theorem foldl_regs {φ : Phi} {fi : FI} : ∀ (ps : List Tmp) (args : List AV) (args' : List Value) (regs : Tr AV) (tmps : Array Value), args'.length = args.length →
  (∀ i, i < args.length → VR φ (args.getD i .junk) (args'.getD i undef)) → RR φ fi regs tmps →
  RR φ fi ((ps.zip args).foldl (fun r x => putReg fi r (some x.1) x.2) regs) ((ps.zip args').foldl (fun tmps (x : Tmp × Value) => tmps.setIfInBounds x.1 x.2) tmps) := by
 intro ps
 induction ps with
 | nil => intro args args' regs tmps _ _ h; exact h
 | cons p ps ih =>
  intro args args' regs tmps hlen hv h
  cases args with
  | nil =>
   cases args' with
   | nil => exact h
   | cons _ _ => simp at hlen
  | cons a args =>
   cases args' with
   | nil => simp at hlen
   | cons a' args' =>
    simp only [List.zip_cons_cons, List.foldl_cons]
    refine ih args args' _ _ (by simpa using hlen) (fun i hi => ?_) ?_
    ·have := hv (i + 1) (by simpa using hi)
     simpa using this
    ·have h0 := hv 0 (by simp)
     simp only [List.getD_cons_zero] at h0
     exact putReg_rel h (some p) h0
omit [Val] in
theorem zip_foldl_arr (ps : Array Tmp) (args : Array Value) (tmps : Array Value) :
  (ps.zip args).foldl (fun tmps (t, a) => tmps.setIfInBounds t a) tmps = (ps.toList.zip args.toList).foldl (fun tmps (x : Tmp × Value) => tmps.setIfInBounds x.1 x.2) tmps := by
 rw [← Array.foldl_toList, Array.toList_zip]
omit [Val] in
theorem stp_beginRound {b : Frame} {l : Nat} (hro : b.roundOf = some l) (hk : b.kind = .normal) {tmps : Array Value} {df : List Deferred} {k : List Item} {cs : List Frame} {w w' : World}
  (h : (Instr.beginRound l).run P w = .ok () w') : step P (lone (mkF b tmps df (.beginRound :: k)) cs w) = .next (lone (mkF b tmps df k) cs w') := by
 refine step_lone_go ?_
 simp [stepG, stepG.exec, stepG.apply, mkF, hro, hk, h, Result.andThen, Frame.finish]
omit [Val] in
theorem stp_roundEnd {b : Frame} {l : Nat} (hro : b.roundOf = some l) (hk : b.kind = .normal) {tmps : Array Value} {df : List Deferred} {k : List Item} {c : Frame} {cs : List Frame} {w w' : World}
  {jump : Option Code} (hk2 : (jump = none ∧ k = []) ∨ (jump = some .ret ∧ ∃ k0, k = .code .ret :: k0) ∨ (∃ id k0, jump = some (.exit id) ∧ k = .code (.exit id) :: k0 ∧ exitTo id k0 = none))
  {v : Value} (h : (Instr.endRound l jump).run P w = .ok v w') : step P (lone (mkF b tmps df k) (c :: cs) w) = .next (lone (c.finish v) cs w') := by
 refine step_lone_go ?_
 obtain ⟨rfl, rfl⟩ | ⟨rfl, k0, rfl⟩ | ⟨id, k0, rfl, rfl, he⟩ := hk2
 ·simp [stepG, stepG.exec, mkF, hro, hk, h, doReturn]
 ·simp [stepG, stepG.exec, mkF, hro, hk, h, doReturn]
 ·simp [stepG, stepG.exec, mkF, hro, hk, h, doReturn, he]
theorem endRound_ok {φ : Phi} {s : S} {w : World} (hr : HR G φ s.h w) {l : Nat} {p : Nat × Nat × Nat} (hp : φ l = some p) {jump : Option Code} {e : AEnd} {h' : H}
  (he : endRoundA l jump s = some (e, h')) : ∃ v v' w', e = .ret v ∧ VR φ v v' ∧ (Instr.endRound p.1 jump).run P w = .ok v' w' ∧ HR G φ h' w' ∧ Post φ s.h w φ h' w' := by
 unfold endRoundA at he
 split at he
 ·rename_i st pend fid fi regs params asg body df hdf hg
  simp only [Option.some.injEq, Prod.mk.injEq] at he
  obtain ⟨rfl, rfl⟩ := he
  obtain ⟨tm, q, hrr, hq, hob⟩ := hr.obj l _ p hg hp
  have hrun := run_endRound (P := P) jump hob
  obtain ⟨a, b⟩ := set_ok hr hg rfl hp (o₂ := .loop (if jump.isNone then .ready else .done) jump fid fi regs params asg body df)
   (ob := .loop { state := if jump.isNone then .ready else .done, pending := jump, fn := fid, tmps := tm, params := params.toArray, assign := asg, body := body, defers := q.1 }) ⟨tm, q, hrr, hq, rfl⟩ (Like.not hob fun _ _ _ h => by cases h)
  exact ⟨_, _, _, rfl, .bool _, hrun, a, b⟩
 ·simp at he
theorem round_sim (hcl : CallSim P P.globals.size cl) (hrn : RoundSim P P.globals.size rn) (hdr : DrawSim P P.globals.size cl rn) {fuel : Nat} :
  RoundSim P P.globals.size fun l args h => roundA P cl rn fuel l args h := by
 intro l args h h' e hrd φ w args' p c cs hr ha hp
 dsimp only at hrd
 unfold roundA at hrd
 split at hrd
 ·rename_i st pend fid fi regs params asg body df hg
  obtain ⟨tm, q, hrr, hq, hob⟩ := hr.obj l _ p hg hp
  generalize hcond : (Nat.beq args.length params.length && (Nat.beq fi.G P.globals.size && (P.funcs[fid]?).isSome)) = cond at hrd
  cases cond with
  | false => simp at hrd
  | true =>
   simp only [Bool.and_eq_true] at hcond
   obtain ⟨hlen, hG, hfn⟩ := hcond
   have hlen := Nat.eq_of_beq_eq_true hlen
   have hG := Nat.eq_of_beq_eq_true hG
   obtain ⟨fn, hfn⟩ := Option.isSome_iff_exists.1 hfn
   simp only [cond_true] at hrd
   have hy := run_yield (P := P) (args := args') hob (by simp [ha.size, hlen])
   refine ⟨_, _, _, _, hy, ?_⟩
   dsimp only
   rw [zip_foldl_arr]
   generalize htm : (params.toArray.toList.zip args'.toList).foldl (fun tmps (x : Tmp × Value) => tmps.setIfInBounds x.1 x.2) tm = tm1
   have hrr1 : RR φ fi ((params.zip args).foldl (fun r x => putReg fi r (some x.1) x.2) regs) tm1 := by
    rw [← htm]
    refine foldl_regs _ _ _ _ _ (by simpa using ha.size) (fun i hi => ?_) hrr
    have := ha.get i hi
    rwa [Array.getD_eq_getD_getElem?, ← Array.getElem?_toList, ← List.getD_eq_getElem?_getD] at this
   generalize hregs : (params.zip args).foldl (fun r x => putReg fi r (some x.1) x.2) regs = regs1 at hrd hrr1
   let b : Frame := { (default : Frame) with fn := fid, kind := .normal, roundOf := some p.1 }
   have hround : Frame.round p.1 fid tm1 asg body .normal = mkF b tm1 [] [.code asg, .beginRound, .code body] := rfl
   rw [hround]
   cases hex : exec P cl rn fid fi (some l) fuel asg { regs := regs1, df := [], h := h, u := .round } with
   | none => rw [hex] at hrd; simp at hrd
   | some r =>
    rw [hex] at hrd
    cases r with
    | ext _ _ => simp at hrd
    | ret _ => simp at hrd
    | pan _ _ => simp at hrd
    | nor s =>
     dsimp only at hrd
     have hs : SR P.globals.size φ fi { regs := regs1, df := [], h := h, u := .round } b tm1 [] (c :: cs) (c :: cs) w := ⟨hr, hrr1, .nil, .round rfl rfl, hG⟩
     obtain ⟨φ1, t1, d1, c1, w1, hs1, hp1, hst1⟩ := exec_sim (b := b) hcl hrn hdr rfl fuel asg _ _ hex φ _ [] (c :: cs) w [.beginRound, .code body] _ (.inl rfl) hs ⟨p, hp, rfl⟩
     split at hrd
     ·rename_i pend2 fid2 fi2 regs2 params2 asg2 body2 df2 hg2
      have hp1' := hp1.le _ _ hp
      obtain ⟨tm2, q2, hrr2, hq2, hob2⟩ := hs1.hr.obj l _ p hg2 hp1'
      have hbeg := run_beginRound (P := P) hob2 rfl
      obtain ⟨a3, b3⟩ := set_ok hs1.hr hg2 rfl hp1' (o₂ := .loop .busy pend2 fid2 fi2 regs2 params2 asg2 body2 df2)
       (ob := .loop { state := .busy, pending := pend2, fn := fid2, tmps := tm2, params := params2.toArray, assign := asg2, body := body2, defers := q2.1 }) ⟨tm2, q2, hrr2, hq2, rfl⟩ (Like.not hob2 fun _ _ _ h => by cases h)
      have hst2 := stp_beginRound (P := P) (b := b) (tmps := t1) (df := d1) (k := [.code body]) (cs := c1) rfl rfl hbeg
      cases hex2 : exec P cl rn fid fi (some l) fuel body { s with h := s.h.set l (.loop .busy pend2 fid2 fi2 regs2 params2 asg2 body2 df2) } with
      | none => rw [hex2] at hrd; simp at hrd
      | some r2 =>
       rw [hex2] at hrd
       dsimp only at hrd
       have hs3 : SR P.globals.size φ1 fi { s with h := s.h.set l (.loop .busy pend2 fid2 fi2 regs2 params2 asg2 body2 df2) } b t1 d1 (c :: cs) c1 _ := ⟨a3, hs1.rr, hs1.dr, hs1.ur, hG⟩
       have harr := exec_sim (b := b) hcl hrn hdr rfl fuel body _ _ hex2 φ1 t1 d1 c1 _ [] _ (.inl rfl) hs3 ⟨p, hp1', rfl⟩
       have hpre : Steps P (lone (mkF b tm1 [] [.code asg, .beginRound, .code body]) (c :: cs) w) (lone (mkF b t1 d1 [.code body]) c1 (setBlk w1 p.1 (.loop { state := .busy, pending := pend2, fn := fid2, tmps := tm2, params := params2.toArray, assign := asg2, body := body2, defers := q2.1 }))) :=
        hst1.trans (.one hst2)
       have harr := harr.pre hpre (hp1.trans b3)
       have hcs : ∀ {φ' : Phi} {c2 : List Frame} {u : AMode}, URel φ' b (c :: cs) u c2 → c2 = c :: cs := by
        intro φ' c2 u hu
        cases hu with
        | normal _ hro => rfl
        | round _ _ => rfl
        | deferred hk _ _ _ => exact absurd hk (by simp [b])
       cases r2 with
       | nor s2 =>
        obtain ⟨φ4, t4, d4, c4, w4, hs4, hp4, hst4⟩ := harr
        obtain rfl := hcs hs4.ur
        obtain ⟨v, v', w5, rfl, hv, hrun, a5, b5⟩ := endRound_ok (P := P) hs4.hr (hp4.le _ _ hp) hrd
        exact ⟨φ4, v', w5, hv, a5, hp4.trans b5, hst4.trans (.one (stp_roundEnd rfl rfl (.inl ⟨rfl, rfl⟩) hrun))⟩
       | ret s2 =>
        obtain ⟨φ4, t4, d4, c4, w4, k0, hs4, hp4, hst4⟩ := harr
        obtain rfl := hcs hs4.ur
        obtain ⟨v, v', w5, rfl, hv, hrun, a5, b5⟩ := endRound_ok (P := P) hs4.hr (hp4.le _ _ hp) hrd
        exact ⟨φ4, v', w5, hv, a5, hp4.trans b5, hst4.trans (.one (stp_roundEnd rfl rfl (.inr (.inl ⟨rfl, k0, rfl⟩)) hrun))⟩
       | ext id s2 =>
        obtain ⟨φ4, t4, d4, c4, w4, k0, hs4, hp4, hk0, hst4⟩ := harr
        obtain rfl := hcs hs4.ur
        obtain ⟨v, v', w5, rfl, hv, hrun, a5, b5⟩ := endRound_ok (P := P) hs4.hr (hp4.le _ _ hp) hrd
        exact ⟨φ4, v', w5, hv, a5, hp4.trans b5, hst4.trans (.one (stp_roundEnd rfl rfl (.inr (.inr ⟨id, k0, rfl, rfl, hk0⟩)) hrun))⟩
       | pan chain s2 =>
        obtain ⟨φ4, t4, d4, c4, w4, td, chain', hs4, hp4, hch, hst4⟩ := harr
        obtain rfl := hcs hs4.ur
        simp only [roundRes] at hrd
        split at hrd
        ·rename_i hdf
         simp only [Option.some.injEq, Prod.mk.injEq] at hrd
         obtain ⟨rfl, rfl⟩ := hrd
         have hdr4 := hs4.dr
         rw [hdf] at hdr4
         cases hdr4
         exact ⟨φ4, chain', w4, hch, hs4.hr, hp4, hst4.trans (.one (step_leave_panicked ⟨rfl, rfl, fn, hfn⟩))⟩
        ·simp at hrd
     ·simp at hrd
 ·simp at hrd
def KnownSim (P : Program) (kn : Known) : Prop := CallSim P P.globals.size kn
theorem fns_sim {kn : Known} (hkn : KnownSim P kn) (hdraw : ∀ cl rn, CallSim P P.globals.size cl → RoundSim P P.globals.size rn → DrawSim P P.globals.size cl rn) (fuel n : Nat) :
  CallSim P P.globals.size (fns P kn fuel n).cl ∧ RoundSim P P.globals.size (fns P kn fuel n).rn ∧ DeferSim P P.globals.size (fns P kn fuel n).dc := by
 induction n with
 | zero =>
  refine ⟨?_, ?_, ?_⟩
  ·intro f args h h' e hc; simp [fns] at hc
  ·intro f args h h' e hc; simp [fns] at hc
  ·intro f args u u' h h' e hc; simp [fns] at hc
 | succ n ih =>
  obtain ⟨h1, h2, h3⟩ := ih
  have hd := hdraw _ _ h1 h2
  refine ⟨?_, round_sim h1 h2 hd, body_deferSim h1 h2 hd h3⟩
  intro f args h h' e hc hfn φ w args' c cs hr ha
  have hc' : (match kn f args h with
     | some r => some r
     | none => (bodyA P (fns P kn fuel n).cl (fns P kn fuel n).rn (fns P kn fuel n).dc fuel f args .normal h).map fun (e, _, h) => (e, h)) = some (e, h') := hc
  cases hk : kn f args h with
  | some r =>
   rw [hk] at hc'
   simp only [Option.some.injEq] at hc'
   subst hc'
   exact hkn f args h h' e hk hfn φ w args' c cs hr ha
  | none =>
   rw [hk] at hc'
   exact body_callSim h1 h2 hd h3 f args h h' e hc' hfn φ w args' c cs hr ha
end
end Go.Ab
end

section
namespace Go.Ab
variable [Val]
section
variable {P : Program} {G : Nat} {φ : Phi} {h : H}
theorem VecR.toOR {v : Vec} {c : Array Value} (hv : VecR φ v c) (e : TypeId) (w : World) : OR φ (.cells v.n v.dep v.d v.t) (w.heap.size, 0, c.size) (some (.cells c e)) := by
 refine ⟨hv.wf.le, by simp [hv.size], c, e, (0, 0), rfl, rfl, Thaw.none _, fun i hi => ?_, fun i hi => ?_⟩
 ·show VR _ _ (c.getD (0 + i) undef)
  rw [Nat.zero_add]
  exact hv.get i hi
 ·show plainCell (c.getD (0 + i) undef) = true
  rw [Nat.zero_add]
  exact hv.plain i hi
theorem makeSliceA_late (w : World) {t : TypeId} {l c v : AV} {h' : H} (hm : makeSliceA P t l c h = some (v, h')) {l' c' : Value} (hl : VR φ l l') (hc : VR φ c c') :
  ∃ ob u ob' cs, h.new ob = some (h.nx, h') ∧ (Go.Instr.makeSlice t l' c').run P w = .ok u (w.alloc ob') ∧ OR φ ob (w.heap.size, 0, cs) (some ob') ∧
   ∀ φ', φ' h.nx = some (w.heap.size, 0, cs) → VR φ' v u := by
 unfold makeSliceA at hm
 split at hm
 ·rename_i e ln cn hu hln hcn
  split at hm
  ·rename_i sz z i hsz hz hi
   split at hm
   ·rename_i hle
    obtain ⟨hlc, hc1, hby⟩ := hle
    split at hm
    ·rename_i zv hzv
     split at hm
     ·rename_i hzn
      obtain ⟨k1, li, rfl, hl0, rfl⟩ := natOf_ok hln hl
      obtain ⟨k2, ci, rfl, hc0, rfl⟩ := natOf_ok hcn hc
      obtain ⟨z', hzr, hzrel⟩ := run_zero hz w φ
      have hzvr := VecR.of_vec hzrel hzv
      cases hal : allocA h (zeroVec ci.toNat zv) with
      | none => rw [hal] at hm; simp at hm
      | some p =>
       obtain ⟨id, h2⟩ := p
       rw [hal] at hm
       simp only [Option.map_some, Option.some.injEq, Prod.mk.injEq] at hm
       obtain ⟨rfl, rfl⟩ := hm
       have hvec := zeroVec_rel (n := ci.toNat) hzvr (by omega)
       obtain rfl := (H.new_spec hal).1
       have hcsz := hvec.size
       have hn := (zeroVec_spec ci.toNat zv (by omega)).1
       refine ⟨_, .slice (some ⟨w.heap.size, 0, none⟩) li.toNat ci.toNat, .cells _ e, _, hal, ?_, VecR.toOR hvec e w, fun φ' hφ' => ?_⟩
       ·have e1 : IntKind.i64.wrap li = li := i64_small hl0 (by omega)
        have e2 : IntKind.i64.wrap ci = ci := i64_small hc0 (by omega)
        have hbi : (i.bytes : Int) * ci ≤ 1000000000 := by
         have : ((i.bytes * ci.toNat : Nat) : Int) ≤ 1000000000 := by omega
         rw [Int.natCast_mul, Int.toNat_of_nonneg hc0] at this
         exact this
        have t1 : (ci < 0 || (i.bytes : Int) * ci > 2 ^ 48) = false := by
         rw [Bool.or_eq_false_iff]
         constructor
         ·simpa using hc0
         ·simp only [gt_iff_lt, decide_eq_false_iff_not]; omega
        have t2 : (li < 0) = False := by simpa using hl0
        have t3 : (li > ci) = False := by simp; omega
        have hiz : zv.n = sz + 1 := hzn
        simp only [Go.Instr.makeSlice, asInt, asIntOf, Sem.run_bind, Sem.run_pure, Result.andThen_ok, run_und hu, run_info hi, e1, e2, t1, t2, t3, decide_false, Bool.or_false, Bool.false_eq_true, if_false,
         run_askRoom, run_size hsz]
        by_cases hz0 : ci.toNat * (sz + 1) = 0
        ·have hci : ci.toNat = 0 := by
          rcases Nat.mul_eq_zero.1 hz0 with h | h
          ·exact h
          ·omega
         have z0 : ∀ f : Nat → Value, (Array.range 0).map f = #[] := fun f => by simp
         simp only [hci, Nat.zero_mul, if_true, Sem.run_pure, Result.andThen_ok, newRow, Sem.run_bind, run_newObj', z0]
        ·simp only [hz0, if_false, Sem.run_bind, hzr, Result.andThen_ok, Sem.run_pure, newRow, run_newObj']
         rw [hiz]
       ·refine .slice hφ' (.inl (by simp)) (by simpa using hlc) (Nat.le_refl _) (fun _ => rfl) ?_ (by omega)
        rw [hcsz, hn, hzn]
        omega
     ·simp at hm
    ·simp at hm
   ·simp at hm
  ·simp at hm
 ·simp at hm
theorem buildSliceA_late (w : World) {ρ : Operand → AV} {ρ' : Operand → Value} (hρ : ∀ x, VR φ (ρ x) (ρ' x)) {t : TypeId} {len : Nat} {parts : Array (Nat × Operand)} {v : AV} {h' : H}
  (hb : buildSliceA P t len (pairsA ρ parts) h = some (v, h')) :
  ∃ ob u ob' cs, h.new ob = some (h.nx, h') ∧ (Go.Instr.buildSlice t len (parts.map fun p => (p.1, ρ' p.2))).run P w = .ok u (w.alloc ob') ∧ OR φ ob (w.heap.size, 0, cs) (some ob') ∧
   ∀ φ', φ' h.nx = some (w.heap.size, 0, cs) → VR φ' v u := by
 obtain ⟨hl, he⟩ := pairs_map hρ parts
 unfold buildSliceA at hb
 split at hb
 ·rename_i e hu
  split at hb
  ·rename_i sz z hsz hz
   obtain ⟨z', hzr, hzrel⟩ := run_zero hz w φ
   split at hb
   ·rename_i zv hzv
    have hzvr := VecR.of_vec hzrel hzv
    split at hb
    ·rename_i hc
     obtain ⟨hzn, hlim⟩ := hc
     split at hb
     ·rename_i v2 hf
      cases hal : allocA h v2 with
      | none => rw [hal] at hb; simp at hb
      | some p =>
       obtain ⟨id, h2⟩ := p
       rw [hal] at hb
       simp only [Option.map_some, Option.some.injEq, Prod.mk.injEq] at hb
       obtain ⟨rfl, rfl⟩ := hb
       have hvec := zeroVec_rel (n := len) hzvr (by omega)
       have hn := (zeroVec_spec len zv (by omega)).1
       obtain ⟨c2, hc2, hr2⟩ := fillA_ok (φ := φ) _ _ _ v2 _ hf hvec hl he
       obtain rfl := (H.new_spec hal).1
       have hsize : c2.size = len * (sz + 1) := by
        have key : ∀ (ps : List (Nat × Value)) (c c2 : Array Value), Go.Instr.fill (fun i => some (i * (sz + 1), sz + 1)) c ps = some c2 → c2.size = c.size := by
         intro ps
         induction ps with
         | nil => intro c c2 hq; simp only [Go.Instr.fill, Option.some.injEq] at hq; rw [hq]
         | cons p ps ih =>
          intro c c2 hq
          obtain ⟨i, x⟩ := p
          simp only [Go.Instr.fill] at hq
          split at hq
          ·simp at hq
          ·have := ih _ _ hq
           rw [this]
           exact (congrArg Array.size (fill_step c _ _)).trans (spl_size _ _ _)
        rw [key _ _ _ hc2]
        simp [hzn]
       refine ⟨_, .slice (some ⟨w.heap.size, 0, none⟩) len len, .cells _ e, _, hal, ?_, VecR.toOR hr2 e w, fun φ' hφ' => ?_⟩
       ·have hlim' : ¬ len * (sz + 1) > 2 ^ 24 := by omega
        have hsz' : size? P e = some (sz + 1) := hsz
        have z0 : ∀ f : Nat → Value, (Array.range 0).map f = #[] := fun f => by simp
        simp only [Go.Instr.buildSlice, Sem.run_bind, run_und hu, Result.andThen_ok, run_size hsz', hlim', if_false]
        by_cases hz0 : len * (sz + 1) = 0
        ·have e0 : len * zv.n = 0 := by rw [hzn]; exact hz0
         rw [e0, z0] at hc2
         simp only [hz0, if_true, Sem.run_bind, Sem.run_pure, Result.andThen_ok, z0]
         rw [hc2]
         simp only [newRow, Sem.run_bind, run_newObj', Result.andThen_ok, Sem.run_pure]
        ·simp only [hz0, if_false, Sem.run_bind, hzr, Result.andThen_ok, Sem.run_pure]
         rw [hzn] at hc2
         rw [hc2]
         simp only [newRow, Sem.run_bind, run_newObj', Result.andThen_ok, Sem.run_pure]
       ·refine .slice hφ' (.inl (by simp)) (Nat.le_refl _) (Nat.le_refl _) (fun _ => rfl) ?_ (by omega)
        rw [hsize]
        omega
     ·simp at hb
    ·simp at hb
   ·simp at hb
  ·simp at hb
 ·simp at hb
omit [Val] in
theorem noted {h h2 : H} {ob : AObj} {id : Nat} (hn : h.new ob = some (id, h2)) {c : Array Value} {e : TypeId} {cs : Nat} (hc : c.size = cs) :
  ∀ T, (id, T) ∈ (h2.note id e).ty → (id, T) ∈ h.ty ∨ ∃ c' fz, Obj.cells c e = .cells c' T fz ∧ c'.size = cs := by
 intro T hT
 rcases List.mem_cons.1 hT with e' | hT
 ·simp only [Prod.mk.injEq, true_and] at e'
  subst e'
  exact .inr ⟨c, (0, 0), rfl, hc⟩
 ·exact .inl (H.new_ty hn ▸ hT)
theorem late_core {ρ : Operand → AV} {ρ' : Operand → Value} (hρ : ∀ x, VR φ (ρ x) (ρ' x)) {o : Oper} (hl : isLate o = true) {v : AV} {h' : H} (ho : opR P ρ o h = some (.val v h')) (w : World) :
  ∃ ob u ob' cs, h.news ob h' ∧ (execOp ρ' o).run P w = .ok (.value u) (w.alloc ob') ∧ OR φ ob (w.heap.size, 0, cs) (some ob') ∧
   (∀ φ', φ' h.nx = some (w.heap.size, 0, cs) → VR φ' v u) ∧ ∀ T, (h.nx, T) ∈ h'.ty → (h.nx, T) ∈ h.ty ∨ ∃ c fz, ob' = .cells c T fz ∧ c.size = cs := by
 obtain ⟨dst, op, type, pos, after, guard⟩ := o
 unfold opR at ho
 unfold execOp
 cases op <;> dsimp only at ho ⊢ <;> simp only [isLate, Bool.false_eq_true] at hl
 case alloc e =>
  split at ho
  ·rename_i z hz
   split at ho
   ·rename_i v hv
    cases hal : allocA h v with
    | none => rw [hal] at ho; simp at ho
    | some p =>
     obtain ⟨id, h2⟩ := p
     rw [hal] at ho
     simp only [Option.map_some, Option.some.injEq, AR.val.injEq] at ho
     obtain ⟨rfl, rfl⟩ := ho
     obtain rfl := (H.new_spec hal).1
     obtain ⟨z', hzr, hzrel⟩ := run_zero hz w φ
     refine ⟨_, .pointer (some ⟨w.heap.size, 0, none⟩), .cells _ e, _, ⟨h2, hal, .inr ⟨e, rfl⟩⟩, ?_, (VecR.of_vec hzrel hv).toOR e w, fun φ' hφ' => .ptr (base := 0) hφ', noted hal rfl⟩
     simp only [Go.Instr.alloc, Sem.run_bind, hzr, Result.andThen_ok, newVar, newRow, run_newObj', Sem.run_pure]
   ·simp at ho
  ·simp at ho
 case box e x =>
  split at ho
  ·rename_i v hv
   cases hal : allocA h v with
   | none => rw [hal] at ho; simp at ho
   | some p =>
    obtain ⟨id, h2⟩ := p
    rw [hal] at ho
    simp only [Option.map_some, Option.some.injEq, AR.val.injEq] at ho
    obtain ⟨rfl, rfl⟩ := ho
    obtain rfl := (H.new_spec hal).1
    refine ⟨_, .pointer (some ⟨w.heap.size, 0, none⟩), .cells _ e, _, ⟨h2, hal, .inr ⟨e, rfl⟩⟩, ?_, (VecR.of_vec (hρ x) hv).toOR e w, fun φ' hφ' => .ptr (base := 0) hφ', noted hal rfl⟩
    simp only [Go.Instr.box, Sem.run_bind, Result.andThen_ok, newVar, newRow, run_newObj', Sem.run_pure]
  ·simp at ho
 case buildSlice t len parts =>
  obtain ⟨a, h2, ha, e⟩ := val2_inv ho
  simp only [AR.val.injEq] at e
  obtain ⟨rfl, rfl⟩ := e
  obtain ⟨ob, u, ob', cs, h1, h2, h3, h4⟩ := buildSliceA_late w hρ ha
  exact ⟨ob, u, ob', cs, ⟨_, h1, .inl rfl⟩, by simp only [Sem.run_bind, h2, Result.andThen_ok, Sem.run_pure], h3, h4, fun T hT => .inl (H.new_ty h1 ▸ hT)⟩
 case makeMap t rs =>
  have fin : (h.new (.map [] 0)).map (fun (id, h) => AR.val (.map id) h) = some (.val v h') → h.new (.map [] 0) = some (h.nx, h') ∧ v = .map h.nx := by
   intro hn
   cases hnew : h.new (.map [] 0) with
   | none => rw [hnew] at hn; simp at hn
   | some p =>
    obtain ⟨id, h2⟩ := p
    rw [hnew] at hn
    simp only [Option.map_some, Option.some.injEq, AR.val.injEq] at hn
    obtain ⟨rfl, rfl⟩ := hn
    obtain rfl := (H.new_spec hnew).1
    exact ⟨rfl, rfl⟩
  split at ho
  ·obtain ⟨h1, rfl⟩ := fin ho
   refine ⟨_, .map (some w.heap.size), .map #[] 0, 0, ⟨_, h1, .inl rfl⟩, ?_, ⟨#[], rfl, rfl, fun i hi => absurd hi (by simp)⟩, fun φ' hφ' => .map (p := (w.heap.size, 0, 0)) hφ', fun T hT => .inl (H.new_ty h1 ▸ hT)⟩
   simp only [Go.Instr.makeMap, Option.map_none, Sem.run_bind, run_newObj', Result.andThen_ok, Sem.run_pure]
  ·rename_i x
   have hx := hρ x
   split at ho
   ·rename_i k n kt et heq hu
    rw [heq] at hx
    have e := hx.int_inv
    obtain ⟨h1, rfl⟩ := fin ho
    refine ⟨_, .map (some w.heap.size), .map #[] 0, 0, ⟨_, h1, .inl rfl⟩, ?_, ⟨#[], rfl, rfl, fun i hi => absurd hi (by simp)⟩, fun φ' hφ' => .map (p := (w.heap.size, 0, 0)) hφ', fun T hT => .inl (H.new_ty h1 ▸ hT)⟩
    simp only [Go.Instr.makeMap, Option.map_some, e, asInt, asIntOf, Sem.run_bind, run_und hu, run_newObj', Result.andThen_ok, Sem.run_pure]
   ·simp at ho
 case makeSlice t l c =>
  obtain ⟨a, h2, ha, e⟩ := val2_inv ho
  simp only [AR.val.injEq] at e
  obtain ⟨rfl, rfl⟩ := e
  obtain ⟨ob, u, ob', cs, h1, h2, h3, h4⟩ := makeSliceA_late w ha (hρ l) (hρ c)
  exact ⟨ob, u, ob', cs, ⟨_, h1, .inl rfl⟩, by simp only [Sem.run_bind, h2, Result.andThen_ok, Sem.run_pure], h3, h4, fun T hT => .inl (H.new_ty h1 ▸ hT)⟩
end
end Go.Ab
end

section
namespace Go.Ab
variable [Val]
section
variable {P : Program}
omit [Val] in
theorem pairsA_congr {ρ ρ₂ : Operand → AV} {parts : Array (Nat × Operand)} (h : ∀ x ∈ (parts.toList.map (·.2)).toArray.toList, ρ x = ρ₂ x) : pairsA ρ parts = pairsA ρ₂ parts := by
 unfold pairsA
 apply List.map_congr_left
 intro p hp
 rw [h p.2 (by simp; exact ⟨p.1, by simpa using hp⟩)]
omit [Val] in
theorem args_congr {ρ ρ₂ : Operand → AV} {a : Array Operand} (h : ∀ x ∈ a.toList, ρ x = ρ₂ x) : a.toList.map ρ = a.toList.map ρ₂ := List.map_congr_left h
omit [Val] in
theorem opt_congr {ρ ρ₂ : Operand → AV} {a : Option Operand} (h : ∀ x ∈ a.toArray.toList, ρ x = ρ₂ x) : a.map ρ = a.map ρ₂ := by
 cases a with
 | none => rfl
 | some x => rw [Option.map_some, Option.map_some, h x (by simp)]
omit [Val] in
theorem resolveA_congr {ρ ρ₂ : Operand → AV} {c : Call} (h : ∀ x ∈ c.operands.toList, ρ x = ρ₂ x) : resolveA ρ c = resolveA ρ₂ c := by
 unfold resolveA
 cases hc : c.callee with
 | value f =>
  have e : c.operands = #[f] ++ c.args := by simp [Call.operands, hc]
  rw [e] at h
  dsimp only
  rw [h f (by simp), args_congr (a := c.args) (fun x hx => h x (by simp at hx ⊢; exact .inr hx))]
 | builtin b => rfl
 | invoke _ _ => rfl
omit [Val] in
theorem builtinA_congr {ρ ρ₂ : Operand → AV} {b : Builtin} {c : Call} {h : H} (hc : c.callee = .builtin b) (ha : ∀ x ∈ c.operands.toList, ρ x = ρ₂ x) : builtinA P ρ b c h = builtinA P ρ₂ b c h := by
 have e : c.operands = c.args := by simp [Call.operands, hc]
 rw [e] at ha
 unfold builtinA
 rw [args_congr ha]
omit [Val] in
theorem opR_congr {ρ ρ₂ : Operand → AV} {o : Oper} (h : ∀ x ∈ o.op.operands.toList, ρ x = ρ₂ x) (hp : H) : opR P ρ o hp = opR P ρ₂ o hp := by
 obtain ⟨dst, op, type, pos, after, guard⟩ := o
 unfold opR
 cases op <;> dsimp only [Op.operands] at h ⊢
 case build t ps => rw [pairsA_congr h]
 case buildSlice t n ps => rw [pairsA_congr h]
 case makeFunc f a c =>
  rw [args_congr (a := a) (fun x hx => h x (by simp at hx ⊢; exact .inl hx)), args_congr (a := c) (fun x hx => h x (by simp at hx ⊢; exact .inr hx))]
 case makeMap t r =>
  cases r with
  | none => rfl
  | some x => dsimp only; rw [h x (by simp)]
 case slice t x l hi m =>
  rw [h x (by simp), opt_congr (a := l) (fun y hy => h y (by simp at hy ⊢; exact .inr (.inl hy))), opt_congr (a := hi) (fun y hy => h y (by simp at hy ⊢; exact .inr (.inr (.inl hy)))),
   opt_congr (a := m) (fun y hy => h y (by simp at hy ⊢; exact .inr (.inr (.inr hy))))]
 case call c =>
  cases hc : c.callee with
  | builtin b => exact builtinA_congr hc h
  | value f => dsimp only; rw [resolveA_congr h]
  | invoke _ _ => rfl
 case defer c =>
  cases hc : c.callee with
  | builtin b => rfl
  | value f => dsimp only; rw [resolveA_congr h]
  | invoke _ _ => rfl
 case pick c a b => rw [h c (by simp), h a (by simp), h b (by simp)]
 case store t a v => rw [h a (by simp), h v (by simp)]
 case binOp t x a v y => rw [h a (by simp), h v (by simp)]
 case makeSlice t a v => rw [h a (by simp), h v (by simp)]
 case indexAddr t a v => rw [h a (by simp), h v (by simp)]
 case index t a v => rw [h a (by simp), h v (by simp)]
 case lookup t a v _ => rw [h a (by simp), h v (by simp)]
 case mapEntry t a v => rw [h a (by simp), h v (by simp)]
 case mapUpdate t a v y => rw [h a (by simp), h v (by simp), h y (by simp)]
 case insert t a v y => rw [h a (by simp), h v (by simp), h y (by simp)]
 case entryStore t a v y => rw [h a (by simp), h v (by simp), h y (by simp)]
 all_goals first | rfl | (rw [h _ (by simp)])
omit [Val] in
theorem valH_any {v : Option AV} {h : H} {a : AV} {h' : H} (hv : valH v h = some (.val a h')) (h₂ : H) : h' = h ∧ valH v h₂ = some (.val a h₂) := by
 obtain ⟨b, rfl, e⟩ := valH_inv hv
 simp only [AR.val.injEq] at e
 obtain ⟨rfl, rfl⟩ := e
 exact ⟨rfl, rfl⟩
omit [Val] in
theorem pure_any {ρ : Operand → AV} {o : Oper} (h1 : isChain o = false) (h2 : isLate o = false) (h3 : isRead o = false) {h h' : H} {v : AV} (ho : opR P ρ o h = some (.val v h')) (h₂ : H) (htb : h₂.tb = h.tb) :
  h' = h ∧ opR P ρ o h₂ = some (.val v h₂) := by
 obtain ⟨dst, op, type, pos, after, guard⟩ := o
 unfold opR at ho ⊢
 cases op <;> simp only [isLate, isRead, Bool.true_eq_false] at h2 h3 <;> dsimp only at ho ⊢
 case move x => simp only [Option.some.injEq, AR.val.injEq] at ho; obtain ⟨rfl, rfl⟩ := ho; exact ⟨rfl, rfl⟩
 case assign x => simp only [Option.some.injEq, AR.val.injEq] at ho; obtain ⟨rfl, rfl⟩ := ho; exact ⟨rfl, rfl⟩
 case pick c a b =>
  split at ho
  ·simp only [Option.some.injEq, AR.val.injEq] at ho; obtain ⟨rfl, rfl⟩ := ho; exact ⟨rfl, rfl⟩
  ·simp at ho
 case build t ps => exact valH_any ho h₂
 case nilCheck x =>
  split at ho
  ·simp [nilDeref] at ho
  ·simp [nilDeref] at ho
  ·simp [nilDeref] at ho
  ·simp at ho
  ·simp at ho
  ·simp only [Option.some.injEq, AR.val.injEq] at ho; obtain ⟨rfl, rfl⟩ := ho; exact ⟨rfl, rfl⟩
 case binOp => rw [htb]; exact valH_any ho h₂
 case unOp => exact valH_any ho h₂
 case sliceToArrayPointer t x =>
  split at ho
  ·split at ho
   ·rename_i hle
    simp only [Option.some.injEq, AR.val.injEq] at ho; obtain ⟨rfl, rfl⟩ := ho
    exact ⟨rfl, by simp only [if_pos hle]⟩
   ·simp at ho
  ·simp at ho
 case makeInterface t x =>
  split at ho
  ·simp at ho
  ·simp at ho
  ·simp only [Option.some.injEq, AR.val.injEq] at ho; obtain ⟨rfl, rfl⟩ := ho; exact ⟨rfl, rfl⟩
  ·simp at ho
 case makeFunc f a c =>
  split at ho
  ·simp only [Option.some.injEq, AR.val.injEq] at ho; obtain ⟨rfl, rfl⟩ := ho; exact ⟨rfl, rfl⟩
  ·simp at ho
 case fieldAddr s x f =>
  split at ho
  ·simp only [Option.some.injEq, AR.val.injEq] at ho; obtain ⟨rfl, rfl⟩ := ho; exact ⟨rfl, rfl⟩
  ·simp at ho
 case field s x f =>
  split at ho
  ·exact valH_any ho h₂
  ·simp at ho
 case indexAddr t x i =>
  unfold indexAddrA at ho ⊢
  split at ho
  ·unfold indexAddrV at ho ⊢
   rw [htb]
   split at ho
   ·split at ho
    ·split at ho
     ·simp only [Option.some.injEq, AR.val.injEq] at ho; obtain ⟨rfl, rfl⟩ := ho
      exact ⟨rfl, by simp_all⟩
     ·simp at ho
    ·simp at ho
   ·simp at ho
  rename_i hnv
  clear hnv
  unfold indexAddrK at ho ⊢
  split at ho
  ·split at ho
   ·split at ho
    ·split at ho
     ·rename_i hc
      simp only [Option.some.injEq, AR.val.injEq] at ho; obtain ⟨rfl, rfl⟩ := ho
      exact ⟨rfl, by simp only [if_pos hc]⟩
     ·simp at ho
    ·simp at ho
   ·split at ho
    ·split at ho
     ·rename_i hc
      simp only [Option.some.injEq, AR.val.injEq] at ho; obtain ⟨rfl, rfl⟩ := ho
      exact ⟨rfl, by simp only [if_pos hc]⟩
     ·simp at ho
    ·simp at ho
   ·simp at ho
  ·simp at ho
 case index => exact valH_any ho h₂
 case typeAssert => exact valH_any ho h₂
 case extract x i =>
  split at ho
  ·rename_i l _
   cases hl : l[i]? with
   | none => rw [hl] at ho; simp at ho
   | some u =>
    rw [hl] at ho
    simp only [Option.map_some, Option.some.injEq, AR.val.injEq] at ho; obtain ⟨rfl, rfl⟩ := ho
    exact ⟨rfl, by simp only [Option.map_some]⟩
  ·simp at ho
 all_goals first | (simp at ho; done) | (simp [isChain] at h1; done)
omit [Val] in
theorem valH_same {v : Option AV} {h : H} {a : AV} {h' : H} (hv : valH v h = some (.val a h')) : h' = h := (valH_any hv h).1
omit [Val] in
theorem new_nx {h h' : H} {o : AObj} {id : Nat} (hn : h.new o = some (id, h')) : h'.nx = h.nx + 1 := (H.new_spec hn).2.2.1
omit [Val] in
theorem same_heap {ρ : Operand → AV} {o : Oper} (h1 : isChain o = false) (h2 : isLate o = false) {h h' : H} {v : AV} (ho : opR P ρ o h = some (.val v h')) (hnx : h'.nx = h.nx) : h' = h := by
 cases h3 : isRead o with
 | false => exact (pure_any h1 h2 h3 ho h rfl).1
 | true =>
  obtain ⟨dst, op, type, pos, after, guard⟩ := o
  unfold opR at ho
  cases op <;> simp only [isRead, Bool.false_eq_true] at h3 <;> dsimp only at ho
  case load t a =>
   split at ho
   ·exact valH_same ho
   ·exact valH_same ho
   ·simp at ho
  case lookup => exact valH_same ho
  case slice => exact valH_same ho
  case convert s d x =>
   obtain ⟨a, h2, ha, e⟩ := val2_inv ho
   simp only [AR.val.injEq] at e
   obtain ⟨rfl, rfl⟩ := e
   unfold convertA at ha
   split at ha
   ·simp only [Option.some.injEq, Prod.mk.injEq] at ha; exact ha.2.symm
   ·simp only [Option.some.injEq, Prod.mk.injEq] at ha; exact ha.2.symm
   ·simp only [Option.some.injEq, Prod.mk.injEq] at ha; exact ha.2.symm
   ·simp only [Option.some.injEq, Prod.mk.injEq] at ha; exact ha.2.symm
   ·split at ha
    ·rw [Option.map_eq_some_iff] at ha
     obtain ⟨p, hal, e⟩ := ha
     simp only [Prod.mk.injEq] at e
     have := new_nx (show h.new _ = some (p.1, p.2) from hal)
     rw [e.2] at this
     omega
    ·simp at ha
   ·split at ha
    ·split at ha
     ·simp only [Option.some.injEq, Prod.mk.injEq] at ha; exact ha.2.symm
     ·simp at ha
    ·simp at ha
   ·split at ha
    ·simp only [Option.some.injEq, Prod.mk.injEq] at ha; exact ha.2.symm
    ·simp at ha
   ·split at ha
    ·split at ha
     ·rw [Option.map_eq_some_iff] at ha
      obtain ⟨p, hal, e⟩ := ha
      simp only [Prod.mk.injEq] at e
      exact e.2.symm
     ·simp at ha
    ·simp at ha
   ·split at ha
    ·split at ha
     ·simp only [Option.some.injEq, Prod.mk.injEq] at ha; exact ha.2.symm
     ·simp at ha
    ·simp at ha
   ·split at ha
    ·split at ha
     ·simp only [Option.some.injEq, Prod.mk.injEq] at ha; exact ha.2.symm
     ·simp at ha
    ·simp at ha
   ·simp at ha
  case call c =>
   obtain ⟨callee, args, ts⟩ := c
   cases callee with
   | value f => simp [isChain] at h1
   | invoke _ _ => simp at ho
   | builtin b =>
    dsimp only at ho
    unfold builtinA at ho
    dsimp only at ho
    cases b <;> simp only [isChain, Bool.true_eq_false] at h1
    all_goals (repeat' (split at ho))
    all_goals first
     | exact valH_same ho
     | (simp only [Option.some.injEq, AR.val.injEq] at ho; exact ho.2.symm)
     | (simp at ho; done)
     | (simp at *; done)
end
end Go.Ab
end

section
namespace Go.Ab
variable [Val]
def AH (L : List Oper) (i j : Nat) : Prop := Nat.testBit ((ahead L).getD j 0) i = true
def TP (A : Nat → Nat → Prop) : List Nat → List Nat → Prop
 | _, [] => True
 | done, x :: r => x ∉ done ∧ (∀ i, A i x → i ∈ done) ∧ TP A (done ++ [x]) r
def DC (A : Nat → Nat → Prop) (l : List Nat) : Prop := ∀ x ∈ l, ∀ i, A i x → i ∈ l
omit [Val] in
theorem DC.snoc {A : Nat → Nat → Prop} {l : List Nat} {x : Nat} (h : DC A l) (hx : ∀ i, A i x → i ∈ l) : DC A (l ++ [x]) := by
 intro y hy i hi
 rcases List.mem_append.1 hy with h1 | h1
 ·exact List.mem_append_left _ (h y h1 i hi)
 ·obtain rfl := List.mem_singleton.1 h1
  exact List.mem_append_left _ (hx i hi)
omit [Val] in
theorem topo_ok {L : List Oper} : ∀ (l done : List Nat) (m : Nat), (∀ i, Nat.testBit m i = true ↔ i ∈ done) → topo (ahead L) m l = true → TP (AH L) done l := by
 intro l
 induction l with
 | nil => intro _ _ _ _; trivial
 | cons x r ih =>
  intro done m hm h
  simp only [topo, Bool.and_eq_true, Bool.not_eq_true'] at h
  obtain ⟨h1, h2, h3⟩ := h
  have h2 := Nat.eq_of_beq_eq_true h2
  refine ⟨fun hx => ?_, fun i hi => ?_, ih _ _ (fun i => ?_) h3⟩
  ·rw [(hm x).2 hx] at h1; simp at h1
  ·refine (hm i).1 ?_
   have e : Nat.testBit (Nat.land ((ahead L).getD x 0) m) i = true := by rw [h2]; exact hi
   have e2 : Nat.testBit ((ahead L).getD x 0 &&& m) i = true := e
   rw [Nat.testBit_and, Bool.and_eq_true] at e2
   exact e2.2
  ·show Nat.testBit (m ||| 2 ^ x) i = true ↔ _
   rw [Nat.testBit_or, Bool.or_eq_true, hm i, Nat.testBit_two_pow, List.mem_append, List.mem_singleton, decide_eq_true_iff]
   exact or_congr Iff.rfl ⟨fun h => h.symm, fun h => h.symm⟩
omit [Val] in
theorem row_bits (acc : List Nat) : ∀ (l : List Edge) (s i : Nat), Nat.testBit (l.foldl (fun s e => bif Region.binds .any e then Nat.lor (Nat.lor s (2 ^ e.on)) (acc.getD e.on 0) else s) s) i = true →
  Nat.testBit s i = true ∨ ∃ e ∈ l, Region.binds .any e = true ∧ (e.on = i ∨ Nat.testBit (acc.getD e.on 0) i = true) := by
 intro l
 induction l with
 | nil => intro s i h; exact .inl h
 | cons e l ih =>
  intro s i h
  rw [List.foldl_cons] at h
  rcases ih _ i h with h1 | ⟨e', he', hb, hx⟩
  ·cases hb : Region.binds .any e with
   | false => rw [hb] at h1; exact .inl h1
   | true =>
    rw [hb] at h1
    simp only [cond_true] at h1
    have h2 : Nat.testBit ((s ||| 2 ^ e.on) ||| acc.getD e.on 0) i = true := h1
    rw [Nat.testBit_or, Nat.testBit_or, Bool.or_eq_true, Bool.or_eq_true, Nat.testBit_two_pow, decide_eq_true_iff] at h2
    rcases h2 with (h2 | h2) | h2
    ·exact .inl h2
    ·exact .inr ⟨e, List.mem_cons_self, hb, .inl h2⟩
    ·exact .inr ⟨e, List.mem_cons_self, hb, .inr h2⟩
  ·exact .inr ⟨e', List.mem_cons_of_mem _ he', hb, hx⟩
def aheadF (acc : List Nat) (o : Oper) : List Nat :=
 acc ++ [o.after.toList.foldl (fun s e => bif Region.binds .any e then Nat.lor (Nat.lor s (2 ^ e.on)) (acc.getD e.on 0) else s) 0]
omit [Val] in
theorem aheadF_prefix : ∀ (l : List Oper) (acc : List Nat), ∃ t, l.foldl aheadF acc = acc ++ t ∧ t.length = l.length := by
 intro l
 induction l with
 | nil => intro acc; exact ⟨[], by simp, rfl⟩
 | cons o l ih =>
  intro acc
  obtain ⟨t, h1, h2⟩ := ih (aheadF acc o)
  refine ⟨o.after.toList.foldl (fun s e => bif Region.binds .any e then Nat.lor (Nat.lor s (2 ^ e.on)) (acc.getD e.on 0) else s) 0 :: t, ?_, by simp [h2]⟩
  rw [List.foldl_cons, h1]
  unfold aheadF
  rw [List.append_assoc, List.singleton_append]
omit [Val] in
theorem aheadF_row : ∀ (l : List Oper) (acc : List Nat) (k : Nat) (o : Oper), l[k]? = some o →
  ∃ acc', acc'.length = acc.length + k ∧ (∃ t, l.foldl aheadF acc = acc' ++ t) ∧
   (l.foldl aheadF acc).getD (acc.length + k) 0 = o.after.toList.foldl (fun s e => bif Region.binds .any e then Nat.lor (Nat.lor s (2 ^ e.on)) (acc'.getD e.on 0) else s) 0 := by
 intro l
 induction l with
 | nil => intro acc k o h; simp at h
 | cons p l ih =>
  intro acc k o h
  cases k with
  | zero =>
   simp only [List.getElem?_cons_zero, Option.some.injEq] at h
   subst h
   obtain ⟨t, h1, h2⟩ := aheadF_prefix l (aheadF acc p)
   refine ⟨acc, rfl, ⟨_, by rw [List.foldl_cons, h1]; unfold aheadF; rw [List.append_assoc]⟩, ?_⟩
   rw [List.foldl_cons, h1]
   unfold aheadF
   simp
  | succ k =>
   rw [List.getElem?_cons_succ] at h
   obtain ⟨acc', h1, h2, h3⟩ := ih (aheadF acc p) k o h
   have hl : (aheadF acc p).length = acc.length + 1 := by simp [aheadF]
   rw [hl] at h1 h3
   refine ⟨acc', by omega, h2, ?_⟩
   rw [List.foldl_cons, ← h3]
   congr 1
   omega
omit [Val] in
theorem ahead_row {L : List Oper} {j : Nat} {o : Oper} (ho : L[j]? = some o) (hlt : ∀ e ∈ o.after.toList, Region.binds .any e = true → e.on < j) {i : Nat} (h : AH L i j) :
  ∃ e ∈ o.after.toList, Region.binds .any e = true ∧ (e.on = i ∨ AH L i e.on) := by
 obtain ⟨acc', h1, ⟨t, h2⟩, h3⟩ := aheadF_row L [] j o ho
 have e : ahead L = L.foldl aheadF [] := rfl
 unfold AH at h
 rw [e] at h
 simp only [List.length_nil, Nat.zero_add] at h1 h3
 rw [h3] at h
 rcases row_bits _ _ _ _ h with h4 | ⟨ed, he, hb, hx⟩
 ·simp at h4
 ·refine ⟨ed, he, hb, hx.imp id fun hx => ?_⟩
  have := hlt ed he hb
  unfold AH
  rw [e, h2, List.getD_eq_getElem?_getD, List.getElem?_append_left (by omega), ← List.getD_eq_getElem?_getD]
  exact hx
omit [Val] in
theorem ahead_lt {L : List Oper} (hlt : ∀ j o, L[j]? = some o → ∀ e ∈ o.after.toList, Region.binds .any e = true → e.on < j) : ∀ j, j < L.length → ∀ i, AH L i j → i < j := by
 intro j
 induction j using Nat.strongRecOn with
 | _ j ih =>
  intro hj i h
  have ho : L[j]? = some L[j] := List.getElem?_eq_getElem hj
  obtain ⟨e, he, hb, hx⟩ := ahead_row ho (hlt j _ ho) h
  have := hlt j _ ho e he hb
  rcases hx with rfl | hx
  ·exact this
  ·have := ih e.on this (by omega) i hx
   omega
omit [Val] in
theorem nodup_bound : ∀ (n : Nat) (l : List Nat), l.Nodup → (∀ x ∈ l, x < n) → l.length ≤ n := by
 intro n
 induction n with
 | zero =>
  intro l _ h
  cases l with
  | nil => simp
  | cons x l => exact absurd (h x List.mem_cons_self) (by omega)
 | succ n ih =>
  intro l hn h
  have h1 : (l.erase n).length ≤ n := ih _ (hn.erase n) fun x hx => by
   have := (hn.mem_erase_iff).1 hx
   have := h x this.2
   omega
  have := List.length_erase (a := n) (l := l)
  split at this <;> omega
omit [Val] in
theorem nodup_full : ∀ (n : Nat) (l : List Nat), l.Nodup → (∀ x ∈ l, x < n) → n ≤ l.length → ∀ i, i < n → i ∈ l := by
 intro n
 induction n with
 | zero => intro l _ _ _ i hi; omega
 | succ n ih =>
  intro l hn h hlen i hi
  have hmem : n ∈ l := by
   refine Classical.byContradiction fun hne => ?_
   have := nodup_bound n l hn fun x hx => by
    have h1 := h x hx
    have h2 : x ≠ n := fun e => hne (e ▸ hx)
    omega
   omega
  have h1 : ∀ x ∈ l.erase n, x < n := fun x hx => by
   have := (hn.mem_erase_iff).1 hx
   have := h x this.2
   omega
  have h2 : n ≤ (l.erase n).length := by rw [List.length_erase_of_mem hmem]; omega
  by_cases e : i = n
  ·exact e ▸ hmem
  ·exact List.mem_of_mem_erase (ih _ (hn.erase n) h1 h2 i (by omega))
def Flags (n : Nat) (listed : Array Bool) (acc : List Nat) : Prop := listed.size = n ∧ ∀ i, i < n → (listed.getD i true = true ↔ i ∈ acc) ∧ (listed.getD i false = true ↔ i ∈ acc)
omit [Val] in
theorem Flags.set {n : Nat} {listed : Array Bool} {acc : List Nat} (h : Flags n listed acc) {i : Nat} (hi : i < n) : Flags n (listed.setIfInBounds i true) (i :: acc) := by
 refine ⟨by simpa using h.1, fun j hj => ?_⟩
 have hs := h.1
 have h1 := h.2 j hj
 simp only [Array.getD_eq_getD_getElem?, Array.getElem?_setIfInBounds] at h1 ⊢
 by_cases e : i = j
 ·subst e
  rw [if_pos rfl, if_pos (by omega)]
  simp
 ·rw [if_neg e, h1.1, h1.2]
  have : ¬ j = i := fun h => e h.symm
  simp [this]
omit [Val] in
theorem lin_go {ops : Array Oper} (hlt : ∀ j o, ops.toList[j]? = some o → ∀ e ∈ o.after.toList, Region.binds .any e = true → e.on < j) :
  ∀ (fuel t : Nat) (listed : Array Bool) (acc : List Nat), Flags ops.size listed acc → acc.Nodup → (∀ x ∈ acc, x < ops.size) → acc.length + fuel = ops.size → DC (AH ops.toList) acc.reverse →
   ∃ l, Region.linearise.go .any ops fuel t listed acc = acc.reverse ++ l ∧ TP (AH ops.toList) acc.reverse l ∧ (∀ x ∈ l, x < ops.size) ∧ ∀ i, i < ops.size → i ∈ acc.reverse ++ l := by
 intro fuel
 induction fuel with
 | zero =>
  intro t listed acc hf hn hb hlen hdc
  exact ⟨[], by simp [Region.linearise.go], trivial, by simp, fun i hi => by simpa using nodup_full _ acc hn hb (by omega) i hi⟩
 | succ fuel ih =>
  intro t listed acc hf hn hb hlen hdc
  unfold Region.linearise.go
  dsimp only
  generalize hrs : (List.range ops.size).filter (fun i => !listed.getD i true && ((ops[i]?).map (·.after.all fun e => !Region.binds .any e || listed.getD e.on false)).getD false) = rs
  have hmem : ∀ i, i ∈ rs ↔ i < ops.size ∧ i ∉ acc ∧ ∃ o, ops[i]? = some o ∧ ∀ e ∈ o.after.toList, Region.binds .any e = true → listed.getD e.on false = true := by
   intro i
   rw [← hrs, List.mem_filter, List.mem_range, Bool.and_eq_true, Bool.not_eq_true']
   constructor
   ·rintro ⟨h1, h2, h3⟩
    refine ⟨h1, fun hm => ?_, ?_⟩
    ·rw [((hf.2 i h1).1).2 hm] at h2; simp at h2
    ·rw [Array.getElem?_eq_getElem h1] at h3 ⊢
     refine ⟨_, rfl, fun e he hbd => ?_⟩
     simp only [Option.map_some, Option.getD_some] at h3
     have := Array.all_eq_true_iff_forall_mem.1 h3 e (by simpa using he)
     simpa [hbd] using this
   ·rintro ⟨h1, h2, o, ho, h3⟩
    refine ⟨h1, ?_, ?_⟩
    ·cases hx : listed.getD i true with
     | false => rfl
     | true => exact absurd (((hf.2 i h1).1).1 hx) h2
    ·rw [ho]
     simp only [Option.map_some, Option.getD_some]
     refine Array.all_eq_true_iff_forall_mem.2 fun e he => ?_
     cases hbd : Region.binds .any e with
     | false => simp
     | true => simpa using h3 e (by simpa using he) hbd
  cases hg : rs[t % rs.length]? with
  | none =>
   have hnil : rs = [] := by
    cases rs with
    | nil => rfl
    | cons x r =>
     rw [List.getElem?_eq_getElem (Nat.mod_lt _ (by simp))] at hg
     simp at hg
   refine ⟨[], by simp, trivial, by simp, ?_⟩
   have key : ∀ i, i < ops.size → i ∈ acc := by
    intro i
    induction i using Nat.strongRecOn with
    | _ i ihi =>
     intro hi
     refine Classical.byContradiction fun hne => ?_
     have : i ∈ rs := (hmem i).2 ⟨hi, hne, ops[i], Array.getElem?_eq_getElem hi, fun e he hbd => by
      have hl := hlt i ops[i] (by simp [hi]) e he hbd
      exact ((hf.2 e.on (by omega)).2).2 (ihi e.on hl (by omega))⟩
     rw [hnil] at this
     simp at this
   intro i hi
   simpa using key i hi
  | some i =>
   dsimp only
   have him : i ∈ rs := List.mem_of_getElem? hg
   obtain ⟨hi, hnm, o, ho, hready⟩ := (hmem i).1 him
   have hoL : ops.toList[i]? = some o := by simpa using ho
   have hA : ∀ j, AH ops.toList j i → j ∈ acc := by
    intro j hj
    obtain ⟨e, he, hbd, hx⟩ := ahead_row hoL (hlt i o hoL) hj
    have hl := hlt i o hoL e he hbd
    have hin := ((hf.2 e.on (by omega)).2).1 (hready e he hbd)
    rcases hx with rfl | hx
    ·exact hin
    ·have := hdc e.on (by simpa using hin) j hx
     simpa using this
   obtain ⟨l, h1, h2, h3, h4⟩ := ih (t / rs.length) (listed.setIfInBounds i true) (i :: acc) (hf.set hi) (List.nodup_cons.2 ⟨hnm, hn⟩)
    (fun x hx => by rcases List.mem_cons.1 hx with rfl | hx; exact hi; exact hb x hx) (by simp only [List.length_cons]; omega)
    (by rw [List.reverse_cons]; exact hdc.snoc fun j hj => by simpa using hA j hj)
   rw [List.reverse_cons] at h1 h2 h4
   refine ⟨i :: l, by rw [h1, List.append_assoc]; rfl, ⟨by simpa using hnm, fun j hj => by simpa using hA j hj, h2⟩, fun x hx => ?_, fun j hj => ?_⟩
   ·rcases List.mem_cons.1 hx with rfl | hx
    ·exact hi
    ·exact h3 x hx
   ·have := h4 j hj
    rwa [List.append_assoc] at this
omit [Val] in
theorem lin_ok {ops : Array Oper} (hlt : ∀ j o, ops.toList[j]? = some o → ∀ e ∈ o.after.toList, Region.binds .any e = true → e.on < j) (t : Nat) :
  TP (AH ops.toList) [] (Region.linearise .any ops t) ∧ (∀ x ∈ Region.linearise .any ops t, x < ops.size) ∧ ∀ i, i < ops.size → i ∈ Region.linearise .any ops t := by
 obtain ⟨l, h1, h2, h3, h4⟩ := lin_go hlt ops.size t (Array.replicate ops.size false) [] ⟨by simp, fun i hi => by simp [Array.getD_eq_getD_getElem?, hi]⟩ List.nodup_nil (by simp) (by simp)
  (by intro x hx; simp at hx)
 have e : Region.linearise .any ops t = l := by unfold Region.linearise; rw [h1]; simp
 rw [e]
 exact ⟨h2, h3, fun i hi => by simpa using h4 i hi⟩
end Go.Ab
end
