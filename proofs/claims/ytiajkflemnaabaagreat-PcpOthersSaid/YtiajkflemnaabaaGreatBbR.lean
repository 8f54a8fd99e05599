/-
  Operations that may be carried out late: those that lay a new object, and those that change nothing.
  Conditions: those that each lemma names.
-/
import Derived.Test.YtiajkflemnaabaaGreatBbP
namespace Go.Ab
variable [Val]
section
variable {P : Program} {G : Nat} {φ : Phi} {h : H}

theorem VecR.toOR {v : Vec} {c : Array Value} (hv : VecR φ v c) (e : TypeId) (w : World) : OR φ (.cells v.n v.dep v.d v.t) (w.heap.size, 0, c.size) (some (.cells c e)) := by
  refine ⟨hv.wf.le, by simp [hv.size], c, e, (0, 0), rfl, rfl, Thaw.none _, fun i hi => ?_, fun i hi => ?_⟩
  · show VR _ _ (c.getD (0 + i) undef)
    rw [Nat.zero_add]
    exact hv.get i hi
  · show plainCell (c.getD (0 + i) undef) = true
    rw [Nat.zero_add]
    exact hv.plain i hi

theorem makeSliceA_late (w : World) {t : TypeId} {l c v : AV} {h' : H} (hm : makeSliceA P t l c h = some (v, h')) {l' c' : Value} (hl : VR φ l l') (hc : VR φ c c') :
    ∃ ob u ob' cs, h.new ob = some (h.nx, h') ∧ (Go.Instr.makeSlice t l' c').run P w = .ok u (w.alloc ob') ∧ OR φ ob (w.heap.size, 0, cs) (some ob') ∧
      ∀ φ', φ' h.nx = some (w.heap.size, 0, cs) → VR φ' v u := by
  unfold makeSliceA at hm
  split at hm
  · rename_i e ln cn hu hln hcn
    split at hm
    · rename_i sz z i hsz hz hi
      split at hm
      · rename_i hle
        obtain ⟨hlc, hc1, hby⟩ := hle
        split at hm
        · rename_i zv hzv
          split at hm
          · rename_i hzn
            obtain ⟨k1, li, rfl, hl0, rfl⟩ := natOf_ok hln hl
            obtain ⟨k2, ci, rfl, hc0, rfl⟩ := natOf_ok hcn hc
            obtain ⟨z', hzr, hzrel⟩ := run_zero hz w φ
            have hzvr := VecR.of_vec hzrel hzv
            cases hal : allocA h (zeroVec ci.toNat zv) with
            | none => rw [hal] at hm; simp at hm
            | some p =>
              obtain ⟨id, h2⟩ := p
              rw [hal] at hm
              simp only [Option.map_some, Option.some.injEq, Prod.mk.injEq] at hm
              obtain ⟨rfl, rfl⟩ := hm
              have hvec := zeroVec_rel (n := ci.toNat) hzvr (by omega)
              obtain rfl := (H.new_spec hal).1
              have hcsz := hvec.size
              have hn := (zeroVec_spec ci.toNat zv (by omega)).1
              refine ⟨_, .slice (some ⟨w.heap.size, 0, none⟩) li.toNat ci.toNat, .cells _ e, _, hal, ?_, VecR.toOR hvec e w, fun φ' hφ' => ?_⟩
              · have e1 : IntKind.i64.wrap li = li := i64_small hl0 (by omega)
                have e2 : IntKind.i64.wrap ci = ci := i64_small hc0 (by omega)
                have hbi : (i.bytes : Int) * ci ≤ 1000000000 := by
                  have : ((i.bytes * ci.toNat : Nat) : Int) ≤ 1000000000 := by omega
                  rw [Int.natCast_mul, Int.toNat_of_nonneg hc0] at this
                  exact this
                have t1 : (ci < 0 || (i.bytes : Int) * ci > 2 ^ 48) = false := by
                  rw [Bool.or_eq_false_iff]
                  constructor
                  · simpa using hc0
                  · simp only [gt_iff_lt, decide_eq_false_iff_not]; omega
                have t2 : (li < 0) = False := by simpa using hl0
                have t3 : (li > ci) = False := by simp; omega
                have hiz : zv.n = sz + 1 := hzn
                simp only [Go.Instr.makeSlice, asInt, asIntOf, Sem.run_bind, Sem.run_pure, Result.andThen_ok, run_und hu, run_info hi, e1, e2, t1, t2, t3, decide_false, Bool.or_false, Bool.false_eq_true, if_false,
                  run_askRoom, run_size hsz]
                by_cases hz0 : ci.toNat * (sz + 1) = 0
                · have hci : ci.toNat = 0 := by
                    rcases Nat.mul_eq_zero.1 hz0 with h | h
                    · exact h
                    · omega
                  have z0 : ∀ f : Nat → Value, (Array.range 0).map f = #[] := fun f => by simp
                  simp only [hci, Nat.zero_mul, if_true, Sem.run_pure, Result.andThen_ok, newRow, Sem.run_bind, run_newObj', z0]
                · simp only [hz0, if_false, Sem.run_bind, hzr, Result.andThen_ok, Sem.run_pure, newRow, run_newObj']
                  rw [hiz]
              · refine .slice hφ' (.inl (by simp)) (by simpa using hlc) (Nat.le_refl _) (fun _ => rfl) ?_ (by omega)
                rw [hcsz, hn, hzn]
                omega
          · simp at hm
        · simp at hm
      · simp at hm
    · simp at hm
  · simp at hm

theorem buildSliceA_late (w : World) {ρ : Operand → AV} {ρ' : Operand → Value} (hρ : ∀ x, VR φ (ρ x) (ρ' x)) {t : TypeId} {len : Nat} {parts : Array (Nat × Operand)} {v : AV} {h' : H}
    (hb : buildSliceA P t len (pairsA ρ parts) h = some (v, h')) :
    ∃ ob u ob' cs, h.new ob = some (h.nx, h') ∧ (Go.Instr.buildSlice t len (parts.map fun p => (p.1, ρ' p.2))).run P w = .ok u (w.alloc ob') ∧ OR φ ob (w.heap.size, 0, cs) (some ob') ∧
      ∀ φ', φ' h.nx = some (w.heap.size, 0, cs) → VR φ' v u := by
  obtain ⟨hl, he⟩ := pairs_map hρ parts
  unfold buildSliceA at hb
  split at hb
  · rename_i e hu
    split at hb
    · rename_i sz z hsz hz
      obtain ⟨z', hzr, hzrel⟩ := run_zero hz w φ
      split at hb
      · rename_i zv hzv
        have hzvr := VecR.of_vec hzrel hzv
        split at hb
        · rename_i hc
          obtain ⟨hzn, hlim⟩ := hc
          split at hb
          · rename_i v2 hf
            cases hal : allocA h v2 with
            | none => rw [hal] at hb; simp at hb
            | some p =>
              obtain ⟨id, h2⟩ := p
              rw [hal] at hb
              simp only [Option.map_some, Option.some.injEq, Prod.mk.injEq] at hb
              obtain ⟨rfl, rfl⟩ := hb
              have hvec := zeroVec_rel (n := len) hzvr (by omega)
              have hn := (zeroVec_spec len zv (by omega)).1
              obtain ⟨c2, hc2, hr2⟩ := fillA_ok (φ := φ) _ _ _ v2 _ hf hvec hl he
              obtain rfl := (H.new_spec hal).1
              -- filling keeps the size
              have hsize : c2.size = len * (sz + 1) := by
                have key : ∀ (ps : List (Nat × Value)) (c c2 : Array Value), Go.Instr.fill (fun i => some (i * (sz + 1), sz + 1)) c ps = some c2 → c2.size = c.size := by
                  intro ps
                  induction ps with
                  | nil => intro c c2 hq; simp only [Go.Instr.fill, Option.some.injEq] at hq; rw [hq]
                  | cons p ps ih =>
                    intro c c2 hq
                    obtain ⟨i, x⟩ := p
                    simp only [Go.Instr.fill] at hq
                    split at hq
                    · simp at hq
                    · have := ih _ _ hq
                      rw [this]
                      exact (congrArg Array.size (fill_step c _ _)).trans (spl_size _ _ _)
                rw [key _ _ _ hc2]
                simp [hzn]
              refine ⟨_, .slice (some ⟨w.heap.size, 0, none⟩) len len, .cells _ e, _, hal, ?_, VecR.toOR hr2 e w, fun φ' hφ' => ?_⟩
              · have hlim' : ¬ len * (sz + 1) > 2 ^ 24 := by omega
                have hsz' : size? P e = some (sz + 1) := hsz
                have z0 : ∀ f : Nat → Value, (Array.range 0).map f = #[] := fun f => by simp
                simp only [Go.Instr.buildSlice, Sem.run_bind, run_und hu, Result.andThen_ok, run_size hsz', hlim', if_false]
                by_cases hz0 : len * (sz + 1) = 0
                · have e0 : len * zv.n = 0 := by rw [hzn]; exact hz0
                  rw [e0, z0] at hc2
                  simp only [hz0, if_true, Sem.run_bind, Sem.run_pure, Result.andThen_ok, z0]
                  rw [hc2]
                  simp only [newRow, Sem.run_bind, run_newObj', Result.andThen_ok, Sem.run_pure]
                · simp only [hz0, if_false, Sem.run_bind, hzr, Result.andThen_ok, Sem.run_pure]
                  rw [hzn] at hc2
                  rw [hc2]
                  simp only [newRow, Sem.run_bind, run_newObj', Result.andThen_ok, Sem.run_pure]
              · refine .slice hφ' (.inl (by simp)) (Nat.le_refl _) (Nat.le_refl _) (fun _ => rfl) ?_ (by omega)
                rw [hsize]
                omega
          · simp at hb
        · simp at hb
      · simp at hb
    · simp at hb
  · simp at hb

theorem late_core {ρ : Operand → AV} {ρ' : Operand → Value} (hρ : ∀ x, VR φ (ρ x) (ρ' x)) {o : Oper} (hl : isLate o = true) {v : AV} {h' : H} (ho : opR P ρ o h = some (.val v h')) (w : World) :
    ∃ ob u ob' cs, h.new ob = some (h.nx, h') ∧ (execOp ρ' o).run P w = .ok (.value u) (w.alloc ob') ∧ OR φ ob (w.heap.size, 0, cs) (some ob') ∧
      ∀ φ', φ' h.nx = some (w.heap.size, 0, cs) → VR φ' v u := by
  obtain ⟨dst, op, type, pos, after, guard⟩ := o
  unfold opR at ho
  unfold execOp
  cases op <;> dsimp only at ho ⊢ <;> simp only [isLate, Bool.false_eq_true] at hl
  case alloc e =>
    split at ho
    · rename_i z hz
      split at ho
      · rename_i v hv
        cases hal : allocA h v with
        | none => rw [hal] at ho; simp at ho
        | some p =>
          obtain ⟨id, h2⟩ := p
          rw [hal] at ho
          simp only [Option.map_some, Option.some.injEq, AR.val.injEq] at ho
          obtain ⟨rfl, rfl⟩ := ho
          obtain rfl := (H.new_spec hal).1
          obtain ⟨z', hzr, hzrel⟩ := run_zero hz w φ
          refine ⟨_, .pointer (some ⟨w.heap.size, 0, none⟩), .cells _ e, _, hal, ?_, (VecR.of_vec hzrel hv).toOR e w, fun φ' hφ' => .ptr (base := 0) hφ'⟩
          simp only [Go.Instr.alloc, Sem.run_bind, hzr, Result.andThen_ok, newVar, newRow, run_newObj', Sem.run_pure]
      · simp at ho
    · simp at ho
  case box e x =>
    split at ho
    · rename_i v hv
      cases hal : allocA h v with
      | none => rw [hal] at ho; simp at ho
      | some p =>
        obtain ⟨id, h2⟩ := p
        rw [hal] at ho
        simp only [Option.map_some, Option.some.injEq, AR.val.injEq] at ho
        obtain ⟨rfl, rfl⟩ := ho
        obtain rfl := (H.new_spec hal).1
        refine ⟨_, .pointer (some ⟨w.heap.size, 0, none⟩), .cells _ e, _, hal, ?_, (VecR.of_vec (hρ x) hv).toOR e w, fun φ' hφ' => .ptr (base := 0) hφ'⟩
        simp only [Go.Instr.box, Sem.run_bind, Result.andThen_ok, newVar, newRow, run_newObj', Sem.run_pure]
    · simp at ho
  case buildSlice t len parts =>
    obtain ⟨a, h2, ha, e⟩ := val2_inv ho
    simp only [AR.val.injEq] at e
    obtain ⟨rfl, rfl⟩ := e
    obtain ⟨ob, u, ob', cs, h1, h2, h3, h4⟩ := buildSliceA_late w hρ ha
    exact ⟨ob, u, ob', cs, h1, by simp only [Sem.run_bind, h2, Result.andThen_ok, Sem.run_pure], h3, h4⟩
  case makeMap t rs =>
    have fin : (h.new (.map [] 0)).map (fun (id, h) => AR.val (.map id) h) = some (.val v h') → h.new (.map [] 0) = some (h.nx, h') ∧ v = .map h.nx := by
      intro hn
      cases hnew : h.new (.map [] 0) with
      | none => rw [hnew] at hn; simp at hn
      | some p =>
        obtain ⟨id, h2⟩ := p
        rw [hnew] at hn
        simp only [Option.map_some, Option.some.injEq, AR.val.injEq] at hn
        obtain ⟨rfl, rfl⟩ := hn
        obtain rfl := (H.new_spec hnew).1
        exact ⟨rfl, rfl⟩
    split at ho
    · obtain ⟨h1, rfl⟩ := fin ho
      refine ⟨_, .map (some w.heap.size), .map #[] 0, 0, h1, ?_, ⟨#[], rfl, rfl, fun i hi => absurd hi (by simp)⟩, fun φ' hφ' => .map (p := (w.heap.size, 0, 0)) hφ'⟩
      simp only [Go.Instr.makeMap, Option.map_none, Sem.run_bind, run_newObj', Result.andThen_ok, Sem.run_pure]
    · rename_i x
      have hx := hρ x
      split at ho
      · rename_i k n kt et heq hu
        rw [heq] at hx
        have e := hx.int_inv
        obtain ⟨h1, rfl⟩ := fin ho
        refine ⟨_, .map (some w.heap.size), .map #[] 0, 0, h1, ?_, ⟨#[], rfl, rfl, fun i hi => absurd hi (by simp)⟩, fun φ' hφ' => .map (p := (w.heap.size, 0, 0)) hφ'⟩
        simp only [Go.Instr.makeMap, Option.map_some, e, asInt, asIntOf, Sem.run_bind, run_und hu, run_newObj', Result.andThen_ok, Sem.run_pure]
      · simp at ho
  case makeSlice t l c =>
    obtain ⟨a, h2, ha, e⟩ := val2_inv ho
    simp only [AR.val.injEq] at e
    obtain ⟨rfl, rfl⟩ := e
    obtain ⟨ob, u, ob', cs, h1, h2, h3, h4⟩ := makeSliceA_late w ha (hρ l) (hρ c)
    exact ⟨ob, u, ob', cs, h1, by simp only [Sem.run_bind, h2, Result.andThen_ok, Sem.run_pure], h3, h4⟩
end
end Go.Ab
