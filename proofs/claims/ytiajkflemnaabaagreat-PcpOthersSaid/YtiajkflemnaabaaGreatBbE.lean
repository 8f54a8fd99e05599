/-
  The abstract machine's memory and the model's: reading, writing, making cells; operands and registers.
  Conditions: those that each lemma names.
-/
import Derived.Test.YtiajkflemnaabaaGreatBbD
import Derived.Laws.Cells
namespace Go.Ab
variable [Val]

omit [Val] in
theorem getD_toArray (l : List Value) (i : Nat) (x : Value) : l.toArray.getD i x = l.getD i x := by
  rw [Array.getD_eq_getD_getElem?, List.getD_eq_getElem?_getD, List.getElem?_toArray]

omit [Val] in
theorem getD_toList (a : Array Value) (i : Nat) (x : Value) : a.toList.getD i x = a.getD i x := by
  rw [Array.getD_eq_getD_getElem?, List.getD_eq_getElem?_getD, Array.getElem?_toList]

omit [Val] in
theorem setBlk_setBlk (w : World) (b : Nat) (x y : Obj) : setBlk (setBlk w b x) b y = setBlk w b y := by
  simp only [setBlk]
  congr 1
  apply Array.ext_getElem?
  intro i
  simp only [Array.getElem?_setIfInBounds, Array.size_setIfInBounds]
  by_cases h : b = i <;> simp [h]

omit [Val] in
theorem setBlk_self {w : World} {b : Nat} {x : Obj} (h : w.heap[b]? = some x) : setBlk w b x = w := by
  unfold setBlk
  have : w.heap.setIfInBounds b x = w.heap := by
    apply Array.ext_getElem?
    intro i
    rw [Array.getElem?_setIfInBounds]
    split
    · rename_i e; subst e
      split
      · exact h.symm
      · rw [Array.getElem?_eq_none (by omega)]
    · rfl
  rw [this]

omit [Val] in
theorem block_lt {w : World} {b : Nat} {x : Obj} (h : w.heap[b]? = some x) : b < w.heap.size := by
  rcases Nat.lt_or_ge b w.heap.size with h' | h'
  · exact h'
  · rw [Array.getElem?_eq_none h'] at h; simp at h

omit [Val] in
theorem cell_of {w : World} {b : Nat} {c : Array Value} {e : TypeId} {fz : Nat × Nat} (h : w.heap[b]? = some (.cells c e fz)) (j : Nat) : w.cell? ⟨b, j, none⟩ = c[j]? := by
  simp [World.cell?, h]

omit [Val] in
theorem getElem?_of_lt {c : Array Value} {j : Nat} (h : j < c.size) : c[j]? = some (c.getD j undef) := by
  rw [Array.getD_eq_getD_getElem?, Array.getElem?_eq_getElem h]; rfl

omit [Val] in
theorem add_none (b o i : Nat) : (⟨b, o, none⟩ : Addr).add i = ⟨b, o + i, none⟩ := by
  unfold Addr.add
  split
  · rename_i h; subst h; rfl
  · rfl

/-- Cells from o on anew. -/
def spl : Array Value → Nat → List Value → Array Value
  | c, _, [] => c
  | c, o, v :: l => spl (c.setIfInBounds o v) (o + 1) l

omit [Val] in
theorem spl_size : ∀ (l : List Value) (c : Array Value) (o : Nat), (spl c o l).size = c.size := by
  intro l
  induction l with
  | nil => intro c o; rfl
  | cons v l ih => intro c o; simp [spl, ih]

omit [Val] in
theorem spl_get : ∀ (l : List Value) (c : Array Value) (o j : Nat), o + l.length ≤ c.size →
    (spl c o l).getD j undef = if o ≤ j ∧ j < o + l.length then l.getD (j - o) undef else c.getD j undef := by
  intro l
  induction l with
  | nil => intro c o j _; simp [spl]; omega
  | cons v l ih =>
    intro c o j ho
    simp only [List.length_cons] at ho
    simp only [spl]
    rw [ih _ _ _ (by simp; omega)]
    simp only [List.length_cons]
    by_cases h1 : o + 1 ≤ j ∧ j < o + 1 + l.length
    · rw [if_pos h1, if_pos (by omega), show j - o = (j - (o + 1)) + 1 by omega, List.getD_cons_succ]
    · rw [if_neg h1]
      by_cases h2 : o = j
      · subst h2
        rw [if_pos (by omega), Array.getD_eq_getD_getElem?, Array.getElem?_setIfInBounds_self_of_lt (by omega)]
        simp
      · rw [if_neg (by omega), Array.getD_eq_getD_getElem?, Array.getElem?_setIfInBounds_ne h2, ← Array.getD_eq_getD_getElem?]

omit [Val] in
theorem plain_oneCell' {v : Value} (h : plainCell v = true) : v.oneCell' = true := by cases v <;> simp_all [plainCell, Value.oneCell']

omit [Val] in
theorem run_storeCells {P : Program} (b o : Nat) (e : TypeId) (fz : Nat × Nat) : ∀ (vs : List Value) (i : Nat) (c : Array Value) (w : World),
    w.heap[b]? = some (.cells c e fz) → (∀ j, j < c.size → ¬ (fz.1 ≤ j ∧ j < fz.2)) → o + i + vs.length ≤ c.size → (∀ v ∈ vs, plainCell v = true) →
    (storeCells ⟨b, o, none⟩ vs i).run P w = .ok () (setBlk w b (.cells (spl c (o + i) vs) e fz)) := by
  intro vs
  induction vs with
  | nil =>
    intro i c w hb _ _ _
    simp only [storeCells, Sem.run_pure, spl]
    rw [setBlk_self hb]
  | cons v vs ih =>
    intro i c w hb hf hle hp
    simp only [List.length_cons] at hle
    simp only [storeCells, Sem.run_bind, add_none]
    rw [run_store _ _ _ _ _ (plain_oneCell' (hp v (by simp))), cell_of hb, getElem?_of_lt (by omega)]
    have hfr : w.frozen? ⟨b, o + i, none⟩ = false := by
      have := hf (o + i) (by omega)
      simp only [World.frozen?, hb]
      simpa using this
    simp only [hfr, Bool.false_eq_true, if_false, Result.andThen_ok]
    have hset : w.setCell ⟨b, o + i, none⟩ v = setBlk w b (.cells (c.setIfInBounds (o + i) v) e fz) := by
      simp only [World.setCell, setBlk]
      congr 1
      apply Array.ext_getElem?
      intro x
      rw [Array.getElem?_modify, Array.getElem?_setIfInBounds]
      by_cases hx : b = x
      · subst hx
        rw [if_pos rfl, if_pos rfl, if_pos (block_lt hb), hb]
        rfl
      · rw [if_neg hx, if_neg hx]
    rw [hset, ih (i + 1) (c.setIfInBounds (o + i) v) _ (by rw [setBlk_block _ _ _ _ (block_lt hb)]; simp) (by simpa using hf) (by simp; omega) (fun v hv => hp v (by simp [hv]))]
    rw [setBlk_setBlk]
    simp only [spl]
    rfl

section
variable {P : Program}

omit [Val] in
theorem run_und {t : TypeId} {d : TypeDesc} (h : P.underlying t = some d) (w : World) : (underlying t).run P w = .ok d w := by
  simp [underlying, h]

omit [Val] in
theorem run_info {t : TypeId} {i : TypeInfo} (h : P.info? t = some i) (w : World) : (typeInfo t).run P w = .ok i w := by
  simp [typeInfo, h]

omit [Val] in
theorem run_size {t : TypeId} {n : Nat} (h : size? P t = some n) (w : World) : (sizeOf t).run P w = .ok n w := by
  unfold size? at h
  cases hi : P.info? t with
  | none => rw [hi] at h; simp at h
  | some i =>
    rw [hi] at h
    simp only [Option.map_some, Option.some.injEq] at h
    simp [sizeOf, run_info hi, h]

omit [Val] in
theorem run_isAgg {t : TypeId} {b : Bool} (h : isAgg? P t = some b) (w : World) : (isAgg t).run P w = .ok b w := by
  unfold isAgg? at h
  cases hi : P.underlying t with
  | none => rw [hi] at h; simp at h
  | some d =>
    rw [hi] at h
    simp only [Option.map_some, Option.some.injEq] at h
    subst h
    simp only [isAgg, Sem.run_bind, run_und hi, Result.andThen_ok]
    cases d <;> rfl

/-- A constant. -/
theorem ofV_rel (φ : Phi) : ∀ (f : Nat) (v : Value), VR φ (ofV f v) v := by
  intro f
  induction f with
  | zero =>
    intro v
    cases v with
    | bool b => exact .bool b
    | int k n => exact .int k n
    | string s => exact .str s
    | pointer a => cases a with | none => exact .nilp | some a => exact .junk _
    | slice a l c =>
      cases a with
      | none => cases l with
        | zero => cases c with | zero => exact .nils | succ c => exact .junk _
        | succ l => exact .junk _
      | some a => exact .junk _
    | map r => cases r with | none => exact .nilm | some r => exact .junk _
    | nilFunc => exact .nilf
    | nilIface => exact .nili
    | _ => exact .junk _
  | succ f ih =>
    intro v
    cases v with
    | bool b => exact .bool b
    | int k n => exact .int k n
    | string s => exact .str s
    | pointer a => cases a with | none => exact .nilp | some a => exact .junk _
    | slice a l c =>
      cases a with
      | none => cases l with
        | zero => cases c with | zero => exact .nils | succ c => exact .junk _
        | succ l => exact .junk _
      | some a => exact .junk _
    | map r => cases r with | none => exact .nilm | some r => exact .junk _
    | nilFunc => exact .nilf
    | nilIface => exact .nili
    | agg cs =>
      simp only [ofV]
      split
      · rename_i hall
        have hlen : (cs.toList.map (ofV f)).length = cs.size := by simp
        refine .agg (by rw [vecOf_n, hlen]) (vecOf_wf _).le (fun i hi => ?_) (fun i hi => ?_)
        · rw [vecOf_n, hlen] at hi
          have := vecOf_get (cs.toList.map (ofV f)) i (by rw [hlen]; exact hi)
          unfold Vec.get at this
          rw [this, List.getD_eq_getElem?_getD, List.getElem?_map, Array.getElem?_toList, getElem?_of_lt hi]
          simp only [Option.map_some, Option.getD_some]
          exact ih _
        · rw [vecOf_n, hlen] at hi
          refine List.all_eq_true.1 hall _ ?_
          rw [← getD_toList, List.getD_eq_getElem?_getD, List.getElem?_eq_getElem (by simpa using hi)]
          exact List.getElem_mem _
      · exact .junk _
    | tuple vs =>
      simp only [ofV]
      have hlen : (vs.toList.map (ofV f)).length = vs.size := by simp
      refine .tup (by rw [hlen]) (fun i hi => ?_)
      rw [hlen] at hi
      rw [List.getD_eq_getElem?_getD, List.getElem?_map, Array.getElem?_toList, getElem?_of_lt hi]
      simp only [Option.map_some, Option.getD_some]
      exact ih _
    | _ => exact .junk _

theorem run_zero {t : TypeId} {z : AV} (h : zero? P t = some z) (w : World) (φ : Phi) : ∃ v, (zeroValue t).run P w = .ok v w ∧ VR φ z v := by
  unfold zero? at h
  cases hi : P.info? t with
  | none => rw [hi] at h; simp at h
  | some i =>
    rw [hi] at h
    simp only [Option.bind_some] at h
    cases hz : i.zero with
    | none => rw [hz] at h; simp at h
    | some v =>
      rw [hz] at h
      simp only [Option.map_some, Option.some.injEq] at h
      refine ⟨v, by simp [zeroValue, run_info hi, hz], ?_⟩
      rw [← h]
      exact ofV_rel φ 3 v

/-- A value's cells. -/
theorem vec_rel {φ : Phi} {a : AV} {a' : Value} {v : Vec} (h : VR φ a a') (hv : a.vec = some v) :
    a'.cells.size = v.n ∧ v.Wf ∧ (∀ i, i < v.n → VR φ (v.get i) (a'.cells.getD i undef)) ∧ ∀ i, i < v.n → plainCell (a'.cells.getD i undef) = true := by
  have one : ∀ {x : AV} {x' : Value}, VR φ x x' → plainCell x' = true → x'.cells = #[x'] → v = { n := 1, dep := 0, d := x, t := .e } →
      x'.cells.size = v.n ∧ v.Wf ∧ (∀ i, i < v.n → VR φ (v.get i) (x'.cells.getD i undef)) ∧ ∀ i, i < v.n → plainCell (x'.cells.getD i undef) = true := by
    intro x x' hx hpl hc hv
    subst hv
    rw [hc]
    refine ⟨rfl, ⟨by simp⟩, fun i hi => ?_, fun i hi => ?_⟩
    · obtain rfl : i = 0 := by simpa using hi
      exact hx
    · obtain rfl : i = 0 := by simpa using hi
      exact hpl
  cases h with
  | junk v => simp [AV.vec] at hv
  | tup hs h => simp [AV.vec] at hv
  | agg hs hn h h1 =>
    simp only [AV.vec, Option.some.injEq] at hv
    subst hv
    exact ⟨hs, ⟨hn⟩, h, h1⟩
  | bool b => exact one (.bool b) rfl rfl (by simpa [AV.vec] using hv.symm)
  | int k n => exact one (.int k n) rfl rfl (by simpa [AV.vec] using hv.symm)
  | sym he ho hl hh => exact one (.sym he ho hl hh) rfl rfl (by simpa [AV.vec] using hv.symm)
  | str s => exact one (.str s) rfl rfl (by simpa [AV.vec] using hv.symm)
  | nilp => exact one .nilp rfl rfl (by simpa [AV.vec] using hv.symm)
  | ptr h => exact one (.ptr h) rfl rfl (by simpa [AV.vec] using hv.symm)
  | nils => exact one .nils rfl rfl (by simpa [AV.vec] using hv.symm)
  | slice h ho hl hc he hcs hz => exact one (.slice h ho hl hc he hcs hz) rfl rfl (by simpa [AV.vec] using hv.symm)
  | nilm => exact one .nilm rfl rfl (by simpa [AV.vec] using hv.symm)
  | map h => exact one (.map h) rfl rfl (by simpa [AV.vec] using hv.symm)
  | fn h s₁ h₁ s₂ h₂ => exact one (.fn h s₁ h₁ s₂ h₂) rfl rfl (by simpa [AV.vec] using hv.symm)
  | nilf => exact one .nilf rfl rfl (by simpa [AV.vec] using hv.symm)
  | iface h => exact one (.iface h) rfl rfl (by simpa [AV.vec] using hv.symm)
  | nili => exact one .nili rfl rfl (by simpa [AV.vec] using hv.symm)

variable {G : Nat} {φ : Phi} {h : H} {w : World}

theorem obj_cells (hr : HR G φ h w) {id n dep b base cs : Nat} {d : AV} {t : Tr AV} (hg : h.get id = some (.cells n dep d t)) (hp : φ id = some (b, base, cs)) :
    n ≤ 2 ^ dep ∧ base + n ≤ cs ∧ ∃ c e fz, w.heap[b]? = some (.cells c e fz) ∧ c.size = cs ∧ Thaw cs fz ∧
      (∀ i, i < n → VR φ (cget dep d t i) (c.getD (base + i) undef)) ∧ ∀ i, i < n → plainCell (c.getD (base + i) undef) = true :=
  hr.obj _ _ _ hg hp

/-- Cells of an object, read. -/
theorem cells_read (hr : HR G φ h w) {id n dep b base cs : Nat} {d : AV} {t : Tr AV} (hg : h.get id = some (.cells n dep d t)) (hp : φ id = some (b, base, cs))
    {off k : Nat} (hk : off + k ≤ n) : ∃ a : Array Value, (loadCells ⟨b, base + off, none⟩ k).run P w = .ok a w ∧ a.size = k ∧
      (∀ i, i < k → VR φ (cget dep d t (off + i)) (a.getD i undef)) ∧ ∀ i, i < k → plainCell (a.getD i undef) = true := by
  obtain ⟨_, hle, c, e, fz, hb, hcs, _, hv, hpl⟩ := obj_cells hr hg hp
  refine ⟨_, run_loadCells w ⟨b, base + off, none⟩ k (fun j => c.getD (base + off + j) undef) ?_, by simp, fun i hi => ?_, fun i hi => ?_⟩
  · intro j hj
    rw [add_none, cell_of hb, getElem?_of_lt (by omega)]
  · rw [getD_toArray, List.getD_eq_getElem?_getD, List.getElem?_map, List.getElem?_range hi]
    simp only [Option.map_some, Option.getD_some]
    have := hv (off + i) (by omega)
    rwa [← Nat.add_assoc] at this
  · rw [getD_toArray, List.getD_eq_getElem?_getD, List.getElem?_map, List.getElem?_range hi]
    simp only [Option.map_some, Option.getD_some]
    have := hpl (off + i) (by omega)
    rwa [← Nat.add_assoc] at this

theorem load_ok (hr : HR G φ h w) {id off b base cs : Nat} {t : TypeId} {v : AV} (hp : φ id = some (b, base, cs)) (hl : loadA P h t id off = some v) :
    ∃ v', (loadVar t ⟨b, base + off, none⟩).run P w = .ok v' w ∧ VR φ v v' := by
  unfold loadA at hl
  split at hl
  · rename_i n dep d tr hg
    split at hl
    · rename_i ha
      split at hl
      · rename_i sz hsz
        split at hl
        · rename_i hle
          simp only [Option.some.injEq] at hl
          subst hl
          obtain ⟨a, hrun, hs, hv, hpl⟩ := cells_read (P := P) hr hg hp hle
          refine ⟨.agg a, ?_, ?_⟩
          · simp only [loadVar, Sem.run_bind, run_isAgg ha, Result.andThen_ok, if_true, run_size hsz, hrun, Sem.run_pure]
          · refine .agg (by rw [subVec_n, hs]) (subVec_wf _ _ _ _ _ _ (obj_cells hr hg hp).1).le (fun i hi => ?_) (fun i hi => ?_)
            · rw [subVec_n] at hi
              have := subVec_get n dep d tr off sz i hi
              unfold Vec.get at this
              rw [this]
              exact hv i hi
            · rw [subVec_n] at hi
              exact hpl i hi
        · simp at hl
      · simp at hl
    · rename_i ha
      split at hl
      · rename_i hlt
        simp only [Option.some.injEq] at hl
        subst hl
        obtain ⟨_, hle, c, e, fz, hb, hcs, _, hv, _⟩ := obj_cells hr hg hp
        refine ⟨c.getD (base + off) undef, ?_, hv off hlt⟩
        simp only [loadVar, Sem.run_bind, run_isAgg ha, Result.andThen_ok, Bool.false_eq_true, if_false]
        rw [run_load, cell_of hb, getElem?_of_lt (by omega)]
      · simp at hl
    · simp at hl
  · simp at hl

/-- Cells written. -/
theorem store_ok (hr : HR G φ h w) {id off b base cs : Nat} {v : Vec} {h' : H} (hp : φ id = some (b, base, cs)) (hst : storeA h id off v = some h') (hw : v.Wf)
    {vals : List Value} (hlen : vals.length = v.n) (hvr : ∀ i, i < v.n → VR φ (v.get i) (vals.getD i undef)) (hpl : ∀ x ∈ vals, plainCell x = true) :
    ∃ w', (storeCells ⟨b, base + off, none⟩ vals).run P w = .ok () w' ∧ HR G φ h' w' ∧ Post φ h w φ h' w' := by
  unfold storeA at hst
  split at hst
  · rename_i n dep d tr hg
    split at hst
    · rename_i hle
      simp only [Option.some.injEq] at hst
      subst hst
      obtain ⟨hn, hle2, c, e, fz, hb, hcs, hf, hv, hp1⟩ := obj_cells hr hg hp
      have hrun := run_storeCells (P := P) b (base + off) e fz vals 0 c w hb (by rw [hcs]; exact hf.no) (by omega) hpl
      refine ⟨_, hrun, ?_⟩
      obtain ⟨dep', d', t', hsv, hn', hget⟩ := storeVec_spec n dep d tr off v hn hw hle.1
      rw [hsv]
      refine set_ok hr hg rfl hp (ob := .cells (spl c (base + off + 0) vals) e fz) ⟨hn', hle2, _, e, fz, rfl, by rw [spl_size]; exact hcs, hf, fun i hi => ?_, fun i hi => ?_⟩
      · show VR φ (cget dep' d' t' i) ((spl c (base + off + 0) vals).getD (base + i) undef)
        rw [hget i hi, spl_get _ _ _ _ (by omega)]
        by_cases hin : off ≤ i ∧ i < off + v.n
        · rw [if_pos hin, if_pos (by omega), show base + i - (base + off + 0) = i - off by omega]
          exact hvr _ (by omega)
        · rw [if_neg hin, if_neg (by omega)]
          exact hv i hi
      · show plainCell ((spl c (base + off + 0) vals).getD (base + i) undef) = true
        rw [spl_get _ _ _ _ (by omega)]
        split
        · rename_i hin
          refine hpl _ ?_
          rw [List.getD_eq_getElem?_getD, List.getElem?_eq_getElem (by omega)]
          exact List.getElem_mem _
        · exact hp1 i hi
    · simp at hst
  · simp at hst

/-- New cells. -/
theorem cells_new (hr : HR G φ h w) {v : Vec} {id : Nat} {h' : H} (hal : allocA h v = some (id, h')) (hw : v.Wf) (elem : TypeId) {c : Array Value} (hle : v.n ≤ c.size)
    (hv : ∀ i, i < v.n → VR φ (v.get i) (c.getD i undef)) (hpl : ∀ i, i < v.n → plainCell (c.getD i undef) = true) :
    HR G (φ.set id (w.heap.size, 0, c.size)) h' (w.alloc (.cells c elem)) ∧ Post φ h w (φ.set id (w.heap.size, 0, c.size)) h' (w.alloc (.cells c elem)) := by
  have hnone : φ id = none := by
    obtain ⟨rfl, _⟩ := H.new_spec hal
    cases e : φ h.nx with
    | none => rfl
    | some p => exact absurd (hr.dom _ _ e).1 (by omega)
  refine alloc_ok hr hal ⟨hw.le, by simpa using hle, c, elem, (0, 0), rfl, rfl, Thaw.none _, fun i hi => ?_, fun i hi => ?_⟩
  · have := (hv i hi).mono (Phi.le_set (w.heap.size, 0, c.size) hnone)
    show VR _ _ (c.getD (0 + i) undef)
    rw [Nat.zero_add]
    exact this
  · show plainCell (c.getD (0 + i) undef) = true
    rw [Nat.zero_add]
    exact hpl i hi

/-- Operands. -/
theorem ev_rel {fi : FI} {regs : Tr AV} {tmps : Array Value} (hG : fi.G = G) (hr : HR G φ h w) (hrr : RR φ fi regs tmps) (b : Frame) (hb : b.tmps = tmps) (x : Operand) :
    VR φ (ev fi regs x) (b.eval x) := by
  cases x with
  | tmp t =>
    simp only [ev, Frame.eval, hb]
    cases hlt : Nat.blt t fi.sz with
    | true =>
      simp only [cond_true]
      unfold Nat.blt at hlt
      exact hrr.get t (Nat.le_of_ble_eq_true hlt)
    | false => exact .junk _
  | const v => exact ofV_rel φ 3 v
  | global g =>
    simp only [ev, Frame.eval]
    cases hlt : Nat.blt g fi.G with
    | true =>
      simp only [cond_true]
      unfold Nat.blt at hlt
      obtain ⟨cs, hc⟩ := hr.glob g (by rw [← hG]; exact Nat.le_of_ble_eq_true hlt)
      exact .ptr (off := 0) (base := 0) hc
    | false => exact .junk _
  | func f => exact .fn (.func f) rfl (fun i hi => absurd hi (by simp)) rfl (fun i hi => absurd hi (by simp))

theorem putReg_rel {fi : FI} {regs : Tr AV} {tmps : Array Value} (hrr : RR φ fi regs tmps) (dst : Option Tmp) {v : AV} {v' : Value} (hv : VR φ v v') :
    RR φ fi (putReg fi regs dst v) (match dst with | some d => tmps.setIfInBounds d v' | none => tmps) := by
  cases dst with
  | none => exact hrr
  | some d =>
    simp only [putReg]
    have hs := hrr.size
    cases hlt : Nat.blt d fi.sz with
    | true =>
      unfold Nat.blt at hlt
      have hd : d < fi.sz := Nat.le_of_ble_eq_true hlt
      simp only [cond_true]
      refine ⟨by simp [hs], hrr.deep, fun t ht => ?_⟩
      have hdeep := hrr.deep
      have hd1 : d < 2 ^ fi.rd := Nat.lt_of_lt_of_le hd hdeep
      have ht1 : t < 2 ^ fi.rd := Nat.lt_of_lt_of_le ht hdeep
      rw [Tr.get_set_lt _ _ hd1 ht1, Array.getD_eq_getD_getElem?, Array.getElem?_setIfInBounds]
      by_cases e : d = t
      · subst e
        rw [if_pos rfl, if_pos rfl, if_pos (by rw [hs]; exact hd)]
        exact hv
      · rw [if_neg e, if_neg e, ← Array.getD_eq_getD_getElem?]
        exact hrr.get t ht
    | false =>
      have hd : ¬ d < fi.sz := fun hle => by
        unfold Nat.blt at hlt
        rw [Nat.ble_eq_true_of_le hle] at hlt
        exact absurd hlt (by simp)
      simp only [cond_false]
      have e : tmps.setIfInBounds d v' = tmps := by
        apply Array.ext_getElem?
        intro i
        rw [Array.getElem?_setIfInBounds]
        split
        · rename_i e; subst e
          rw [if_neg (by rw [hs]; exact hd), Array.getElem?_eq_none (by rw [hs]; exact Nat.le_of_not_lt hd)]
        · rfl
      rw [e]; exact hrr
end
end Go.Ab
