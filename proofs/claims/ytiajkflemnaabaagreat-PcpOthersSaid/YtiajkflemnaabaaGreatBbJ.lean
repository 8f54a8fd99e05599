/-
  The abstract machine's ranges over maps, and what it makes (maps, slices, aggregates), come to what the model's come to.
  Conditions: those that each lemma names.
-/
import Derived.Test.YtiajkflemnaabaaGreatBbI
namespace Go.Ab
variable [Val]

section
variable {P : Program} {G : Nat} {φ : Phi} {h : H} {w : World}

omit [Val] in
theorem run_newObj' (o : Obj) : (newObj o).run P w = .ok w.heap.size (w.alloc o) := rfl

theorem rangeA_ok (hr : HR G φ h w) {t : TypeId} {x v : AV} {h' : H} (hl : rangeA P t x h = some (v, h')) {x' : Value} (hx : VR φ x x') :
    ∃ φ' v' w', (Go.Instr.range t x').run P w = .ok v' w' ∧ VR φ' v v' ∧ HR G φ' h' w' ∧ Post φ h w φ' h' w' := by
  have fin : ∀ (o : AObj) (ob : Obj), (h.new o).map (fun (id, h) => (AV.ptr id 0, h)) = some (v, h') → (∀ φ' b, φ.le φ' → OR φ' o (b, 0, 0) (some ob)) →
      ∃ φ', VR φ' v (.pointer (some ⟨w.heap.size, 0, none⟩)) ∧ HR G φ' h' (w.alloc ob) ∧ Post φ h w φ' h' (w.alloc ob) := by
    intro o ob hn ho
    cases hnew : h.new o with
    | none => rw [hnew] at hn; simp at hn
    | some p =>
      obtain ⟨id, h2⟩ := p
      rw [hnew] at hn
      simp only [Option.map_some, Option.some.injEq, Prod.mk.injEq] at hn
      obtain ⟨rfl, rfl⟩ := hn
      have hnone : φ id = none := by
        obtain ⟨rfl, _⟩ := H.new_spec hnew
        cases e : φ h.nx with
        | none => rfl
        | some p => exact absurd (hr.dom _ _ e).1 (by omega)
      obtain ⟨a, b⟩ := alloc_ok hr hnew (ob := ob) (cs := 0) (ho _ _ (Phi.le_set _ hnone))
      exact ⟨_, .ptr (base := 0) (Phi.set_same _ _ _), a, b⟩
  unfold rangeA at hl
  dsimp only at hl
  split at hl
  · rename_i o ho
    split at ho
    · rename_i s hu
      simp only [Option.some.injEq] at ho
      subst ho
      obtain ⟨s, rfl, rfl⟩ := hx.str_inv
      obtain ⟨φ', h1, h2, h3⟩ := fin _ (.stringIter s 0) hl (fun _ _ _ => ⟨s, rfl, rfl⟩)
      refine ⟨φ', _, _, ?_, h1, h2, h3⟩
      simp only [Go.Instr.range, Sem.run_bind, run_und hu, Result.andThen_ok, Sem.run_pure, run_newObj']
    · rename_i k e hu
      simp only [Option.some.injEq] at ho
      subst ho
      obtain rfl := hx.nilm_inv
      obtain ⟨φ', h1, h2, h3⟩ := fin _ (.mapIter none 0 #[] 0) hl (fun _ _ _ => ⟨rfl, none, rfl, rfl⟩)
      refine ⟨φ', _, _, ?_, h1, h2, h3⟩
      simp only [Go.Instr.range, Sem.run_bind, run_und hu, Result.andThen_ok, Sem.run_pure, run_newObj']
    · rename_i k e id hu
      obtain ⟨p, hp, rfl⟩ := hx.map_inv
      split at ho
      · rename_i es clock hg
        simp only [Option.some.injEq] at ho
        subst ho
        obtain ⟨ms, hb, hes⟩ := obj_map hr hg hp
        obtain ⟨φ', h1, h2, h3⟩ := fin _ (.mapIter (some p.1) clock #[] clock) hl (fun _ _ hle => ⟨rfl, some p.1, rfl, p, hle _ _ hp, rfl⟩)
        refine ⟨φ', _, _, ?_, h1, h2, h3⟩
        simp only [Go.Instr.range, Sem.run_bind, run_und hu, Result.andThen_ok, Sem.run_pure, run_newObj', run_getObj hb (by simp)]
      · simp at ho
    · simp at ho
  · simp at hl

theorem nextA_ok (hr : HR G φ h w) {x v : AV} {s : Bool} {h' : H} (hl : nextA x s h = some (v, h')) {x' : Value} (hx : VR φ x x') (ty : TypeId) :
    ∃ v' w', (Go.Instr.next x' s ty).run P w = .ok v' w' ∧ VR φ v v' ∧ HR G φ h' w' ∧ Post φ h w φ h' w' := by
  unfold nextA at hl
  split at hl
  · rename_i id
    obtain ⟨b, base, cs, hp, rfl⟩ := hx.ptr_inv
    split at hl
    · rename_i since seen last hg
      simp only [Option.some.injEq, Prod.mk.injEq] at hl
      obtain ⟨rfl, rfl⟩ := hl
      obtain ⟨h0, m', hb, rfl⟩ := hr.obj _ _ _ hg hp
      simp only at h0 hb
      subst h0
      refine ⟨.tuple #[.bool false], w, ?_, (LR.one (.bool false)).tup, hr, Post.refl _ _ _⟩
      simp only [Go.Instr.next, Nat.add_zero, Sem.run_bind, run_getObj hb (by simp), Result.andThen_ok, Sem.run_pure]
    · rename_i m since seen last hg
      obtain ⟨h0, m', hb, q, hq, rfl⟩ := hr.obj _ _ _ hg hp
      simp only at h0 hb
      subst h0
      split at hl
      · rename_i es clock hgm
        obtain ⟨ms, hbm, hes⟩ := obj_map hr hgm hq
        split at hl
        · simp at hl
        · rename_i hc1
          have hc1' : (!seen.toArray.isEmpty && !ms.toArray.isEmpty && ms.toArray.all (·.born ≥ last)) = false := by
            have e1 : seen.toArray.isEmpty = seen.isEmpty := by simp
            have e2 : ms.toArray.isEmpty = es.isEmpty := by
              have := hes.length
              cases ms <;> cases es <;> simp_all
            have e3 : ms.toArray.all (·.born ≥ last) = es.all (fun e => Nat.ble last e.2.2) := by
              rw [List.all_toArray]
              refine (hes.all fun e m he => ?_).symm
              rw [he.born, Bool.eq_iff_iff, Nat.ble_eq]
              simp
            rw [e1, e2, e3]
            simpa using hc1
          have hleft : ERs φ (es.filter fun e => !seen.contains e.2.2) (ms.filter fun e => !seen.toArray.contains e.born) :=
            hes.filter fun e m he => by rw [he.born]; simp
          have hold : ERs φ ((es.filter fun e => !seen.contains e.2.2).filter fun e => Nat.blt e.2.2 since) ((ms.filter fun e => !seen.toArray.contains e.born).filter fun e => decide (e.born < since)) :=
            hleft.filter fun e m he => by
              rw [he.born, Bool.eq_iff_iff]
              simp [Nat.blt, Nat.succ_le_iff]
          have hnew : ERs φ ((es.filter fun e => !seen.contains e.2.2).filter fun e => Nat.ble since e.2.2) ((ms.filter fun e => !seen.toArray.contains e.born).filter fun e => decide (e.born ≥ since)) :=
            hleft.filter fun e m he => by
              rw [he.born, Bool.eq_iff_iff]
              simp
          dsimp only at hl
          generalize hO : (ms.filter fun e => !seen.toArray.contains e.born).filter (fun e => decide (e.born < since)) = O at hold
          generalize hN : (ms.filter fun e => !seen.toArray.contains e.born).filter (fun e => decide (e.born ≥ since)) = N at hnew
          have runs : ∀ {c : Option MapEntry}, ((if O.isEmpty then #[none] else #[]) ++ (O.toArray ++ N.toArray).map some : Array (Option MapEntry)) = #[c] →
              (Go.Instr.next (.pointer (some ⟨b, 0 + 0, none⟩)) false ty).run P w =
              (match c with
                | some e => .ok (.tuple #[.bool true, e.key, e.val]) (setBlk w b (.mapIter (some q.1) since (seen.toArray.push e.born) clock))
                | none => .ok (.tuple #[.bool false]) w) := by
            intro c hcand
            have hcand' : ((if ((ms.toArray.filter fun e => !seen.toArray.contains e.born).filter (·.born < since)).isEmpty then #[none] else #[]) ++
                (((ms.toArray.filter fun e => !seen.toArray.contains e.born).filter (·.born < since)) ++ ((ms.toArray.filter fun e => !seen.toArray.contains e.born).filter (·.born ≥ since))).map some : Array (Option MapEntry)) = #[c] := by
              rw [List.filter_toArray, List.filter_toArray, List.filter_toArray, hO, hN]
              simpa using hcand
            simp only [Go.Instr.next, Nat.add_zero, Sem.run_bind, run_getObj hb (by simp), run_getObj hbm (by simp), Result.andThen_ok, hc1', Bool.false_eq_true, if_false, hcand']
            cases c <;> simp [Question.forced, run_setObj hb]
          split at hl
          · rename_i heq1 heq2
            rw [heq1] at hold
            rw [heq2] at hnew
            simp only [Option.some.injEq, Prod.mk.injEq] at hl
            obtain ⟨rfl, rfl⟩ := hl
            cases hold
            cases hnew
            refine ⟨.tuple #[.bool false], w, ?_, (LR.one (.bool false)).tup, hr, Post.refl _ _ _⟩
            rw [runs (c := none) (by simp)]
          · rename_i e heq1 heq2
            rw [heq1] at hold
            rw [heq2] at hnew
            simp only [Option.some.injEq, Prod.mk.injEq] at hl
            obtain ⟨rfl, rfl⟩ := hl
            cases hnew
            cases hold with
            | cons he ht =>
              cases ht
              rename_i me
              have hset := set_ok hr hg rfl hp (o₂ := .miter (some m) since (seen ++ [e.2.2]) clock) (ob := .mapIter (some q.1) since (seen.toArray.push me.born) clock)
                ⟨rfl, some q.1, by rw [he.born]; simp, q, hq, rfl⟩
              refine ⟨.tuple #[.bool true, me.key, me.val], _, ?_, (LR.three (.bool true) he.key he.val).tup, hset⟩
              rw [runs (c := some me) (by simp)]
          · simp at hl
      · simp at hl
    · simp at hl
  · simp at hl

theorem entryA_ok (hr : HR G φ h w) {x v : AV} (hl : entryA x h = some v) {x' : Value} (hx : VR φ x x') :
    ∃ v', (Go.Instr.entry x').run P w = .ok v' w ∧ VR φ v v' := by
  unfold entryA at hl
  split at hl
  · rename_i id
    obtain ⟨b, base, cs, hp, rfl⟩ := hx.ptr_inv
    split at hl
    · rename_i m since seen stepped hg
      obtain ⟨h0, m', hb, q, hq, rfl⟩ := hr.obj _ _ _ hg hp
      simp only at h0 hb
      subst h0
      split at hl
      · rename_i stamp es clock hlast hgm
        obtain ⟨ms, hbm, hes⟩ := obj_map hr hgm hq
        split at hl
        · rename_i hc
          subst hc
          split at hl
          · rename_i e hf
            simp only [Option.some.injEq] at hl
            subst hl
            obtain ⟨me, hf', he⟩ := hes.find (q := fun e => e.born == stamp) (fun e m he => by rw [he.born]) hf
            refine ⟨.tuple #[me.key, me.val], ?_, (LR.two he.key he.val).tup⟩
            have hback : seen.toArray.back? = some stamp := by simpa using hlast
            have hf2 : ms.toArray.find? (fun e => e.born == stamp) = some me := by rw [List.find?_toArray]; exact hf'
            simp only [Go.Instr.entry, Nat.add_zero, Sem.run_bind, run_getObj hb (by simp), run_getObj hbm (by simp), Result.andThen_ok, hback, hf2, bne_self_eq_false, Bool.false_eq_true, if_false, Sem.run_pure]
          · simp at hl
        · simp at hl
      · simp at hl
    · simp at hl
  · simp at hl

/-! ### What is made -/

structure VecR (φ : Phi) (v : Vec) (c : Array Value) : Prop where
  size : c.size = v.n
  wf : v.Wf
  get : ∀ i, i < v.n → VR φ (v.get i) (c.getD i undef)
  plain : ∀ i, i < v.n → plainCell (c.getD i undef) = true

theorem VecR.of_vec {a : AV} {a' : Value} {v : Vec} (ha : VR φ a a') (hv : a.vec = some v) : VecR φ v a'.cells := by
  obtain ⟨h1, h2, h3, h4⟩ := vec_rel ha hv
  exact ⟨h1, h2, h3, h4⟩

theorem VecR.agg {v : Vec} {c : Array Value} (hv : VecR φ v c) : VR φ (.ofVec v) (.agg c) := .agg hv.size hv.wf.le hv.get hv.plain

theorem VecR.plainAll {v : Vec} {c : Array Value} (hv : VecR φ v c) : ∀ x ∈ c.toList, plainCell x = true := by
  intro x hx
  obtain ⟨i, hi, rfl⟩ := List.mem_iff_getElem.1 hx
  simp only [Array.length_toList] at hi
  have := hv.plain i (by rw [← hv.size]; exact hi)
  rw [Array.getD_eq_getD_getElem?, Array.getElem?_eq_getElem hi] at this
  simpa using this

/-- New cells, as a value that points to them. -/
theorem vec_new (hr : HR G φ h w) {v : Vec} {id : Nat} {h' : H} (hal : allocA h v = some (id, h')) (elem : TypeId) {c : Array Value} (hv : VecR φ v c) :
    HR G (φ.set id (w.heap.size, 0, c.size)) h' (w.alloc (.cells c elem)) ∧ Post φ h w (φ.set id (w.heap.size, 0, c.size)) h' (w.alloc (.cells c elem)) :=
  cells_new hr hal hv.wf elem (by rw [hv.size]; exact Nat.le_refl _) hv.get hv.plain

omit [Val] in
theorem zipIdx_foldl : ∀ (l : List Value) (k off : Nat) (c : Array Value), (l.zipIdx k).foldl (fun cs (x : Value × Nat) => cs.setIfInBounds (off + x.2) x.1) c = spl c (off + k) l := by
  intro l
  induction l with
  | nil => intro k off c; rfl
  | cons v l ih =>
    intro k off c
    simp only [List.zipIdx_cons, List.foldl_cons, spl]
    rw [ih (k + 1) off]
    rfl

omit [Val] in
theorem fill_step (c : Array Value) (off : Nat) (x : Array Value) :
    (x.zipIdx.foldl (fun cs (y : Value × Nat) => match y with | (v, j) => cs.setIfInBounds (off + j) v) c) = spl c off x.toList := by
  rw [← Array.foldl_toList, Array.toList_zipIdx]
  exact zipIdx_foldl x.toList 0 off c

theorem VecR.put {v : Vec} {c : Array Value} (hv : VecR φ v c) {xv : Vec} {x : Array Value} (hx : VecR φ xv x) {off : Nat} (hle : off + xv.n ≤ v.n) :
    VecR φ { v with t := setFrom v.dep v.t off (cellsFrom xv.dep xv.d xv.t 0 xv.n) } (spl c off x.toList) := by
  have hlen : x.toList.length = xv.n := by simpa using hx.size
  have hsz := hv.size
  have hwf := hv.wf.le
  refine ⟨by rw [spl_size]; exact hv.size, ⟨hwf⟩, fun i hi => ?_, fun i hi => ?_⟩
  · have hi' : i < v.n := hi
    rw [spl_get _ _ _ _ (by omega)]
    show VR φ (cget v.dep v.d (setFrom v.dep v.t off (cellsFrom xv.dep xv.d xv.t 0 xv.n)) i) _
    rw [cget_setFrom _ _ _ _ _ _ (by rw [length_cellsFrom]; omega) (by omega), length_cellsFrom]
    by_cases hin : off ≤ i ∧ i < off + xv.n
    · rw [if_pos hin, if_pos (by omega), getD_cellsFrom _ _ _ _ _ _ _ (by omega), Nat.zero_add, getD_toList]
      exact hx.get _ (by omega)
    · rw [if_neg hin, if_neg (by omega)]
      exact hv.get i hi'
  · have hi' : i < v.n := hi
    rw [spl_get _ _ _ _ (by omega)]
    split
    · rw [getD_toList]
      exact hx.plain _ (by omega)
    · exact hv.plain i hi'

theorem fillA_ok {esz : Nat} : ∀ (parts : List (Nat × AV)) (parts' : List (Nat × Value)) (v v2 : Vec) (c : Array Value), fillA esz v parts = some v2 → VecR φ v c →
    parts'.length = parts.length → (∀ i (h : i < parts.length) (h' : i < parts'.length), parts'[i].1 = parts[i].1 ∧ VR φ parts[i].2 parts'[i].2) →
    ∃ c2, Go.Instr.fill (fun i => some (i * esz, esz)) c parts' = some c2 ∧ VecR φ v2 c2 := by
  intro parts
  induction parts with
  | nil =>
    intro parts' v v2 c hf hv hl _
    obtain rfl : parts' = [] := by simpa using hl
    simp only [fillA, Option.some.injEq] at hf
    subst hf
    exact ⟨c, rfl, hv⟩
  | cons p parts ih =>
    intro parts' v v2 c hf hv hl he
    obtain ⟨i, x⟩ := p
    cases parts' with
    | nil => simp at hl
    | cons p' parts' =>
      obtain ⟨i', x'⟩ := p'
      obtain ⟨h1, h2⟩ := he 0 (by simp) (by simp)
      simp only [List.getElem_cons_zero] at h1 h2
      subst h1
      simp only [fillA] at hf
      split at hf
      · rename_i xv hxv
        split at hf
        · rename_i hc
          obtain ⟨hn, hle, hd⟩ := hc
          have hxr := VecR.of_vec h2 hxv
          have e : (i' + 1) * esz = i' * esz + esz := by rw [Nat.add_mul, Nat.one_mul]
          obtain ⟨c2, hc2, hr2⟩ := ih parts' _ v2 (spl c (i' * esz) x'.cells.toList) hf (hv.put hxr (by omega)) (by simpa using hl) (fun j a b => by
            have := he (j + 1) (by simp; omega) (by simp; omega)
            simpa using this)
          refine ⟨c2, ?_, hr2⟩
          have hs1 := hxr.size
          have hs2 := hv.size
          simp only [Go.Instr.fill]
          rw [if_neg (by simp; omega)]
          exact (congrArg (fun z => Go.Instr.fill _ z parts') (fill_step c _ _)).trans hc2
        · simp at hf
      · simp at hf

theorem fillS_ok {fields : Array Field} {places : Array (Nat × Nat)} (hp : ∀ (i : Nat) (f : Field) (sz : Nat), fields[i]? = some f → size? P f.type = some sz → places[i]? = some (f.offset, sz)) :
    ∀ (parts : List (Nat × AV)) (parts' : List (Nat × Value)) (v v2 : Vec) (c : Array Value), fillS P fields v parts = some v2 → VecR φ v c →
    parts'.length = parts.length → (∀ i (h : i < parts.length) (h' : i < parts'.length), parts'[i].1 = parts[i].1 ∧ VR φ parts[i].2 parts'[i].2) →
    ∃ c2, Go.Instr.fill (places[·]?) c parts' = some c2 ∧ VecR φ v2 c2 := by
  intro parts
  induction parts with
  | nil =>
    intro parts' v v2 c hf hv hl _
    obtain rfl : parts' = [] := by simpa using hl
    simp only [fillS, Option.some.injEq] at hf
    subst hf
    exact ⟨c, rfl, hv⟩
  | cons p parts ih =>
    intro parts' v v2 c hf hv hl he
    obtain ⟨i, x⟩ := p
    cases parts' with
    | nil => simp at hl
    | cons p' parts' =>
      obtain ⟨i', x'⟩ := p'
      obtain ⟨h1, h2⟩ := he 0 (by simp) (by simp)
      simp only [List.getElem_cons_zero] at h1 h2
      subst h1
      simp only [fillS] at hf
      split at hf
      · rename_i f hfi
        split at hf
        · rename_i xv sz hxv hsz
          split at hf
          · rename_i hc
            obtain ⟨hn, hle, hd⟩ := hc
            have hxr := VecR.of_vec h2 hxv
            obtain ⟨c2, hc2, hr2⟩ := ih parts' _ v2 (spl c f.offset x'.cells.toList) hf (hv.put hxr (by omega)) (by simpa using hl) (fun j a b => by
              have := he (j + 1) (by simp; omega) (by simp; omega)
              simpa using this)
            refine ⟨c2, ?_, hr2⟩
            have hs1 := hxr.size
            have hs2 := hv.size
            simp only [Go.Instr.fill, hp _ _ _ hfi hsz]
            rw [if_neg (by simp; omega)]
            exact (congrArg (fun z => Go.Instr.fill _ z parts') (fill_step c _ _)).trans hc2
          · simp at hf
        · simp at hf
      · simp at hf

omit [Val] in
theorem getBang (a : Array Value) (i : Nat) (h : i < a.size) : a[i]! = a.getD i undef := by
  rw [Array.getD_eq_getD_getElem?, Array.getElem?_eq_getElem h, getElem!_pos a i h]
  rfl

omit [Val] in
theorem repCells_length (z : List AV) : ∀ n, (repCells n z).length = n * z.length := by
  intro n
  induction n with
  | zero => simp [repCells]
  | succ n ih => simp [repCells, ih, Nat.add_mul, Nat.add_comm]

omit [Val] in
theorem repCells_get (z : List AV) (x : AV) : ∀ n i, i < n * z.length → (repCells n z).getD i x = z.getD (i % z.length) x := by
  intro n
  induction n with
  | zero => intro i hi; simp at hi
  | succ n ih =>
    intro i hi
    simp only [repCells]
    rcases Nat.lt_or_ge i z.length with h | h
    · rw [List.getD_eq_getElem?_getD, List.getElem?_append_left h, Nat.mod_eq_of_lt h, ← List.getD_eq_getElem?_getD]
    · rw [List.getD_eq_getElem?_getD, List.getElem?_append_right h, ← List.getD_eq_getElem?_getD, ih _ (by rw [Nat.add_mul, Nat.one_mul] at hi; omega)]
      congr 1
      conv => rhs; rw [← Nat.sub_add_cancel h, Nat.add_mod_right]

omit [Val] in
theorem zeroVec_spec (n : Nat) (z : Vec) (hpos : 0 < z.n) :
    (zeroVec n z).n = n * z.n ∧ (zeroVec n z).Wf ∧ ∀ i, i < n * z.n → (zeroVec n z).get i = z.get (i % z.n) := by
  unfold zeroVec
  split
  · rename_i h1
    refine ⟨by simp [h1], ⟨le_depFor _⟩, fun i hi => ?_⟩
    simp only [Vec.get, cget, Tr.get_e, Option.getD_none]
    rw [h1, Nat.mod_one]
  · split
    · rename_i ht
      refine ⟨rfl, ⟨le_depFor _⟩, fun i hi => ?_⟩
      simp only [Vec.get, cget, Tr.get_e, Option.getD_none, ht]
    · have hl : (cellsFrom z.dep z.d z.t 0 z.n).length = z.n := length_cellsFrom _ _ _ _ _
      refine ⟨by rw [vecOf_n, repCells_length, hl], vecOf_wf _, fun i hi => ?_⟩
      rw [vecOf_get _ _ (by rw [repCells_length, hl]; exact hi), repCells_get _ _ _ _ (by rw [hl]; exact hi), hl, getD_cellsFrom _ _ _ _ _ _ _ (Nat.mod_lt _ hpos), Nat.zero_add]
      rfl

theorem zeroVec_rel {n : Nat} {z : Vec} {c : Array Value} (hz : VecR φ z c) (hpos : 0 < z.n) :
    VecR φ (zeroVec n z) ((Array.range (n * z.n)).map (c[· % c.size]!)) := by
  obtain ⟨h1, h2, h3⟩ := zeroVec_spec n z hpos
  have hs := hz.size
  have g : ∀ i, i < n * z.n → ((Array.range (n * z.n)).map (c[· % c.size]!)).getD i undef = c.getD (i % z.n) undef := by
    intro i hi
    have hm : i % z.n < z.n := Nat.mod_lt _ hpos
    rw [Array.getD_eq_getD_getElem?, Array.getElem?_map, Array.getElem?_eq_getElem (by simpa using hi)]
    simp only [Array.getElem_range, Option.map_some, Option.getD_some, hs]
    exact getBang c _ (by omega)
  refine ⟨by rw [h1]; simp, h2, fun i hi => ?_, fun i hi => ?_⟩
  · rw [h1] at hi
    rw [h3 i hi, g i hi]
    exact hz.get _ (Nat.mod_lt _ hpos)
  · rw [h1] at hi
    rw [g i hi]
    exact hz.plain _ (Nat.mod_lt _ hpos)

omit [Val] in
theorem i64_small {n : Int} (h0 : 0 ≤ n) (h1 : n < 9223372036854775808) : IntKind.i64.wrap n = n := by
  have e : n % (2 ^ IntKind.i64.bits : Int) = n := Int.emod_eq_of_lt h0 (by show n < (2 : Int) ^ 64; omega)
  simp only [IntKind.wrap, e]
  rw [if_neg]
  simp only [IntKind.signed, IntKind.bits, Bool.true_and, ge_iff_le, decide_eq_true_eq]
  omega

theorem makeSliceA_ok (hr : HR G φ h w) {t : TypeId} {l c v : AV} {h' : H} (hm : makeSliceA P t l c h = some (v, h')) {l' c' : Value} (hl : VR φ l l') (hc : VR φ c c') :
    ∃ φ' v' w', (Go.Instr.makeSlice t l' c').run P w = .ok v' w' ∧ VR φ' v v' ∧ HR G φ' h' w' ∧ Post φ h w φ' h' w' := by
  unfold makeSliceA at hm
  split at hm
  · rename_i e ln cn hu hln hcn
    split at hm
    · rename_i sz z i hsz hz hi
      split at hm
      · rename_i hle
        obtain ⟨hlc, hc1, hby⟩ := hle
        split at hm
        · rename_i zv hzv
          split at hm
          · rename_i hzn
            obtain ⟨k1, li, rfl, hl0, rfl⟩ := natOf_ok hln hl
            obtain ⟨k2, ci, rfl, hc0, rfl⟩ := natOf_ok hcn hc
            obtain ⟨z', hzr, hzrel⟩ := run_zero hz w φ
            have hzvr := VecR.of_vec hzrel hzv
            cases hal : allocA h (zeroVec ci.toNat zv) with
            | none => rw [hal] at hm; simp at hm
            | some p =>
              obtain ⟨id, h2⟩ := p
              rw [hal] at hm
              simp only [Option.map_some, Option.some.injEq, Prod.mk.injEq] at hm
              obtain ⟨rfl, rfl⟩ := hm
              have hvec := zeroVec_rel (n := ci.toNat) hzvr (by omega)
              obtain ⟨a, b⟩ := vec_new hr hal e hvec
              have hcsz := hvec.size
              have hn := (zeroVec_spec ci.toNat zv (by omega)).1
              refine ⟨_, .slice (some ⟨w.heap.size, 0, none⟩) li.toNat ci.toNat, _, ?_, ?_, a, b⟩
              · have e1 : IntKind.i64.wrap li = li := i64_small hl0 (by omega)
                have e2 : IntKind.i64.wrap ci = ci := i64_small hc0 (by omega)
                have hbi : (i.bytes : Int) * ci ≤ 1000000000 := by
                  have : ((i.bytes * ci.toNat : Nat) : Int) ≤ 1000000000 := by omega
                  rw [Int.natCast_mul, Int.toNat_of_nonneg hc0] at this
                  exact this
                have t1 : (ci < 0 || (i.bytes : Int) * ci > 2 ^ 48) = false := by
                  rw [Bool.or_eq_false_iff]
                  constructor
                  · simpa using hc0
                  · simp only [gt_iff_lt, decide_eq_false_iff_not]; omega
                have t2 : (li < 0) = False := by simpa using hl0
                have t3 : (li > ci) = False := by simp; omega
                have hiz : zv.n = sz + 1 := hzn
                simp only [Go.Instr.makeSlice, asInt, asIntOf, Sem.run_bind, Sem.run_pure, Result.andThen_ok, run_und hu, run_info hi, e1, e2, t1, t2, t3, decide_false, Bool.or_false, Bool.false_eq_true, if_false,
                  run_askRoom, run_size hsz]
                by_cases hz0 : ci.toNat * (sz + 1) = 0
                · have hci : ci.toNat = 0 := by
                    rcases Nat.mul_eq_zero.1 hz0 with h | h
                    · exact h
                    · omega
                  have z0 : ∀ f : Nat → Value, (Array.range 0).map f = #[] := fun f => by simp
                  simp only [hci, Nat.zero_mul, if_true, Sem.run_pure, Result.andThen_ok, newRow, Sem.run_bind, run_newObj', z0]
                · simp only [hz0, if_false, Sem.run_bind, hzr, Result.andThen_ok, Sem.run_pure, newRow, run_newObj']
                  rw [hiz]
              · refine .slice (Phi.set_same _ _ _) (.inl (by simp)) (by simpa using hlc) (Nat.le_refl _) (fun _ => rfl) ?_ (by omega)
                rw [hcsz, hn, hzn]
                omega
          · simp at hm
        · simp at hm
      · simp at hm
    · simp at hm
  · simp at hm

theorem pairs_map {ρ : Operand → AV} {ρ' : Operand → Value} (hρ : ∀ x, VR φ (ρ x) (ρ' x)) (parts : Array (Nat × Operand)) :
    ((parts.map fun p => (p.1, ρ' p.2)).toList).length = (pairsA ρ parts).length ∧
    ∀ i (h : i < (pairsA ρ parts).length) (h' : i < ((parts.map fun p => (p.1, ρ' p.2)).toList).length),
      ((parts.map fun p => (p.1, ρ' p.2)).toList)[i].1 = (pairsA ρ parts)[i].1 ∧
      VR φ (pairsA ρ parts)[i].2 ((parts.map fun p => (p.1, ρ' p.2)).toList)[i].2 := by
  refine ⟨by simp [pairsA], fun i h h' => ?_⟩
  simp only [pairsA, Array.toList_map, List.getElem_map]
  exact ⟨trivial, hρ _⟩

omit [Val] in
theorem run_places (fields : List Field) (hall : fields.all fun f => (size? P f.type).isSome) :
    (fields.mapM (fun f => do pure (f.offset, ← sizeOf f.type) : Field → Sem (Nat × Nat))).run P w = .ok (fields.map fun f => (f.offset, (size? P f.type).getD 0)) w := by
  induction fields with
  | nil => rfl
  | cons f fs ih =>
    simp only [List.all_cons, Bool.and_eq_true] at hall
    obtain ⟨sz, hsz⟩ := Option.isSome_iff_exists.1 hall.1
    rw [List.mapM_cons]
    simp only [Sem.run_bind, run_size hsz, Result.andThen_ok, Sem.run_pure, ih hall.2, List.map_cons, hsz, Option.getD_some]

theorem buildA_ok {ρ : Operand → AV} {ρ' : Operand → Value} (hρ : ∀ x, VR φ (ρ x) (ρ' x)) {t : TypeId} {parts : Array (Nat × Operand)} {v : AV}
    (hb : buildA P t (pairsA ρ parts) = some v) : ∃ v', (Go.Instr.build t (parts.map fun p => (p.1, ρ' p.2))).run P w = .ok v' w ∧ VR φ v v' := by
  obtain ⟨hl, he⟩ := pairs_map hρ parts
  unfold buildA at hb
  split at hb
  · rename_i z hz
    obtain ⟨z', hzr, hzrel⟩ := run_zero hz w φ
    split at hb
    · rename_i zv fields hzv hu
      have hzvr := VecR.of_vec hzrel hzv
      split at hb
      · rename_i hall
        cases hf : fillS P fields zv (pairsA ρ parts) with
        | none => rw [hf] at hb; simp at hb
        | some v2 =>
          rw [hf] at hb
          simp only [Option.map_some, Option.some.injEq] at hb
          subst hb
          obtain ⟨c2, hc2, hr2⟩ := fillS_ok (φ := φ) (places := (fields.toList.map fun f => (f.offset, (size? P f.type).getD 0)).toArray) (fun i f sz hfi hsz => by
            rw [List.getElem?_toArray, List.getElem?_map, Array.getElem?_toList, hfi]
            simp [hsz]) _ _ zv v2 z'.cells hf hzvr hl he
          refine ⟨.agg c2, ?_, hr2.agg⟩
          have hm : (fields.mapM (fun f => do pure (f.offset, ← sizeOf f.type) : Field → Sem (Nat × Nat))).run P w = .ok ((fields.toList.map fun f => (f.offset, (size? P f.type).getD 0)).toArray) w := by
            rw [Array.mapM_eq_mapM_toList, Sem.run_map, run_places fields.toList hall]
            rfl
          simp only [Go.Instr.build, Sem.run_bind, hzr, Result.andThen_ok, run_und hu, hm]
          rw [hc2]
          rfl
      · simp at hb
    · rename_i zv len e hzv hu
      have hzvr := VecR.of_vec hzrel hzv
      split at hb
      · rename_i sz hsz
        cases hf : fillA sz zv (pairsA ρ parts) with
        | none => rw [hf] at hb; simp at hb
        | some v2 =>
          rw [hf] at hb
          simp only [Option.map_some, Option.some.injEq] at hb
          subst hb
          obtain ⟨c2, hc2, hr2⟩ := fillA_ok (φ := φ) _ _ zv v2 z'.cells hf hzvr hl he
          refine ⟨.agg c2, ?_, hr2.agg⟩
          simp only [Go.Instr.build, Sem.run_bind, hzr, Result.andThen_ok, run_und hu, run_size hsz]
          rw [hc2]
          rfl
      · simp at hb
    · simp at hb
  · simp at hb

theorem buildSliceA_ok (hr : HR G φ h w) {ρ : Operand → AV} {ρ' : Operand → Value} (hρ : ∀ x, VR φ (ρ x) (ρ' x)) {t : TypeId} {len : Nat} {parts : Array (Nat × Operand)} {v : AV} {h' : H}
    (hb : buildSliceA P t len (pairsA ρ parts) h = some (v, h')) :
    ∃ φ' v' w', (Go.Instr.buildSlice t len (parts.map fun p => (p.1, ρ' p.2))).run P w = .ok v' w' ∧ VR φ' v v' ∧ HR G φ' h' w' ∧ Post φ h w φ' h' w' := by
  obtain ⟨hl, he⟩ := pairs_map hρ parts
  unfold buildSliceA at hb
  split at hb
  · rename_i e hu
    split at hb
    · rename_i sz z hsz hz
      obtain ⟨z', hzr, hzrel⟩ := run_zero hz w φ
      split at hb
      · rename_i zv hzv
        have hzvr := VecR.of_vec hzrel hzv
        split at hb
        · rename_i hc
          obtain ⟨hzn, hlim⟩ := hc
          split at hb
          · rename_i v2 hf
            cases hal : allocA h v2 with
            | none => rw [hal] at hb; simp at hb
            | some p =>
              obtain ⟨id, h2⟩ := p
              rw [hal] at hb
              simp only [Option.map_some, Option.some.injEq, Prod.mk.injEq] at hb
              obtain ⟨rfl, rfl⟩ := hb
              have hvec := zeroVec_rel (n := len) hzvr (by omega)
              have hn := (zeroVec_spec len zv (by omega)).1
              obtain ⟨c2, hc2, hr2⟩ := fillA_ok (φ := φ) _ _ _ v2 _ hf hvec hl he
              obtain ⟨a, b⟩ := vec_new hr hal e hr2
              -- filling keeps the size
              have hsize : c2.size = len * (sz + 1) := by
                have key : ∀ (ps : List (Nat × Value)) (c c2 : Array Value), Go.Instr.fill (fun i => some (i * (sz + 1), sz + 1)) c ps = some c2 → c2.size = c.size := by
                  intro ps
                  induction ps with
                  | nil => intro c c2 hq; simp only [Go.Instr.fill, Option.some.injEq] at hq; rw [hq]
                  | cons p ps ih =>
                    intro c c2 hq
                    obtain ⟨i, x⟩ := p
                    simp only [Go.Instr.fill] at hq
                    split at hq
                    · simp at hq
                    · have := ih _ _ hq
                      rw [this]
                      exact (congrArg Array.size (fill_step c _ _)).trans (spl_size _ _ _)
                rw [key _ _ _ hc2]
                simp [hzn]
              refine ⟨_, .slice (some ⟨w.heap.size, 0, none⟩) len len, _, ?_, ?_, a, b⟩
              · have hlim' : ¬ len * (sz + 1) > 2 ^ 24 := by omega
                have hsz' : size? P e = some (sz + 1) := hsz
                have z0 : ∀ f : Nat → Value, (Array.range 0).map f = #[] := fun f => by simp
                simp only [Go.Instr.buildSlice, Sem.run_bind, run_und hu, Result.andThen_ok, run_size hsz', hlim', if_false]
                by_cases hz0 : len * (sz + 1) = 0
                · have e0 : len * zv.n = 0 := by rw [hzn]; exact hz0
                  rw [e0, z0] at hc2
                  simp only [hz0, if_true, Sem.run_bind, Sem.run_pure, Result.andThen_ok, z0]
                  rw [hc2]
                  simp only [newRow, Sem.run_bind, run_newObj', Result.andThen_ok, Sem.run_pure]
                · simp only [hz0, if_false, Sem.run_bind, hzr, Result.andThen_ok, Sem.run_pure]
                  rw [hzn] at hc2
                  rw [hc2]
                  simp only [newRow, Sem.run_bind, run_newObj', Result.andThen_ok, Sem.run_pure]
              · refine .slice (Phi.set_same _ _ _) (.inl (by simp)) (Nat.le_refl _) (Nat.le_refl _) (fun _ => rfl) ?_ (by omega)
                rw [hsize]
                omega
          · simp at hb
        · simp at hb
      · simp at hb
    · simp at hb
  · simp at hb
end
end Go.Ab
