/-
  The abstract machine's copy, clear, conversions, and then every operation, come to what the model's come to.
  Conditions: those that each lemma names.
-/
import Derived.Test.YtiajkflemnaabaaGreatBbK
namespace Go.Ab
variable [Val]

section
variable {P : Program} {G : Nat} {φ : Phi} {h : H} {w : World}

theorem copyA_ok (hr : HR G φ h w) {t : TypeId} {d s v : AV} {h' : H} (ha : copyA P t d s h = some (v, h')) {d' s' : Value} (hd : VR φ d d') (hs : VR φ s s')
    {ts : Array TypeId} (ht0 : ts[0]? = some t) (ty : TypeId) :
    ∃ v' w', (Builtin.copy_ ts ty #[d', s']).run P w = .ok v' w' ∧ VR φ v v' ∧ HR G φ h' w' ∧ Post φ h w φ h' w' := by
  unfold copyA at ha
  split at ha
  · rename_i e sl hu hsl
    have hlen := lenA_ok (P := P) (w := w) hsl hs
    split at ha
    · rename_i sz id off dl cap ex esz hsz
      have hsz : size? P e = some (sz + 1) := hsz
      obtain ⟨b, base, cs, o, c, hp, ho, hl, hc, he, hcs, hz0, rfl⟩ := hd.slice_inv
      dsimp only at ha
      split at ha
      · rename_i cells hcells
        have hnle : Nat.min sl dl ≤ (lenA s).getD 0 := by rw [hsl]; exact Nat.min_le_left _ _
        obtain ⟨a, hra, hrel, hll⟩ := srcCells_ok (P := P) hr hcells hs hnle
        split at ha
        · rename_i hn0
          simp only [Option.some.injEq, Prod.mk.injEq] at ha
          obtain ⟨rfl, rfl⟩ := ha
          rw [hn0] at hra hll
          have ha0 : a.toList = [] := by
            have := hrel.size
            rw [hll, Nat.zero_mul] at this
            exact List.eq_nil_of_length_eq_zero (by simpa using this)
          refine ⟨.int .i64 0, w, ?_, .int _ _, hr, Post.refl _ _ _⟩
          simp only [Builtin.copy_, ht0, List.getElem?_toArray, List.getElem?_cons_zero, List.getElem?_cons_succ, Sem.run_bind, run_und hu, Result.andThen_ok, hlen, run_size hsz, hn0, hra, ha0, storeCells, Sem.run_pure, goInt]
          rfl
        · rename_i hn0
          split at ha
          · rename_i hesz
            subst hesz
            cases hst : storeA h id off (vecOf cells) with
            | none => rw [hst] at ha; simp at ha
            | some h2 =>
              rw [hst] at ha
              simp only [Option.map_some, Option.some.injEq, Prod.mk.injEq] at ha
              obtain ⟨rfl, rfl⟩ := ha
              have hmin : Nat.min sl dl ≤ dl := Nat.min_le_right _ _
              have ho' : o = base + off := by rcases ho with h | h <;> omega
              have hv := hrel.vec
              obtain ⟨w', hrun, hr', hpost⟩ := store_ok (P := P) hr hp hst hv.wf (vals := a.toList) (by simpa using hv.size) (fun j hj => by rw [getD_toList]; exact hv.get j hj) hrel.all
              refine ⟨.int .i64 (Nat.min sl dl : Nat), w', ?_, .int _ _, hr', hpost⟩
              simp only [Builtin.copy_, ht0, List.getElem?_toArray, List.getElem?_cons_zero, List.getElem?_cons_succ, Sem.run_bind, run_und hu, Result.andThen_ok, hlen, run_size hsz, hra, Sem.run_pure, goInt]
              rw [ho', hrun]
              rfl
          · simp at ha
      · simp at ha
    · rename_i sz hsz
      have hsz : size? P e = some (sz + 1) := hsz
      obtain rfl := hd.nils_inv
      cases hcells : srcCells h (sz + 1) 0 s with
      | none => rw [hcells] at ha; simp at ha
      | some cells =>
        rw [hcells] at ha
        simp only [Option.map_some, Option.some.injEq, Prod.mk.injEq] at ha
        obtain ⟨rfl, rfl⟩ := ha
        obtain ⟨a, hra, hrel, hll⟩ := srcCells_ok (P := P) hr hcells hs (Nat.zero_le _)
        refine ⟨.int .i64 0, w, ?_, .int _ _, hr, Post.refl _ _ _⟩
        have hm : Nat.min sl 0 = 0 := Nat.min_zero _
        simp only [Builtin.copy_, ht0, List.getElem?_toArray, List.getElem?_cons_zero, List.getElem?_cons_succ, Sem.run_bind, run_und hu, Result.andThen_ok, hlen, run_size hsz, hm, hra, Sem.run_pure, goInt]
        rfl
    · simp at ha
  · simp at ha

theorem clearA_ok (hr : HR G φ h w) {t : TypeId} {x : AV} {h' : H} (ha : clearA P t x h = some h') {x' : Value} (hx : VR φ x x')
    {ts : Array TypeId} (ht0 : ts[0]? = some t) (ty : TypeId) :
    ∃ w', (Builtin.clear_ ts ty #[x']).run P w = .ok (.tuple #[]) w' ∧ HR G φ h' w' ∧ Post φ h w φ h' w' := by
  unfold clearA at ha
  split at ha
  · rename_i e hu
    obtain rfl := hx.nils_inv
    simp only [Option.some.injEq] at ha
    subst ha
    refine ⟨w, ?_, hr, Post.refl _ _ _⟩
    simp only [Builtin.clear_, ht0, List.getElem?_toArray, List.getElem?_cons_zero, Sem.run_bind, run_und hu, Result.andThen_ok, Sem.run_pure]
  · rename_i e id off len cap ex esz hu
    obtain ⟨b, base, cs, o, c, hp, ho, hl, hc, he, hcs, hz0, rfl⟩ := hx.slice_inv
    split at ha
    · rename_i hl0
      subst hl0
      simp only [Option.some.injEq] at ha
      subst ha
      refine ⟨w, ?_, hr, Post.refl _ _ _⟩
      simp only [Builtin.clear_, ht0, List.getElem?_toArray, List.getElem?_cons_zero, Sem.run_bind, run_und hu, Result.andThen_ok, Sem.run_pure]
    · rename_i hl0
      split at ha
      · rename_i sz z hsz hz
        split at ha
        · rename_i zv hzv
          split at ha
          · rename_i hcnd
            obtain ⟨rfl, hzn⟩ := hcnd
            obtain ⟨z', hzr, hzrel⟩ := run_zero hz w φ
            have hzvr := VecR.of_vec hzrel hzv
            have hvec := zeroVec_rel (n := len) hzvr (by omega)
            have hn := (zeroVec_spec len zv (by omega)).1
            have ho' : o = base + off := by rcases ho with h | h <;> omega
            obtain ⟨w', hrun, hr', hpost⟩ := store_ok (P := P) hr hp ha hvec.wf (vals := ((Array.range (len * zv.n)).map (z'.cells[· % z'.cells.size]!)).toList)
              (by simpa using hvec.size) (fun j hj => by rw [getD_toList]; exact hvec.get j hj) hvec.plainAll
            refine ⟨w', ?_, hr', hpost⟩
            have hzc : Builtin.zeroCells z'.cells len = (Array.range (len * zv.n)).map (z'.cells[· % z'.cells.size]!) := by
              unfold Builtin.zeroCells
              rw [hzvr.size]
            cases len with
            | zero => exact absurd rfl hl0
            | succ len =>
              simp only [Builtin.clear_, ht0, List.getElem?_toArray, List.getElem?_cons_zero, Sem.run_bind, run_und hu, Result.andThen_ok, hzr, hzc, ho', hrun, Sem.run_pure]
          · simp at ha
        · simp at ha
      · simp at ha
  · rename_i k e hu
    obtain rfl := hx.nilm_inv
    simp only [Option.some.injEq] at ha
    subst ha
    refine ⟨w, ?_, hr, Post.refl _ _ _⟩
    simp only [Builtin.clear_, ht0, List.getElem?_toArray, List.getElem?_cons_zero, Sem.run_bind, run_und hu, Result.andThen_ok, Sem.run_pure]
  · rename_i k e id hu
    obtain ⟨p, hp, rfl⟩ := hx.map_inv
    split at ha
    · rename_i es clock hg
      simp only [Option.some.injEq] at ha
      subst ha
      obtain ⟨ms, hb, hes⟩ := obj_map hr hg hp
      refine ⟨_, ?_, set_ok hr hg rfl hp (map_or .nil clock p)⟩
      simp only [Builtin.clear_, ht0, List.getElem?_toArray, List.getElem?_cons_zero, Sem.run_bind, run_und hu, Result.andThen_ok, run_getObj hb (by simp), run_setObj hb (by simp), Sem.run_pure]
    · simp at ha
  · simp at ha

theorem bytesOf_ok : ∀ (l : List AV) (s : List Nat), bytesOf l = some s → ∀ (a : List Value), a.length = l.length → (∀ i, i < l.length → VR φ (l.getD i .junk) (a.getD i undef)) →
    ∀ (acc : ByteArray) (w : World), ∃ r : ByteArray, ((forIn a acc fun c (acc : ByteArray) => (do
        match c with
        | .int .u8 n => pure (ForInStep.yield (acc.push (UInt8.ofNat n.toNat)))
        | _ => stuck "bytesToString: byte expected" : Sem (ForInStep ByteArray))).run P w) = .ok r w ∧ r.data.toList.map UInt8.toNat = acc.data.toList.map UInt8.toNat ++ s := by
  intro l
  induction l with
  | nil =>
    intro s hs a hl _ acc w
    obtain rfl : a = [] := by simpa using hl
    simp only [bytesOf, Option.some.injEq] at hs
    subst hs
    exact ⟨acc, by simp, by simp⟩
  | cons x l ih =>
    intro s hs a hl he acc w
    cases a with
    | nil => simp at hl
    | cons x' a =>
      have hx : VR φ x x' := by simpa using he 0 (by simp)
      unfold bytesOf at hs
      split at hs
      · simp_all
      · rename_i n r heq
        simp only [List.cons.injEq] at heq
        obtain ⟨rfl, rfl⟩ := heq
        obtain rfl := hx.int_inv
        split at hs
        · rename_i hn
          cases hb : bytesOf l with
          | none => rw [hb] at hs; simp at hs
          | some s2 =>
            rw [hb] at hs
            simp only [Option.map_some, Option.some.injEq] at hs
            subst hs
            obtain ⟨r, h1, h2⟩ := ih s2 hb a (by simpa using hl) (fun i hi => by simpa using he (i + 1) (by simp; omega)) (acc.push (UInt8.ofNat n.toNat)) w
            refine ⟨r, ?_, ?_⟩
            · rw [List.forIn_cons]
              simp only [Sem.run_bind, Sem.run_pure, Result.andThen_ok]
              exact h1
            · rw [h2]
              have e : (UInt8.ofNat n.toNat).toNat = n.toNat := by
                rw [UInt8.toNat_ofNat']
                omega
              simp [ByteArray.push, e]
        · simp at hs
      · simp at hs

omit [Val] in
theorem alloc_freeze (w : World) (c : Array Value) (e : TypeId) (n : Nat) :
    (w.alloc (.cells c e)).freeze { block := w.heap.size, off := n } 1 = w.alloc (.cells c e (n, n + 1)) := by
  unfold World.freeze
  rw [if_neg (by decide)]
  simp only [World.alloc]
  congr 1
  apply Array.ext_getElem?
  intro i
  rw [Array.getElem?_modify, Array.getElem?_push, Array.getElem?_push]
  by_cases hi : w.heap.size = i
  · subst hi
    simp
  · rw [if_neg hi, if_neg (fun e => hi e.symm), if_neg (fun e => hi e.symm)]

omit [Val] in
theorem strBytes_eq (l : List Nat) : strBytes l = (l.take l.length).map fun b => .int .u8 (b : Nat) := by
  rw [List.take_length]; rfl

theorem convertA_ok (hr : HR G φ h w) {src dst : TypeId} {x v : AV} {h' : H} (ha : convertA P src dst x h = some (v, h')) {x' : Value} (hx : VR φ x x') :
    ∃ φ' v' w', (convert src dst x').run P w = .ok v' w' ∧ VR φ' v v' ∧ HR G φ' h' w' ∧ Post φ h w φ' h' w' := by
  unfold convertA at ha
  split at ha
  · rename_i ds k k' n hus hud
    obtain rfl := hx.int_inv
    simp only [Option.some.injEq, Prod.mk.injEq] at ha
    obtain ⟨rfl, rfl⟩ := ha
    refine ⟨φ, .int k (k.wrap n), w, ?_, .int _ _, hr, Post.refl _ _ _⟩
    simp only [convert, Sem.run_bind, run_und hus, run_und hud, Result.andThen_ok, Conv.intToInt, Sem.run_pure]
  · rename_i ds k k' l hh e hus hud
    obtain ⟨n, rfl, e1, e2, e3, e4⟩ := hx.sym_inv
    have key : ∀ u, (bif fits k l hh then some (mkS k l hh e) else bif decide (0 ≤ l) && !k.signed then some (symRem k l hh e (2 ^ k.bits)) else none) = some u → VR φ u (.int k (k.wrap n)) := by
      intro u hu
      cases hf : fits k l hh with
      | true =>
        rw [hf] at hu
        simp only [cond_true, Option.some.injEq] at hu
        subst hu
        rw [(wrap_fits hf e3 e4).1]
        exact mkS_vr e1 e2 e3 e4
      | false =>
        rw [hf] at hu
        simp only [cond_false] at hu
        cases hd : (decide (0 ≤ l) && !k.signed) with
        | false => rw [hd] at hu; simp at hu
        | true =>
          rw [hd] at hu
          simp only [cond_true, Option.some.injEq] at hu
          subst hu
          simp only [Bool.and_eq_true, decide_eq_true_eq, Bool.not_eq_true'] at hd
          rw [wrap_unsigned hd.2]
          exact symRem_vr (Nat.two_pow_pos _) hd.1 e1 e2 e3 e4
    cases hu : (bif fits k l hh then some (mkS k l hh e) else bif decide (0 ≤ l) && !k.signed then some (symRem k l hh e (2 ^ k.bits)) else none) with
    | none => rw [hu] at ha; simp at ha
    | some u =>
      rw [hu] at ha
      simp only [Option.map_some, Option.some.injEq, Prod.mk.injEq] at ha
      obtain ⟨rfl, rfl⟩ := ha
      refine ⟨φ, .int k (k.wrap n), w, ?_, key _ hu, hr, Post.refl _ _ _⟩
      simp only [convert, Sem.run_bind, run_und hus, run_und hud, Result.andThen_ok, Conv.intToInt, Sem.run_pure]
  · rename_i ds s hus hud
    obtain ⟨s, rfl, rfl⟩ := hx.str_inv
    simp only [Option.some.injEq, Prod.mk.injEq] at ha
    obtain ⟨rfl, rfl⟩ := ha
    refine ⟨φ, .string s, w, ?_, hx, hr, Post.refl _ _ _⟩
    simp only [convert, Sem.run_bind, run_und hus, run_und hud, Result.andThen_ok, Sem.run_pure]
  · rename_i ds e s hus hud
    obtain ⟨s, rfl, rfl⟩ := hx.str_inv
    split at ha
    · rename_i hue
      cases hal : allocA h (vecOf (strBytes (s.data.toList.map UInt8.toNat))) with
      | none => rw [hal] at ha; simp at ha
      | some p =>
        obtain ⟨id, h2⟩ := p
        rw [hal] at ha
        simp only [Option.map_some, Option.some.injEq, Prod.mk.injEq] at ha
        obtain ⟨rfl, rfl⟩ := ha
        have hlen : (s.data.toList.map UInt8.toNat).length = s.size := by rw [List.length_map, Array.length_toList]; rfl
        generalize hcp : (Question.appendCap s.size 0 e).cut (w.tape w.drawn (.appendCap s.size 0 e)) = cap
        have hcapge : s.size ≤ cap := by
          rw [← hcp]
          show s.size ≤ s.size + _
          omega
        have hb := bytes_cells (φ := φ) s s.size (Nat.le_refl _)
        rw [← hlen, ← strBytes_eq, hlen] at hb
        have hex : s.extract 0 s.size = s := by
          have : (s.extract 0 s.size).data.toList = s.data.toList := by
            rw [Lib.extract_data]
            simp only [List.drop_zero, Nat.sub_zero]
            exact List.take_of_length_le (by rw [Array.length_toList]; exact Nat.le_refl _)
          cases s with
          | mk d => exact congrArg ByteArray.mk (Array.toList_inj.1 this)
        rw [hex] at hb
        generalize hE : (s.data.map fun b => Value.int .u8 b.toNat) = E at hb
        generalize hL : strBytes (s.data.toList.map UInt8.toNat) = L at hb hal
        have hLl : L.length = s.size := by rw [← hL]; simp only [strBytes, List.length_map, Array.length_toList]; rfl
        have hEs : E.size = s.size := by rw [hb.size, hLl]
        have hcs : (E ++ Array.replicate (cap - s.size) (Value.int .u8 0)).size = cap := by
          rw [Array.size_append, Array.size_replicate, hEs]; omega
        have hnone : φ id = none := by
          obtain ⟨rfl, _⟩ := H.new_spec hal
          cases e : φ h.nx with
          | none => rfl
          | some p => exact absurd (hr.dom _ _ e).1 (by omega)
        have hgetc : ∀ i, i < s.size → (E ++ Array.replicate (cap - s.size) (Value.int .u8 0)).getD i undef = E.getD i undef := by
          intro i hi
          rw [Array.getD_eq_getD_getElem?, Array.getD_eq_getD_getElem?, Array.getElem?_append_left (by omega)]
        have hall := alloc_ok hr.drew hal (ob := .cells (E ++ Array.replicate (cap - s.size) (Value.int .u8 0)) e (cap, cap + 1)) (cs := cap)
          ⟨(vecOf_wf L).le, by rw [vecOf_n, hLl]; show 0 + s.size ≤ cap; omega, _, e, (cap, cap + 1), rfl, hcs, ⟨.inr (Nat.le_refl _), by simp⟩, (fun i hi => by
            rw [vecOf_n] at hi
            have hg := vecOf_get L i hi
            unfold Vec.get at hg
            rw [hg]
            show VR _ _ ((E ++ Array.replicate (cap - s.size) (Value.int .u8 0)).getD (0 + i) undef)
            rw [Nat.zero_add, hgetc i (by omega)]
            exact (hb.get i hi).mono (Phi.le_set _ hnone)), (fun i hi => by
            rw [vecOf_n] at hi
            show plainCell ((E ++ Array.replicate (cap - s.size) (Value.int .u8 0)).getD (0 + i) undef) = true
            rw [Nat.zero_add, hgetc i (by omega)]
            exact hb.plain i hi)⟩
        obtain ⟨a, b⟩ := hall
        refine ⟨_, .slice (some ⟨w.heap.size, 0, none⟩) s.size cap, _, ?_, ?_, a, (Post.drew φ h w).trans b⟩
        · have hf : (Question.appendCap s.size 0 e).forced = false := rfl
          have hshape : ∀ (c : Array Value), (w.drew.alloc (.cells c e)).shape? w.drew.heap.size = some (e, c.size) := by
            intro c
            unfold World.shape?
            rw [alloc_block, if_pos rfl]
          have hds : w.drew.heap.size = w.heap.size := rfl
          simp only [convert, Sem.run_bind, run_und hus, run_und hud, run_und hue, Result.andThen_ok, Conv.stringToBytes, run_choose, hf, Bool.false_eq_true, if_false, World.drew_eq, hcp, hE, newRow, run_newObj', Sem.run_pure,
            markStringish, run_shape, hshape, hcs, run_freeze, alloc_freeze]
          rfl
        · rw [hlen]
          refine .slice (Phi.set_same _ _ _) (.inl (by simp)) (Nat.le_refl _) hcapge (fun h => by simp at h) ?_ (by decide)
          omega
    · simp at ha
  · rename_i e1 e id off len cp ex esz hus hud
    split at ha
    · rename_i hsd
      split at ha
      · rename_i n dep d t hue hg
        simp only [Option.some.injEq, Prod.mk.injEq] at ha
        obtain ⟨rfl, rfl⟩ := ha
        subst hsd
        obtain rfl : e1 = e := by
          have := hus.symm.trans hud
          simpa using this
        cases hx with
        | @slice _ _ _ _ _ b base cs o c _ hp ho hl hc he hcs hz =>
          obtain ⟨hn, hle, cc, ee, fz, hb, hcc, hfz, hv, hpl⟩ := obj_cells hr hg hp
          have hob : OR φ (.cells n dep d t) (b, base, cs) (some (.cells cc ee (if fz.1 == fz.2 then (cs, cs + 1) else (min fz.1 cs, max fz.2 (cs + 1))))) := by
            refine ⟨hn, hle, cc, ee, _, rfl, hcc, ?_, hv, hpl⟩
            obtain ⟨h1, h2⟩ := hfz
            by_cases e : fz.1 = fz.2
            · rw [if_pos (by simpa using e)]; exact ⟨.inr (Nat.le_refl _), by simp⟩
            · rw [if_neg (by simpa using e)]
              have h1' := h1.resolve_left e
              exact ⟨.inr (by show cs ≤ min fz.1 cs; omega), by show min fz.1 cs ≤ max fz.2 (cs + 1); omega⟩
          obtain ⟨a, b'⟩ := blk_ok hr hg rfl hp hob
          refine ⟨φ, .slice (some ⟨b, o, none⟩) len c, _, ?_, .slice hp ho hl hc he hcs hz, a, b'⟩
          have hsh : w.shape? b = some (ee, cs) := by unfold World.shape?; rw [hb]; simp [hcc]
          have hfreeze : w.freeze { block := b, off := cs } 1 = setBlk w b (.cells cc ee (if fz.1 == fz.2 then (cs, cs + 1) else (min fz.1 cs, max fz.2 (cs + 1)))) := by
            unfold World.freeze setBlk
            rw [if_neg (by decide)]
            congr 1
            apply Array.ext_getElem?
            intro i
            rw [Array.getElem?_modify, Array.getElem?_setIfInBounds]
            have hblt : b < w.heap.size := (hr.dom _ _ hp).2
            by_cases hi : b = i
            · subst hi
              rw [hb]
              simp [hblt]
            · simp [hi]
          simp only [convert, Sem.run_bind, run_und hus, run_und hud, run_und hue, Result.andThen_ok, beq_self_eq_true, markStringish, run_shape, hsh, run_freeze, hfreeze, Sem.run_pure]
      · simp at ha
    · simp at ha
  · rename_i e hus hud
    obtain rfl := hx.nils_inv
    split at ha
    · rename_i hue
      simp only [Option.some.injEq, Prod.mk.injEq] at ha
      obtain ⟨rfl, rfl⟩ := ha
      refine ⟨φ, .string .empty, w, ?_, VR.str (φ := φ) .empty, hr, Post.refl _ _ _⟩
      simp only [convert, Sem.run_bind, run_und hus, run_und hud, run_und hue, Result.andThen_ok, Conv.bytesToString, Sem.run_pure]
    · simp at ha
  · rename_i e id off len cap ex esz hus hud
    obtain ⟨b, base, cs, o, c, hp, ho, hl, hc, he, hcs, hz0, rfl⟩ := hx.slice_inv
    split at ha
    · rename_i n dep d t hue hg
      split at ha
      · rename_i hcnd
        obtain ⟨rfl, hle⟩ := hcnd
        cases hb : bytesOf (cellsFrom dep d t off len) with
        | none => rw [hb] at ha; simp at ha
        | some s =>
          rw [hb] at ha
          simp only [Option.map_some, Option.some.injEq, Prod.mk.injEq] at ha
          obtain ⟨rfl, rfl⟩ := ha
          obtain ⟨a, hra, hrel⟩ : ∃ a, (loadCells ⟨b, o, none⟩ len).run P w = .ok a w ∧ CellsR φ (cellsFrom dep d t off len) a := by
            rcases ho with rfl | ho
            · exact cells_ok (P := P) hr hg hp hle
            · have hl0 : len = 0 := by omega
              subst hl0
              exact ⟨#[], by simp [loadCells, loadCellsFrom], ⟨rfl, fun i hi => absurd hi (by simp [cellsFrom]), fun i hi => absurd hi (by simp [cellsFrom])⟩⟩
          obtain ⟨r, hrr, hrb⟩ := bytesOf_ok (P := P) (φ := φ) _ _ hb a.toList (by simpa using hrel.size) (fun i hi => by rw [getD_toList]; exact hrel.get i hi) ByteArray.empty w
          have hrb' : r.data.toList.map UInt8.toNat = s := by rw [hrb]; rfl
          refine ⟨φ, .string r, w, ?_, ?_, hr, Post.refl _ _ _⟩
          · simp only [convert, Sem.run_bind, run_und hus, run_und hud, run_und hue, Result.andThen_ok, Conv.bytesToString, hra]
            rw [← Array.forIn_toList]
            exact (congrArg (fun z : Result ByteArray => z.andThen fun s w' => (pure (Value.string s) : Sem Value).run P w') hrr)
          · rw [← hrb']; exact .str r
      · simp at ha
    · simp at ha
  · simp at ha

/-! ### Every operation -/

structure DefR (φ : Phi) (d : ADef) (d' : Deferred) : Prop where
  target : ∃ fn' cap', d'.target = .fn fn' cap' ∧ FnR φ d.fn fn' ∧ LR φ d.cap cap'
  args : LR φ d.args d'.args

/-- What the model's operation comes to, beside the abstract one. -/
def OpR (P : Program) (G : Nat) (φ : Phi) (h : H) (w : World) (res : Result Next) : AR → Prop
  | .val v h' => ∃ φ' nx v' w', res = .ok nx w' ∧ (nx = .value v' ∨ (nx = .skip ∧ v' = undef)) ∧ VR φ' v v' ∧ HR G φ' h' w' ∧ Post φ h w φ' h' w'
  | .enter f args h' => ∃ args', res = .ok (.enter f args') w ∧ LR φ args args' ∧ h' = h ∧ ∃ fn, P.funcs[f]? = some fn ∧ fn.body.isSome = true
  | .round l args h' => ∃ args' p, φ l = some p ∧ res = (Go.Instr.yield p.1 args').run P w ∧ LR φ args args' ∧ h' = h
  | .defer d h' => ∃ d', res = .ok (.defer d') w ∧ DefR φ d d' ∧ h' = h
  | .recover h' => res = .ok .recover w ∧ h' = h
  | .panic v h' => ∃ v', res = .halt (.panic v') w ∧ VR φ v v' ∧ h' = h

theorem OpR.value {s : Sem Value} {v : AV} {h' : H} (hh : ∃ φ' v' w', s.run P w = .ok v' w' ∧ VR φ' v v' ∧ HR G φ' h' w' ∧ Post φ h w φ' h' w') :
    OpR P G φ h w ((do pure (.value (← s)) : Sem Next).run P w) (.val v h') := by
  obtain ⟨φ', v', w', h1, h2, h3, h4⟩ := hh
  exact ⟨φ', .value v', v', w', by simp only [Sem.run_bind, h1, Result.andThen_ok, Sem.run_pure], .inl rfl, h2, h3, h4⟩

theorem OpR.value0 (hr : HR G φ h w) {s : Sem Value} {v : AV} (hh : ∃ v', s.run P w = .ok v' w ∧ VR φ v v') : OpR P G φ h w ((do pure (.value (← s)) : Sem Next).run P w) (.val v h) := by
  obtain ⟨v', h1, h2⟩ := hh
  exact .value ⟨φ, v', w, h1, h2, hr, Post.refl _ _ _⟩

theorem OpR.unit {s : Sem Unit} {h' : H} (hh : ∃ w', s.run P w = .ok () w' ∧ HR G φ h' w' ∧ Post φ h w φ h' w') :
    OpR P G φ h w ((do s; pure .skip : Sem Next).run P w) (.val (.tup []) h') := by
  obtain ⟨w', h1, h3, h4⟩ := hh
  exact ⟨φ, .skip, undef, w', by simp only [Sem.run_bind, h1, Result.andThen_ok, Sem.run_pure], .inr ⟨rfl, rfl⟩, (LR.nil φ).tup, h3, h4⟩

omit [Val] in
theorem valH_inv {v : Option AV} {r : AR} (hr : valH v h = some r) : ∃ a, v = some a ∧ r = .val a h := by
  cases v with
  | none => simp [valH] at hr
  | some a => exact ⟨a, rfl, by simpa [valH] using hr.symm⟩
omit [Val] in
theorem val2_inv {v : Option (AV × H)} {r : AR} (hr : val2 v = some r) : ∃ a h', v = some (a, h') ∧ r = .val a h' := by
  cases v with
  | none => simp [val2] at hr
  | some a => exact ⟨a.1, a.2, rfl, by simpa [val2] using hr.symm⟩
omit [Val] in
theorem skipH_inv {v : Option H} {r : AR} (hr : skipH v = some r) : ∃ h', v = some h' ∧ r = .val (.tup []) h' := by
  cases v with
  | none => simp [skipH] at hr
  | some a => exact ⟨a, rfl, by simpa [skipH] using hr.symm⟩

theorem resolveA_ok {ρ : Operand → AV} {ρ' : Operand → Value} (hρ : ∀ x, VR φ (ρ x) (ρ' x)) {c : Call} {d : ADef} (hd : resolveA ρ c = some d) (ty : TypeId) :
    ∃ d', (resolve ρ' c ty).run P w = .ok d' w ∧ DefR φ d d' := by
  unfold resolveA at hd
  split at hd
  · rename_i f hc
    have hf := hρ f
    split at hd
    · rename_i fn first cap heq
      rw [heq] at hf
      obtain ⟨fn', a₁, a₂, h1, h2, h3, h4⟩ := hf.fn_inv
      simp only [Option.some.injEq] at hd
      subst hd
      refine ⟨{ target := .fn fn' a₂, args := a₁ ++ c.args.map ρ' }, ?_, ⟨fn', a₂, rfl, h1, h3⟩, h2.append (LR.map hρ c.args)⟩
      simp only [resolve, hc, h4, Deferred.ofValue]
      rfl
    · simp at hd
  · simp at hd

theorem callA_ok {d : ADef} {d' : Deferred} (hd : DefR φ d d') {r : AR} (hr : callA P d h = some r) : OpR P G φ h w ((invoke d'.target d'.args).run P w) r := by
  obtain ⟨⟨fn', cap', ht, hfn, hcap⟩, hargs⟩ := hd
  rw [ht]
  unfold callA at hr
  split at hr
  · rename_i f heq
    rw [heq] at hfn
    cases hfn
    split at hr
    · rename_i fn hf
      split at hr
      · simp at hr
      · rename_i hname
        split at hr
        · rename_i c hb
          simp only [Option.some.injEq] at hr
          subst hr
          refine ⟨d'.args ++ cap', ?_, hargs.append hcap, rfl, fn, hf, by rw [hb]; rfl⟩
          simp only [invoke, callFunc, Sem.run_bind, run_program, Result.andThen_ok, hf, hname, hb, Option.isNone_some, Bool.false_eq_true, if_false, Sem.run_pure]
        · simp at hr
    · simp at hr
  · rename_i l heq
    rw [heq] at hfn
    cases hfn
    rename_i p hp
    simp only [Option.some.injEq] at hr
    subst hr
    exact ⟨d'.args, p, hp, rfl, hargs, rfl⟩
  · simp at hr
end
end Go.Ab
