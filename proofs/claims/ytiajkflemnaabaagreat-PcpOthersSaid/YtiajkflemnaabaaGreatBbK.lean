/-
  The abstract machine's append, copy, clear and conversions come to what the model's come to.
  Conditions: those that each lemma names.
-/
import Derived.Test.YtiajkflemnaabaaGreatBbJ
namespace Go.Ab
variable [Val]

section
variable {P : Program} {G : Nat} {φ : Phi} {h : H} {w : World}

/-- A list of cells, related. -/
structure CellsR (φ : Phi) (l : List AV) (a : Array Value) : Prop where
  size : a.size = l.length
  get : ∀ i, i < l.length → VR φ (l.getD i .junk) (a.getD i undef)
  plain : ∀ i, i < l.length → plainCell (a.getD i undef) = true

theorem CellsR.all {l : List AV} {a : Array Value} (hc : CellsR φ l a) : ∀ x ∈ a.toList, plainCell x = true := by
  intro x hx
  obtain ⟨i, hi, rfl⟩ := List.mem_iff_getElem.1 hx
  simp only [Array.length_toList] at hi
  have := hc.plain i (by rw [← hc.size]; exact hi)
  rw [Array.getD_eq_getD_getElem?, Array.getElem?_eq_getElem hi] at this
  simpa using this

theorem CellsR.vec {l : List AV} {a : Array Value} (hc : CellsR φ l a) : VecR φ (vecOf l) a :=
  ⟨by rw [vecOf_n]; exact hc.size, vecOf_wf _, fun i hi => by rw [vecOf_n] at hi; rw [vecOf_get _ _ hi]; exact hc.get i hi, fun i hi => by rw [vecOf_n] at hi; exact hc.plain i hi⟩

theorem bytes_cells (s : ByteArray) (n : Nat) (hn : n ≤ s.size) : CellsR φ (((s.data.toList.map UInt8.toNat).take n).map fun b => .int .u8 (b : Nat)) ((s.extract 0 n).data.map fun b => .int .u8 b.toNat) := by
  have hlist : (s.extract 0 n).data.toList = s.data.toList.take n := by rw [Lib.extract_data]; simp
  have hsz : (s.extract 0 n).data.size = n := by
    rw [← Array.length_toList, hlist, List.length_take, Array.length_toList]
    have : s.data.size = s.size := rfl
    omega
  have hlen : (((s.data.toList.map UInt8.toNat).take n).map fun b => (AV.int .u8 (b : Nat))).length = n := by
    simp only [List.length_map, List.length_take, Array.length_toList]
    have : s.data.size = s.size := rfl
    omega
  have g : ∀ i, i < n → ∃ u : UInt8, (((s.data.toList.map UInt8.toNat).take n).map fun b => (AV.int .u8 (b : Nat))).getD i .junk = .int .u8 (u.toNat : Nat) ∧
      ((s.extract 0 n).data.map fun b => Value.int .u8 b.toNat).getD i undef = .int .u8 u.toNat := by
    intro i hi
    have hi2 : i < s.data.toList.length := by rw [Array.length_toList]; have : s.data.size = s.size := rfl; omega
    refine ⟨s.data.toList[i], ?_, ?_⟩
    · rw [List.getD_eq_getElem?_getD, List.getElem?_map, List.getElem?_take_of_lt hi, List.getElem?_map, List.getElem?_eq_getElem hi2]
      rfl
    · rw [Array.getD_eq_getD_getElem?, Array.getElem?_map, ← Array.getElem?_toList, hlist, List.getElem?_take_of_lt hi, List.getElem?_eq_getElem hi2]
      rfl
  refine ⟨by rw [hlen]; simpa using hsz, fun i hi => ?_, fun i hi => ?_⟩
  · rw [hlen] at hi
    obtain ⟨u, h1, h2⟩ := g i hi
    rw [h1, h2]
    exact .int _ _
  · rw [hlen] at hi
    obtain ⟨u, h1, h2⟩ := g i hi
    rw [h2]
    rfl

theorem cells_ok (hr : HR G φ h w) {id n dep b base cs : Nat} {d : AV} {t : Tr AV} (hg : h.get id = some (.cells n dep d t)) (hp : φ id = some (b, base, cs)) {off k : Nat} (hk : off + k ≤ n) :
    ∃ a : Array Value, (loadCells ⟨b, base + off, none⟩ k).run P w = .ok a w ∧ CellsR φ (cellsFrom dep d t off k) a := by
  obtain ⟨a, h1, h2, h3, h4⟩ := cells_read (P := P) hr hg hp hk
  refine ⟨a, h1, by rw [length_cellsFrom]; exact h2, fun i hi => ?_, fun i hi => ?_⟩
  · rw [length_cellsFrom] at hi
    rw [getD_cellsFrom _ _ _ _ _ _ _ hi]
    exact h3 i hi
  · rw [length_cellsFrom] at hi
    exact h4 i hi

theorem srcCells_ok (hr : HR G φ h w) {esz n : Nat} {x : AV} {l : List AV} (hs : srcCells h esz n x = some l) {x' : Value} (hx : VR φ x x') (hlen : n ≤ (lenA x).getD 0) :
    ∃ a : Array Value, (Builtin.firstCells esz n x').run P w = .ok a w ∧ CellsR φ l a ∧ l.length = n * esz := by
  unfold srcCells at hs
  split at hs
  · obtain rfl := hx.nils_inv
    simp only [Option.some.injEq] at hs
    subst hs
    have hn : n = 0 := by simpa [lenA] using hlen
    refine ⟨#[], rfl, ⟨rfl, fun i hi => absurd hi (by simp), fun i hi => absurd hi (by simp)⟩, by simp [hn]⟩
  · rename_i id off len cap ex e
    obtain ⟨b, base, cs, o, c, hp, ho, hl, hc, he, hcs, hz, rfl⟩ := hx.slice_inv
    split at hs
    · rename_i m dep d t hg
      split at hs
      · rename_i hle
        obtain ⟨rfl, hn, hm⟩ := hle
        simp only [Option.some.injEq] at hs
        subst hs
        rcases ho with rfl | ho
        · obtain ⟨a, h1, h2⟩ := cells_ok (P := P) hr hg hp hm
          exact ⟨a, h1, h2, length_cellsFrom _ _ _ _ _⟩
        · have hn0 : n = 0 := by omega
          subst hn0
          refine ⟨#[], ?_, ⟨by simp [cellsFrom], fun i hi => absurd hi (by simp [cellsFrom]), fun i hi => absurd hi (by simp [cellsFrom])⟩, by simp [cellsFrom]⟩
          simp [Builtin.firstCells, loadCells, loadCellsFrom]
      · simp at hs
    · simp at hs
  · rename_i s
    obtain ⟨s, rfl, rfl⟩ := hx.str_inv
    split at hs
    · rename_i hle
      obtain ⟨rfl, hn⟩ := hle
      simp only [Option.some.injEq] at hs
      subst hs
      have hlen2 : (s.data.toList.map UInt8.toNat).length = s.size := by rw [List.length_map, Array.length_toList]; rfl
      rw [hlen2] at hn
      refine ⟨_, rfl, bytes_cells s n hn, ?_⟩
      simp only [List.length_map, List.length_take, Array.length_toList]
      have : s.data.size = s.size := rfl
      omega
    · simp at hs
  · simp at hs

theorem lenA_ok {x : AV} {n : Nat} (hl : lenA x = some n) {x' : Value} (hx : VR φ x x') : (Builtin.lenOf x').run P w = .ok n w := by
  unfold lenA at hl
  split at hl
  · obtain rfl := hx.nils_inv
    simp only [Option.some.injEq] at hl
    subst hl
    rfl
  · obtain ⟨b, base, cs, o, c, hp, ho, hl', hc, he, hcs, hz, rfl⟩ := hx.slice_inv
    simp only [Option.some.injEq] at hl
    subst hl
    rfl
  · obtain ⟨s, rfl, rfl⟩ := hx.str_inv
    simp only [Option.some.injEq] at hl
    subst hl
    rw [List.length_map, Array.length_toList]
    rfl
  · simp at hl

omit [Val] in
theorem grown_spec (n dep : Nat) (d : AV) (t : Tr AV) (off cnt : Nat) (new : List AV) :
    (grown n dep d t off cnt new).n = cnt + new.length ∧ (grown n dep d t off cnt new).Wf ∧
    ∀ i, i < cnt + new.length → (grown n dep d t off cnt new).get i = if i < cnt then cget dep d t (off + i) else new.getD (i - cnt) .junk := by
  have gen : ∀ (dep' : Nat) (d' : AV), cnt + new.length ≤ 2 ^ dep' → ∀ i, i < cnt + new.length → cget dep' d' (setFrom dep' .e 0 (cellsFrom dep d t off cnt ++ new)) i =
      if i < cnt then cget dep d t (off + i) else new.getD (i - cnt) .junk := by
    intro dep' d' hle i hi
    have hl : (cellsFrom dep d t off cnt ++ new).length = cnt + new.length := by rw [List.length_append, length_cellsFrom]
    rw [cget_setFrom _ _ _ _ _ _ (by rw [hl]; omega) (by omega), hl, if_pos (by omega), Nat.sub_zero]
    by_cases h : i < cnt
    · rw [if_pos h, List.getD_eq_getElem?_getD, List.getElem?_append_left (by rw [length_cellsFrom]; exact h), ← List.getD_eq_getElem?_getD, getD_cellsFrom _ _ _ _ _ _ _ h]
    · rw [if_neg h, List.getD_eq_getElem?_getD, List.getElem?_append_right (by rw [length_cellsFrom]; omega), length_cellsFrom, ← List.getD_eq_getElem?_getD]
  unfold grown
  split
  · rename_i hc
    obtain ⟨rfl, rfl, hd⟩ := hc
    dsimp only
    cases hb : Nat.ble (cnt + new.length) (2 ^ dep) with
    | true =>
      have hle := Nat.le_of_ble_eq_true hb
      simp only [cond_true]
      refine ⟨trivial, ⟨hle⟩, fun i hi => ?_⟩
      simp only [Vec.get]
      rw [cget_setFrom _ _ _ _ _ _ hle (by omega)]
      by_cases h : i < cnt
      · rw [if_neg (by omega), if_pos h, Nat.zero_add]
      · rw [if_pos (by omega), if_neg h]
    | false =>
      simp only [cond_false]
      refine ⟨trivial, ⟨le_depFor _⟩, fun i hi => ?_⟩
      exact gen _ _ (le_depFor _) i hi
  · have hl : (cellsFrom dep d t off cnt ++ new).length = cnt + new.length := by rw [List.length_append, length_cellsFrom]
    refine ⟨by rw [vecOf_n, hl], vecOf_wf _, fun i hi => ?_⟩
    rw [vecOf_get _ _ (by rw [hl]; exact hi)]
    by_cases h : i < cnt
    · rw [if_pos h, List.getD_eq_getElem?_getD, List.getElem?_append_left (by rw [length_cellsFrom]; exact h), ← List.getD_eq_getElem?_getD, getD_cellsFrom _ _ _ _ _ _ _ h]
    · rw [if_neg h, List.getD_eq_getElem?_getD, List.getElem?_append_right (by rw [length_cellsFrom]; omega), length_cellsFrom, ← List.getD_eq_getElem?_getD]

omit [Val] in
theorem growBy_le (n c : Nat) : Builtin.growBy n 4 c ≤ 4 * c + 3000 := by
  simp only [Builtin.growBy]
  (repeat' split) <;> omega

omit [Val] in
theorem nextcap_le (need cap : Nat) (h : cap < need) : Builtin.nextslicecap need cap ≤ 4 * need + 5000 := by
  unfold Builtin.nextslicecap
  split
  · omega
  · split
    · omega
    · have := growBy_le need cap
      omega

omit [Val] in
/-- The head of an append: it is no append of a make. -/
theorem append_head {ts : Array TypeId} {t e : TypeId} (ht0 : ts[0]? = some t) (hu : P.underlying t = some (.slice e)) {esz : Nat} (hsz : size? P e = some esz)
    (ht1 : ∀ u, ts[1]? = some u → ∃ d, P.underlying u = some d ∧ ∀ k, d ≠ .int k) (ty : TypeId) {base : Option Addr} {sLen sCap k : Nat} {x' : Value}
    (hlen : (Builtin.lenOf x').run P w = .ok k w) (R : Result Value)
    (hroom : sLen + k ≤ sCap → ((do
        let new ← Builtin.firstCells esz k x'
        if let some a := base then storeCells (a.add (sLen * esz)) new.toList
        pure (Value.slice base (sLen + k) sCap) : Sem Value).run P w) = R)
    (hnone : ¬ sLen + k ≤ sCap → ((do
        if ((sLen + k : Nat) : Int) > IntKind.i64.max ∧ (False ∨ (← typeInfo e).bytes = 0) then runtimePanic (.error "growslice: len out of range")
        if Builtin.nextslicecap (sLen + k) sCap * (← typeInfo e).bytes > 2 ^ 48 then (do
          if !(← Builtin.mayShare esz sLen k base x') then mark .noRoom
          unsupported (.resourceLimit "append: a slice or a string whose bytes no memory bears"))
        let newCap ← choose (.appendCap (sLen + k) sCap e)
        askRoom (newCap * (← typeInfo e).bytes)
        let old ← Builtin.firstCells esz sLen (.slice base sLen sCap)
        let new ← Builtin.firstCells esz k x'
        let rest := Builtin.zeroCells (← zeroValue e).cells (newCap - (sLen + k))
        pure (.slice (some (← newRow e (old ++ new ++ rest))) (sLen + k) newCap) : Sem Value).run P w) = R) :
    (Builtin.append_ ts ty #[.slice base sLen sCap, x']).run P w = R := by
  have key : ∀ zs : Sem Bool, (∀ w, zs.run P w = .ok false w) → True := fun _ _ => trivial
  clear key
  by_cases hr : sLen + k ≤ sCap
  · rw [← hroom hr]
    cases h1 : ts[1]? with
    | none =>
      simp only [Builtin.append_, ht0, h1, List.getElem?_toArray, List.getElem?_cons_zero, List.getElem?_cons_succ, Sem.run_bind, run_und hu, run_size hsz, Result.andThen_ok, Sem.run_pure,
        Bool.false_eq_true, if_false, hlen, hr, if_true, Bool.not_false]
      rfl
    | some u =>
      obtain ⟨d, hd, hni⟩ := ht1 u h1
      simp only [Builtin.append_, ht0, h1, List.getElem?_toArray, List.getElem?_cons_zero, List.getElem?_cons_succ, Sem.run_bind, run_und hu, run_und hd, run_size hsz, Result.andThen_ok, Sem.run_pure]
      cases d <;> first
        | exact absurd rfl (hni _)
        | (simp only [Bool.false_eq_true, if_false, Sem.run_bind, hlen, Result.andThen_ok, hr, if_true, Bool.not_false]; rfl)
  · rw [← hnone hr]
    cases h1 : ts[1]? with
    | none =>
      simp only [Builtin.append_, ht0, h1, List.getElem?_toArray, List.getElem?_cons_zero, List.getElem?_cons_succ, Sem.run_bind, run_und hu, run_size hsz, Result.andThen_ok, Sem.run_pure,
        Bool.false_eq_true, if_false, hlen, hr, Bool.not_false, if_true]
    | some u =>
      obtain ⟨d, hd, hni⟩ := ht1 u h1
      simp only [Builtin.append_, ht0, h1, List.getElem?_toArray, List.getElem?_cons_zero, List.getElem?_cons_succ, Sem.run_bind, run_und hu, run_und hd, run_size hsz, Result.andThen_ok, Sem.run_pure]
      cases d <;> first
        | exact absurd rfl (hni _)
        | (simp only [Bool.false_eq_true, if_false, Sem.run_bind, hlen, Result.andThen_ok, hr, Bool.not_false, if_true])

/-- What an append that finds no room leaves: new cells, behind the old ones' copies, and more. -/
theorem append_new (hr : HR G φ h w) {e : TypeId} {esz : Nat} (hsz : size? P e = some esz) (hpos : 0 < esz) {i : TypeInfo} (hi : P.info? e = some i) {z : AV} (hz : zero? P e = some z)
    {zv : Vec} (hzv : z.vec = some zv) (hzn : zv.n = esz) {x' : Value} {sLen sCap k : Nat} {base : Option Addr}
    (hcap : sCap < sLen + k) (hbound : (4 * (sLen + k) + 5000) * i.bytes ≤ 1000000000000) (hby : 0 < i.bytes)
    {old new : List AV} {olda newa : Array Value}
    (hold : (Builtin.firstCells esz sLen (.slice base sLen sCap)).run P w.drew = .ok olda w.drew) (holdr : CellsR φ old olda) (holdn : old.length = sLen * esz)
    (hnew : (Builtin.firstCells esz k x').run P w.drew = .ok newa w.drew) (hnewr : CellsR φ new newa) (hnewn : new.length = k * esz) (hlen : (Builtin.lenOf x').run P w = .ok k w)
    {v : Vec} (hvn : v.n = (sLen + k) * esz) (hvw : v.Wf) (hvg : ∀ j, j < (sLen + k) * esz → v.get j = if j < sLen * esz then old.getD j .junk else new.getD (j - sLen * esz) .junk)
    {id : Nat} {h' : H} (hal : allocA h v = some (id, h')) {ts : Array TypeId} {t : TypeId} (ht0 : ts[0]? = some t) (hu : P.underlying t = some (.slice e))
    (ht1 : ∀ u, ts[1]? = some u → ∃ d, P.underlying u = some d ∧ ∀ k, d ≠ .int k) (ty : TypeId) :
    ∃ φ' v' w', (Builtin.append_ ts ty #[.slice base sLen sCap, x']).run P w = .ok v' w' ∧ VR φ' (.slice id 0 (sLen + k) (sLen + k) false esz) v' ∧ HR G φ' h' w' ∧ Post φ h w φ' h' w' := by
  obtain ⟨z', hzr, hzrel⟩ := run_zero hz w.drew φ
  have hzs : z'.cells.size = esz := by rw [(VecR.of_vec hzrel hzv).size, hzn]
  -- the capacity that is drawn
  generalize hcp : (Question.appendCap (sLen + k) sCap e).cut (w.tape w.drawn (.appendCap (sLen + k) sCap e)) = cap
  have hcapge : sLen + k ≤ cap := by
    rw [← hcp]
    show sLen + k ≤ (sLen + k) + _
    omega
  generalize hrest : Builtin.zeroCells z'.cells (cap - (sLen + k)) = rest
  have hrs : rest.size = (cap - (sLen + k)) * esz := by
    rw [← hrest]
    simp [Builtin.zeroCells, hzs]
  have hneed : sLen + k ≤ 1000000000000 := by
    have h1 : (4 * (sLen + k) + 5000) * 1 ≤ (4 * (sLen + k) + 5000) * i.bytes := Nat.mul_le_mul_left _ hby
    omega
  have ho := holdr.size
  have hn := hnewr.size
  have hcsz : (olda ++ newa ++ rest).size = cap * esz := by
    simp only [Array.size_append, ho, hn, holdn, hnewn, hrs]
    rw [← Nat.add_mul, ← Nat.add_mul]
    congr 1
    omega
  have hcs : (sLen + k) * esz ≤ (olda ++ newa ++ rest).size := by
    rw [hcsz]; exact Nat.mul_le_mul_right _ hcapge
  have hget : ∀ j, j < (sLen + k) * esz → (olda ++ newa ++ rest).getD j undef = if j < sLen * esz then olda.getD j undef else newa.getD (j - sLen * esz) undef := by
    intro j hj
    rw [Nat.add_mul] at hj
    by_cases hlt : j < sLen * esz
    · rw [if_pos hlt, Array.getD_eq_getD_getElem?, Array.getD_eq_getD_getElem?, Array.getElem?_append_left (by rw [Array.size_append]; omega), Array.getElem?_append_left (by omega)]
    · rw [if_neg hlt, Array.getD_eq_getD_getElem?, Array.getD_eq_getD_getElem?, Array.getElem?_append_left (by rw [Array.size_append]; omega), Array.getElem?_append_right (by omega), ho, holdn]
  have hcells := cells_new (hr.drew) hal hvw e (c := olda ++ newa ++ rest) (by rw [hvn]; exact hcs) (fun j hj => by
      rw [hvn] at hj
      rw [hvg j hj, hget j hj]
      split
      · exact holdr.get j (by omega)
      · exact hnewr.get _ (by rw [Nat.add_mul] at hj; omega)) (fun j hj => by
      rw [hvn] at hj
      rw [hget j hj]
      split
      · exact holdr.plain j (by omega)
      · exact hnewr.plain _ (by rw [Nat.add_mul] at hj; omega))
  obtain ⟨a, b⟩ := hcells
  refine ⟨_, .slice (some ⟨w.heap.size, 0, none⟩) (sLen + k) cap, _, ?_, ?_, a, (Post.drew φ h w).trans b⟩
  · refine append_head ht0 hu hsz ht1 ty hlen _ (fun hle => by omega) (fun _ => ?_)
    have c1 : ¬ (((sLen + k : Nat) : Int) > IntKind.i64.max ∧ (False ∨ i.bytes = 0)) := by
      rintro ⟨_, h | h⟩
      · exact h
      · omega
    have c2 : ¬ Builtin.nextslicecap (sLen + k) sCap * i.bytes > 2 ^ 48 := by
      have h1 := nextcap_le (sLen + k) sCap hcap
      have h2 : Builtin.nextslicecap (sLen + k) sCap * i.bytes ≤ (4 * (sLen + k) + 5000) * i.bytes := Nat.mul_le_mul_right _ h1
      omega
    have hf : (Question.appendCap (sLen + k) sCap e).forced = false := rfl
    simp only [Sem.run_bind, run_info hi, Result.andThen_ok, c1, if_false, Sem.run_pure, c2, run_choose, hf, Bool.false_eq_true, World.drew_eq, run_askRoom, hold, hnew, hzr, newRow, run_newObj']
    rw [← hcp] at hrest ⊢
    rw [← hrest]
    rfl
  · refine .slice (Phi.set_same _ _ _) (.inl (by simp)) (Nat.le_refl _) hcapge (fun h => by simp at h) ?_ hpos
    rw [hcsz]
    omega

theorem appendA_ok (hr : HR G φ h w) {t : TypeId} {s x v : AV} {h' : H} (ha : appendA P t s x h = some (v, h')) {s' x' : Value} (hs : VR φ s s') (hx : VR φ x x')
    {ts : Array TypeId} (ht0 : ts[0]? = some t) (ht1 : ∀ u, ts[1]? = some u → ∃ d, P.underlying u = some d ∧ ∀ k, d ≠ .int k) (ty : TypeId) :
    ∃ φ' v' w', (Builtin.append_ ts ty #[s', x']).run P w = .ok v' w' ∧ VR φ' v v' ∧ HR G φ' h' w' ∧ Post φ h w φ' h' w' := by
  unfold appendA at ha
  split at ha
  · rename_i e hu
    split at ha
    · rename_i sz i zv hsz hi hzv0
      have hsz : size? P e = some (sz + 1) := hsz
      obtain ⟨z, hz, hzv⟩ : ∃ z, zero? P e = some z ∧ z.vec = some zv := by
        cases hz : zero? P e with
        | none => rw [hz] at hzv0; simp at hzv0
        | some z => rw [hz] at hzv0; exact ⟨z, rfl, hzv0⟩
      split at ha
      · simp at ha
      · rename_i hzn0
        have hzn : zv.n = sz + 1 := by simpa using hzn0
        split at ha
        · rename_i k hk
          have hlen := lenA_ok (P := P) (w := w) hk hx
          split at ha
          · rename_i new hnew
            have hkle : k ≤ (lenA x).getD 0 := by rw [hk]; exact Nat.le_refl _
            obtain ⟨newa, hnr, hnrel, hnl⟩ := srcCells_ok (P := P) hr hnew hx hkle
            obtain ⟨newa2, hnr2, hnrel2, _⟩ := srcCells_ok (P := P) hr.drew hnew hx hkle
            split at ha
            · -- nil
              obtain rfl := hs.nils_inv
              split at ha
              · rename_i hk0
                subst hk0
                simp only [Option.some.injEq, Prod.mk.injEq] at ha
                obtain ⟨rfl, rfl⟩ := ha
                refine ⟨φ, .slice none 0 0, w, ?_, .nils, hr, Post.refl _ _ _⟩
                refine append_head ht0 hu hsz ht1 ty hlen _ (fun _ => ?_) (fun hn => by omega)
                simp only [Sem.run_bind, hnr, Result.andThen_ok, Sem.run_pure, Nat.add_zero]
              · rename_i hk0
                split at ha
                · rename_i hb
                  cases hal : allocA h (vecOf new) with
                  | none => rw [hal] at ha; simp at ha
                  | some p =>
                    obtain ⟨id, h2⟩ := p
                    rw [hal] at ha
                    simp only [Option.map_some, Option.some.injEq, Prod.mk.injEq] at ha
                    obtain ⟨rfl, rfl⟩ := ha
                    have := append_new (P := P) hr hsz (by omega) hi hz hzv hzn (x' := x') (sLen := 0) (sCap := 0) (k := k) (base := none) (by omega) (by rw [Nat.zero_add]; exact hb.1) hb.2
                      (old := []) (olda := #[]) (new := new) (newa := newa2) rfl ⟨rfl, fun i hi => absurd hi (by simp), fun i hi => absurd hi (by simp)⟩ (by simp) hnr2 hnrel2 hnl hlen
                      (v := vecOf new) (by rw [vecOf_n, hnl, Nat.zero_add]) (vecOf_wf _) (fun j hj => by
                        rw [Nat.zero_add] at hj
                        rw [vecOf_get _ _ (by rw [hnl]; exact hj), if_neg (by simp)]
                        simp) hal ht0 hu ht1 ty
                    simpa using this
                · simp at ha
            · rename_i id off len cap ex esz
              obtain ⟨b, base, cs, o, c, hp, ho, hl, hc, he, hcs, hz0, rfl⟩ := hs.slice_inv
              split at ha
              · rename_i hesz
                subst hesz
                split at ha
                · rename_i hk0
                  subst hk0
                  simp only [Option.some.injEq, Prod.mk.injEq] at ha
                  obtain ⟨rfl, rfl⟩ := ha
                  refine ⟨φ, .slice (some ⟨b, o, none⟩) len c, w, ?_, hs, hr, Post.refl _ _ _⟩
                  refine append_head ht0 hu hsz ht1 ty hlen _ (fun _ => ?_) (fun hn => by omega)
                  have hn0 : newa.toList = [] := by
                    have := hnrel.size
                    rw [hnl, Nat.zero_mul] at this
                    exact List.eq_nil_of_length_eq_zero (by simpa using this)
                  simp only [Sem.run_bind, hnr, Result.andThen_ok, hn0, storeCells, Sem.run_pure, Nat.add_zero]
                · rename_i hk0
                  split at ha
                  · -- there is room surely
                    rename_i hroom
                    cases hst : storeA h id (off + len * (sz + 1)) (vecOf new) with
                    | none => rw [hst] at ha; simp at ha
                    | some h2 =>
                      rw [hst] at ha
                      simp only [Option.map_some, Option.some.injEq, Prod.mk.injEq] at ha
                      obtain ⟨rfl, rfl⟩ := ha
                      have ho' : o = base + off := by rcases ho with h | h <;> omega
                      have hv := hnrel.vec
                      obtain ⟨w', hrun, hr', hpost⟩ := store_ok (P := P) hr hp hst hv.wf (vals := newa.toList) (by simpa using hv.size) (fun j hj => by rw [getD_toList]; exact hv.get j hj) hnrel.all
                      refine ⟨φ, .slice (some ⟨b, o, none⟩) (len + k) c, w', ?_, .slice hp ho (by omega) hc he hcs hz0, hr', hpost⟩
                      refine append_head ht0 hu hsz ht1 ty hlen _ (fun _ => ?_) (fun hn => by omega)
                      simp only [Sem.run_bind, hnr, Result.andThen_ok, add_none]
                      rw [ho', Nat.add_assoc, hrun]
                      simp only [Result.andThen_ok, Sem.run_pure]
                  · rename_i hroom
                    split at ha
                    · rename_i hb
                      split at ha
                      · rename_i n dep d tr hg
                        split at ha
                        · rename_i hle
                          obtain ⟨gn, gw, gg⟩ := grown_spec n dep d tr off (len * (sz + 1)) new
                          have hvn : (grown n dep d tr off (len * (sz + 1)) new).n = (len + k) * (sz + 1) := by rw [gn, hnl, Nat.add_mul]
                          have hvg : ∀ j, j < (len + k) * (sz + 1) → (grown n dep d tr off (len * (sz + 1)) new).get j =
                              if j < len * (sz + 1) then (cellsFrom dep d tr off (len * (sz + 1))).getD j .junk else new.getD (j - len * (sz + 1)) .junk := by
                            intro j hj
                            rw [gg j (by rw [hnl]; rw [Nat.add_mul] at hj; exact hj)]
                            split
                            · rename_i hlt; rw [getD_cellsFrom _ _ _ _ _ _ _ hlt]
                            · rfl
                          -- the old cells
                          have holdc : ∀ {w2 : World}, HR G φ h w2 → ∃ a, (Builtin.firstCells (sz + 1) len (.slice (some ⟨b, o, none⟩) len c)).run P w2 = .ok a w2 ∧ CellsR φ (cellsFrom dep d tr off (len * (sz + 1))) a := by
                            intro w2 hr2
                            rcases ho with rfl | ho
                            · exact cells_ok (P := P) hr2 hg hp hle
                            · have hl0 : len = 0 := by omega
                              subst hl0
                              rw [Nat.zero_mul]
                              exact ⟨#[], by simp [Builtin.firstCells, loadCells, loadCellsFrom], ⟨rfl, fun i hi => absurd hi (by simp [cellsFrom]), fun i hi => absurd hi (by simp [cellsFrom])⟩⟩
                          by_cases hneed : len + k ≤ c
                          · -- there is room, as it turns out
                            have hex : ex = false := by
                              cases ex with
                              | false => rfl
                              | true => have := he rfl; omega
                            subst hex
                            simp only [Bool.false_eq_true, if_false] at ha
                            cases hal : allocA (h.set id .dead) (grown n dep d tr off (len * (sz + 1)) new) with
                            | none => rw [hal] at ha; simp at ha
                            | some p =>
                              obtain ⟨id', h2⟩ := p
                              rw [hal] at ha
                              simp only [Option.map_some, Option.some.injEq, Prod.mk.injEq] at ha
                              obtain ⟨rfl, rfl⟩ := ha
                              have ho' : o = base + off := by rcases ho with h | h <;> omega
                              subst ho'
                              obtain ⟨hn, hle2, c0, e0, fz, hblk, hc0, hfz, hcv, hcp⟩ := obj_cells hr hg hp
                              have hroomc : base + off + (len + k) * (sz + 1) ≤ cs := by
                                have : (len + k) * (sz + 1) ≤ c * (sz + 1) := Nat.mul_le_mul_right _ hneed
                                omega
                              rw [Nat.add_mul] at hroomc
                              have hnsz : newa.toList.length = k * (sz + 1) := by rw [Array.length_toList, hnrel.size, hnl]
                              have hrun := run_storeCells (P := P) b (base + off + len * (sz + 1)) e0 fz newa.toList 0 c0 w hblk (by rw [hc0]; exact hfz.no) (by rw [hnsz, hc0]; omega) hnrel.all
                              obtain ⟨k1, k2⟩ := kill_ok hr hg rfl hp
                              have hgd : (h.set id .dead).get id = some .dead := by rw [H.get_set _ (hr.id_lt hp) (hr.id_lt hp), if_pos rfl]
                              have hfree : ∀ j oo q, (h.set id .dead).get j = some oo → oo.alive = true → φ j = some q → q.1 ≠ b := by
                                intro j oo q hgj hal2 hq e
                                rw [H.get_set _ (hr.id_lt hp) (hr.id_lt hq)] at hgj
                                split at hgj
                                · simp only [Option.some.injEq] at hgj; subst hgj; simp [AObj.alive] at hal2
                                · rename_i hne
                                  exact hne (hr.inj id j _ oo (b, base, cs) q hg hgj rfl hal2 hp hq e.symm)
                              have hnone : φ id' = none := by
                                obtain ⟨rfl, _⟩ := H.new_spec hal
                                cases e : φ (h.set id .dead).nx with
                                | none => rfl
                                | some p => exact absurd (k1.dom _ _ e).1 (by omega)
                              have hor : OR (φ.set id' (b, base + off, cs)) (.cells (grown n dep d tr off (len * (sz + 1)) new).n (grown n dep d tr off (len * (sz + 1)) new).dep
                                  (grown n dep d tr off (len * (sz + 1)) new).d (grown n dep d tr off (len * (sz + 1)) new).t) (b, base + off, cs)
                                  (some (.cells (spl c0 (base + off + len * (sz + 1) + 0) newa.toList) e0 fz)) := by
                                have hmono : ∀ {a : AV} {a' : Value}, VR φ a a' → VR (φ.set id' (b, base + off, cs)) a a' := fun h => h.mono (Phi.le_set _ hnone)
                                refine ⟨gw.le, by rw [hvn, Nat.add_mul]; exact hroomc, _, e0, fz, rfl, by rw [spl_size]; exact hc0, hfz, fun j hj => ?_, fun j hj => ?_⟩
                                · rw [hvn] at hj
                                  have hgj := hvg j hj
                                  unfold Vec.get at hgj
                                  rw [hgj]
                                  show VR _ _ ((spl c0 (base + off + len * (sz + 1) + 0) newa.toList).getD (base + off + j) undef)
                                  rw [Nat.add_mul] at hj
                                  rw [spl_get _ _ _ _ (by rw [hnsz, hc0]; omega)]
                                  by_cases hlt : j < len * (sz + 1)
                                  · rw [if_pos hlt, if_neg (by omega), getD_cellsFrom _ _ _ _ _ _ _ hlt]
                                    have := hcv (off + j) (by omega)
                                    rw [← Nat.add_assoc] at this
                                    exact hmono this
                                  · rw [if_neg hlt, if_pos (by omega), getD_toList]
                                    rw [show base + off + j - (base + off + len * (sz + 1) + 0) = j - len * (sz + 1) by omega]
                                    exact hmono (hnrel.get _ (by omega))
                                · rw [hvn] at hj
                                  show plainCell ((spl c0 (base + off + len * (sz + 1) + 0) newa.toList).getD (base + off + j) undef) = true
                                  rw [Nat.add_mul] at hj
                                  rw [spl_get _ _ _ _ (by rw [hnsz, hc0]; omega)]
                                  by_cases hlt : j < len * (sz + 1)
                                  · rw [if_neg (by omega)]
                                    have := hcp (off + j) (by omega)
                                    rw [← Nat.add_assoc] at this
                                    exact this
                                  · rw [if_pos (by omega), getD_toList]
                                    rw [show base + off + j - (base + off + len * (sz + 1) + 0) = j - len * (sz + 1) by omega]
                                    exact hnrel.plain _ (by omega)
                              obtain ⟨a1, a2⟩ := alias_ok k1 hgd hp hfree hal hor
                              refine ⟨_, .slice (some ⟨b, base + off, none⟩) (len + k) c, _, ?_, ?_, a1, k2.trans a2⟩
                              · refine append_head ht0 hu hsz ht1 ty hlen _ (fun _ => ?_) (fun hn => by omega)
                                simp only [Sem.run_bind, hnr, Result.andThen_ok, add_none, hrun, Sem.run_pure]
                              · exact .slice (Phi.set_same _ _ _) (.inl rfl) (Nat.le_refl _) hneed (fun h => by simp at h) hcs hz0
                          · -- there is none
                            have hcap : c < len + k := by omega
                            cases ex with
                            | true =>
                              simp only [if_true] at ha
                              cases hal : allocA h (grown n dep d tr off (len * (sz + 1)) new) with
                              | none => rw [hal] at ha; simp at ha
                              | some p =>
                                obtain ⟨id', h2⟩ := p
                                rw [hal] at ha
                                simp only [Option.map_some, Option.some.injEq, Prod.mk.injEq] at ha
                                obtain ⟨rfl, rfl⟩ := ha
                                obtain ⟨olda, hor, horel⟩ := holdc hr.drew
                                exact append_new (P := P) hr hsz (by omega) hi hz hzv hzn hcap hb.1 hb.2 hor horel (length_cellsFrom _ _ _ _ _) hnr2 hnrel2 hnl hlen hvn gw hvg hal ht0 hu ht1 ty
                            | false =>
                              simp only [Bool.false_eq_true, if_false] at ha
                              cases hal : allocA (h.set id .dead) (grown n dep d tr off (len * (sz + 1)) new) with
                              | none => rw [hal] at ha; simp at ha
                              | some p =>
                                obtain ⟨id', h2⟩ := p
                                rw [hal] at ha
                                simp only [Option.map_some, Option.some.injEq, Prod.mk.injEq] at ha
                                obtain ⟨rfl, rfl⟩ := ha
                                obtain ⟨olda, hor, horel⟩ := holdc hr.drew
                                obtain ⟨k1, k2⟩ := kill_ok hr hg rfl hp
                                obtain ⟨φ', v', w', r1, r2, r3, r4⟩ := append_new (P := P) k1 hsz (by omega) hi hz hzv hzn hcap hb.1 hb.2 hor horel (length_cellsFrom _ _ _ _ _) hnr2 hnrel2 hnl hlen hvn gw hvg hal ht0 hu ht1 ty
                                exact ⟨φ', v', w', r1, r2, r3, k2.trans r4⟩
                        · simp at ha
                      · simp at ha
                    · simp at ha
              · simp at ha
            · simp at ha
          · simp at ha
        · simp at ha
    · simp at ha
  · simp at ha
end
end Go.Ab
