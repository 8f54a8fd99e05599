/-
  The abstract machine's maps come to what the model's maps come to.
  Conditions: those that each lemma names.
-/
import Derived.Test.YtiajkflemnaabaaGreatBbH
namespace Go.Ab
variable [Val]

inductive ERs (φ : Phi) : List (AV × AV × Nat) → List MapEntry → Prop
  | nil : ERs φ [] []
  | cons {e : AV × AV × Nat} {m : MapEntry} {es : List (AV × AV × Nat)} {ms : List MapEntry} (h : ER φ e m) (t : ERs φ es ms) : ERs φ (e :: es) (m :: ms)

namespace ERs
variable {φ : Phi}
theorem of_get : ∀ {es : List (AV × AV × Nat)} {ms : List MapEntry}, ms.length = es.length → (∀ i (h : i < es.length) (h' : i < ms.length), ER φ es[i] ms[i]) → ERs φ es ms
  | [], [], _, _ => .nil
  | [], _ :: _, h, _ => by simp at h
  | _ :: _, [], h, _ => by simp at h
  | e :: es, m :: ms, hl, he => .cons (he 0 (by simp) (by simp)) (of_get (by simpa using hl) fun i h h' => by
      have := he (i + 1) (by simp; omega) (by simp; omega)
      simpa using this)

theorem length {es : List (AV × AV × Nat)} {ms : List MapEntry} (h : ERs φ es ms) : ms.length = es.length := by
  induction h with
  | nil => rfl
  | cons _ _ ih => simp [ih]

theorem get {es : List (AV × AV × Nat)} {ms : List MapEntry} (h : ERs φ es ms) : ∀ i (h1 : i < es.length) (h2 : i < ms.length), ER φ es[i] ms[i] := by
  induction h with
  | nil => intro i h1; simp at h1
  | cons hd _ ih =>
    intro i h1 h2
    cases i with
    | zero => exact hd
    | succ i => simpa using ih i (by simpa using h1) (by simpa using h2)

theorem append {es es' : List (AV × AV × Nat)} {ms ms' : List MapEntry} (h : ERs φ es ms) (h' : ERs φ es' ms') : ERs φ (es ++ es') (ms ++ ms') := by
  induction h with
  | nil => exact h'
  | cons hd _ ih => exact .cons hd ih

theorem filter {es : List (AV × AV × Nat)} {ms : List MapEntry} (h : ERs φ es ms) {p : AV × AV × Nat → Bool} {q : MapEntry → Bool} (hpq : ∀ e m, ER φ e m → p e = q m) :
    ERs φ (es.filter p) (ms.filter q) := by
  induction h with
  | nil => exact .nil
  | cons hd _ ih =>
    simp only [List.filter_cons, hpq _ _ hd]
    split
    · exact .cons hd ih
    · exact ih

theorem all {es : List (AV × AV × Nat)} {ms : List MapEntry} (h : ERs φ es ms) {p : AV × AV × Nat → Bool} {q : MapEntry → Bool} (hpq : ∀ e m, ER φ e m → p e = q m) :
    es.all p = ms.all q := by
  induction h with
  | nil => rfl
  | cons hd _ ih => simp [hpq _ _ hd, ih]

theorem modify {es : List (AV × AV × Nat)} {ms : List MapEntry} (h : ERs φ es ms) {f : AV × AV × Nat → AV × AV × Nat} {g : MapEntry → MapEntry} (hfg : ∀ e m, ER φ e m → ER φ (f e) (g m)) :
    ∀ i, ERs φ (es.modify i f) (ms.modify i g) := by
  induction h with
  | nil => intro i; cases i <;> exact .nil
  | cons hd ht ih =>
    intro i
    cases i with
    | zero => simp only [List.modify_zero_cons]; exact .cons (hfg _ _ hd) ht
    | succ i => simp only [List.modify_succ_cons]; exact .cons hd (ih i)

theorem erase {es : List (AV × AV × Nat)} {ms : List MapEntry} (h : ERs φ es ms) : ∀ i, ERs φ (es.eraseIdx i) (ms.eraseIdx i) := by
  induction h with
  | nil => intro i; exact .nil
  | cons hd ht ih =>
    intro i
    cases i with
    | zero => exact ht
    | succ i => exact .cons hd (ih i)

theorem findIdx {es : List (AV × AV × Nat)} {ms : List MapEntry} (h : ERs φ es ms) {p : AV × AV × Nat → Bool} {q : MapEntry → Bool} (hpq : ∀ e m, ER φ e m → p e = q m) :
    es.findIdx? p = ms.findIdx? q := by
  induction h with
  | nil => rfl
  | cons hd _ ih => simp only [List.findIdx?_cons, hpq _ _ hd, ih]

theorem find {es : List (AV × AV × Nat)} {ms : List MapEntry} (h : ERs φ es ms) {p : AV × AV × Nat → Bool} {q : MapEntry → Bool} (hpq : ∀ e m, ER φ e m → p e = q m)
    {e : AV × AV × Nat} (hf : es.find? p = some e) : ∃ m, ms.find? q = some m ∧ ER φ e m := by
  induction h with
  | nil => simp at hf
  | cons hd _ ih =>
    simp only [List.find?_cons, hpq _ _ hd] at hf ⊢
    split at hf
    · simp only [Option.some.injEq] at hf
      subst hf
      exact ⟨_, rfl, hd⟩
    · exact ih hf
end ERs

section
variable {P : Program} {G : Nat} {φ : Phi} {h : H} {w : World}

omit [Val] in
theorem run_getObj {r : Nat} {o : Obj} (hb : w.heap[r]? = some o) (hc : ∀ c e f, o ≠ .cells c e f) : (getObj r).run P w = .ok o w := by
  cases o <;> first | exact absurd rfl (hc _ _ _) | simp only [getObj, Sem.run, hb]

omit [Val] in
theorem run_setObj {r : Nat} {o o' : Obj} (hb : w.heap[r]? = some o) (hc : ∀ c e f, o ≠ .cells c e f) : (setObj r o').run P w = .ok () (setBlk w r o') := by
  cases o <;> first | exact absurd rfl (hc _ _ _) | (simp only [setObj, Sem.run, hb]; rfl)

theorem obj_map (hr : HR G φ h w) {id : Nat} {p : Nat × Nat × Nat} {es : List (AV × AV × Nat)} {clock : Nat} (hg : h.get id = some (.map es clock)) (hp : φ id = some p) :
    ∃ ms : List MapEntry, w.heap[p.1]? = some (.map ms.toArray clock) ∧ ERs φ es ms := by
  obtain ⟨ents, hb, hsz, he⟩ := hr.obj _ _ _ hg hp
  exact ⟨ents.toList, by simpa using hb, .of_get (by simpa using hsz) fun i h1 h2 => by simpa using he i h1 (by simpa using h2)⟩

theorem map_or {es : List (AV × AV × Nat)} {ms : List MapEntry} (hes : ERs φ es ms) (clock : Nat) (p : Nat × Nat × Nat) : OR φ (.map es clock) p (some (.map ms.toArray clock)) :=
  ⟨ms.toArray, rfl, by simpa using hes.length, fun i h1 h2 => by simpa using hes.get i h1 (by simpa using h2)⟩

theorem findKey_run {kt : TypeId} {k : AV} {k' : Value} (hk : VR φ k k') (hc : ckT P 8 kt k = true) (w : World) {es : List (AV × AV × Nat)} {ms : List MapEntry}
    {r : Option (Nat × AV × AV × Nat)} (hf : findA P kt k es 0 = some r) (hes : ERs φ es ms) :
    ∃ x, (Go.Instr.findKey kt k' ms).run P w = .ok x w ∧ Found r es ms 0 x := by
  have := findKey_ok (P := P) hk hc w (ms := ms.toArray) hf (by simpa using hes.length) (fun j h1 h2 => by simpa using hes.get j h1 (by simpa using h2))
  simpa using this

theorem lookupA_ok (hr : HR G φ h w) {t : TypeId} {x k v : AV} {ok : Bool} (hl : lookupA P t x k ok h = some v) {x' k' : Value} (hx : VR φ x x') (hk : VR φ k k') :
    ∃ v', (Go.Instr.lookup t x' k' ok).run P w = .ok v' w ∧ VR φ v v' := by
  unfold lookupA at hl
  split at hl
  · rename_i kt et hu
    split at hl
    · rename_i hck
      -- the entries
      have key : ∀ (es : List (AV × AV × Nat)) (ms : List MapEntry), ERs φ es ms →
          (match findA P kt k es 0 with
            | some (some (_, _, v, _)) => some (if ok then .tup [v, .bool true] else v)
            | some none => (match zero? P et with
              | some z => some (if ok then .tup [z, .bool false] else z)
              | none => none)
            | none => none) = some v →
          (Go.Instr.checkKey ms.toArray.isEmpty 10000 kt k').run P w = .ok () w ∧
          ((∃ j u u', (Go.Instr.findKey kt k' ms).run P w = .ok (some (j, u')) w ∧ VR φ u u' ∧ v = if ok then .tup [u, .bool true] else u) ∨
           (∃ z z', (Go.Instr.findKey kt k' ms).run P w = .ok none w ∧ (zeroValue et).run P w = .ok z' w ∧ VR φ z z' ∧ v = if ok then .tup [z, .bool false] else z)) := by
        intro es ms hes hv
        refine ⟨ckT_ok (P := P) (φ := φ) ms.toArray.isEmpty 8 kt k hck hk 10000 w (by decide), ?_⟩
        split at hv
        · rename_i j ka va b hf
          simp only [Option.some.injEq] at hv
          obtain ⟨y, hy, h1, h2, _, h4, rfl⟩ := findKey_run (P := P) hk hck w hf hes
          have her := hes.get (j - 0) h1 h2
          rw [h4] at her
          exact .inl ⟨j, va, _, hy, her.val, hv.symm⟩
        · rename_i hf
          split at hv
          · rename_i z hz
            simp only [Option.some.injEq] at hv
            obtain ⟨y, hy, rfl⟩ := findKey_run (P := P) hk hck w hf hes
            obtain ⟨z', hzr, hzv⟩ := run_zero hz w φ
            exact .inr ⟨z, z', hy, hzr, hzv, hv.symm⟩
          · simp at hv
        · simp at hv
      cases x <;> simp only [reduceCtorEq] at hl
      case nilm =>
        obtain rfl := hx.nilm_inv
        obtain ⟨hc, ⟨j, u, u', h1, h2, rfl⟩ | ⟨z, z', h1, h2, h3, rfl⟩⟩ := key [] [] .nil hl
        · refine ⟨if ok then .tuple #[u', .bool true] else u', ?_, ?_⟩
          · simp only [Go.Instr.lookup, Sem.run_bind, run_und hu, Result.andThen_ok, Sem.run_pure, hc, h1]
          · cases ok
            · exact h2
            · exact (LR.two h2 (.bool true)).tup
        · refine ⟨if ok then .tuple #[z', .bool false] else z', ?_, ?_⟩
          · simp only [Go.Instr.lookup, Sem.run_bind, run_und hu, Result.andThen_ok, Sem.run_pure, hc, h1, h2]
          · cases ok
            · exact h3
            · exact (LR.two h3 (.bool false)).tup
      case map id =>
        obtain ⟨p, hp, rfl⟩ := hx.map_inv
        cases hg : h.get id with
        | none => rw [hg] at hl; simp at hl
        | some o =>
          rw [hg] at hl
          cases o <;> simp only [reduceCtorEq] at hl
          rename_i es clock
          obtain ⟨ms, hb, hes⟩ := obj_map hr hg hp
          obtain ⟨hc, ⟨j, u, u', h1, h2, rfl⟩ | ⟨z, z', h1, h2, h3, rfl⟩⟩ := key es ms hes hl
          · refine ⟨if ok then .tuple #[u', .bool true] else u', ?_, ?_⟩
            · simp only [Go.Instr.lookup, Sem.run_bind, run_und hu, Result.andThen_ok, run_getObj hb (by simp), Sem.run_pure, hc, h1]
            · cases ok
              · exact h2
              · exact (LR.two h2 (.bool true)).tup
          · refine ⟨if ok then .tuple #[z', .bool false] else z', ?_, ?_⟩
            · simp only [Go.Instr.lookup, Sem.run_bind, run_und hu, Result.andThen_ok, run_getObj hb (by simp), Sem.run_pure, hc, h1, h2]
            · cases ok
              · exact h3
              · exact (LR.two h3 (.bool false)).tup
    · simp at hl
  · simp at hl

theorem stays_ok {a b : AV} (hs : sameKey a b = true) {a' b' : Value} (ha : VR φ a a') (hb : VR φ b b') : (Go.Instr.keyThatStays a' b').run P w = .ok b' w := by
  have : Go.Instr.sameBits 10000 a' b' = true := sameKey_bits hs ha hb 9999
  simp only [Go.Instr.keyThatStays, this, if_true, Sem.run_pure]

theorem mapUpdateA_ok (hr : HR G φ h w) {t : TypeId} {x k v : AV} {h' : H} (hl : mapUpdateA P t x k v h = some h') {x' k' v' : Value} (hx : VR φ x x') (hk : VR φ k k') (hv : VR φ v v') :
    ∃ w', (Go.Instr.mapUpdate t x' k' v').run P w = .ok () w' ∧ HR G φ h' w' ∧ Post φ h w φ h' w' := by
  unfold mapUpdateA at hl
  split at hl
  · rename_i kt et id hu
    obtain ⟨p, hp, rfl⟩ := hx.map_inv
    split at hl
    · rename_i es clock hg
      obtain ⟨ms, hb, hes⟩ := obj_map hr hg hp
      split at hl
      · rename_i hck
        have hck' := ckT_ok (P := P) (φ := φ) false 8 kt k hck hk 10000 w (by decide)
        split at hl
        · rename_i j ka va b hf
          split at hl
          · rename_i hsame
            simp only [Option.some.injEq] at hl
            subst hl
            obtain ⟨y, hy, h1, h2, _, h4, rfl⟩ := findKey_run (P := P) hk hck w hf hes
            simp only [Nat.sub_zero] at h1 h2 h4
            have her := hes.get j h1 h2
            rw [h4] at her
            refine ⟨_, ?_, set_ok hr hg rfl hp (map_or (hes.modify (f := fun e => (k, v, e.2.2)) (g := fun e => { e with key := k', val := v' }) (fun e m he => ⟨hk, hv, he.born⟩) j) clock p)⟩
            simp only [Go.Instr.mapUpdate, Sem.run_bind, run_und hu, Result.andThen_ok, run_getObj hb (by simp), hck', hy]
            have e1 : (ms.toArray[j]?.map (·.key)).getD k' = ms[j].key := by simp [h2]
            rw [e1, stays_ok (P := P) hsame her.key hk]
            simp only [Result.andThen_ok, run_setObj hb (by simp)]
            congr 2
            simp
          · simp at hl
        · rename_i hf
          simp only [Option.some.injEq] at hl
          subst hl
          obtain ⟨y, hy, rfl⟩ := findKey_run (P := P) hk hck w hf hes
          refine ⟨_, ?_, set_ok hr hg rfl hp (map_or (hes.append (.cons (e := (k, v, clock)) (m := { key := k', val := v', born := clock }) ⟨hk, hv, rfl⟩ .nil)) (clock + 1) p)⟩
          simp only [Go.Instr.mapUpdate, Sem.run_bind, run_und hu, Result.andThen_ok, run_getObj hb (by simp), hck', hy, run_setObj hb (by simp)]
          congr 2
          simp
        · simp at hl
      · simp at hl
    · simp at hl
  · simp at hl

theorem mapEntryA_ok (hr : HR G φ h w) {t : TypeId} {x k v : AV} {h' : H} (hl : mapEntryA P t x k h = some (v, h')) {x' k' : Value} (hx : VR φ x x') (hk : VR φ k k') :
    ∃ v' w', (Go.Instr.mapEntry t x' k').run P w = .ok v' w' ∧ VR φ v v' ∧ HR G φ h' w' ∧ Post φ h w φ h' w' := by
  unfold mapEntryA at hl
  split at hl
  · rename_i kt et id hu
    obtain ⟨p, hp, rfl⟩ := hx.map_inv
    split at hl
    · rename_i es clock hg
      obtain ⟨ms, hb, hes⟩ := obj_map hr hg hp
      split at hl
      · rename_i hck
        have hck' := ckT_ok (P := P) (φ := φ) false 8 kt k hck hk 10000 w (by decide)
        split at hl
        · rename_i j ka va b hf
          split at hl
          · rename_i hsame
            simp only [Option.some.injEq, Prod.mk.injEq] at hl
            obtain ⟨rfl, rfl⟩ := hl
            obtain ⟨y, hy, h1, h2, _, h4, rfl⟩ := findKey_run (P := P) hk hck w hf hes
            simp only [Nat.sub_zero] at h1 h2 h4
            have her := hes.get j h1 h2
            rw [h4] at her
            refine ⟨.tuple #[ms[j].val, .int .i64 ms[j].born], _, ?_, ?_, set_ok hr hg rfl hp (map_or (hes.modify (f := fun e => (k, e.2)) (g := fun e => { e with key := k' }) (fun e m he => ⟨hk, he.val, he.born⟩) j) clock p)⟩
            · simp only [Go.Instr.mapEntry, Sem.run_bind, run_und hu, Result.andThen_ok, run_getObj hb (by simp), hck', hy]
              have e1 : (ms.toArray[j]?.map (·.key)).getD k' = ms[j].key := by simp [h2]
              rw [e1, stays_ok (P := P) hsame her.key hk]
              simp only [Result.andThen_ok, run_setObj hb (by simp), Sem.run_pure, goInt, Nat.sub_zero]
              congr 2
              all_goals simp [h2]
            · refine (LR.two her.val ?_).tup
              rw [← her.born]
              exact .int _ _
          · simp at hl
        · rename_i hf
          split at hl
          · rename_i z hz
            simp only [Option.some.injEq, Prod.mk.injEq] at hl
            obtain ⟨rfl, rfl⟩ := hl
            obtain ⟨y, hy, rfl⟩ := findKey_run (P := P) hk hck w hf hes
            obtain ⟨z', hzr, hzv⟩ := run_zero hz w φ
            refine ⟨.tuple #[z', .int .i64 clock], _, ?_, (LR.two hzv (.int _ _)).tup,
              set_ok hr hg rfl hp (map_or (hes.append (.cons (e := (k, z, clock)) (m := { key := k', val := z', born := clock }) ⟨hk, hzv, rfl⟩ .nil)) (clock + 1) p)⟩
            simp only [Go.Instr.mapEntry, Sem.run_bind, run_und hu, Result.andThen_ok, run_getObj hb (by simp), hck', hy, hzr, run_setObj hb (by simp), Sem.run_pure, goInt]
            congr 2
            simp
          · simp at hl
        · simp at hl
      · simp at hl
    · simp at hl
  · simp at hl

theorem entryStoreA_ok (hr : HR G φ h w) {t : TypeId} {x s v : AV} {h' : H} (hl : entryStoreA x s v h = some h') {x' s' v' : Value} (hx : VR φ x x') (hs : VR φ s s') (hv : VR φ v v') :
    ∃ w', (Go.Instr.entryStore t x' s' v').run P w = .ok () w' ∧ HR G φ h' w' ∧ Post φ h w φ h' w' := by
  unfold entryStoreA at hl
  split at hl
  · rename_i id k b
    obtain ⟨p, hp, rfl⟩ := hx.map_inv
    obtain rfl := hs.int_inv
    split at hl
    · rename_i es clock hg
      obtain ⟨ms, hb, hes⟩ := obj_map hr hg hp
      split at hl
      · rename_i i hi
        simp only [Option.some.injEq] at hl
        subst hl
        rw [hes.findIdx (q := fun e => (e.born : Int) == b) (fun e m he => by rw [he.born])] at hi
        refine ⟨_, ?_, set_ok hr hg rfl hp (map_or (hes.modify (f := fun e => (e.1, v, e.2.2)) (g := fun e => { e with val := v' }) (fun e m he => ⟨he.key, hv, he.born⟩) i) clock p)⟩
        have hi' : ms.toArray.findIdx? (fun e => (e.born : Int) == b) = some i := by rw [List.findIdx?_toArray]; exact hi
        simp only [Go.Instr.entryStore, asInt, asIntOf, Sem.run_bind, Result.andThen_ok, run_getObj hb (by simp), Sem.run_pure, hi', run_setObj hb (by simp)]
        congr 2
        simp
      · simp at hl
    · simp at hl
  · simp at hl

theorem deleteA_ok (hr : HR G φ h w) {t : TypeId} {x k : AV} {h' : H} (hl : deleteA P t x k h = some h') {x' k' : Value} (hx : VR φ x x') (hk : VR φ k k') {ts : Array TypeId}
    (ht : ts[0]? = some t) (ty : TypeId) : ∃ w', (Builtin.delete_ ts ty #[x', k']).run P w = .ok (.tuple #[]) w' ∧ HR G φ h' w' ∧ Post φ h w φ h' w' := by
  unfold deleteA at hl
  split at hl
  · rename_i kt et id hu
    obtain ⟨p, hp, rfl⟩ := hx.map_inv
    split at hl
    · rename_i es clock hg
      obtain ⟨ms, hb, hes⟩ := obj_map hr hg hp
      split at hl
      · rename_i hck
        have hck' := ckT_ok (P := P) (φ := φ) ms.toArray.isEmpty 8 kt k hck hk 10000 w (by decide)
        split at hl
        · rename_i j ka va b hf
          simp only [Option.some.injEq] at hl
          subst hl
          obtain ⟨y, hy, h1, h2, _, h4, rfl⟩ := findKey_run (P := P) hk hck w hf hes
          refine ⟨_, ?_, set_ok hr hg rfl hp (map_or (hes.erase j) clock p)⟩
          simp only [Builtin.delete_, ht, List.getElem?_toArray, List.getElem?_cons_zero, List.getElem?_cons_succ, Sem.run_bind, run_und hu, Result.andThen_ok, run_getObj hb (by simp), hck', hy, run_setObj hb (by simp), Sem.run_pure]
          congr 2
          simp
        · rename_i hf
          simp only [Option.some.injEq] at hl
          subst hl
          obtain ⟨y, hy, rfl⟩ := findKey_run (P := P) hk hck w hf hes
          refine ⟨w, ?_, hr, Post.refl _ _ _⟩
          simp only [Builtin.delete_, ht, List.getElem?_toArray, List.getElem?_cons_zero, List.getElem?_cons_succ, Sem.run_bind, run_und hu, Result.andThen_ok, run_getObj hb (by simp), hck', hy, run_setObj hb (by simp), Sem.run_pure, setBlk_self hb]
        · simp at hl
      · simp at hl
    · simp at hl
  · rename_i kt et hu
    obtain rfl := hx.nilm_inv
    split at hl
    · rename_i hck
      simp only [Option.some.injEq] at hl
      subst hl
      have hck' := ckT_ok (P := P) (φ := φ) true 8 kt k hck hk 10000 w (by decide)
      refine ⟨w, ?_, hr, Post.refl _ _ _⟩
      simp only [Builtin.delete_, ht, List.getElem?_toArray, List.getElem?_cons_zero, List.getElem?_cons_succ, Sem.run_bind, run_und hu, Result.andThen_ok, hck', Sem.run_pure]
    · simp at hl
  · simp at hl
end
end Go.Ab
