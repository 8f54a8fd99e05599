/-
  How the abstract machine's values and memory stand to the model's: the relation, and the few ways in which both memories go on together.
  Conditions: those that each lemma names.
-/
import Derived.Test.YtiajkflemnaabaaGreatBbC
import Derived.Laws.World
namespace Go.Ab

/-- Where an object lies: a block, the cell with which it begins, how many cells the block has. -/
abbrev Phi := Nat → Option (Nat × Nat × Nat)
def Phi.le (φ φ' : Phi) : Prop := ∀ id p, φ id = some p → φ' id = some p
theorem Phi.le_refl (φ : Phi) : φ.le φ := fun _ _ h => h
theorem Phi.le.trans {φ φ' φ'' : Phi} (h : φ.le φ') (h' : φ'.le φ'') : φ.le φ'' := fun id p hp => h' id p (h id p hp)
def Phi.set (φ : Phi) (id : Nat) (p : Nat × Nat × Nat) : Phi := fun i => if i = id then some p else φ i
theorem Phi.set_same (φ : Phi) (id : Nat) (p : Nat × Nat × Nat) : φ.set id p id = some p := by simp [Phi.set]
theorem Phi.le_set {φ : Phi} {id : Nat} (p : Nat × Nat × Nat) (h : φ id = none) : φ.le (φ.set id p) := by
  intro i q hq
  unfold Phi.set
  split
  · rename_i e; subst e; rw [h] at hq; simp at hq
  · exact hq

/-- What the numbers that are not known are. -/
class Val where
  σ : Nat → Int
variable [Val]

inductive FnR (φ : Phi) : Fn → Fn → Prop
  | func (f : FuncId) : FnR φ (.func f) (.func f)
  | yield {l : Nat} {p : Nat × Nat × Nat} (h : φ l = some p) : FnR φ (.yield l) (.yield p.1)

inductive VR (φ : Phi) : AV → Value → Prop
  | junk (v : Value) : VR φ .junk v
  | bool (b : Bool) : VR φ (.bool b) (.bool b)
  | int (k : IntKind) (n : Int) : VR φ (.int k n) (.int k n)
  | sym {k : IntKind} {lo hi n : Int} {e : E} (he : e.eval Val.σ = n) (ho : e.ok Val.σ) (hl : lo ≤ n) (hh : n ≤ hi) : VR φ (.sym k lo hi e) (.int k n)
  | str (s : ByteArray) : VR φ (.str (s.data.toList.map UInt8.toNat)) (.string s)
  | nilp : VR φ .nilp (.pointer none)
  | ptr {id off b base cs : Nat} (h : φ id = some (b, base, cs)) : VR φ (.ptr id off) (.pointer (some ⟨b, base + off, none⟩))
  | nils : VR φ .nils (.slice none 0 0)
  | slice {id off len cap esz b base cs o c : Nat} {ex : Bool} (h : φ id = some (b, base, cs)) (ho : o = base + off ∨ c = 0) (hl : len ≤ cap) (hc : cap ≤ c)
      (he : ex = true → c = cap) (hcs : o + c * esz ≤ cs) (hz : 0 < esz) : VR φ (.slice id off len cap ex esz) (.slice (some ⟨b, o, none⟩) len c)
  | nilm : VR φ .nilm (.map none)
  | map {id : Nat} {p : Nat × Nat × Nat} (h : φ id = some p) : VR φ (.map id) (.map (some p.1))
  | fn {f f' : Fn} {l₁ l₂ : List AV} {a₁ a₂ : Array Value} (h : FnR φ f f') (s₁ : a₁.size = l₁.length) (h₁ : ∀ i, i < l₁.length → VR φ (l₁.getD i .junk) (a₁.getD i undef))
      (s₂ : a₂.size = l₂.length) (h₂ : ∀ i, i < l₂.length → VR φ (l₂.getD i .junk) (a₂.getD i undef)) : VR φ (.fn f l₁ l₂) (.func f' a₁ a₂)
  | nilf : VR φ .nilf .nilFunc
  | iface {t : TypeId} {v : AV} {v' : Value} (h : VR φ v v') : VR φ (.iface t v) (.iface t v')
  | nili : VR φ .nili .nilIface
  | agg {n dep : Nat} {d : AV} {t : Tr AV} {a : Array Value} (hs : a.size = n) (hn : n ≤ 2 ^ dep) (h : ∀ i, i < n → VR φ (cget dep d t i) (a.getD i undef))
      (h1 : ∀ i, i < n → plainCell (a.getD i undef) = true) : VR φ (.agg n dep d t) (.agg a)
  | tup {l : List AV} {a : Array Value} (hs : a.size = l.length) (h : ∀ i, i < l.length → VR φ (l.getD i .junk) (a.getD i undef)) : VR φ (.tup l) (.tuple a)

omit [Val] in
theorem FnR.mono {φ φ' : Phi} (hle : φ.le φ') {f f' : Fn} (h : FnR φ f f') : FnR φ' f f' := by
  cases h with
  | func f => exact .func f
  | yield h => exact .yield (hle _ _ h)

theorem VR.mono {φ φ' : Phi} (hle : φ.le φ') {v : AV} {v' : Value} (h : VR φ v v') : VR φ' v v' := by
  induction h with
  | junk v => exact .junk v
  | bool b => exact .bool b
  | int k n => exact .int k n
  | sym he ho hl hh => exact .sym he ho hl hh
  | str s => exact .str s
  | nilp => exact .nilp
  | ptr h => exact .ptr (hle _ _ h)
  | nils => exact .nils
  | slice h ho hl hc he hcs hz => exact .slice (hle _ _ h) ho hl hc he hcs hz
  | nilm => exact .nilm
  | map h => exact .map (hle _ _ h)
  | fn h s₁ _ s₂ _ ih₁ ih₂ => exact .fn (h.mono hle) s₁ ih₁ s₂ ih₂
  | nilf => exact .nilf
  | iface _ ih => exact .iface ih
  | nili => exact .nili
  | agg hs hn _ h1 ih => exact .agg hs hn ih h1
  | tup hs _ ih => exact .tup hs ih

/-- Lists of values. -/
structure LR (φ : Phi) (l : List AV) (a : Array Value) : Prop where
  size : a.size = l.length
  get : ∀ i, i < l.length → VR φ (l.getD i .junk) (a.getD i undef)

theorem LR.mono {φ φ' : Phi} (hle : φ.le φ') {l : List AV} {a : Array Value} (h : LR φ l a) : LR φ' l a := ⟨h.size, fun i hi => (h.get i hi).mono hle⟩
theorem LR.nil (φ : Phi) : LR φ [] #[] := ⟨rfl, fun i hi => absurd hi (by simp)⟩

theorem LR.append {φ : Phi} {l m : List AV} {a b : Array Value} (h : LR φ l a) (h' : LR φ m b) : LR φ (l ++ m) (a ++ b) := by
  refine ⟨by simp [h.size, h'.size], fun i hi => ?_⟩
  have hs := h.size
  rcases Nat.lt_or_ge i l.length with hlt | hge
  · have e1 : (l ++ m).getD i .junk = l.getD i .junk := by
      rw [List.getD_eq_getElem?_getD, List.getD_eq_getElem?_getD, List.getElem?_append_left hlt]
    have e2 : (a ++ b).getD i undef = a.getD i undef := by
      rw [Array.getD_eq_getD_getElem?, Array.getD_eq_getD_getElem?, Array.getElem?_append_left (by omega)]
    rw [e1, e2]; exact h.get i hlt
  · simp only [List.length_append] at hi
    have e1 : (l ++ m).getD i .junk = m.getD (i - l.length) .junk := by
      rw [List.getD_eq_getElem?_getD, List.getD_eq_getElem?_getD, List.getElem?_append_right hge]
    have e2 : (a ++ b).getD i undef = b.getD (i - l.length) undef := by
      rw [Array.getD_eq_getD_getElem?, Array.getD_eq_getD_getElem?, Array.getElem?_append_right (by omega), hs]
    rw [e1, e2]; exact h'.get _ (by omega)

theorem LR.cons {φ : Phi} {v : AV} {v' : Value} {l : List AV} {a : Array Value} (hv : VR φ v v') (h : LR φ l a) : LR φ (v :: l) (#[v'] ++ a) := by
  refine LR.append (l := [v]) (m := l) ⟨by simp, fun i hi => ?_⟩ h
  obtain rfl : i = 0 := by simpa using hi
  exact hv

/-- Cells: values that a cell may hold. -/
structure CR (φ : Phi) (l : List AV) (a : Array Value) : Prop extends LR φ l a where
  one : ∀ i, i < l.length → plainCell (a.getD i undef) = true

/-- An entry of a map. -/
structure ER (φ : Phi) (e : AV × AV × Nat) (m : MapEntry) : Prop where
  key : VR φ e.1 m.key
  val : VR φ e.2.1 m.val
  born : e.2.2 = m.born

structure RR (φ : Phi) (fi : FI) (regs : Tr AV) (tmps : Array Value) : Prop where
  size : tmps.size = fi.sz
  deep : fi.sz ≤ 2 ^ fi.rd
  get : ∀ t, t < fi.sz → VR φ ((regs.get fi.rd t).getD .junk) (tmps.getD t undef)

theorem RR.mono {φ φ' : Phi} (hle : φ.le φ') {fi : FI} {regs : Tr AV} {tmps : Array Value} (h : RR φ fi regs tmps) : RR φ' fi regs tmps :=
  ⟨h.size, h.deep, fun t ht => (h.get t ht).mono hle⟩

/-- No cell of a block is frozen: what is marked lies behind. -/
def Thaw (cs : Nat) (fz : Nat × Nat) : Prop := (fz.1 = fz.2 ∨ cs ≤ fz.1) ∧ fz.1 ≤ fz.2
omit [Val] in
theorem Thaw.no {cs : Nat} {fz : Nat × Nat} (h : Thaw cs fz) : ∀ j, j < cs → ¬ (fz.1 ≤ j ∧ j < fz.2) := by
  intro j hj ⟨h1, h2⟩
  rcases h.1 with e | e <;> omega
omit [Val] in
theorem Thaw.none (cs : Nat) : Thaw cs (0, 0) := ⟨.inl rfl, Nat.le_refl _⟩

/-- An object and the block in which it lies. -/
def OR (φ : Phi) (o : AObj) (p : Nat × Nat × Nat) (ob : Option Obj) : Prop :=
  match o with
  | .cells n dep d t => n ≤ 2 ^ dep ∧ p.2.1 + n ≤ p.2.2 ∧ ∃ c e fz, ob = some (.cells c e fz) ∧ c.size = p.2.2 ∧ Thaw p.2.2 fz ∧
      (∀ i, i < n → VR φ (cget dep d t i) (c.getD (p.2.1 + i) undef)) ∧ ∀ i, i < n → plainCell (c.getD (p.2.1 + i) undef) = true
  | .map es clock => ∃ ents : Array MapEntry, ob = some (.map ents clock) ∧ ents.size = es.length ∧ ∀ i (h : i < es.length) (h' : i < ents.size), ER φ es[i] ents[i]
  | .miter m since seen last => p.2.1 = 0 ∧ ∃ m' : Option Nat, ob = some (.mapIter m' since seen.toArray last) ∧
      (match m with | none => m' = none | some id => ∃ q, φ id = some q ∧ m' = some q.1)
  | .siter s pos => ∃ ba : ByteArray, ob = some (.stringIter ba pos) ∧ s = ba.data.toList.map UInt8.toNat
  | .loop state pending fn fi regs params asg body df => ∃ (tmps : Array Value) (q : Nat × Nat × Nat), RR φ fi regs tmps ∧ φ df = some q ∧
      ob = some (.loop { state, pending, fn, tmps, params := params.toArray, assign := asg, body, defers := q.1 })
  | .dfr taken => ob = some (.deferred (if taken then none else some []))
  | .dead => True

theorem OR.mono {φ φ' : Phi} (hle : φ.le φ') {o : AObj} {p : Nat × Nat × Nat} {ob : Option Obj} (h : OR φ o p ob) : OR φ' o p ob := by
  cases o with
  | cells n dep d t =>
    obtain ⟨h1, h2, c, e, fz, h3, h4, h5, h6, h7⟩ := h
    exact ⟨h1, h2, c, e, fz, h3, h4, h5, fun i hi => (h6 i hi).mono hle, h7⟩
  | map es clock =>
    obtain ⟨ents, h1, h2, h3⟩ := h
    exact ⟨ents, h1, h2, fun i hi hi' => ⟨(h3 i hi hi').key.mono hle, (h3 i hi hi').val.mono hle, (h3 i hi hi').born⟩⟩
  | miter m since seen last =>
    obtain ⟨h0, m', h1, h2⟩ := h
    refine ⟨h0, m', h1, ?_⟩
    cases m with
    | none => exact h2
    | some id => obtain ⟨q, hq, e⟩ := h2; exact ⟨q, hle _ _ hq, e⟩
  | siter s pos => exact h
  | loop state pending fn fi regs params asg body df =>
    obtain ⟨tmps, q, h1, h2, h3⟩ := h
    exact ⟨tmps, q, h1.mono hle, hle _ _ h2, h3⟩
  | dfr taken => exact h
  | dead => trivial

def AObj.alive : AObj → Bool
  | .dead => false
  | _ => true

structure HR (G : Nat) (φ : Phi) (h : H) (w : World) : Prop where
  dom : ∀ id p, φ id = some p → id < h.nx ∧ p.1 < w.heap.size
  lt : ∀ id, id < 2 ^ HD → h.nx ≤ id → h.get id = none
  nx : h.nx ≤ 2 ^ HD
  glob : ∀ g, g < G → ∃ cs, φ g = some (g, 0, cs)
  inj : ∀ i j oi oj p q, h.get i = some oi → h.get j = some oj → oi.alive = true → oj.alive = true → φ i = some p → φ j = some q → p.1 = q.1 → i = j
  obj : ∀ id o p, h.get id = some o → φ id = some p → OR φ o p w.heap[p.1]?

def Owned (φ : Phi) (h : H) (b : Nat) : Prop := ∃ id o p, h.get id = some o ∧ φ id = some p ∧ p.1 = b

structure Post (φ : Phi) (h : H) (w : World) (φ' : Phi) (h' : H) (w' : World) : Prop where
  le : φ.le φ'
  size : w.heap.size ≤ w'.heap.size
  os : w'.os = w.os
  tape : w'.tape = w.tape
  out : w'.output = w.output
  nx : h.nx ≤ h'.nx
  keep : ∀ b, b < w.heap.size → ¬ Owned φ h b → w'.heap[b]? = w.heap[b]? ∧ ¬ Owned φ' h' b
  unt : ∀ id, id < h.nx → φ id = none → h'.get id = h.get id ∧ φ' id = none

omit [Val] in
theorem Post.refl (φ : Phi) (h : H) (w : World) : Post φ h w φ h w :=
  ⟨φ.le_refl, Nat.le_refl _, rfl, rfl, rfl, Nat.le_refl _, fun _ _ hb => ⟨rfl, hb⟩, fun _ _ hi => ⟨rfl, hi⟩⟩

omit [Val] in
theorem Post.trans {φ φ' φ'' : Phi} {h h' h'' : H} {w w' w'' : World} (a : Post φ h w φ' h' w') (b : Post φ' h' w' φ'' h'' w'') : Post φ h w φ'' h'' w'' where
  le := a.le.trans b.le
  size := Nat.le_trans a.size b.size
  os := b.os.trans a.os
  tape := b.tape.trans a.tape
  out := b.out.trans a.out
  nx := Nat.le_trans a.nx b.nx
  keep := fun x hx hn => by
    obtain ⟨h1, h2⟩ := a.keep x hx hn
    obtain ⟨h3, h4⟩ := b.keep x (Nat.lt_of_lt_of_le hx a.size) h2
    exact ⟨h3.trans h1, h4⟩
  unt := fun id hi hn => by
    obtain ⟨h1, h2⟩ := a.unt id hi hn
    obtain ⟨h3, h4⟩ := b.unt id (Nat.lt_of_lt_of_le hi a.nx) h2
    exact ⟨h3.trans h1, h4⟩

theorem HR.drew {G : Nat} {φ : Phi} {h : H} {w : World} (hr : HR G φ h w) : HR G φ h w.drew := ⟨hr.dom, hr.lt, hr.nx, hr.glob, hr.inj, hr.obj⟩
omit [Val] in
theorem Post.drew (φ : Phi) (h : H) (w : World) : Post φ h w φ h w.drew :=
  ⟨φ.le_refl, Nat.le_refl _, rfl, rfl, rfl, Nat.le_refl _, fun _ _ hb => ⟨rfl, hb⟩, fun _ _ hi => ⟨rfl, hi⟩⟩

omit [Val] in
theorem H.get_set {h : H} {i j : Nat} (o : AObj) (hi : i < 2 ^ HD) (hj : j < 2 ^ HD) : (h.set i o).get j = if i = j then some o else h.get j :=
  Tr.get_set_lt o h.t hi hj

omit [Val] in
theorem H.new_spec {h h' : H} {o : AObj} {id : Nat} (hn : h.new o = some (id, h')) : id = h.nx ∧ h.nx < 2 ^ HD ∧ h'.nx = h.nx + 1 ∧
    ∀ j, j < 2 ^ HD → h'.get j = if h.nx = j then some o else h.get j := by
  unfold H.new at hn
  cases hb : Nat.blt h.nx (2 ^ HD) with
  | false => rw [hb] at hn; simp at hn
  | true =>
    rw [hb] at hn
    simp only [cond_true, Option.some.injEq, Prod.mk.injEq] at hn
    obtain ⟨rfl, rfl⟩ := hn
    have hlt : h.nx < 2 ^ HD := by
      unfold Nat.blt at hb
      exact Nat.le_of_ble_eq_true hb
    exact ⟨rfl, hlt, rfl, fun j hj => Tr.get_set_lt o h.t hlt hj⟩

theorem HR.id_lt {G : Nat} {φ : Phi} {h : H} {w : World} (hr : HR G φ h w) {id : Nat} {p : Nat × Nat × Nat} (hp : φ id = some p) : id < 2 ^ HD :=
  Nat.lt_of_lt_of_le (hr.dom _ _ hp).1 hr.nx

omit [Val] in
theorem alloc_block (w : World) (ob : Obj) (b : Nat) : (w.alloc ob).heap[b]? = if b = w.heap.size then some ob else w.heap[b]? := by
  simp only [World.alloc, Array.getElem?_push]

theorem alloc_ok {G : Nat} {φ : Phi} {h h' : H} {w : World} (hr : HR G φ h w) {o : AObj} {id : Nat} (hn : h.new o = some (id, h')) {ob : Obj} {cs : Nat}
    (ho : OR (φ.set id (w.heap.size, 0, cs)) o (w.heap.size, 0, cs) (some ob)) :
    HR G (φ.set id (w.heap.size, 0, cs)) h' (w.alloc ob) ∧ Post φ h w (φ.set id (w.heap.size, 0, cs)) h' (w.alloc ob) := by
  obtain ⟨rfl, hlt, hnx, hget⟩ := H.new_spec hn
  have hnone : φ h.nx = none := by
    cases e : φ h.nx with
    | none => rfl
    | some p => exact absurd (hr.dom _ _ e).1 (by omega)
  have hle : φ.le (φ.set h.nx (w.heap.size, 0, cs)) := Phi.le_set _ hnone
  have cases_ : ∀ i p, φ.set h.nx (w.heap.size, 0, cs) i = some p → (i = h.nx ∧ p = (w.heap.size, 0, cs)) ∨ (i ≠ h.nx ∧ φ i = some p) := by
    intro i p hp
    unfold Phi.set at hp
    split at hp
    · rename_i e; exact .inl ⟨e, by simpa using hp.symm⟩
    · rename_i e; exact .inr ⟨e, hp⟩
  have old : ∀ i o', i < 2 ^ HD → i ≠ h.nx → h'.get i = some o' → h.get i = some o' := by
    intro i o' hi hne hg
    rw [hget i hi, if_neg (fun e => hne e.symm)] at hg
    exact hg
  refine ⟨⟨?_, ?_, ?_, ?_, ?_, ?_⟩, ⟨hle, by simp, rfl, rfl, rfl, by omega, ?_, ?_⟩⟩
  · intro i p hp
    rcases cases_ i p hp with ⟨rfl, rfl⟩ | ⟨_, hp⟩
    · exact ⟨by omega, by simp⟩
    · have := hr.dom i p hp
      exact ⟨by omega, by simp; omega⟩
  · intro i hi hge
    rw [hget i hi, if_neg (by omega)]
    exact hr.lt i hi (by omega)
  · omega
  · intro g hg
    obtain ⟨c, hc⟩ := hr.glob g hg
    exact ⟨c, hle _ _ hc⟩
  · intro i j oi oj p q hi hj ai aj hp hq hpq
    rcases cases_ i p hp with ⟨rfl, rfl⟩ | ⟨nei, hp'⟩
    · rcases cases_ j q hq with ⟨rfl, rfl⟩ | ⟨nej, hq'⟩
      · rfl
      · have := (hr.dom _ _ hq').2
        simp only at hpq
        omega
    · rcases cases_ j q hq with ⟨rfl, rfl⟩ | ⟨nej, hq'⟩
      · have := (hr.dom _ _ hp').2
        simp only at hpq
        omega
      · exact hr.inj i j oi oj p q (old i oi (hr.id_lt hp') nei hi) (old j oj (hr.id_lt hq') nej hj) ai aj hp' hq' hpq
  · intro i o' p hg hp
    rcases cases_ i p hp with ⟨rfl, rfl⟩ | ⟨nei, hp'⟩
    · rw [hget _ hlt, if_pos rfl] at hg
      obtain rfl := Option.some.inj hg
      rw [alloc_block, if_pos rfl]
      exact ho
    · have hlt' := (hr.dom _ _ hp').2
      rw [alloc_block, if_neg (by omega)]
      exact (hr.obj i o' p (old i o' (hr.id_lt hp') nei hg) hp').mono hle
  · intro b hb hno
    refine ⟨by rw [alloc_block, if_neg (by omega)], ?_⟩
    rintro ⟨i, o', p, hg, hp, rfl⟩
    rcases cases_ i p hp with ⟨rfl, rfl⟩ | ⟨nei, hp'⟩
    · simp only at hb; omega
    · exact hno ⟨i, o', p, old i o' (hr.id_lt hp') nei hg, hp', rfl⟩
  · intro i hi hp
    refine ⟨?_, ?_⟩
    · rw [hget i (by omega), if_neg (by omega)]
    · unfold Phi.set; rw [if_neg (by omega)]; exact hp

/-- One block anew. -/
def setBlk (w : World) (b : Nat) (ob : Obj) : World := { w with heap := w.heap.setIfInBounds b ob }
omit [Val] in
theorem setBlk_block (w : World) (b : Nat) (ob : Obj) (x : Nat) (hb : b < w.heap.size) : (setBlk w b ob).heap[x]? = if x = b then some ob else w.heap[x]? := by
  simp only [setBlk, Array.getElem?_setIfInBounds]
  by_cases h : b = x
  · subst h; simp [hb]
  · rw [if_neg h, if_neg (fun e => h e.symm)]

/-- A block laid anew for the same object. -/
theorem blk_ok {G : Nat} {φ : Phi} {h : H} {w : World} (hr : HR G φ h w) {id : Nat} {o : AObj} {p : Nat × Nat × Nat} (hg : h.get id = some o) (ha : o.alive = true)
    (hp : φ id = some p) {ob : Obj} (ho : OR φ o p (some ob)) : HR G φ h (setBlk w p.1 ob) ∧ Post φ h w φ h (setBlk w p.1 ob) := by
  have hb := (hr.dom _ _ hp).2
  refine ⟨⟨?_, hr.lt, hr.nx, hr.glob, hr.inj, ?_⟩, ⟨φ.le_refl, by simp [setBlk], rfl, rfl, rfl, Nat.le_refl _, ?_, fun _ _ hi => ⟨rfl, hi⟩⟩⟩
  · intro i q hq
    have := hr.dom i q hq
    exact ⟨this.1, by simpa [setBlk] using this.2⟩
  · intro i o' q hgi hq
    rw [setBlk_block _ _ _ _ hb]
    split
    · rename_i e
      by_cases ei : i = id
      · subst ei
        rw [hg] at hgi
        rw [hp] at hq
        obtain rfl := Option.some.inj hgi
        obtain rfl := Option.some.inj hq
        exact ho
      · cases hal : o'.alive with
        | true => exact absurd (hr.inj i id o' o q p hgi hg hal ha hq hp e) ei
        | false => cases o' <;> simp [AObj.alive] at hal; exact trivial
    · exact hr.obj i o' q hgi hq
  · intro b hbs hno
    exact ⟨by rw [setBlk_block _ _ _ _ hb, if_neg (by rintro rfl; exact hno ⟨id, o, p, hg, hp, rfl⟩)], hno⟩

theorem set_ok {G : Nat} {φ : Phi} {h : H} {w : World} (hr : HR G φ h w) {id : Nat} {o o₂ : AObj} {p : Nat × Nat × Nat} (hg : h.get id = some o) (ha : o.alive = true)
    (hp : φ id = some p) {ob : Obj} (ho : OR φ o₂ p (some ob)) : HR G φ (h.set id o₂) (setBlk w p.1 ob) ∧ Post φ h w φ (h.set id o₂) (setBlk w p.1 ob) := by
  have hid := hr.id_lt hp
  have hb := (hr.dom _ _ hp).2
  have get' : ∀ j o', j < 2 ^ HD → (h.set id o₂).get j = some o' → (j = id ∧ o' = o₂) ∨ (j ≠ id ∧ h.get j = some o') := by
    intro j o' hj hgj
    rw [H.get_set o₂ hid hj] at hgj
    split at hgj
    · rename_i e; exact .inl ⟨e.symm, by simpa using hgj.symm⟩
    · rename_i e; exact .inr ⟨fun x => e x.symm, hgj⟩
  refine ⟨⟨?_, ?_, hr.nx, hr.glob, ?_, ?_⟩, ⟨φ.le_refl, by simp [setBlk], rfl, rfl, rfl, Nat.le_refl _, ?_, ?_⟩⟩
  · intro i q hq
    have := hr.dom i q hq
    exact ⟨this.1, by simpa [setBlk] using this.2⟩
  · intro i hi hge
    rw [H.get_set o₂ hid hi, if_neg (by have := (hr.dom _ _ hp).1; have : h.nx ≤ i := hge; omega)]
    exact hr.lt i hi hge
  · intro i j oi oj q r hi hj ai aj hq hr' hqr
    rcases get' i oi (hr.id_lt hq) hi with ⟨rfl, rfl⟩ | ⟨nei, hi'⟩
    · rcases get' j oj (hr.id_lt hr') hj with ⟨rfl, rfl⟩ | ⟨nej, hj'⟩
      · rfl
      · exact hr.inj i j o oj q r hg hj' ha aj hq hr' hqr
    · rcases get' j oj (hr.id_lt hr') hj with ⟨rfl, rfl⟩ | ⟨nej, hj'⟩
      · exact hr.inj i j oi o q r hi' hg ai ha hq hr' hqr
      · exact hr.inj i j oi oj q r hi' hj' ai aj hq hr' hqr
  · intro i o' q hgi hq
    rcases get' i o' (hr.id_lt hq) hgi with ⟨rfl, rfl⟩ | ⟨nei, hgi'⟩
    · rw [hp] at hq
      obtain rfl := Option.some.inj hq
      rw [setBlk_block _ _ _ _ hb, if_pos rfl]
      exact ho
    · rw [setBlk_block _ _ _ _ hb]
      split
      · rename_i e
        cases hal : o'.alive with
        | true => exact absurd (hr.inj i id o' o q p hgi' hg hal ha hq hp e) nei
        | false => cases o' <;> simp [AObj.alive] at hal; exact trivial
      · exact hr.obj i o' q hgi' hq
  · intro b hbs hno
    refine ⟨by rw [setBlk_block _ _ _ _ hb, if_neg (by rintro rfl; exact hno ⟨id, o, p, hg, hp, rfl⟩)], ?_⟩
    rintro ⟨i, o', q, hgi, hq, rfl⟩
    rcases get' i o' (hr.id_lt hq) hgi with ⟨rfl, rfl⟩ | ⟨nei, hgi'⟩
    · exact hno ⟨i, o, q, hg, hq, rfl⟩
    · exact hno ⟨i, o', q, hgi', hq, rfl⟩
  · intro i hi hpi
    refine ⟨?_, hpi⟩
    rw [H.get_set o₂ hid (by have := hr.nx; omega), if_neg (by rintro rfl; rw [hp] at hpi; simp at hpi)]

theorem kill_ok {G : Nat} {φ : Phi} {h : H} {w : World} (hr : HR G φ h w) {id : Nat} {o : AObj} {p : Nat × Nat × Nat} (hg : h.get id = some o) (ha : o.alive = true)
    (hp : φ id = some p) : HR G φ (h.set id .dead) w ∧ Post φ h w φ (h.set id .dead) w := by
  have hb := (hr.dom _ _ hp).2
  obtain ⟨ob, hob⟩ : ∃ ob, w.heap[p.1]? = some ob := ⟨_, Array.getElem?_eq_getElem hb⟩
  have e : setBlk w p.1 ob = w := by
    unfold setBlk
    have : w.heap.setIfInBounds p.1 ob = w.heap := by
      apply Array.ext_getElem?
      intro i
      rw [Array.getElem?_setIfInBounds]
      split
      · rename_i e; subst e; exact hob.symm
      · rfl
    rw [this]
  have := set_ok hr hg ha hp (o₂ := .dead) (ob := ob) trivial
  rwa [e] at this

/-- A new object over a block of a dead one: what an append leaves that had room. -/
theorem alias_ok {G : Nat} {φ : Phi} {h h' : H} {w : World} (hr : HR G φ h w) {id id' : Nat} {p : Nat × Nat × Nat} (hg : h.get id = some .dead) (hp : φ id = some p)
    (hfree : ∀ j o q, h.get j = some o → o.alive = true → φ j = some q → q.1 ≠ p.1) {o : AObj} (hn : h.new o = some (id', h')) {base : Nat} {ob : Obj}
    (ho : OR (φ.set id' (p.1, base, p.2.2)) o (p.1, base, p.2.2) (some ob)) :
    HR G (φ.set id' (p.1, base, p.2.2)) h' (setBlk w p.1 ob) ∧ Post φ h w (φ.set id' (p.1, base, p.2.2)) h' (setBlk w p.1 ob) := by
  obtain ⟨rfl, hlt, hnx, hget⟩ := H.new_spec hn
  have hb := (hr.dom _ _ hp).2
  have hnone : φ h.nx = none := by
    cases e : φ h.nx with
    | none => rfl
    | some p => exact absurd (hr.dom _ _ e).1 (by omega)
  have hle : φ.le (φ.set h.nx (p.1, base, p.2.2)) := Phi.le_set _ hnone
  have cases_ : ∀ i q, φ.set h.nx (p.1, base, p.2.2) i = some q → (i = h.nx ∧ q = (p.1, base, p.2.2)) ∨ (i ≠ h.nx ∧ φ i = some q) := by
    intro i q hq
    unfold Phi.set at hq
    split at hq
    · rename_i e; exact .inl ⟨e, by simpa using hq.symm⟩
    · rename_i e; exact .inr ⟨e, hq⟩
  have old : ∀ i o', i < 2 ^ HD → i ≠ h.nx → h'.get i = some o' → h.get i = some o' := by
    intro i o' hi hne hgi
    rw [hget i hi, if_neg (fun e => hne e.symm)] at hgi
    exact hgi
  refine ⟨⟨?_, ?_, ?_, ?_, ?_, ?_⟩, ⟨hle, by simp [setBlk], rfl, rfl, rfl, by omega, ?_, ?_⟩⟩
  · intro i q hq
    rcases cases_ i q hq with ⟨rfl, rfl⟩ | ⟨_, hq⟩
    · exact ⟨by omega, by simpa [setBlk] using hb⟩
    · have := hr.dom i q hq
      exact ⟨by omega, by simpa [setBlk] using this.2⟩
  · intro i hi hge
    rw [hget i hi, if_neg (by omega)]
    exact hr.lt i hi (by omega)
  · omega
  · intro g hgl
    obtain ⟨c, hc⟩ := hr.glob g hgl
    exact ⟨c, hle _ _ hc⟩
  · intro i j oi oj q r hi hj ai aj hq hr' hqr
    rcases cases_ i q hq with ⟨rfl, rfl⟩ | ⟨nei, hq'⟩
    · rcases cases_ j r hr' with ⟨rfl, rfl⟩ | ⟨nej, hr''⟩
      · rfl
      · exact absurd hqr.symm (hfree j oj r (old j oj (hr.id_lt hr'') nej hj) aj hr'')
    · rcases cases_ j r hr' with ⟨rfl, rfl⟩ | ⟨nej, hr''⟩
      · exact absurd hqr (hfree i oi q (old i oi (hr.id_lt hq') nei hi) ai hq')
      · exact hr.inj i j oi oj q r (old i oi (hr.id_lt hq') nei hi) (old j oj (hr.id_lt hr'') nej hj) ai aj hq' hr'' hqr
  · intro i o' q hgi hq
    rcases cases_ i q hq with ⟨rfl, rfl⟩ | ⟨nei, hq'⟩
    · rw [hget _ hlt, if_pos rfl] at hgi
      obtain rfl := Option.some.inj hgi
      rw [setBlk_block _ _ _ _ hb, if_pos rfl]
      exact ho
    · have hgi' := old i o' (hr.id_lt hq') nei hgi
      rw [setBlk_block _ _ _ _ hb]
      split
      · rename_i e
        cases hal : o'.alive with
        | true => exact absurd e (hfree i o' q hgi' hal hq')
        | false => cases o' <;> simp [AObj.alive] at hal; exact trivial
      · exact (hr.obj i o' q hgi' hq').mono hle
  · intro b hbs hno
    refine ⟨by rw [setBlk_block _ _ _ _ hb, if_neg (by rintro rfl; exact hno ⟨id, .dead, p, hg, hp, rfl⟩)], ?_⟩
    rintro ⟨i, o', q, hgi, hq, rfl⟩
    rcases cases_ i q hq with ⟨rfl, rfl⟩ | ⟨nei, hq'⟩
    · exact hno ⟨id, .dead, p, hg, hp, rfl⟩
    · exact hno ⟨i, o', q, old i o' (hr.id_lt hq') nei hgi, hq', rfl⟩
  · intro i hi hpi
    refine ⟨?_, ?_⟩
    · rw [hget i (by have := hr.nx; omega), if_neg (by omega)]
    · unfold Phi.set; rw [if_neg (by omega)]; exact hpi
end Go.Ab
