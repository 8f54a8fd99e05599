/-
  Calls that are known from one run over a small memory: what is looked at where such a call is met, and that it then answers as the run did.
  Conditions: those that each lemma names.
-/
import Derived.Test.YtiajkflemnaabaaGreatBfA
noncomputable section
namespace Go.Ab
variable [Val]

def Tr.isE {α : Type} (t : Tr α) : Bool := Tr.casesOn t true (fun _ => false) (fun _ _ => false)
def Tr.map {α : Type} (f : α → α) : Tr α → Tr α
  | .e => .e
  | .l x => .l (f x)
  | .n a b => .n (a.map f) (b.map f)

def listB (r : AV → AV → Bool) : List AV → List AV → Bool
  | [], [] => true
  | a :: l, b :: m => r a b && listB r l m
  | _, _ => false

/-- Trees of one shape, leaf by leaf. -/
def trB (r : AV → AV → Bool) : Tr AV → Tr AV → Bool
  | .e, .e => true
  | .l x, .l y => r x y
  | .n a b, .n c d => trB r a c && trB r b d
  | _, _ => false

def vecB (r : AV → AV → Bool) (n dep : Nat) (d : AV) (t : Tr AV) (d' : AV) (t' : Tr AV) : Bool :=
  (r d d' && trB r t t') || (List.range n).all fun i => r (cget dep d t i) (cget dep d' t' i)

def renB (ρ : Nat → Option Nat) : Nat → AV → AV → Bool
  | 0, _, _ => false
  | f + 1, v, v' =>
    match v, v' with
    | .bool a, .bool b => decide (a = b)
    | .int k a, .int k' b => decide (k = k') && decide (a = b)
    | .sym k l h e, .sym k' l' h' e' => decide (k = k') && (decide (l = l') && (decide (h = h') && e.same e'))
    | .str a, .str b => decide (a = b)
    | .nilp, .nilp => true
    | .nils, .nils => true
    | .nilm, .nilm => true
    | .nilf, .nilf => true
    | .nili, .nili => true
    | .ptr i o, .ptr a o' => decide (ρ i = some a) && decide (o = o')
    | .slice i o l c e s, .slice a o' l' c' e' s' => decide (ρ i = some a) && (decide (o = o') && (decide (l = l') && (decide (c = c') && (decide (e = e') && decide (s = s')))))
    | .map i, .map a => decide (ρ i = some a)
    | .fn (.func g) l m, .fn (.func g') l' m' => decide (g = g') && (listB (renB ρ f) l l' && listB (renB ρ f) m m')
    | .iface t v, .iface t' v' => decide (t = t') && renB ρ f v v'
    | .agg n dep d t, .agg n' dep' d' t' => decide (n = n') && (decide (dep = dep') && vecB (renB ρ f) n dep d t d' t')
    | .tup l, .tup m => listB (renB ρ f) l m
    | _, _ => false

omit [Val] in
theorem listB_ok {r : AV → AV → Bool} {R : AV → AV → Prop} (hr : ∀ a b, r a b = true → R a b) : ∀ {l m : List AV}, listB r l m = true → l.length = m.length ∧ ∀ i, i < l.length → R (l.getD i .junk) (m.getD i .junk) := by
  intro l
  induction l with
  | nil =>
    intro m h
    cases m with
    | nil => exact ⟨rfl, fun i hi => absurd hi (by simp)⟩
    | cons b m => simp [listB] at h
  | cons a l ih =>
    intro m h
    cases m with
    | nil => simp [listB] at h
    | cons b m =>
      simp only [listB, Bool.and_eq_true] at h
      obtain ⟨h1, h2⟩ := ih h.2
      refine ⟨by simp [h1], fun i hi => ?_⟩
      cases i with
      | zero => simpa using hr a b h.1
      | succ i => simpa using h2 i (by simpa using hi)

omit [Val] in
theorem trB_ok {r : AV → AV → Bool} : ∀ (t t' : Tr AV), trB r t t' = true → ∀ dep i, (t.get dep i = none ∧ t'.get dep i = none) ∨ ∃ x y, t.get dep i = some x ∧ t'.get dep i = some y ∧ r x y = true := by
  intro t
  induction t with
  | e =>
    intro t' h dep i
    cases t' with
    | e => exact .inl ⟨Tr.get_e _ _, Tr.get_e _ _⟩
    | l y => simp [trB] at h
    | n c d => simp [trB] at h
  | l x =>
    intro t' h dep i
    cases t' with
    | e => simp [trB] at h
    | l y =>
      simp only [trB] at h
      cases dep with
      | zero => exact .inr ⟨x, y, rfl, rfl, h⟩
      | succ dep => exact .inl ⟨Tr.get_l _ _ _, Tr.get_l _ _ _⟩
    | n c d => simp [trB] at h
  | n a b iha ihb =>
    intro t' h dep i
    cases t' with
    | e => simp [trB] at h
    | l y => simp [trB] at h
    | n c d =>
      simp only [trB, Bool.and_eq_true] at h
      cases dep with
      | zero => exact .inl ⟨rfl, rfl⟩
      | succ dep =>
        rw [Tr.get_succ, Tr.get_succ]
        simp only [Tr.fst, Tr.snd]
        split
        · exact ihb d h.2 dep i
        · exact iha c h.1 dep i

omit [Val] in
theorem vecB_ok {r : AV → AV → Bool} {R : AV → AV → Prop} (hr : ∀ a b, r a b = true → R a b) {n dep : Nat} {d d' : AV} {t t' : Tr AV} (h : vecB r n dep d t d' t' = true) :
    ∀ i, i < n → R (cget dep d t i) (cget dep d' t' i) := by
  intro i hi
  unfold vecB at h
  rw [Bool.or_eq_true] at h
  rcases h with h | h
  · simp only [Bool.and_eq_true] at h
    obtain ⟨h1, h2⟩ := h
    unfold cget
    rcases trB_ok t t' h2 dep i with ⟨e1, e2⟩ | ⟨x, y, e1, e2, e3⟩
    · rw [e1, e2]; exact hr _ _ h1
    · rw [e1, e2]; exact hr _ _ e3
  · rw [List.all_eq_true] at h
    exact hr _ _ (h i (by simpa using hi))

omit [Val] in
theorem renB_ok {ρ : Nat → Option Nat} : ∀ (f : Nat) (v v' : AV), renB ρ f v v' = true → Ren ρ v v' := by
  intro f
  induction f with
  | zero => intro v v' h; simp [renB] at h
  | succ f ih =>
    intro v v' h
    unfold renB at h
    split at h
    · obtain rfl := of_decide_eq_true h; exact .bool _
    · simp only [Bool.and_eq_true, decide_eq_true_eq] at h; obtain ⟨rfl, rfl⟩ := h; exact .int _ _
    · simp only [Bool.and_eq_true, decide_eq_true_eq] at h
      obtain ⟨rfl, rfl, rfl, h⟩ := h
      obtain rfl := E.eq_of_same h
      exact .sym _ _ _ _
    · obtain rfl := of_decide_eq_true h; exact .str _
    · exact .nilp
    · exact .nils
    · exact .nilm
    · exact .nilf
    · exact .nili
    · simp only [Bool.and_eq_true, decide_eq_true_eq] at h; obtain ⟨h1, rfl⟩ := h; exact .ptr h1
    · simp only [Bool.and_eq_true, decide_eq_true_eq] at h; obtain ⟨h1, rfl, rfl, rfl, rfl, rfl⟩ := h; exact .slice h1
    · exact .map (of_decide_eq_true h)
    · simp only [Bool.and_eq_true, decide_eq_true_eq] at h
      obtain ⟨rfl, h1, h2⟩ := h
      obtain ⟨a1, a2⟩ := listB_ok ih h1
      obtain ⟨b1, b2⟩ := listB_ok ih h2
      exact .fn a1 a2 b1 b2
    · simp only [Bool.and_eq_true, decide_eq_true_eq] at h; obtain ⟨rfl, h1⟩ := h; exact .iface (ih _ _ h1)
    · simp only [Bool.and_eq_true, decide_eq_true_eq] at h; obtain ⟨rfl, rfl, h1⟩ := h; exact .agg (vecB_ok ih h1)
    · obtain ⟨a1, a2⟩ := listB_ok ih h; exact .tup a1 a2
    · simp at h

def entB (r : AV → AV → Bool) : List (AV × AV × Nat) → List (AV × AV × Nat) → Bool
  | [], [] => true
  | (k, v, b) :: l, (k', v', b') :: m => r k k' && (r v v' && (decide (b = b') && entB r l m))
  | _, _ => false

omit [Val] in
theorem entB_ok {r : AV → AV → Bool} {R : AV → AV → Prop} (hr : ∀ a b, r a b = true → R a b) : ∀ {l m : List (AV × AV × Nat)}, entB r l m = true → l.length = m.length ∧
    ∀ i (h : i < l.length) (h' : i < m.length), R l[i].1 m[i].1 ∧ R l[i].2.1 m[i].2.1 ∧ l[i].2.2 = m[i].2.2 := by
  intro l
  induction l with
  | nil =>
    intro m h
    cases m with
    | nil => exact ⟨rfl, fun i hi => absurd hi (by simp)⟩
    | cons b m => simp [entB] at h
  | cons a l ih =>
    intro m h
    cases m with
    | nil => simp [entB] at h
    | cons b m =>
      obtain ⟨k, v, n⟩ := a
      obtain ⟨k', v', n'⟩ := b
      simp only [entB, Bool.and_eq_true, decide_eq_true_eq] at h
      obtain ⟨h1, h2, h3, h4⟩ := h
      obtain ⟨e1, e2⟩ := ih h4
      refine ⟨by simp [e1], fun i hi hi' => ?_⟩
      cases i with
      | zero => exact ⟨hr _ _ h1, hr _ _ h2, h3⟩
      | succ i => exact e2 i (by simpa using hi) (by simpa using hi')

def objB (ρ : Nat → Option Nat) (f : Nat) (o o' : AObj) : Bool :=
  match o, o' with
  | .cells n dep d t, .cells n' dep' d' t' => decide (n = n') && (decide (dep = dep') && vecB (renB ρ f) n dep d t d' t')
  | .map es c, .map es' c' => decide (c = c') && entB (renB ρ f) es es'
  | _, _ => false

omit [Val] in
theorem objB_ok {ρ : Nat → Option Nat} {f : Nat} {o o' : AObj} (h : objB ρ f o o' = true) : ORen ρ o o' := by
  unfold objB at h
  split at h
  · simp only [Bool.and_eq_true, decide_eq_true_eq] at h; obtain ⟨rfl, rfl, h1⟩ := h; exact .cells (vecB_ok (renB_ok f) h1)
  · simp only [Bool.and_eq_true, decide_eq_true_eq] at h
    obtain ⟨rfl, h1⟩ := h
    obtain ⟨e1, e2⟩ := entB_ok (renB_ok f) h1
    exact .map e1 e2
  · simp at h

def dobjB (ρ : Nat → Option Nat) (f : Nat) (o o' : AObj) : Bool :=
  match o, o' with
  | .dead, .dead => true
  | o, o' => objB ρ f o o'
omit [Val] in
theorem dobjB_ok {ρ : Nat → Option Nat} {f : Nat} {o o' : AObj} (h : dobjB ρ f o o' = true) : DRen ρ o o' := by
  unfold dobjB at h
  split at h
  · exact .inr ⟨rfl, rfl⟩
  · exact .inl (objB_ok h)

/-- Surely not the same. -/
def neqV : Nat → AV → AV → Bool
  | 0, _, _ => false
  | f + 1, v, v' =>
    match v, v' with
    | .bool a, .bool b => !decide (a = b)
    | .int k a, .int k' b => !(decide (k = k') && decide (a = b))
    | .int _ _, .sym _ _ _ _ => true
    | .sym _ _ _ _, .int _ _ => true
    | .str a, .str b => !decide (a = b)
    | .ptr i o, .ptr a o' => !(decide (i = a) && decide (o = o'))
    | .slice i o l c e s, .slice a o' l' c' e' s' => !(decide (i = a) && (decide (o = o') && (decide (l = l') && (decide (c = c') && (decide (e = e') && decide (s = s'))))))
    | .map i, .map a => !decide (i = a)
    | .nilp, .ptr .. => true
    | .ptr .., .nilp => true
    | .nils, .slice .. => true
    | .slice .., .nils => true
    | .nilm, .map _ => true
    | .map _, .nilm => true
    | .nilf, .fn .. => true
    | .fn .., .nilf => true
    | .nili, .iface .. => true
    | .iface .., .nili => true
    | .iface t v, .iface t' v' => !decide (t = t') || neqV f v v'
    | .agg n dep d t, .agg _ dep' d' t' => (List.range n).any fun i => neqV f (cget dep d t i) (cget dep' d' t' i)
    | _, _ => false

omit [Val] in
theorem neqV_ok : ∀ (f : Nat) (v v' : AV), neqV f v v' = true → ¬ Ren some v v' := by
  intro f
  induction f with
  | zero => intro v v' h; simp [neqV] at h
  | succ f ih =>
    intro v v' h hr
    unfold neqV at h
    cases hr <;> simp_all
    rename_i h1
    obtain ⟨x, hx, hn⟩ := h
    exact ih _ _ hn (h1 x hx)

def neqE : List (AV × AV × Nat) → List (AV × AV × Nat) → Bool
  | (k, v, _) :: l, (k', v', _) :: m => neqV 4 k k' || (neqV 4 v v' || neqE l m)
  | _, _ => false

omit [Val] in
theorem neqE_ok : ∀ {l m : List (AV × AV × Nat)}, neqE l m = true → ¬ ∀ i (h : i < l.length) (h' : i < m.length), Ren some l[i].1 m[i].1 ∧ Ren some l[i].2.1 m[i].2.1 ∧ l[i].2.2 = m[i].2.2 := by
  intro l
  induction l with
  | nil => intro m h; simp [neqE] at h
  | cons a l ih =>
    intro m h hall
    cases m with
    | nil => simp [neqE] at h
    | cons b m =>
      obtain ⟨k, v, n⟩ := a
      obtain ⟨k', v', n'⟩ := b
      simp only [neqE, Bool.or_eq_true] at h
      have h0 := hall 0 (by simp) (by simp)
      rcases h with h | h | h
      · exact neqV_ok 4 _ _ h h0.1
      · exact neqV_ok 4 _ _ h h0.2.1
      · exact ih h fun i hi hi' => hall (i + 1) (by simpa using hi) (by simpa using hi')

def diffO (o o' : AObj) : Bool :=
  match o, o' with
  | .cells n dep d t, .cells n' dep' d' t' => !decide (n = n') || (!decide (dep = dep') || (List.range n).any fun i => neqV 4 (cget dep d t i) (cget dep d' t' i))
  | .map es c, .map es' c' => !decide (c = c') || (!decide (es.length = es'.length) || neqE es es')
  | .cells .., .dead => true
  | .map .., .dead => true
  | _, _ => false

omit [Val] in
theorem diffO_ok {o₀ o' o : AObj} (hd : diffO o₀ o = true) (h : DRen some o' o) : o' ≠ o₀ := by
  rintro rfl
  rcases h with h | ⟨rfl, rfl⟩
  · cases h with
    | cells h =>
      simp only [diffO, decide_true, Bool.not_true, Bool.false_or, List.any_eq_true] at hd
      obtain ⟨i, hi, hn⟩ := hd
      exact neqV_ok 4 _ _ hn (h i (by simpa using hi))
    | map hl h =>
      simp only [diffO, decide_true, Bool.not_true, Bool.false_or, hl] at hd
      exact neqE_ok hd h
  · simp [diffO] at hd

def renF (ρ : Nat → Option Nat) : Nat → AV → AV
  | 0, _ => .junk
  | f + 1, v =>
    match v with
    | .ptr i o => .ptr ((ρ i).getD 0) o
    | .slice i o l c e s => .slice ((ρ i).getD 0) o l c e s
    | .map i => .map ((ρ i).getD 0)
    | .fn g l m => .fn g (l.map (renF ρ f)) (m.map (renF ρ f))
    | .iface t v => .iface t (renF ρ f v)
    | .agg n dep d t => .agg n dep (renF ρ f d) (t.map (renF ρ f))
    | .tup l => .tup (l.map (renF ρ f))
    | v => v

def renO (ρ : Nat → Option Nat) (f : Nat) (o : AObj) : AObj :=
  match o with
  | .cells n dep d t => .cells n dep (renF ρ f d) (t.map (renF ρ f))
  | .map es c => .map (es.map fun e => (renF ρ f e.1, renF ρ f e.2.1, e.2.2)) c
  | o => o

/-- Numbers by a list. -/
def lookL : List (Nat × Nat) → Nat → Option Nat
  | [], _ => none
  | (j, a) :: l, i => bif Nat.beq i j then some a else lookL l i
def lookG (G : Nat) (l : List (Nat × Nat)) (i : Nat) : Option Nat := bif Nat.blt i G then some i else lookL l i

omit [Val] in
theorem lookL_mem {l : List (Nat × Nat)} {i a : Nat} (h : lookL l i = some a) : (i, a) ∈ l := by
  induction l with
  | nil => simp [lookL] at h
  | cons x l ih =>
    obtain ⟨j, b⟩ := x
    unfold lookL at h
    cases e : Nat.beq i j with
    | true =>
      rw [e] at h
      simp only [cond_true, Option.some.injEq] at h
      obtain rfl := Nat.eq_of_beq_eq_true e
      subst h
      simp
    | false =>
      rw [e] at h
      simp only [cond_false] at h
      exact List.mem_cons_of_mem _ (ih h)

omit [Val] in
theorem lookG_mem {G : Nat} {l : List (Nat × Nat)} {i a : Nat} (h : lookG G l i = some a) : (i < G ∧ a = i) ∨ (G ≤ i ∧ (i, a) ∈ l) := by
  unfold lookG at h
  cases e : Nat.blt i G with
  | true =>
    rw [e] at h
    simp only [cond_true, Option.some.injEq] at h
    unfold Nat.blt at e
    exact .inl ⟨Nat.le_of_ble_eq_true e, h.symm⟩
  | false =>
    rw [e] at h
    simp only [cond_false] at h
    refine .inr ⟨?_, lookL_mem h⟩
    rcases Nat.lt_or_ge i G with hi | hi
    · unfold Nat.blt at e
      rw [Nat.ble_eq_true_of_le (show i + 1 ≤ G from hi)] at e
      simp at e
    · exact hi

/-- No number twice, on either side. -/
def apartB : List (Nat × Nat) → Bool
  | [] => true
  | (i, a) :: l => (l.all fun x => !Nat.beq x.1 i && !Nat.beq x.2 a) && apartB l

omit [Val] in
theorem apartB_ok {l : List (Nat × Nat)} (h : apartB l = true) : ∀ i j a, (i, a) ∈ l → (j, a) ∈ l → i = j := by
  induction l with
  | nil => intro i j a hi; simp at hi
  | cons x l ih =>
    obtain ⟨k, b⟩ := x
    simp only [apartB, Bool.and_eq_true, List.all_eq_true] at h
    obtain ⟨h1, h2⟩ := h
    intro i j a hi hj
    rw [List.mem_cons] at hi hj
    have hne : ∀ c, (c, b) ∉ l := by
      intro c hc
      have := h1 _ hc
      simp at this
    rcases hi with hi | hi
    · obtain ⟨rfl, rfl⟩ := Prod.mk.inj hi
      rcases hj with hj | hj
      · exact (Prod.mk.inj hj).1.symm
      · exact absurd hj (hne _)
    · rcases hj with hj | hj
      · obtain ⟨rfl, rfl⟩ := Prod.mk.inj hj
        exact absurd hi (hne _)
      · exact ih h2 i j a hi hj

/-- Objects by number. -/
def layL : List (Nat × AObj) → Tr AObj → Tr AObj
  | [], t => t
  | (i, o) :: l, t => layL l (t.set o HD i)

omit [Val] in
theorem layL_get : ∀ {l : List (Nat × AObj)} {t : Tr AObj} {i : Nat} {o : AObj}, i < 2 ^ HD → (∀ x ∈ l, x.1 < 2 ^ HD) → (layL l t).get HD i = some o → (i, o) ∈ l ∨ t.get HD i = some o := by
  intro l
  induction l with
  | nil => intro t i o _ _ h; exact .inr h
  | cons x l ih =>
    obtain ⟨j, b⟩ := x
    intro t i o hi hl h
    rcases ih hi (fun x hx => hl x (List.mem_cons_of_mem _ hx)) h with k | k
    · exact .inl (List.mem_cons_of_mem _ k)
    · rw [Tr.get_set_lt b t (hl _ List.mem_cons_self) hi] at k
      split at k
      · rename_i e
        have e' : j = i := e
        subst e'
        obtain rfl := Option.some.inj k
        exact .inl List.mem_cons_self
      · exact .inr k

/-- Where an object is found: an argument leads to it, or a cell of one that was found, or an entry of a map that was found; the number says which of those that it leads to. -/
inductive Way where
  | arg (k j : Nat)
  | cell (i c j : Nat)
  | entry (i k j : Nat)

/-- The objects that a value leads to. -/
def idsOf : Nat → AV → List Nat
  | 0, _ => []
  | f + 1, v =>
    match v with
    | .ptr i _ => [i]
    | .slice i .. => [i]
    | .map i => [i]
    | .fn _ l m => l.flatMap (idsOf f) ++ m.flatMap (idsOf f)
    | .iface _ v => idsOf f v
    | .agg n dep d t => (List.range n).flatMap fun i => idsOf f (cget dep d t i)
    | .tup l => l.flatMap (idsOf f)
    | _ => []
def pick? : List Nat → Nat → Option Nat
  | [], _ => none
  | a :: l, j => match j with
    | 0 => some a
    | j + 1 => pick? l j

/-- A call that is known: its arguments and objects, what it answers, the new objects that the answer leads to, the objects that it changes. -/
structure Ent where
  f : FuncId
  args : List AV
  nx : Nat
  objs : List (Nat × AObj)
  ways : List (Nat × Way)
  ret : AV
  news : List (Nat × AObj)
  outs : List (Nat × AObj)

def wayOf (args : List AV) (h : H) (l : List (Nat × Nat)) : Way → Option Nat
  | .arg k j => pick? (idsOf 8 (args.getD k .junk)) j
  | .cell i c j => match lookL l i with
    | some b => match h.get b with
      | some (.cells _ dep d t) => pick? (idsOf 8 (cget dep d t c)) j
      | _ => none
    | none => none
  | .entry i k j => match lookL l i with
    | some b => match h.get b with
      | some (.map es _) => match es[k]? with
        | some e => pick? (idsOf 8 e.1 ++ idsOf 8 e.2.1) j
        | none => none
      | _ => none
    | none => none
def findWays (args : List AV) (h : H) : List (Nat × Way) → List (Nat × Nat) → Option (List (Nat × Nat))
  | [], l => some l
  | (i, w) :: r, l => match wayOf args h l w with
    | some a => findWays args h r ((i, a) :: l)
    | none => none

def numL : List (Nat × AObj) → Nat → List (Nat × Nat)
  | [], _ => []
  | (i, _) :: l, a => (i, a) :: numL l (a + 1)

def addL (ρ : Nat → Option Nat) : List (Nat × AObj) → H → H
  | [], h => h
  | (_, o) :: l, h => addL ρ l ⟨h.nx + 1, h.t.set (renO ρ 8 o) HD h.nx⟩

/-- The objects that were changed are laid. -/
def setL (ρ : Nat → Option Nat) : List (Nat × AObj) → H → H
  | [], h => h
  | (i, o) :: l, h => setL ρ l (h.set ((ρ i).getD 0) (renO ρ 8 o))

/-- Is a number among these? -/
def inL (l : List (Nat × AObj)) (i : Nat) : Bool := l.any fun x => Nat.beq x.1 i

def Ent.heap (e : Ent) : H := ⟨e.nx, layL e.objs .e⟩

section
variable (P : Program) (kn : Known) (G : Nat)

/-- The run that makes a call known. -/
def Ent.ran (e : Ent) (fuel n : Nat) : Option (AEnd × AMode × H) := bodyA P (fns P kn fuel n).cl (fns P kn fuel n).rn (fns P kn fuel n).dc fuel e.f e.args .normal e.heap

def Ent.ok (e : Ent) (fuel n : Nat) : Bool :=
  (e.objs.all fun x => Nat.ble G x.1 && Nat.blt x.1 e.nx) && (Nat.ble G e.nx && (Nat.ble e.nx (2 ^ HD) && ((e.news.all fun x => Nat.ble e.nx x.1) &&
  match e.ran P kn fuel n with
  | some (.ret v, _, h') => renB some 8 v e.ret && ((e.objs.all fun x => inL e.outs x.1 || match h'.get x.1 with | some o => objB some 8 o x.2 | none => false) &&
      ((e.news.all fun x => match h'.get x.1 with | some o => objB some 8 o x.2 | none => false) &&
      ((e.outs.all fun x => match h'.get x.1 with | some o => dobjB some 8 o x.2 | none => false) &&
      (e.outs.all fun x => inL e.objs x.1 && e.objs.all fun y => !Nat.beq y.1 x.1 || diffO y.2 x.2))))
  | _ => false)))

/-- Do the memory and the arguments fit? -/
def Ent.fitsB (e : Ent) (l : List (Nat × Nat)) (args : List AV) (h : H) : Bool :=
  (l.all fun x => Nat.ble G x.1 && (Nat.blt x.1 e.nx && (Nat.ble G x.2 && Nat.blt x.2 h.nx))) && (apartB l &&
  ((e.objs.all fun x => match lookG G l x.1 with
    | some a => (match h.get a with | some o => objB (lookG G l) 8 x.2 o | none => false)
    | none => false) && listB (renB (lookG G l) 8) e.args args))

/-- A call is served. -/
def Ent.serve (e : Ent) (args : List AV) (h : H) : Option (AEnd × H) :=
  match findWays args h e.ways [] with
  | none => none
  | some l =>
    bif Ent.fitsB G e l args h then
      let l' := numL e.news h.nx ++ l
      let v := renF (lookG G l') 8 e.ret
      bif Nat.ble (h.nx + e.news.length) (2 ^ HD) && (apartB l' && ((e.news.all fun x => objB (lookG G l') 8 x.2 (renO (lookG G l') 8 x.2)) && ((e.outs.all fun x => dobjB (lookG G l') 8 x.2 (renO (lookG G l') 8 x.2)) && renB (lookG G l') 8 e.ret v))) then
        some (.ret v, setL (lookG G l') e.outs (addL (lookG G l') e.news h))
      else none
    else none
end

/-- Known calls, by a list. -/
def knOf (G : Nat) : List Ent → Known
  | [], _, _, _ => none
  | e :: l, f, args, h => bif Nat.beq e.f f then (match e.serve G args h with | some r => some r | none => knOf G l f args h) else knOf G l f args h
end Go.Ab
