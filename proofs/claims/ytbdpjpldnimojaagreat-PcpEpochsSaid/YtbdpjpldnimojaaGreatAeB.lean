/-
  Calls that are known from one run over a small memory: what is looked at where such a call is met, and that it then answers as the run did.
  Conditions: those that each lemma names.
-/
import Derived.Test.YtbdpjpldnimojaaGreatAeA
noncomputable section
namespace Go.Ab

def Tr.isE {α : Type} (t : Tr α) : Bool := Tr.casesOn t true (fun _ => false) (fun _ _ => false)
def Tr.map {α : Type} (f : α → α) : Tr α → Tr α
  | .e => .e
  | .l x => .l (f x)
  | .n a b => .n (a.map f) (b.map f)

def listB (r : AV → AV → Bool) : List AV → List AV → Bool
  | [], [] => true
  | a :: l, b :: m => r a b && listB r l m
  | _, _ => false

def vecB (r : AV → AV → Bool) (n dep : Nat) (d : AV) (t : Tr AV) (d' : AV) (t' : Tr AV) : Bool :=
  (t.isE && (t'.isE && r d d')) || (List.range n).all fun i => r (cget dep d t i) (cget dep d' t' i)

def renB (ρ : Nat → Option Nat) : Nat → AV → AV → Bool
  | 0, _, _ => false
  | f + 1, v, v' =>
    match v, v' with
    | .bool a, .bool b => decide (a = b)
    | .int k a, .int k' b => decide (k = k') && decide (a = b)
    | .str a, .str b => decide (a = b)
    | .nilp, .nilp => true
    | .nils, .nils => true
    | .nilm, .nilm => true
    | .nilf, .nilf => true
    | .nili, .nili => true
    | .ptr i o, .ptr a o' => decide (ρ i = some a) && decide (o = o')
    | .slice i o l c e s, .slice a o' l' c' e' s' => decide (ρ i = some a) && (decide (o = o') && (decide (l = l') && (decide (c = c') && (decide (e = e') && decide (s = s')))))
    | .map i, .map a => decide (ρ i = some a)
    | .fn (.func g) l m, .fn (.func g') l' m' => decide (g = g') && (listB (renB ρ f) l l' && listB (renB ρ f) m m')
    | .iface t v, .iface t' v' => decide (t = t') && renB ρ f v v'
    | .agg n dep d t, .agg n' dep' d' t' => decide (n = n') && (decide (dep = dep') && vecB (renB ρ f) n dep d t d' t')
    | .tup l, .tup m => listB (renB ρ f) l m
    | _, _ => false

theorem listB_ok {r : AV → AV → Bool} {R : AV → AV → Prop} (hr : ∀ a b, r a b = true → R a b) : ∀ {l m : List AV}, listB r l m = true → l.length = m.length ∧ ∀ i, i < l.length → R (l.getD i .junk) (m.getD i .junk) := by
  intro l
  induction l with
  | nil =>
    intro m h
    cases m with
    | nil => exact ⟨rfl, fun i hi => absurd hi (by simp)⟩
    | cons b m => simp [listB] at h
  | cons a l ih =>
    intro m h
    cases m with
    | nil => simp [listB] at h
    | cons b m =>
      simp only [listB, Bool.and_eq_true] at h
      obtain ⟨h1, h2⟩ := ih h.2
      refine ⟨by simp [h1], fun i hi => ?_⟩
      cases i with
      | zero => simpa using hr a b h.1
      | succ i => simpa using h2 i (by simpa using hi)

theorem Tr.isE_eq {α : Type} {t : Tr α} (h : t.isE = true) : t = .e := by cases t <;> simp [Tr.isE] at h; rfl

theorem vecB_ok {r : AV → AV → Bool} {R : AV → AV → Prop} (hr : ∀ a b, r a b = true → R a b) {n dep : Nat} {d d' : AV} {t t' : Tr AV} (h : vecB r n dep d t d' t' = true) :
    ∀ i, i < n → R (cget dep d t i) (cget dep d' t' i) := by
  intro i hi
  unfold vecB at h
  rw [Bool.or_eq_true] at h
  rcases h with h | h
  · simp only [Bool.and_eq_true] at h
    obtain ⟨h1, h2, h3⟩ := h
    rw [Tr.isE_eq h1, Tr.isE_eq h2]
    simpa [cget, Tr.get_e] using hr _ _ h3
  · rw [List.all_eq_true] at h
    exact hr _ _ (h i (by simpa using hi))

theorem renB_ok {ρ : Nat → Option Nat} : ∀ (f : Nat) (v v' : AV), renB ρ f v v' = true → Ren ρ v v' := by
  intro f
  induction f with
  | zero => intro v v' h; simp [renB] at h
  | succ f ih =>
    intro v v' h
    unfold renB at h
    split at h
    · obtain rfl := of_decide_eq_true h; exact .bool _
    · simp only [Bool.and_eq_true, decide_eq_true_eq] at h; obtain ⟨rfl, rfl⟩ := h; exact .int _ _
    · obtain rfl := of_decide_eq_true h; exact .str _
    · exact .nilp
    · exact .nils
    · exact .nilm
    · exact .nilf
    · exact .nili
    · simp only [Bool.and_eq_true, decide_eq_true_eq] at h; obtain ⟨h1, rfl⟩ := h; exact .ptr h1
    · simp only [Bool.and_eq_true, decide_eq_true_eq] at h; obtain ⟨h1, rfl, rfl, rfl, rfl, rfl⟩ := h; exact .slice h1
    · exact .map (of_decide_eq_true h)
    · simp only [Bool.and_eq_true, decide_eq_true_eq] at h
      obtain ⟨rfl, h1, h2⟩ := h
      obtain ⟨a1, a2⟩ := listB_ok ih h1
      obtain ⟨b1, b2⟩ := listB_ok ih h2
      exact .fn a1 a2 b1 b2
    · simp only [Bool.and_eq_true, decide_eq_true_eq] at h; obtain ⟨rfl, h1⟩ := h; exact .iface (ih _ _ h1)
    · simp only [Bool.and_eq_true, decide_eq_true_eq] at h; obtain ⟨rfl, rfl, h1⟩ := h; exact .agg (vecB_ok ih h1)
    · obtain ⟨a1, a2⟩ := listB_ok ih h; exact .tup a1 a2
    · simp at h

def objB (ρ : Nat → Option Nat) (f : Nat) (o o' : AObj) : Bool :=
  match o, o' with
  | .cells n dep d t, .cells n' dep' d' t' => decide (n = n') && (decide (dep = dep') && vecB (renB ρ f) n dep d t d' t')
  | _, _ => false

theorem objB_ok {ρ : Nat → Option Nat} {f : Nat} {o o' : AObj} (h : objB ρ f o o' = true) : ORen ρ o o' := by
  unfold objB at h
  split at h
  · simp only [Bool.and_eq_true, decide_eq_true_eq] at h; obtain ⟨rfl, rfl, h1⟩ := h; exact .cells (vecB_ok (renB_ok f) h1)
  · simp at h

def renF (ρ : Nat → Option Nat) : Nat → AV → AV
  | 0, _ => .junk
  | f + 1, v =>
    match v with
    | .ptr i o => .ptr ((ρ i).getD 0) o
    | .slice i o l c e s => .slice ((ρ i).getD 0) o l c e s
    | .map i => .map ((ρ i).getD 0)
    | .fn g l m => .fn g (l.map (renF ρ f)) (m.map (renF ρ f))
    | .iface t v => .iface t (renF ρ f v)
    | .agg n dep d t => .agg n dep (renF ρ f d) (t.map (renF ρ f))
    | .tup l => .tup (l.map (renF ρ f))
    | v => v

def renO (ρ : Nat → Option Nat) (f : Nat) (o : AObj) : AObj :=
  match o with
  | .cells n dep d t => .cells n dep (renF ρ f d) (t.map (renF ρ f))
  | o => o

/-- Numbers by a list. -/
def lookL : List (Nat × Nat) → Nat → Option Nat
  | [], _ => none
  | (j, a) :: l, i => bif Nat.beq i j then some a else lookL l i
def lookG (G : Nat) (l : List (Nat × Nat)) (i : Nat) : Option Nat := bif Nat.blt i G then some i else lookL l i

theorem lookL_mem {l : List (Nat × Nat)} {i a : Nat} (h : lookL l i = some a) : (i, a) ∈ l := by
  induction l with
  | nil => simp [lookL] at h
  | cons x l ih =>
    obtain ⟨j, b⟩ := x
    unfold lookL at h
    cases e : Nat.beq i j with
    | true =>
      rw [e] at h
      simp only [cond_true, Option.some.injEq] at h
      obtain rfl := Nat.eq_of_beq_eq_true e
      subst h
      simp
    | false =>
      rw [e] at h
      simp only [cond_false] at h
      exact List.mem_cons_of_mem _ (ih h)

theorem lookG_mem {G : Nat} {l : List (Nat × Nat)} {i a : Nat} (h : lookG G l i = some a) : (i < G ∧ a = i) ∨ (G ≤ i ∧ (i, a) ∈ l) := by
  unfold lookG at h
  cases e : Nat.blt i G with
  | true =>
    rw [e] at h
    simp only [cond_true, Option.some.injEq] at h
    unfold Nat.blt at e
    exact .inl ⟨Nat.le_of_ble_eq_true e, h.symm⟩
  | false =>
    rw [e] at h
    simp only [cond_false] at h
    refine .inr ⟨?_, lookL_mem h⟩
    rcases Nat.lt_or_ge i G with hi | hi
    · unfold Nat.blt at e
      rw [Nat.ble_eq_true_of_le (show i + 1 ≤ G from hi)] at e
      simp at e
    · exact hi

/-- No number twice, on either side. -/
def apartB : List (Nat × Nat) → Bool
  | [] => true
  | (i, a) :: l => (l.all fun x => !Nat.beq x.1 i && !Nat.beq x.2 a) && apartB l

theorem apartB_ok {l : List (Nat × Nat)} (h : apartB l = true) : ∀ i j a, (i, a) ∈ l → (j, a) ∈ l → i = j := by
  induction l with
  | nil => intro i j a hi; simp at hi
  | cons x l ih =>
    obtain ⟨k, b⟩ := x
    simp only [apartB, Bool.and_eq_true, List.all_eq_true] at h
    obtain ⟨h1, h2⟩ := h
    intro i j a hi hj
    rw [List.mem_cons] at hi hj
    have hne : ∀ c, (c, b) ∉ l := by
      intro c hc
      have := h1 _ hc
      simp at this
    rcases hi with hi | hi
    · obtain ⟨rfl, rfl⟩ := Prod.mk.inj hi
      rcases hj with hj | hj
      · exact (Prod.mk.inj hj).1.symm
      · exact absurd hj (hne _)
    · rcases hj with hj | hj
      · obtain ⟨rfl, rfl⟩ := Prod.mk.inj hj
        exact absurd hi (hne _)
      · exact ih h2 i j a hi hj

/-- Objects by number. -/
def layL : List (Nat × AObj) → Tr AObj → Tr AObj
  | [], t => t
  | (i, o) :: l, t => layL l (t.set o HD i)

theorem layL_get : ∀ {l : List (Nat × AObj)} {t : Tr AObj} {i : Nat} {o : AObj}, i < 2 ^ HD → (∀ x ∈ l, x.1 < 2 ^ HD) → (layL l t).get HD i = some o → (i, o) ∈ l ∨ t.get HD i = some o := by
  intro l
  induction l with
  | nil => intro t i o _ _ h; exact .inr h
  | cons x l ih =>
    obtain ⟨j, b⟩ := x
    intro t i o hi hl h
    rcases ih hi (fun x hx => hl x (List.mem_cons_of_mem _ hx)) h with k | k
    · exact .inl (List.mem_cons_of_mem _ k)
    · rw [Tr.get_set_lt b t (hl _ List.mem_cons_self) hi] at k
      split at k
      · rename_i e
        have e' : j = i := e
        subst e'
        obtain rfl := Option.some.inj k
        exact .inl List.mem_cons_self
      · exact .inr k

/-- Where an object is found: an argument leads to it, or a cell of one that was found. -/
inductive Way where
  | arg (k : Nat)
  | cell (i c : Nat)

/-- A call that is known: its arguments and objects, what it answers, the new objects that the answer leads to. -/
structure Ent where
  f : FuncId
  args : List AV
  nx : Nat
  objs : List (Nat × AObj)
  ways : List (Nat × Way)
  ret : AV
  news : List (Nat × AObj)

def idOf : AV → Option Nat
  | .ptr i _ => some i
  | .slice i .. => some i
  | .map i => some i
  | _ => none

def findWays (args : List AV) (h : H) : List (Nat × Way) → List (Nat × Nat) → Option (List (Nat × Nat))
  | [], l => some l
  | (i, .arg k) :: r, l => match idOf (args.getD k .junk) with
    | some a => findWays args h r ((i, a) :: l)
    | none => none
  | (i, .cell j c) :: r, l => match lookL l j with
    | some b => match h.get b with
      | some (.cells _ dep d t) => match idOf (cget dep d t c) with
        | some a => findWays args h r ((i, a) :: l)
        | none => none
      | _ => none
    | none => none

def numL : List (Nat × AObj) → Nat → List (Nat × Nat)
  | [], _ => []
  | (i, _) :: l, a => (i, a) :: numL l (a + 1)

def addL (ρ : Nat → Option Nat) : List (Nat × AObj) → H → H
  | [], h => h
  | (_, o) :: l, h => addL ρ l ⟨h.nx + 1, h.t.set (renO ρ 8 o) HD h.nx⟩

def Ent.heap (e : Ent) : H := ⟨e.nx, layL e.objs .e⟩

section
variable (P : Program) (kn : Known) (G : Nat)

/-- The run that makes a call known. -/
def Ent.ran (e : Ent) (fuel n : Nat) : Option (AEnd × AMode × H) := bodyA P (fns P kn fuel n).cl (fns P kn fuel n).rn (fns P kn fuel n).dc fuel e.f e.args .normal e.heap

def Ent.ok (e : Ent) (fuel n : Nat) : Bool :=
  (e.objs.all fun x => Nat.ble G x.1 && Nat.blt x.1 e.nx) && (Nat.ble G e.nx && (Nat.ble e.nx (2 ^ HD) && ((e.news.all fun x => Nat.ble e.nx x.1) &&
  match e.ran P kn fuel n with
  | some (.ret v, _, h') => renB some 8 v e.ret && ((e.objs.all fun x => match h'.get x.1 with | some o => objB some 8 o x.2 | none => false) &&
      (e.news.all fun x => match h'.get x.1 with | some o => objB some 8 o x.2 | none => false))
  | _ => false)))

/-- Do the memory and the arguments fit? -/
def Ent.fitsB (e : Ent) (l : List (Nat × Nat)) (args : List AV) (h : H) : Bool :=
  (l.all fun x => Nat.ble G x.1 && (Nat.blt x.1 e.nx && (Nat.ble G x.2 && Nat.blt x.2 h.nx))) && (apartB l &&
  ((e.objs.all fun x => match lookG G l x.1 with
    | some a => (match h.get a with | some o => objB (lookG G l) 8 x.2 o | none => false)
    | none => false) && listB (renB (lookG G l) 8) e.args args))

/-- A call is served. -/
def Ent.serve (e : Ent) (args : List AV) (h : H) : Option (AEnd × H) :=
  match findWays args h e.ways [] with
  | none => none
  | some l =>
    bif Ent.fitsB G e l args h then
      let l' := numL e.news h.nx ++ l
      let v := renF (lookG G l') 8 e.ret
      bif Nat.ble (h.nx + e.news.length) (2 ^ HD) && (apartB l' && ((e.news.all fun x => objB (lookG G l') 8 x.2 (renO (lookG G l') 8 x.2)) && renB (lookG G l') 8 e.ret v)) then
        some (.ret v, addL (lookG G l') e.news h)
      else none
    else none
end

/-- Known calls, by a list. -/
def knOf (G : Nat) : List Ent → Known
  | [], _, _, _ => none
  | e :: l, f, args, h => bif Nat.beq e.f f then (match e.serve G args h with | some r => some r | none => knOf G l f args h) else knOf G l f args h
end Go.Ab
