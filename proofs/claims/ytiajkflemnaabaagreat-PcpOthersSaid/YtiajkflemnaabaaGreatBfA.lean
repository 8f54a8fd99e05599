/-
  A call that is run once over a small memory of its own answers alike over every memory that holds the same objects by other numbers; it may change what it was given.
  Conditions: those that each lemma names.
-/
import Derived.Test.YtiajkflemnaabaaGreatBcD
namespace Go.Ab
variable [Val]

/-- The same value by other numbers. -/
inductive Ren (ρ : Nat → Option Nat) : AV → AV → Prop
  | bool (b : Bool) : Ren ρ (.bool b) (.bool b)
  | int (k : IntKind) (n : Int) : Ren ρ (.int k n) (.int k n)
  | sym (k : IntKind) (lo hi : Int) (e : E) : Ren ρ (.sym k lo hi e) (.sym k lo hi e)
  | str (s : List Nat) : Ren ρ (.str s) (.str s)
  | nilp : Ren ρ .nilp .nilp
  | nils : Ren ρ .nils .nils
  | nilm : Ren ρ .nilm .nilm
  | nilf : Ren ρ .nilf .nilf
  | nili : Ren ρ .nili .nili
  | ptr {i a off : Nat} (h : ρ i = some a) : Ren ρ (.ptr i off) (.ptr a off)
  | slice {i a off len cap esz : Nat} {ex : Bool} (h : ρ i = some a) : Ren ρ (.slice i off len cap ex esz) (.slice a off len cap ex esz)
  | map {i a : Nat} (h : ρ i = some a) : Ren ρ (.map i) (.map a)
  | fn {f : FuncId} {l₁ l₂ m₁ m₂ : List AV} (s₁ : l₁.length = m₁.length) (h₁ : ∀ i, i < l₁.length → Ren ρ (l₁.getD i .junk) (m₁.getD i .junk))
      (s₂ : l₂.length = m₂.length) (h₂ : ∀ i, i < l₂.length → Ren ρ (l₂.getD i .junk) (m₂.getD i .junk)) : Ren ρ (.fn (.func f) l₁ l₂) (.fn (.func f) m₁ m₂)
  | iface {t : TypeId} {v v' : AV} (h : Ren ρ v v') : Ren ρ (.iface t v) (.iface t v')
  | agg {n dep : Nat} {d d' : AV} {t t' : Tr AV} (h : ∀ i, i < n → Ren ρ (cget dep d t i) (cget dep d' t' i)) : Ren ρ (.agg n dep d t) (.agg n dep d' t')
  | tup {l m : List AV} (hs : l.length = m.length) (h : ∀ i, i < l.length → Ren ρ (l.getD i .junk) (m.getD i .junk)) : Ren ρ (.tup l) (.tup m)

theorem Ren.to {ρ : Nat → Option Nat} {φ₀ φ : Phi} (hφ : ∀ i a, ρ i = some a → φ₀ i = φ a) {v₀ v : AV} (h : Ren ρ v₀ v) : ∀ {x : Value}, VR φ₀ v₀ x → VR φ v x := by
  induction h with
  | bool b => intro x hx; cases hx; exact .bool b
  | int k n => intro x hx; cases hx; exact .int k n
  | sym k lo hi e => intro x hx; cases hx with | sym h1 h2 h3 h4 => exact .sym h1 h2 h3 h4
  | str s => intro x hx; cases hx; exact .str _
  | nilp => intro x hx; cases hx; exact .nilp
  | nils => intro x hx; cases hx; exact .nils
  | nilm => intro x hx; cases hx; exact .nilm
  | nilf => intro x hx; cases hx; exact .nilf
  | nili => intro x hx; cases hx; exact .nili
  | ptr h => intro x hx; cases hx with | ptr h' => exact .ptr ((hφ _ _ h).symm.trans h')
  | slice h => intro x hx; cases hx with | slice h' ho hl hc he hcs hz => exact .slice ((hφ _ _ h).symm.trans h') ho hl hc he hcs hz
  | map h => intro x hx; cases hx with | map h' => exact .map ((hφ _ _ h).symm.trans h')
  | fn s₁ _ s₂ _ ih₁ ih₂ =>
    intro x hx
    cases hx with
    | fn hf z₁ k₁ z₂ k₂ =>
      cases hf
      exact .fn (.func _) (z₁.trans s₁) (fun i hi => ih₁ i (s₁ ▸ hi) (k₁ i (s₁ ▸ hi))) (z₂.trans s₂) (fun i hi => ih₂ i (s₂ ▸ hi) (k₂ i (s₂ ▸ hi)))
  | iface _ ih => intro x hx; cases hx with | iface h' => exact .iface (ih h')
  | agg _ ih => intro x hx; cases hx with | agg hs hn h h1 => exact .agg hs hn (fun i hi => ih i hi (h i hi)) h1
  | tup hs _ ih => intro x hx; cases hx with | tup hs' h' => exact .tup (hs'.trans hs) (fun i hi => ih i (hs ▸ hi) (h' i (hs ▸ hi)))

theorem Ren.back {ρ : Nat → Option Nat} {φ₀ φ : Phi} (hφ : ∀ i a, ρ i = some a → φ₀ i = φ a) {v₀ v : AV} (h : Ren ρ v₀ v) : ∀ {x : Value}, VR φ v x → VR φ₀ v₀ x := by
  induction h with
  | bool b => intro x hx; cases hx; exact .bool b
  | int k n => intro x hx; cases hx; exact .int k n
  | sym k lo hi e => intro x hx; cases hx with | sym h1 h2 h3 h4 => exact .sym h1 h2 h3 h4
  | str s => intro x hx; cases hx; exact .str _
  | nilp => intro x hx; cases hx; exact .nilp
  | nils => intro x hx; cases hx; exact .nils
  | nilm => intro x hx; cases hx; exact .nilm
  | nilf => intro x hx; cases hx; exact .nilf
  | nili => intro x hx; cases hx; exact .nili
  | ptr h => intro x hx; cases hx with | ptr h' => exact .ptr ((hφ _ _ h).trans h')
  | slice h => intro x hx; cases hx with | slice h' ho hl hc he hcs hz => exact .slice ((hφ _ _ h).trans h') ho hl hc he hcs hz
  | map h => intro x hx; cases hx with | map h' => exact .map ((hφ _ _ h).trans h')
  | fn s₁ _ s₂ _ ih₁ ih₂ =>
    intro x hx
    cases hx with
    | fn hf z₁ k₁ z₂ k₂ =>
      cases hf
      exact .fn (.func _) (z₁.trans s₁.symm) (fun i hi => ih₁ i hi (k₁ i (s₁ ▸ hi))) (z₂.trans s₂.symm) (fun i hi => ih₂ i hi (k₂ i (s₂ ▸ hi)))
  | iface _ ih => intro x hx; cases hx with | iface h' => exact .iface (ih h')
  | agg _ ih => intro x hx; cases hx with | agg hs hn h h1 => exact .agg hs hn (fun i hi => ih i hi (h i hi)) h1
  | tup hs _ ih => intro x hx; cases hx with | tup hs' h' => exact .tup (hs'.trans hs.symm) (fun i hi => ih i hi (h' i (hs ▸ hi)))

omit [Val] in
theorem Ren.comp {ρ : Nat → Option Nat} {v v₀ : AV} (h : Ren some v v₀) : ∀ {v₁ : AV}, Ren ρ v₀ v₁ → Ren ρ v v₁ := by
  induction h with
  | bool b => intro v₁ hx; exact hx
  | int k n => intro v₁ hx; exact hx
  | sym k lo hi e => intro v₁ hx; exact hx
  | str s => intro v₁ hx; exact hx
  | nilp => intro v₁ hx; exact hx
  | nils => intro v₁ hx; exact hx
  | nilm => intro v₁ hx; exact hx
  | nilf => intro v₁ hx; exact hx
  | nili => intro v₁ hx; exact hx
  | ptr h => intro v₁ hx; obtain rfl := Option.some.inj h; exact hx
  | slice h => intro v₁ hx; obtain rfl := Option.some.inj h; exact hx
  | map h => intro v₁ hx; obtain rfl := Option.some.inj h; exact hx
  | fn s₁ _ s₂ _ ih₁ ih₂ =>
    intro v₁ hx
    cases hx with
    | fn z₁ k₁ z₂ k₂ => exact .fn (s₁.trans z₁) (fun i hi => ih₁ i hi (k₁ i (s₁ ▸ hi))) (s₂.trans z₂) (fun i hi => ih₂ i hi (k₂ i (s₂ ▸ hi)))
  | iface _ ih => intro v₁ hx; cases hx with | iface h' => exact .iface (ih h')
  | agg _ ih => intro v₁ hx; cases hx with | agg h => exact .agg fun i hi => ih i hi (h i hi)
  | tup hs _ ih => intro v₁ hx; cases hx with | tup hs' h' => exact .tup (hs.trans hs') (fun i hi => ih i hi (h' i (hs ▸ hi)))

/-- The same object by other numbers: of cells; a map. -/
inductive ORen (ρ : Nat → Option Nat) : AObj → AObj → Prop
  | cells {n dep : Nat} {d d' : AV} {t t' : Tr AV} (h : ∀ i, i < n → Ren ρ (cget dep d t i) (cget dep d' t' i)) : ORen ρ (.cells n dep d t) (.cells n dep d' t')
  | map {es es' : List (AV × AV × Nat)} {clock : Nat} (hl : es.length = es'.length)
      (h : ∀ i (h : i < es.length) (h' : i < es'.length), Ren ρ es[i].1 es'[i].1 ∧ Ren ρ es[i].2.1 es'[i].2.1 ∧ es[i].2.2 = es'[i].2.2) : ORen ρ (.map es clock) (.map es' clock)

theorem ORen.to {ρ : Nat → Option Nat} {φ₀ φ : Phi} (hφ : ∀ i a, ρ i = some a → φ₀ i = φ a) {o₀ o : AObj} (h : ORen ρ o₀ o) {p : Nat × Nat × Nat} {ob : Option Obj} (hx : OR φ₀ o₀ p ob) : OR φ o p ob := by
  cases h with
  | cells h =>
    obtain ⟨h1, h2, c, e, fz, h3, h4, h5, h6, h7⟩ := hx
    exact ⟨h1, h2, c, e, fz, h3, h4, h5, fun i hi => (h i hi).to hφ (h6 i hi), h7⟩
  | map hl h =>
    obtain ⟨ents, h1, h2, h3⟩ := hx
    refine ⟨ents, h1, h2.trans hl, fun i hi hi' => ?_⟩
    obtain ⟨k1, k2, k3⟩ := h i (hl ▸ hi) hi
    have k := h3 i (hl ▸ hi) hi'
    exact ⟨k1.to hφ k.key, k2.to hφ k.val, k3.symm.trans k.born⟩

theorem ORen.back {ρ : Nat → Option Nat} {φ₀ φ : Phi} (hφ : ∀ i a, ρ i = some a → φ₀ i = φ a) {o₀ o : AObj} (h : ORen ρ o₀ o) {p : Nat × Nat × Nat} {ob : Option Obj} (hx : OR φ o p ob) : OR φ₀ o₀ p ob := by
  cases h with
  | cells h =>
    obtain ⟨h1, h2, c, e, fz, h3, h4, h5, h6, h7⟩ := hx
    exact ⟨h1, h2, c, e, fz, h3, h4, h5, fun i hi => (h i hi).back hφ (h6 i hi), h7⟩
  | map hl h =>
    obtain ⟨ents, h1, h2, h3⟩ := hx
    refine ⟨ents, h1, h2.trans hl.symm, fun i hi hi' => ?_⟩
    obtain ⟨k1, k2, k3⟩ := h i hi (hl ▸ hi)
    have k := h3 i (hl ▸ hi) hi'
    exact ⟨k1.back hφ k.key, k2.back hφ k.val, k3.trans k.born⟩

omit [Val] in
theorem ORen.comp {ρ : Nat → Option Nat} {o o₀ o₁ : AObj} (h1 : ORen some o o₀) (h2 : ORen ρ o₀ o₁) : ORen ρ o o₁ := by
  cases h1 with
  | cells h =>
    cases h2 with
    | cells h' => exact .cells fun i hi => (h i hi).comp (h' i hi)
  | map hl h =>
    cases h2 with
    | map hl' h' =>
      refine .map (hl.trans hl') fun i hi hi' => ?_
      obtain ⟨a1, a2, a3⟩ := h i hi (hl ▸ hi)
      obtain ⟨b1, b2, b3⟩ := h' i (hl ▸ hi) hi'
      exact ⟨a1.comp b1, a2.comp b2, a3.trans b3⟩

omit [Val] in
theorem ORen.alive₀ {ρ : Nat → Option Nat} {o₀ o : AObj} (h : ORen ρ o₀ o) : o₀.alive = true := by cases h <;> rfl
omit [Val] in
theorem ORen.alive {ρ : Nat → Option Nat} {o₀ o : AObj} (h : ORen ρ o₀ o) : o.alive = true := by cases h <;> rfl

/-- .. or both dead. -/
def DRen (ρ : Nat → Option Nat) (o₀ o : AObj) : Prop := ORen ρ o₀ o ∨ (o₀ = .dead ∧ o = .dead)
theorem DRen.to {ρ : Nat → Option Nat} {φ₀ φ : Phi} (hφ : ∀ i a, ρ i = some a → φ₀ i = φ a) {o₀ o : AObj} (h : DRen ρ o₀ o) {p : Nat × Nat × Nat} {ob : Option Obj} (hx : OR φ₀ o₀ p ob) : OR φ o p ob := by
  rcases h with h | ⟨_, rfl⟩
  · exact h.to hφ hx
  · trivial
omit [Val] in
theorem DRen.alive₀ {ρ : Nat → Option Nat} {o₀ o : AObj} (h : DRen ρ o₀ o) (ho : o.alive = true) : o₀.alive = true := by
  rcases h with h | ⟨_, rfl⟩
  · exact h.alive₀
  · simp [AObj.alive] at ho

/-- A small memory, and where its objects are in another one. -/
structure Fits (G : Nat) (ρ : Nat → Option Nat) (h₀ h : H) : Prop where
  glob : ∀ g, g < G → ρ g = some g
  inj : ∀ i j a, ρ i = some a → ρ j = some a → i = j
  lt : ∀ i a, ρ i = some a → i < h₀.nx ∧ a < h.nx
  nx : h₀.nx ≤ 2 ^ HD
  none : ∀ i, i < 2 ^ HD → h₀.nx ≤ i → h₀.get i = none
  obj : ∀ i o₀, i < h₀.nx → h₀.get i = some o₀ → ∃ a o, ρ i = some a ∧ h.get a = some o ∧ ORen ρ o₀ o

def phiOf (ρ : Nat → Option Nat) (φ : Phi) : Phi := fun i => (ρ i).bind φ
omit [Val] in
theorem phiOf_some {ρ : Nat → Option Nat} {φ : Phi} {i a : Nat} (h : ρ i = some a) : phiOf ρ φ i = φ a := by simp [phiOf, h]

theorem Fits.hr {G : Nat} {ρ : Nat → Option Nat} {h₀ h : H} (ft : Fits G ρ h₀ h) {φ : Phi} {w : World} (hr : HR G φ h w) : HR G (phiOf ρ φ) h₀ w := by
  have hsome : ∀ i p, phiOf ρ φ i = some p → ∃ a, ρ i = some a ∧ φ a = some p := by
    intro i p hp
    cases e : ρ i with
    | none => simp [phiOf, e] at hp
    | some a => exact ⟨a, rfl, by simpa [phiOf, e] using hp⟩
  refine ⟨fun i p hp => ?_, ft.none, ft.nx, fun g hg => ?_, fun i j oi oj p q hi hj _ _ hp hq hpq => ?_, fun i o p hg hp => ?_⟩
  · obtain ⟨a, e, hp⟩ := hsome i p hp
    exact ⟨(ft.lt i a e).1, (hr.dom a p hp).2⟩
  · obtain ⟨cs, hc⟩ := hr.glob g hg
    exact ⟨cs, by rw [phiOf_some (ft.glob g hg)]; exact hc⟩
  · obtain ⟨a, ea, hp⟩ := hsome i p hp
    obtain ⟨b, eb, hq⟩ := hsome j q hq
    obtain ⟨a', oa, ea', ga, ra⟩ := ft.obj i oi (ft.lt i a ea).1 hi
    obtain ⟨b', ob, eb', gb, rb⟩ := ft.obj j oj (ft.lt j b eb).1 hj
    obtain rfl : a = a' := Option.some.inj (ea.symm.trans ea')
    obtain rfl : b = b' := Option.some.inj (eb.symm.trans eb')
    obtain rfl := hr.inj a b oa ob p q ga gb ra.alive rb.alive hp hq hpq
    exact ft.inj i j a ea eb
  · obtain ⟨a, ea, hp⟩ := hsome i p hp
    obtain ⟨a', oa, ea', ga, ra⟩ := ft.obj i o (ft.lt i a ea).1 hg
    obtain rfl : a = a' := Option.some.inj (ea.symm.trans ea')
    exact ra.back (fun _ _ h => phiOf_some h) (hr.obj a oa p ga hp)

/-- What a call leaves: the small memory behind it, the great one. Ch: which objects it changed. -/
structure Lays (ρ ρ' : Nat → Option Nat) (Ch : Nat → Bool) (h₀ h₀' h h' : H) : Prop where
  nx : h.nx ≤ h'.nx
  nx' : h'.nx ≤ 2 ^ HD
  old : ∀ a, a < h.nx → (∀ i, ρ i = some a → Ch i = false) → h'.get a = h.get a
  chg : ∀ i a, ρ i = some a → Ch i = true → ∃ o₀ o₀' o', h₀.get i = some o₀ ∧ h₀'.get i = some o₀' ∧ o₀' ≠ o₀ ∧ h'.get a = some o' ∧ DRen ρ' o₀' o'
  non : ∀ a, a < 2 ^ HD → h'.nx ≤ a → h'.get a = .none
  new : ∀ a o, h.nx ≤ a → a < h'.nx → h'.get a = some o → ∃ i o₀, ρ' i = some a ∧ h₀'.get i = some o₀ ∧ ORen ρ' o₀ o
  le : ∀ i a, ρ i = some a → ρ' i = some a
  inj : ∀ i j a, ρ' i = some a → ρ' j = some a → i = j
  fresh : ∀ i a, ρ' i = some a → ρ i = .none → h.nx ≤ a ∧ a < h'.nx ∧ h₀.nx ≤ i
  pure : ∀ i o₀, i < h₀.nx → h₀.get i = some o₀ → Ch i = false → ∃ o₀', h₀'.get i = some o₀' ∧ ORen some o₀' o₀

open Classical in
noncomputable def phiNew (ρ' : Nat → Option Nat) (h : H) (φ φ₀' : Phi) : Phi := fun a =>
  if a < h.nx then φ a else if e : ∃ i, ρ' i = some a then φ₀' (Classical.choose e) else none

theorem Lays.back {G : Nat} {ρ ρ' : Nat → Option Nat} {Ch : Nat → Bool} {h₀ h₀' h h' : H} (ft : Fits G ρ h₀ h) (ly : Lays ρ ρ' Ch h₀ h₀' h h') {φ φ₀' : Phi} {w w' : World} (hr : HR G φ h w)
    (hr' : HR G φ₀' h₀' w') (hp : Post (phiOf ρ φ) h₀ w φ₀' h₀' w') :
    HR G (phiNew ρ' h φ φ₀') h' w' ∧ Post φ h w (phiNew ρ' h φ φ₀') h' w' ∧ ∀ i a, ρ' i = some a → φ₀' i = phiNew ρ' h φ φ₀' a := by
  have hold : ∀ a, a < h.nx → phiNew ρ' h φ φ₀' a = φ a := fun a ha => by simp [phiNew, ha]
  have hnew : ∀ i a, ρ' i = some a → h.nx ≤ a → phiNew ρ' h φ φ₀' a = φ₀' i := by
    intro i a hi ha
    have hex : ∃ i, ρ' i = some a := ⟨i, hi⟩
    have : Classical.choose hex = i := ly.inj _ _ a (Classical.choose_spec hex) hi
    simp [phiNew, Nat.not_lt.mpr ha, hex, this]
  have hsame : ∀ i a, ρ i = some a → φ₀' i = phiNew ρ' h φ φ₀' a := by
    intro i a hi
    rw [hold a (ft.lt i a hi).2]
    cases e : φ a with
    | none => exact (hp.unt i (ft.lt i a hi).1 (by rw [phiOf_some hi]; exact e)).2
    | some p => exact hp.le i p (by rw [phiOf_some hi]; exact e)
  have hall : ∀ i a, ρ' i = some a → φ₀' i = phiNew ρ' h φ φ₀' a := by
    intro i a hi
    cases e : ρ i with
    | none => exact (hnew i a hi (ly.fresh i a hi e).1).symm
    | some b =>
      obtain rfl : a = b := Option.some.inj (hi.symm.trans (ly.le i b e))
      exact hsame i a e
  have hle : φ.le (phiNew ρ' h φ φ₀') := fun a p hpa => by rw [hold a (hr.dom a p hpa).1]; exact hpa
  have hdom : ∀ a p, phiNew ρ' h φ φ₀' a = some p → h.nx ≤ a → ∃ i, ρ' i = some a ∧ φ₀' i = some p := by
    intro a p hpa ha
    have hn : ¬ a < h.nx := Nat.not_lt.mpr ha
    unfold phiNew at hpa
    rw [if_neg hn] at hpa
    split at hpa
    · rename_i e; exact ⟨_, Classical.choose_spec e, hpa⟩
    · simp at hpa
  have hdlt : ∀ a p, phiNew ρ' h φ φ₀' a = some p → a < h'.nx := by
    intro a p hpa
    rcases Nat.lt_or_ge a h.nx with ha | ha
    · exact Nat.lt_of_lt_of_le ha ly.nx
    · obtain ⟨i, ei, _⟩ := hdom a p hpa ha
      cases e' : ρ i with
      | none => exact (ly.fresh i a ei e').2.1
      | some a' =>
        obtain rfl : a = a' := Option.some.inj (ei.symm.trans (ly.le i a' e'))
        exact absurd (ft.lt i a e').2 (Nat.not_lt.mpr ha)
  -- an object is kept, or changed
  have hcase : ∀ a, a < h.nx → (∀ i, ρ i = some a → Ch i = false) ∨ ∃ i, ρ i = some a ∧ Ch i = true := by
    intro a _
    by_cases e : ∃ i, ρ i = some a ∧ Ch i = true
    · exact .inr e
    · exact .inl fun i hi => by
        cases hc : Ch i with
        | false => rfl
        | true => exact absurd ⟨i, hi, hc⟩ e
  -- what stood there before
  have hwas : ∀ a o', a < h.nx → h'.get a = some o' → o'.alive = true → ∃ o, h.get a = some o ∧ o.alive = true := by
    intro a o' ha hg hal
    rcases hcase a ha with hk | ⟨i, ei, hc⟩
    · rw [ly.old a ha hk] at hg; exact ⟨o', hg, hal⟩
    · obtain ⟨o₀, _, _, g₀, _⟩ := ly.chg i a ei hc
      obtain ⟨a₂, o, ea, go, ro⟩ := ft.obj i o₀ (ft.lt i a ei).1 g₀
      obtain rfl : a = a₂ := Option.some.inj (ei.symm.trans ea)
      exact ⟨o, go, ro.alive⟩
  have howned : ∀ a o p, a < h.nx → h.get a = some o → o.alive = true → φ a = some p → Owned (phiOf ρ φ) h₀ p.1 →
      ∃ i o₀, ρ i = some a ∧ i < h₀.nx ∧ h₀.get i = some o₀ ∧ phiOf ρ φ i = some p ∧ ORen ρ o₀ o := by
    rintro a o p ha hg hal hpa ⟨i, o₀, p₂, g₀, f₀, e⟩
    cases ei : ρ i with
    | none => simp [phiOf, ei] at f₀
    | some a₂ =>
      have f₂ : φ a₂ = some p₂ := (phiOf_some ei).symm.trans f₀
      obtain ⟨a₃, o₃, ei₃, g₃, r₃⟩ := ft.obj i o₀ (ft.lt i a₂ ei).1 g₀
      obtain rfl : a₂ = a₃ := Option.some.inj (ei.symm.trans ei₃)
      obtain rfl := hr.inj a₂ a o₃ o p₂ p g₃ hg r₃.alive hal f₂ hpa e
      obtain rfl : o₃ = o := Option.some.inj (g₃.symm.trans hg)
      obtain rfl : p₂ = p := Option.some.inj (f₂.symm.trans hpa)
      exact ⟨i, o₀, ei, (ft.lt i a₂ ei).1, g₀, f₀, r₃⟩
  have hsub : ∀ b, Owned (phiOf ρ φ) h₀ b → Owned φ h b := by
    rintro b ⟨i, o₀, p, g₀, f₀, e⟩
    cases ei : ρ i with
    | none => simp [phiOf, ei] at f₀
    | some a =>
      obtain ⟨a', o, ei', g, _⟩ := ft.obj i o₀ (ft.lt i a ei).1 g₀
      obtain rfl : a = a' := Option.some.inj (ei.symm.trans ei')
      exact ⟨a, o, p, g, (phiOf_some ei).symm.trans f₀, e⟩
  have hmix : ∀ a b oa ob p q, a < h.nx → h.nx ≤ b → b < h'.nx → h'.get a = some oa → h'.get b = some ob → oa.alive = true → φ a = some p →
      phiNew ρ' h φ φ₀' b = some q → p.1 = q.1 → False := by
    intro a b oa ob p q ha hb hb' ga gb al hpa hqb e
    obtain ⟨j, o₀, ej, gj, rj⟩ := ly.new b ob hb hb' gb
    have fj : φ₀' j = some q := by rw [hall j b ej]; exact hqb
    have hj : h₀.nx ≤ j := by
      cases e' : ρ j with
      | none => exact (ly.fresh j b ej e').2.2
      | some b' =>
        obtain rfl : b = b' := Option.some.inj (ej.symm.trans (ly.le j b' e'))
        exact absurd (ft.lt j b e').2 (Nat.not_lt.mpr hb)
    rcases hcase a ha with hk | ⟨i, ei, hc⟩
    · rw [ly.old a ha hk] at ga
      by_cases ho : Owned (phiOf ρ φ) h₀ p.1
      · obtain ⟨i, o₁, ei, hi, gi, fi, _⟩ := howned a oa p ha ga al hpa ho
        obtain ⟨o₁', gi', r⟩ := ly.pure i o₁ hi gi (hk i ei)
        have := hr'.inj i j o₁' o₀ p q gi' gj r.alive₀ rj.alive₀ (hp.le i p fi) fj e
        omega
      · have := (hp.keep p.1 (hr.dom a p hpa).2 ho).2
        exact this ⟨j, o₀, q, gj, fj, e.symm⟩
    · obtain ⟨o₁, o₁', o', g₁, g₁', _, g', r⟩ := ly.chg i a ei hc
      obtain rfl : o' = oa := Option.some.inj (g'.symm.trans ga)
      have fi : φ₀' i = some p := by rw [hsame i a ei, hold a ha]; exact hpa
      have := hr'.inj i j o₁' o₀ p q g₁' gj (r.alive₀ al) rj.alive₀ fi fj e
      have := (ft.lt i a ei).1
      omega
  refine ⟨⟨fun a p hpa => ?_, fun a ha hge => ly.non a ha hge, ly.nx', fun g hg => ?_, fun a b oa ob p q ga gb la lb hpa hqb e => ?_, fun a o p ga hpa => ?_⟩,
    ⟨hle, hp.size, hp.os, hp.tape, hp.out, ly.nx, fun b hb hn => ?_, fun a ha hn => ?_⟩, hall⟩
  · refine ⟨hdlt a p hpa, ?_⟩
    rcases Nat.lt_or_ge a h.nx with ha | ha
    · rw [hold a ha] at hpa
      exact Nat.lt_of_lt_of_le (hr.dom a p hpa).2 hp.size
    · obtain ⟨i, ei, fi⟩ := hdom a p hpa ha
      exact (hr'.dom i p fi).2
  · obtain ⟨cs, hc⟩ := hr.glob g hg
    exact ⟨cs, hle g _ hc⟩
  · have da := hdlt a p hpa
    have db := hdlt b q hqb
    rcases Nat.lt_or_ge a h.nx with ha | ha
    · rcases Nat.lt_or_ge b h.nx with hb | hb
      · rw [hold a ha] at hpa
        rw [hold b hb] at hqb
        obtain ⟨o1, g1, l1⟩ := hwas a oa ha ga la
        obtain ⟨o2, g2, l2⟩ := hwas b ob hb gb lb
        exact hr.inj a b o1 o2 p q g1 g2 l1 l2 hpa hqb e
      · rw [hold a ha] at hpa
        exact (hmix a b oa ob p q ha hb db ga gb la hpa hqb e).elim
    · rcases Nat.lt_or_ge b h.nx with hb | hb
      · rw [hold b hb] at hqb
        exact (hmix b a ob oa q p hb ha da gb ga lb hqb hpa e.symm).elim
      · obtain ⟨i, o₁, ei, gi, ri⟩ := ly.new a oa ha da ga
        obtain ⟨j, o₂, ej, gj, rj⟩ := ly.new b ob hb db gb
        have := hr'.inj i j o₁ o₂ p q gi gj ri.alive₀ rj.alive₀ (by rw [hall i a ei]; exact hpa) (by rw [hall j b ej]; exact hqb) e
        subst this
        exact Option.some.inj (ei.symm.trans ej)
  · rcases Nat.lt_or_ge a h.nx with ha | ha
    · rw [hold a ha] at hpa
      rcases hcase a ha with hk | ⟨i, ei, hc⟩
      · rw [ly.old a ha hk] at ga
        cases hal : o.alive with
        | false => cases o <;> first | trivial | simp [AObj.alive] at hal
        | true =>
          by_cases ho : Owned (phiOf ρ φ) h₀ p.1
          · obtain ⟨i, o₁, ei, hi, gi, fi, r⟩ := howned a o p ha ga hal hpa ho
            obtain ⟨o₁', gi', r'⟩ := ly.pure i o₁ hi gi (hk i ei)
            have h1 := hr'.obj i o₁' p gi' (hp.le i p fi)
            have h2 : OR φ₀' o₁ p w'.heap[p.1]? := r'.to (fun _ _ h => by obtain rfl := Option.some.inj h; rfl) h1
            exact r.to hsame h2
          · rw [(hp.keep p.1 (hr.dom a p hpa).2 ho).1]
            exact (hr.obj a o p ga hpa).mono hle
      · obtain ⟨o₁, o₁', o', g₁, g₁', _, g', r⟩ := ly.chg i a ei hc
        obtain rfl : o' = o := Option.some.inj (g'.symm.trans ga)
        have fi : φ₀' i = some p := by rw [hsame i a ei, hold a ha]; exact hpa
        exact r.to hall (hr'.obj i o₁' p g₁' fi)
    · obtain ⟨i, ei, fi⟩ := hdom a p hpa ha
      obtain ⟨j, o₁, ej, gj, r⟩ := ly.new a o ha (hdlt a p hpa) ga
      obtain rfl := ly.inj i j a ei ej
      exact r.to hall (hr'.obj i o₁ p gj fi)
  · have hn₀ : ¬ Owned (phiOf ρ φ) h₀ b := fun ho => hn (hsub b ho)
    obtain ⟨k1, k2⟩ := hp.keep b hb hn₀
    refine ⟨k1, ?_⟩
    rintro ⟨a, o, p, ga, hpa, e⟩
    rcases Nat.lt_or_ge a h.nx with ha | ha
    · rw [hold a ha] at hpa
      rcases hcase a ha with hk | ⟨i, ei, hc⟩
      · rw [ly.old a ha hk] at ga
        exact hn ⟨a, o, p, ga, hpa, e⟩
      · obtain ⟨o₁, _, _, g₁, _⟩ := ly.chg i a ei hc
        obtain ⟨a₂, o₂, ea, go, _⟩ := ft.obj i o₁ (ft.lt i a ei).1 g₁
        obtain rfl : a = a₂ := Option.some.inj (ei.symm.trans ea)
        exact hn ⟨a, o₂, p, go, hpa, e⟩
    · obtain ⟨i, ei, fi⟩ := hdom a p hpa ha
      obtain ⟨j, o₁, ej, gj, _⟩ := ly.new a o ha (hdlt a p hpa) ga
      obtain rfl := ly.inj i j a ei ej
      exact k2 ⟨i, o₁, p, gj, fi, e⟩
  · refine ⟨ly.old a ha fun i ei => ?_, by rw [hold a ha]; exact hn⟩
    cases hc : Ch i with
    | false => rfl
    | true =>
      obtain ⟨o₁, o₁', _, g₁, g₁', hne, _⟩ := ly.chg i a ei hc
      have := (hp.unt i (ft.lt i a ei).1 (by rw [phiOf_some ei]; exact hn)).1
      rw [g₁, g₁'] at this
      exact absurd (Option.some.inj this) hne
end Go.Ab
