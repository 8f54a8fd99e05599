/-
  The plain law of ShiftBack: pieces by their distance.
  Conditions: those that each theorem names.
-/
import Derived.Test.YthonhnjdbnkfpaaSL
namespace Go.Proofs.Ythonhnjdbnkfpaa
open Go.ChangeShapes Go.WideShapes Go.ChangeAt Go.RowKit
set_option linter.unusedVariables false

/-- A piece by its distance from where the numbers begin. -/
abbrev Pc := Int × Int × Int
def cv (s : Int) (p : Pc) : M := ((s + p.1) % 4294967296, (s + p.2.1) % 4294967296, p.2.2)

/-- Pieces one behind the other, none ahead of lo, the last one not behind hi. -/
def Chain : Int → Int → List Pc → Prop
  | lo, hi, [] => lo ≤ hi
  | lo, hi, p :: ps => lo ≤ p.1 ∧ p.1 < p.2.1 ∧ p.2.1 ≤ p.1 + 512 ∧ -2048 ≤ p.2.2 ∧ p.2.2 ≤ 2048 ∧ 1 ≤ p.2.1 - p.1 + p.2.2 ∧ Chain p.2.1 hi ps

theorem Chain.le : ∀ {ps : List Pc} {lo hi : Int}, Chain lo hi ps → lo ≤ hi := by
  intro ps
  induction ps with
  | nil => intro lo hi h; exact h
  | cons p ps ih => intro lo hi h; obtain ⟨h1, h2, _, _, _, _, h3⟩ := h; have := ih h3; omega
theorem Chain.mem : ∀ {ps : List Pc} {lo hi : Int}, Chain lo hi ps → ∀ p ∈ ps, lo ≤ p.1 ∧ p.1 < p.2.1 ∧ p.2.1 ≤ hi ∧ p.2.1 ≤ p.1 + 512 ∧ -2048 ≤ p.2.2 ∧ p.2.2 ≤ 2048 := by
  intro ps
  induction ps with
  | nil => intro lo hi h p hp; simp at hp
  | cons q ps ih =>
    intro lo hi h p hp
    obtain ⟨h1, h2, h3, h4, h5, h6, h7⟩ := h
    rw [List.mem_cons] at hp
    rcases hp with rfl | hp
    · exact ⟨h1, h2, h7.le, h3, h4, h5⟩
    · have := ih h7 p hp; omega
theorem Chain.mono : ∀ {ps : List Pc} {lo hi hi' : Int}, Chain lo hi ps → hi ≤ hi' → Chain lo hi' ps := by
  intro ps
  induction ps with
  | nil => intro lo hi hi' h k; show lo ≤ hi'; have : lo ≤ hi := h; omega
  | cons q ps ih => intro lo hi hi' h k; obtain ⟨h1, h2, h3, h4, h5, h6, h7⟩ := h; exact ⟨h1, h2, h3, h4, h5, h6, ih h7 k⟩
theorem Chain.snoc : ∀ {ps : List Pc} {lo hi : Int} {p : Pc}, Chain lo hi ps → hi ≤ p.1 → p.1 < p.2.1 → p.2.1 ≤ p.1 + 512 → -2048 ≤ p.2.2 → p.2.2 ≤ 2048 → 1 ≤ p.2.1 - p.1 + p.2.2 → Chain lo p.2.1 (ps ++ [p]) := by
  intro ps
  induction ps with
  | nil => intro lo hi p h k1 k2 k3 k4 k5 k6; have : lo ≤ hi := h; exact ⟨by omega, k2, k3, k4, k5, k6, Int.le_refl _⟩
  | cons q ps ih => intro lo hi p h k1 k2 k3 k4 k5 k6; obtain ⟨h1, h2, h3, h4, h5, h6, h7⟩ := h; exact ⟨h1, h2, h3, h4, h5, h6, ih h7 k1 k2 k3 k4 k5 k6⟩
theorem Chain.split : ∀ {us vs : List Pc} {lo hi : Int}, Chain lo hi (us ++ vs) → ∃ mid, Chain lo mid us ∧ Chain mid hi vs ∧ ∀ p ∈ us, p.2.1 ≤ mid := by
  intro us
  induction us with
  | nil => intro vs lo hi h; exact ⟨lo, Int.le_refl _, h, fun p hp => by simp at hp⟩
  | cons q us ih =>
    intro vs lo hi h
    obtain ⟨h1, h2, h3, h4, h5, h6, h7⟩ := h
    obtain ⟨mid, k1, k2, k3⟩ := ih h7
    refine ⟨mid, ⟨h1, h2, h3, h4, h5, h6, k1⟩, k2, fun p hp => ?_⟩
    rw [List.mem_cons] at hp
    rcases hp with rfl | hp
    · exact k1.le
    · exact k3 p hp

/-- What the pieces that end at X or ahead of it add up to. -/
def upto (X : Int) (ps : List Pc) : Int := ((ps.filter (fun p => decide (p.2.1 ≤ X))).map (fun p => p.2.2)).sum
theorem upto_cons (X : Int) (p : Pc) (ps : List Pc) : upto X (p :: ps) = (if p.2.1 ≤ X then p.2.2 else 0) + upto X ps := by
  unfold upto
  by_cases h : p.2.1 ≤ X <;> simp [h]
theorem upto_none {X : Int} {ps : List Pc} (h : ∀ p ∈ ps, X < p.2.1) : upto X ps = 0 := by
  unfold upto
  rw [List.filter_eq_nil_iff.mpr (fun p hp => by have := h p hp; simp; omega)]
  rfl
theorem upto_bound (X : Int) : ∀ (ps : List Pc), (∀ p ∈ ps, -2048 ≤ p.2.2 ∧ p.2.2 ≤ 2048) → -2048 * (ps.length : Int) ≤ upto X ps ∧ upto X ps ≤ 2048 * (ps.length : Int) := by
  intro ps
  induction ps with
  | nil => intro _; simp [upto]
  | cons p ps ih =>
    intro h
    have h1 := h p (by simp)
    have h2 := ih fun q hq => h q (by simp [hq])
    rw [upto_cons]
    simp only [List.length_cons]
    push_cast
    split <;> omega

theorem out_abs {s X : Int} (hX0 : 0 ≤ X) (hX1 : X ≤ 500000) : ∀ (ps : List Pc) (base : Int), (∀ p ∈ ps, 0 ≤ p.2.1 ∧ p.2.1 ≤ 500000 ∧ -2048 ≤ p.2.2 ∧ p.2.2 ≤ 2048) → -1000000 ≤ base - 2048 * (ps.length : Int) → base + 2048 * (ps.length : Int) ≤ 1000000 →
    outD base ((s + X) % 4294967296) (ps.map (cv s)) = base + upto X ps := by
  intro ps
  induction ps with
  | nil => intro base _ _ _; simp [outD, upto]
  | cons p ps ih =>
    intro base h b0 b1
    obtain ⟨q0, q1, d0, d1⟩ := h p (by simp)
    simp only [List.length_cons] at b0 b1
    push_cast at b0 b1
    have hw : wrap64 (base + p.2.2) = base + p.2.2 := by unfold wrap64; omega
    rw [List.map_cons, upto_cons]
    by_cases hq : p.2.1 ≤ X
    · have hr : reached ((s + X) % 4294967296) ((s + p.2.1) % 4294967296) = true := by unfold reached wrap32; simp; omega
      have : outD base ((s + X) % 4294967296) (cv s p :: ps.map (cv s)) = outD (base + p.2.2) ((s + X) % 4294967296) (ps.map (cv s)) := by simp [outD, cv, hr, hw]
      rw [this, ih (base + p.2.2) (fun r hr => h r (by simp [hr])) (by omega) (by omega), if_pos hq]
      omega
    · have hr : reached ((s + X) % 4294967296) ((s + p.2.1) % 4294967296) = false := by unfold reached wrap32; simp; omega
      have : outD base ((s + X) % 4294967296) (cv s p :: ps.map (cv s)) = outD base ((s + X) % 4294967296) (ps.map (cv s)) := by simp [outD, cv, hr]
      rw [this, ih base (fun r hr => h r (by simp [hr])) (by omega) (by omega), if_neg hq]
      omega

/-- Back of out: whence it came. -/
theorem back_abs {s X : Int} (hX0 : 0 ≤ X) (hX1 : X ≤ 500000) : ∀ (ps : List Pc) (lo hi d : Int), Chain lo hi ps → 0 ≤ lo → hi ≤ 500000 → lo ≤ X → (∀ p ∈ ps, X ≤ p.1 ∨ p.2.1 ≤ X) →
    -1000000 ≤ d - 2048 * (ps.length : Int) → d + 2048 * (ps.length : Int) ≤ 1000000 →
    lo ≤ X + upto X ps ∧ backL ((s + X + (d + upto X ps)) % 4294967296) d (ps.map (cv s)) = (s + X) % 4294967296 := by
  intro ps
  induction ps with
  | nil =>
    intro lo hi d hc h0 h1 h2 h3 b0 b1
    simp only [upto, List.filter_nil, List.map_nil, List.sum_nil, backL]
    constructor <;> omega
  | cons p ps ih =>
    intro lo hi d hc h0 h1 h2 h3 b0 b1
    obtain ⟨c1, c2, c3, c4, c5, c6, c7⟩ := hc
    have cl := c7.le
    simp only [List.length_cons] at b0 b1
    push_cast at b0 b1
    have hw : wrap64 (d + p.2.2) = d + p.2.2 := by unfold wrap64; omega
    have hb := upto_bound X ps fun q hq => by have := c7.mem q hq; omega
    have e1 : ∀ y, backL y d (cv s p :: ps.map (cv s)) = (if 0 ≤ gapOf y (((s + p.2.1) % 4294967296 + (d + p.2.2)) % 4294967296) then backL y (d + p.2.2) (ps.map (cv s))
        else if 0 < gapOf y (((s + p.1) % 4294967296 + d) % 4294967296) then (s + p.1) % 4294967296 else (y - d % 4294967296) % 4294967296) := by
      intro y
      have e : backL y d (cv s p :: ps.map (cv s)) = (if 0 ≤ gapOf y (((s + p.2.1) % 4294967296 + wrap64 (d + p.2.2)) % 4294967296) then backL y (wrap64 (d + p.2.2)) (ps.map (cv s))
        else if 0 < gapOf y (((s + p.1) % 4294967296 + d) % 4294967296) then (s + p.1) % 4294967296 else (y - d % 4294967296) % 4294967296) := rfl
      rw [hw] at e
      exact e
    rw [upto_cons, List.map_cons, e1]
    by_cases hq : p.2.1 ≤ X
    · obtain ⟨i1, i2⟩ := ih p.2.1 hi (d + p.2.2) c7 (by omega) h1 hq (fun q hq => h3 q (by simp [hq])) (by omega) (by omega)
      rw [if_pos hq]
      refine ⟨by omega, ?_⟩
      have e : s + X + (d + (p.2.2 + upto X ps)) = s + X + (d + p.2.2 + upto X ps) := by omega
      rw [e]
      have hg : 0 ≤ gapOf ((s + X + (d + p.2.2 + upto X ps)) % 4294967296) (((s + p.2.1) % 4294967296 + (d + p.2.2)) % 4294967296) := by unfold gapOf wrap32; omega
      rw [if_pos hg]
      exact i2
    · have hX : X ≤ p.1 := by rcases h3 p (by simp) with h | h <;> omega
      have hz : upto X ps = 0 := upto_none fun q hq => by have := c7.mem q hq; omega
      rw [if_neg hq, hz]
      refine ⟨by omega, ?_⟩
      have hg : ¬ 0 ≤ gapOf ((s + X + (d + (0 + 0))) % 4294967296) (((s + p.2.1) % 4294967296 + (d + p.2.2)) % 4294967296) := by unfold gapOf wrap32; omega
      have hg2 : ¬ 0 < gapOf ((s + X + (d + (0 + 0))) % 4294967296) (((s + p.1) % 4294967296 + d) % 4294967296) := by unfold gapOf wrap32; omega
      rw [if_neg hg, if_neg hg2]
      omega

def sumP (ps : List Pc) : Int := (ps.map (fun p => p.2.2)).sum
/-- What stands behind k rounds: all pieces, those that went into the base, those that are kept. -/
structure Backs (k : Nat) (s base : Int) (ms : List M) (a : Int) (all : List Pc) (old cur : List Pc) : Prop where
  s0 : 0 ≤ s
  s1 : s < 4294967296
  all_ : all = old ++ cur
  ms_ : ms = cur.map (cv s)
  len : cur.length ≤ 8
  full : old ≠ [] → cur.length = 8
  base_ : base = sumP old
  num : all.length ≤ k
  at_ : ∃ A : Int, a = (s + A) % 4294967296 ∧ 0 ≤ A ∧ A ≤ 1535 * k ∧ Chain 0 A all

theorem sumP_bound {ps : List Pc} (h : ∀ p ∈ ps, -2048 ≤ p.2.2 ∧ p.2.2 ≤ 2048) : -2048 * (ps.length : Int) ≤ sumP ps ∧ sumP ps ≤ 2048 * (ps.length : Int) := by
  induction ps with
  | nil => simp [sumP]
  | cons p ps ih =>
    have := h p (by simp)
    have := ih fun x hx => h x (by simp [hx])
    have e : sumP (p :: ps) = p.2.2 + sumP ps := by simp [sumP]
    rw [e]
    simp only [List.length_cons]
    push_cast
    omega
end Go.Proofs.Ythonhnjdbnkfpaa
