/-
  The plain law of ShiftSums: what the marks and the base add up to.
  Conditions: those that each theorem names.
-/
import Derived.Test.YthonhnjdbnkfpaaSJ
namespace Go.Proofs.Ythonhnjdbnkfpaa
open Go.ChangeShapes Go.WideShapes Go.ChangeAt Go.RowKit
set_option linter.unusedVariables false

theorem markS_len (base : Int) (ms : List M) (f q d : Int) (h : ms.length ≤ 8) : (markS base ms f q d).2.length ≤ 8 := by
  unfold markS
  split
  · split
    · simpa using h
    · split
      · simp; omega
      · simp; omega
  · exact h

def sumL (ms : List M) : Int := (ms.map (fun m => m.2.2)).sum
theorem sumL_append (a b : List M) : sumL (a ++ b) = sumL a + sumL b := by simp [sumL]
theorem sumL_cons (m : M) (ms : List M) : sumL (m :: ms) = m.2.2 + sumL ms := by simp [sumL]
theorem sumL_bound {ms : List M} (h : ∀ m ∈ ms, -2048 ≤ m.2.2 ∧ m.2.2 ≤ 2048) : -2048 * (ms.length : Int) ≤ sumL ms ∧ sumL ms ≤ 2048 * (ms.length : Int) := by
  induction ms with
  | nil => simp [sumL]
  | cons m ms ih =>
    have := h m (by simp)
    have := ih fun x hx => h x (by simp [hx])
    rw [sumL_cons]
    simp only [List.length_cons]
    omega

/-- What stands behind k rounds. -/
structure Sums (k : Nat) (base : Int) (ms : List M) (a s : Int) : Prop where
  len : ms.length ≤ 8
  a0 : 0 ≤ a
  a1 : a < 4294967296
  near : ∀ m ∈ ms, (a - m.2.1) % 4294967296 ≤ 512 * k
  lo : ∀ m ∈ ms, -2048 ≤ m.2.2 ∧ m.2.2 ≤ 2048
  eq : base + sumL ms = s
  b0 : -2048 * (k : Int) ≤ base
  b1 : base ≤ 2048 * (k : Int)

theorem Sums.bound {k : Nat} {base a s : Int} {ms : List M} (h : Sums k base ms a s) (hk : k ≤ 200) : -1000000 ≤ s ∧ s ≤ 1000000 := by
  have := sumL_bound h.lo
  have := h.len
  have := h.b0
  have := h.b1
  have := h.eq
  omega

theorem Sums.next {k : Nat} {base a s : Int} {ms : List M} (h : Sums k base ms a s) (hk : k ≤ 200) {e : Int} (e0 : 0 ≤ e) (e1 : e ≤ 511) : Sums (k + 1) base ms ((a + 1 + e) % 4294967296) s :=
  ⟨h.len, by omega, by omega, fun m hm => by have := h.near m hm; omega, h.lo, h.eq, by have := h.b0; omega, by have := h.b1; omega⟩

theorem idx_far {k : Nat} {base a s : Int} {ms : List M} (h : Sums k base ms a s) (hk : k ≤ 200) {e : Int} (e0 : 0 ≤ e) (e1 : e ≤ 511) : idx ms ((a + 1 + e) % 4294967296) = none := by
  unfold idx
  rw [List.findIdx?_eq_none_iff]
  intro m hm
  have := h.near m hm
  have h0 := h.a0
  have h1 := h.a1
  simp only [beq_eq_false_iff_ne, ne_eq]
  intro he
  rw [he] at this
  omega

/-- The marks, and the base, with room for one more. -/
def room (base : Int) (ms : List M) : Int × List M := if ms.length < 8 then (base, ms) else (wrap64 (base + (ms.getD 0 (0,0,0)).2.2), ms.tail)
theorem markS_room {base f q d : Int} {ms : List M} (hg : Good f q d) (hi : idx ms q = none) : markS base ms f q d = ((room base ms).1, (room base ms).2 ++ [(f, q, d)]) := by
  unfold markS room
  rw [if_pos hg, hi]
  by_cases h : ms.length < 8 <;> simp [h]

theorem Sums.room {k : Nat} {base a s : Int} {ms : List M} (h : Sums k base ms a s) (hk : k ≤ 200) :
    (room base ms).2.length ≤ 7 ∧ (∀ m ∈ (room base ms).2, m ∈ ms) ∧ (room base ms).1 + sumL (room base ms).2 = s ∧ -2048 * ((k : Int) + 1) ≤ (room base ms).1 ∧ (room base ms).1 ≤ 2048 * ((k : Int) + 1) := by
  unfold Ythonhnjdbnkfpaa.room
  have := h.b0
  have := h.b1
  have hl := h.len
  have he := h.eq
  by_cases h8 : ms.length < 8
  · rw [if_pos h8]
    exact ⟨by show ms.length ≤ 7; omega, fun m hm => hm, he, by show _ ≤ base; omega, by show base ≤ _; omega⟩
  · rw [if_neg h8]
    cases ms with
    | nil => simp at h8
    | cons m ms =>
      have hm := h.lo m (by simp)
      have hw : wrap64 (base + m.2.2) = base + m.2.2 := by unfold wrap64; omega
      rw [sumL_cons] at he
      simp only [List.getD_cons_zero, List.tail_cons, hw]
      refine ⟨by simp at hl; omega, fun x hx => by simp [hx], by omega, by omega, by omega⟩

theorem Sums.put {k : Nat} {base a s : Int} {ms : List M} (h : Sums k base ms a s) (hk : k ≤ 200) {e d : Int} (e0 : 0 ≤ e) (e1 : e ≤ 511) (d0 : -2048 ≤ d) (d1 : d ≤ 2048) :
    Sums (k + 1) (Ythonhnjdbnkfpaa.room base ms).1 ((Ythonhnjdbnkfpaa.room base ms).2 ++ [(a, (a + 1 + e) % 4294967296, d)]) ((a + 1 + e) % 4294967296) (s + d) := by
  obtain ⟨r1, r2, r3, r4, r5⟩ := h.room hk
  have hn := h.next hk e0 e1
  refine ⟨by simp; omega, hn.a0, hn.a1, fun m hm => ?_, fun m hm => ?_, ?_, by push_cast; omega, by push_cast; omega⟩
  · rw [List.mem_append, List.mem_singleton] at hm
    rcases hm with hm | rfl
    · exact hn.near m (r2 m hm)
    · simp; omega
  · rw [List.mem_append, List.mem_singleton] at hm
    rcases hm with hm | rfl
    · exact h.lo m (r2 m hm)
    · exact ⟨d0, d1⟩
  · rw [sumL_append]
    simp only [sumL_cons, show sumL [] = 0 from rfl]
    omega

theorem Sums.one {k : Nat} {base a s : Int} {ms : List M} (h : Sums k base ms a s) (hk : k ≤ 200) {e d : Int} (e0 : 0 ≤ e) (e1 : e ≤ 511) (hg : Good a ((a + 1 + e) % 4294967296) d) :
    Sums (k + 1) (markS base ms a ((a + 1 + e) % 4294967296) d).1 (markS base ms a ((a + 1 + e) % 4294967296) d).2 ((a + 1 + e) % 4294967296) (s + d) := by
  rw [markS_room hg (idx_far h hk e0 e1)]
  exact h.put hk e0 e1 hg.1 hg.2.1

theorem markS_again {base f q d d' : Int} {L : List M} (hi : idx L q = none) (hg : Good f q d') : markS base (L ++ [(f, q, d)]) f q d' = (base, L ++ [(f, q, d')]) := by
  have h : idx (L ++ [(f, q, d)]) q = some L.length := by
    unfold idx at hi ⊢
    rw [List.findIdx?_append, hi]
    simp
  unfold markS
  rw [if_pos hg, h]
  simp

theorem Sums.two {k : Nat} {base a s : Int} {ms : List M} (h : Sums k base ms a s) (hk : k ≤ 200) {e d d' : Int} (e0 : 0 ≤ e) (e1 : e ≤ 511) (hg : Good a ((a + 1 + e) % 4294967296) d) (hg' : Good a ((a + 1 + e) % 4294967296) d') :
    Sums (k + 1) (markS (markS base ms a ((a + 1 + e) % 4294967296) d).1 (markS base ms a ((a + 1 + e) % 4294967296) d).2 a ((a + 1 + e) % 4294967296) d').1
      (markS (markS base ms a ((a + 1 + e) % 4294967296) d).1 (markS base ms a ((a + 1 + e) % 4294967296) d).2 a ((a + 1 + e) % 4294967296) d').2 ((a + 1 + e) % 4294967296) (s + d') := by
  have hf := idx_far h hk e0 e1
  obtain ⟨r1, r2, r3, r4, r5⟩ := h.room hk
  have hL : idx (Ythonhnjdbnkfpaa.room base ms).2 ((a + 1 + e) % 4294967296) = none := by
    unfold idx at hf ⊢
    rw [List.findIdx?_eq_none_iff] at hf ⊢
    exact fun m hm => hf m (r2 m hm)
  rw [markS_room hg hf]
  simp only
  rw [markS_again hL hg']
  exact h.put hk e0 e1 hg'.1 hg'.2.1

theorem outD_all {x : Int} : ∀ (ms : List M) (base : Int), (∀ m ∈ ms, reached x m.2.1 = true) → (∀ m ∈ ms, -2048 ≤ m.2.2 ∧ m.2.2 ≤ 2048) → ms.length ≤ 8 → -1000000 - 2048 * (8 - (ms.length : Int)) ≤ base → base ≤ 1000000 + 2048 * (8 - (ms.length : Int)) → outD base x ms = base + sumL ms := by
  intro ms
  induction ms with
  | nil => intro base _ _ _ _ _; simp [outD, sumL]
  | cons m ms ih =>
    intro base h1 h2 h3 h4 h5
    have hm := h2 m (by simp)
    have hr := h1 m (by simp)
    simp only [List.length_cons] at h3 h4 h5
    push_cast at h4 h5
    have hw : wrap64 (base + m.2.2) = base + m.2.2 := by unfold wrap64; omega
    have : outD base x (m :: ms) = outD (base + m.2.2) x ms := by simp [outD, hr, hw]
    rw [this, ih (base + m.2.2) (fun y hy => h1 y (by simp [hy])) (fun y hy => h2 y (by simp [hy])) (by omega) (by omega) (by omega), sumL_cons]
    omega

theorem Sums.out {k : Nat} {base a s : Int} {ms : List M} (h : Sums k base ms a s) (hk : k ≤ 200) : outD base ((a + 5) % 4294967296) ms = s := by
  rw [outD_all ms base (fun m hm => ?_) h.lo h.len (by have := h.b0; have := h.len; omega) (by have := h.b1; have := h.len; omega)]
  · exact h.eq
  · have := h.near m hm
    have := h.a0
    have := h.a1
    unfold reached wrap32
    simp
    omega
end Go.Proofs.Ythonhnjdbnkfpaa
