/-
  The plain law of ShiftBack: the rounds.
  Conditions: those that each theorem names.
-/
import Derived.Test.YthonhnjdbnkfpaaSP
namespace Go.Proofs.Ythonhnjdbnkfpaa
open Go.ChangeShapes Go.WideShapes Go.ChangeAt Go.RowKit
set_option linter.unusedVariables false

theorem Chain.behind : ∀ {us : List Pc} {vs : List Pc} {p : Pc} {lo hi : Int}, Chain lo hi (us ++ p :: vs) → Chain p.2.1 hi vs := by
  intro us
  induction us with
  | nil => intro vs p lo hi h; exact h.2.2.2.2.2.2
  | cons q us ih => intro vs p lo hi h; exact ih h.2.2.2.2.2.2

theorem Backs.start {s : Int} (s0 : 0 ≤ s) (s1 : s < 4294967296) : Backs 0 s 0 [] s [] [] [] :=
  ⟨s0, s1, rfl, rfl, by simp, by simp, rfl, by simp, 0, by omega, by omega, by omega, Int.le_refl _⟩

theorem Backs.next {k : Nat} {s base a : Int} {ms : List M} {all old cur : List Pc} (h : Backs k s base ms a all old cur) {e1 e2 : Int} (p0 : 0 ≤ e1) (p1 : e1 ≤ 1023) (r0 : 0 ≤ e2) (r1 : e2 ≤ 511) :
    Backs (k + 1) s base ms ((a + e1 + 1 + e2) % 4294967296) all old cur := by
  obtain ⟨A, hA, A0, A1, hc⟩ := h.at_
  refine ⟨h.s0, h.s1, h.all_, h.ms_, h.len, h.full, h.base_, by have := h.num; omega, A + e1 + 1 + e2, by rw [hA]; omega, by omega, by push_cast; omega, hc.mono (by omega)⟩

theorem Backs.put {k : Nat} {s base a : Int} {ms : List M} {all old cur : List Pc} (h : Backs k s base ms a all old cur) (hk : k ≤ 200) {e1 e2 d : Int} (p0 : 0 ≤ e1) (p1 : e1 ≤ 1023) (r0 : 0 ≤ e2) (r1 : e2 ≤ 511)
    (hg : Good ((a + e1) % 4294967296) ((a + e1 + 1 + e2) % 4294967296) d) :
    ∃ p old' cur', cv s p = ((a + e1) % 4294967296, (a + e1 + 1 + e2) % 4294967296, d) ∧
      Backs (k + 1) s (markS base ms ((a + e1) % 4294967296) ((a + e1 + 1 + e2) % 4294967296) d).1 (markS base ms ((a + e1) % 4294967296) ((a + e1 + 1 + e2) % 4294967296) d).2 ((a + e1 + 1 + e2) % 4294967296) (all ++ [p]) old' cur' := by
  obtain ⟨A, hA, A0, A1, hc⟩ := h.at_
  obtain ⟨g1, g2, g3, g4, g5⟩ := id hg
  have hcv : cv s (A + e1, A + e1 + 1 + e2, d) = ((a + e1) % 4294967296, (a + e1 + 1 + e2) % 4294967296, d) := by
    unfold cv
    simp only [Prod.mk.injEq, and_true]
    constructor <;> omega
  have hn : 1 ≤ 1 + e2 + d := by omega
  have hch : Chain 0 (A + e1 + 1 + e2) (all ++ [(A + e1, A + e1 + 1 + e2, d)]) := Chain.snoc (p := (A + e1, A + e1 + 1 + e2, d)) hc (by show A ≤ A + e1; omega) (by show A + e1 < A + e1 + 1 + e2; omega) (by show A + e1 + 1 + e2 ≤ A + e1 + 512; omega) g1 g2 (by show 1 ≤ A + e1 + 1 + e2 - (A + e1) + d; omega)
  have hidx : idx ms ((a + e1 + 1 + e2) % 4294967296) = none := by
    unfold idx
    rw [List.findIdx?_eq_none_iff, h.ms_]
    intro m hm
    rw [List.mem_map] at hm
    obtain ⟨p, hp, rfl⟩ := hm
    have := hc.mem p (by rw [h.all_]; exact List.mem_append_right _ hp)
    simp only [beq_eq_false_iff_ne, ne_eq, cv]
    omega
  have hml : ms.length = cur.length := by rw [h.ms_]; simp
  have hnum := h.num
  by_cases h8 : cur.length < 8
  · refine ⟨(A + e1, A + e1 + 1 + e2, d), old, cur ++ [(A + e1, A + e1 + 1 + e2, d)], hcv, ?_⟩
    have hS : markS base ms ((a + e1) % 4294967296) ((a + e1 + 1 + e2) % 4294967296) d = (base, ms ++ [((a + e1) % 4294967296, (a + e1 + 1 + e2) % 4294967296, d)]) := by
      unfold markS; rw [if_pos hg, hidx]; simp [hml, h8]
    rw [hS]
    refine ⟨h.s0, h.s1, by rw [h.all_, List.append_assoc], by rw [List.map_append, ← h.ms_]; simp [hcv], by simp; omega, fun ho => ?_, h.base_, by simp; omega, A + e1 + 1 + e2, by rw [hA]; omega, by omega, by push_cast; omega, hch⟩
    have := h.full ho; omega
  · cases hcur : cur with
    | nil => rw [hcur] at h8; simp at h8
    | cons c cs =>
      have hl := h.len
      rw [hcur] at hl h8
      simp at hl h8
      have hcm := hc.mem c (by rw [h.all_, hcur]; simp)
      have hob := sumP_bound (ps := old) fun q hq => by have := hc.mem q (by rw [h.all_]; exact List.mem_append_left _ hq); omega
      have hol : old.length ≤ 200 := by have := h.num; rw [h.all_] at this; simp at this; omega
      refine ⟨(A + e1, A + e1 + 1 + e2, d), old ++ [c], cs ++ [(A + e1, A + e1 + 1 + e2, d)], hcv, ?_⟩
      have hms : ms = cv s c :: cs.map (cv s) := by rw [h.ms_, hcur]; rfl
      have hw : wrap64 (base + c.2.2) = base + c.2.2 := by rw [h.base_]; unfold wrap64; omega
      have hS : markS base ms ((a + e1) % 4294967296) ((a + e1 + 1 + e2) % 4294967296) d = (base + c.2.2, cs.map (cv s) ++ [((a + e1) % 4294967296, (a + e1 + 1 + e2) % 4294967296, d)]) := by
        unfold markS; rw [if_pos hg, hidx, hms]
        have : ¬ (cv s c :: cs.map (cv s)).length < 8 := by simp; omega
        simp only [this, if_false, List.getD_cons_zero, List.tail_cons]
        rw [show (cv s c).2.2 = c.2.2 from rfl, hw]
      rw [hS]
      refine ⟨h.s0, h.s1, by rw [h.all_, hcur]; simp, by simp [hcv], by simp; omega, fun _ => by simp; omega, ?_, by simp; omega, A + e1 + 1 + e2, by rw [hA]; omega, by omega, by push_cast; omega, hch⟩
      show base + c.2.2 = sumP (old ++ [c])
      rw [h.base_]; simp [sumP]

/-- What was asked lies in no piece, and not ahead of what went into the base: it comes back. -/
theorem Backs.back {k : Nat} {s base a x : Int} {ms : List M} {all old cur : List Pc} (h : Backs k s base ms a all old cur) (hk : k ≤ 200) {y : Int} (y0 : 0 ≤ y)
    (hy : y < (a - s + 1000) % 4294967296) (hx : x = (s + y) % 4294967296)
    (hin : ∀ p ∈ all, ¬ (0 < wrap32 ((x - (cv s p).1) % 4294967296) ∧ 0 < wrap32 (((cv s p).2.1 - x) % 4294967296)))
    (hold : ∀ us p, old = us ++ [p] → 0 ≤ wrap32 ((x - (cv s p).2.1) % 4294967296)) :
    backL ((x + outD base x ms % 4294967296) % 4294967296) base ms = x := by
  obtain ⟨A, hA, A0, A1, hc⟩ := h.at_
  have hs0 := h.s0
  have hs1 := h.s1
  have hy' : y < A + 1000 := by rw [hA] at hy; omega
  have hkk : (k : Int) ≤ 200 := by omega
  have hin' : ∀ p ∈ cur, y ≤ p.1 ∨ p.2.1 ≤ y := by
    intro p hp
    have hm := hc.mem p (by rw [h.all_]; exact List.mem_append_right _ hp)
    have := hin p (by rw [h.all_]; exact List.mem_append_right _ hp)
    simp only [cv, hx, wrap32] at this
    omega
  have hob := sumP_bound (ps := old) fun q hq => by have := hc.mem q (by rw [h.all_]; exact List.mem_append_left _ hq); omega
  have hol : old.length ≤ 200 := by have := h.num; rw [h.all_] at this; simp at this; omega
  have hcl := h.len
  have hout : outD base x ms = base + upto y cur := by
    rw [hx, h.ms_]
    refine out_abs y0 (by omega) cur base (fun p hp => ?_) (by rw [h.base_]; omega) (by rw [h.base_]; omega)
    have := hc.mem p (by rw [h.all_]; exact List.mem_append_right _ hp); omega
  have hlo : ∃ lo, Chain lo A cur ∧ 0 ≤ lo ∧ lo ≤ y := by
    rcases List.eq_nil_or_concat old with ho | ⟨us, p, ho⟩
    · rw [h.all_, ho] at hc
      exact ⟨0, hc, by omega, y0⟩
    · rw [List.concat_eq_append] at ho
      have hm := hc.mem p (by rw [h.all_, ho]; simp)
      have hp := hold us p ho
      have hb : Chain p.2.1 A cur := by
        rw [h.all_, ho] at hc
        simp only [List.append_assoc, List.cons_append, List.nil_append] at hc
        exact hc.behind
      refine ⟨p.2.1, hb, by omega, ?_⟩
      simp only [cv, hx, wrap32] at hp
      omega
  obtain ⟨lo, hcl', l0, l1⟩ := hlo
  have := (back_abs (s := s) y0 (by omega) cur lo A base hcl' l0 (by omega) l1 hin' (by rw [h.base_]; omega) (by rw [h.base_]; omega)).2
  rw [hout, h.ms_]
  rw [show (x + (base + upto y cur) % 4294967296) % 4294967296 = (s + y + (base + upto y cur)) % 4294967296 by rw [hx]; omega, this, hx]
end Go.Proofs.Ythonhnjdbnkfpaa
