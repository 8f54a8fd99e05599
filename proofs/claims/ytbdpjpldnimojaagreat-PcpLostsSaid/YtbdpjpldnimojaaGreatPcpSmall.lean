/-
  The small functions of chapter 28 that speak of numbers alone: what they answer for all numbers, and the three statements on them once 'awake' is known to hold.
  Conditions: those that each theorem names.
-/
import Derived.Test.YtbdpjpldnimojaaGreatKnC
import Derived.WalkKit
import Derived.ProofKit
import Derived.OpenShut
namespace Go.Proofs.YtbdpjpldnimojaaGreat
open Go.ChangeShapes Go.WideShapes Go.ChangeAt Go.RowKit
set_option linter.unusedVariables false
theorem awakeC (w : World) : Calls Tryz.prog 7 #[] w fun e w' => e = .returned (.bool true) ∧ Below w.heap.size w w' :=
  Go.Ab.below_of_calls (Go.Ab.knOf_sim good2) (by rw [g0]; exact Nat.zero_le _) (Go.Ab.Ent.yields (Go.Ab.Ent.good (e := eAwake) (fuel := 1000) (n := 60) (by rw [g0]; exact okAwake)) rfl rfl (by rw [g0]; rfl) rfl) (by rw [g0]; exact Nat.zero_le _)
theorem wait_both (c : Int) : ∃ r : Int, ∀ w, (Calls Tryz.prog 8 #[.int .i64 c] w fun e w' => e = .returned (.int .u32 r) ∧ w' = w) ∧
    (Calls Tryz.prog 9 #[.int .i64 c] w fun e w' => e = .returned (.int .u32 r) ∧ w' = w) := by
  by_cases h7 : c = 7
  · subst h7
    refine ⟨30, fun w => ⟨?_, ?_⟩⟩
    · go_enter Tryz.func8, Tryz.ntmps8
      go_wp2
      go_ret
      exact ⟨rfl, rfl⟩
    · go_enter Tryz.func9, Tryz.ntmps9
      go_wp2
      go_ret
      exact ⟨rfl, rfl⟩
  · by_cases h8 : c = 8
    · subst h8
      refine ⟨30, fun w => ⟨?_, ?_⟩⟩
      · go_enter Tryz.func8, Tryz.ntmps8
        go_wp2
        go_ret
        exact ⟨rfl, rfl⟩
      · go_enter Tryz.func9, Tryz.ntmps9
        go_wp2
        go_ret
        exact ⟨rfl, rfl⟩
    · by_cases h10 : c = 10
      · subst h10
        refine ⟨30, fun w => ⟨?_, ?_⟩⟩
        · go_enter Tryz.func8, Tryz.ntmps8
          go_wp2
          go_ret
          exact ⟨rfl, rfl⟩
        · go_enter Tryz.func9, Tryz.ntmps9
          go_wp2
          go_ret
          exact ⟨rfl, rfl⟩
      · have k7 : (c == 7) = false := by simpa using h7
        have k8 : (c == 8) = false := by simpa using h8
        have k10 : (c == 10) = false := by simpa using h10
        clear h7 h8 h10
        refine ⟨1800, fun w => ⟨?_, ?_⟩⟩
        · go_enter Tryz.func8, Tryz.ntmps8
          go_wp2
          go_ret
          exact ⟨rfl, rfl⟩
        · go_enter Tryz.func9, Tryz.ntmps9
          go_wp2
          go_ret
          exact ⟨rfl, rfl⟩
theorem waits (hA : ∀ w, Calls Tryz.prog 7 #[] w fun e w' => e = .returned (.bool true) ∧ Below w.heap.size w w') (c : Int) (wc : (Lit.int .i64 c).wf = true) (w : World) :
    Calls Tryz.prog 3 #[.int .i64 c] w fun e w' => e = .returned (.bool true) ∧ Below w.heap.size w w' := by
  obtain ⟨r, hr⟩ := wait_both c
  go_enter Tryz.func3, Tryz.ntmps3
  go_wp2_with (first
    | (go_at_call 7; refine (hA _).mono ?_; rintro e w' ⟨rfl, hb⟩)
    | (go_at_call 8; refine (hr _).1.mono ?_; rintro e w' ⟨rfl, rfl⟩)
    | (go_at_call 9; refine (hr _).2.mono ?_; rintro e w' ⟨rfl, rfl⟩))
  go_ret
  exact ⟨rfl, hb⟩
def okOne (a : Int) : Bool := decide (0 ≤ a) && decide (a ≤ 4294967295)
def lostSpec (a b s : Int) : Bool := okOne a && (okOne b && (okOne s &&
  (decide (b + 1 < a) || decide (s + 2 < wrap64 (b - a - (b - a).tdiv 16)) || decide (b - a + 2 < s - s / 16))))
theorem ref_lost (a b s : Int) (w : World) : Calls Tryz.prog 15 #[.int .i64 a, .int .i64 b, .int .i64 s] w fun e w' => e = .returned (.bool (lostSpec a b s)) ∧ w' = w := by
  go_enter Tryz.func15, Tryz.ntmps15
  go_wp2
  all_goals go_ret
  all_goals refine ⟨?_, rfl⟩
  all_goals simp only [Array.getD_eq_getD_getElem?, Ending.returned.injEq]
  all_goals simp [lostSpec, okOne]
  all_goals first | omega | (simp [*]; done) | (simp only [show decide (0 ≤ a) = true by simp [*], show decide (a ≤ 4294967295) = true by simp [*], show decide (0 ≤ b) = true by simp [*], show decide (b ≤ 4294967295) = true by simp [*], show decide (0 ≤ s) = true by simp [*], show decide (s ≤ 4294967295) = true from by simp only [decide_eq_true_eq]; omega, Bool.true_and])
theorem lost (a b s : Int) (w : World) : Calls Tryz.prog 14 #[.int .i64 a, .int .i64 b, .int .i64 s] w fun e w' => e = .returned (.bool (lostSpec a b s)) ∧ Below w.heap.size w w' := by
  go_enter Tryz.func14, Tryz.ntmps14
  go_wp2
  go_loop [15] (fun i => ∃ k : Nat, k ≤ 3 ∧ i = .int .i64 k ∧ (0 < k → okOne a = true) ∧ (1 < k → okOne b = true) ∧ (2 < k → okOne s = true)) (fun i => 3 - (intOf i).toNat)
  case atStart => exact ⟨0, by omega, rfl, by omega, by omega, by omega⟩
  case round =>
    obtain ⟨k, hk, rfl, k1, k2, k3⟩ := hrel
    have hk4 : k = 0 ∨ k = 1 ∨ k = 2 ∨ k = 3 := by omega
    rcases hk4 with rfl | rfl | rfl | rfl
    · clear k1 k2 k3 hk
      go_wp2
      all_goals first
        | (go_ret; exact ⟨by simp [lostSpec, okOne]; omega, (Below.refl _ _).alloc (Nat.le_refl _) _⟩)
        | (go_round
           case rel => exact ⟨1, by omega, by go_num, fun _ => by simp [okOne]; omega, by omega, by omega⟩
           case measure => simp [intOf])
    · have j1 := k1 (by omega)
      clear k1 k2 k3 hk
      go_wp2
      all_goals first
        | (go_ret; exact ⟨by simp [lostSpec, okOne]; omega, (Below.refl _ _).alloc (Nat.le_refl _) _⟩)
        | (go_round
           case rel => exact ⟨2, by omega, by go_num, fun _ => j1, fun _ => by simp [okOne]; omega, by omega⟩
           case measure => simp [intOf])
    · have j1 := k1 (by omega)
      have j2 := k2 (by omega)
      clear k1 k2 k3 hk
      go_wp2
      all_goals first
        | (go_ret; exact ⟨by simp [lostSpec, okOne]; omega, (Below.refl _ _).alloc (Nat.le_refl _) _⟩)
        | (go_round
           case rel => exact ⟨3, by omega, by go_num, fun _ => j1, fun _ => j2, fun _ => by simp [okOne]; omega⟩
           case measure => simp [intOf])
    · have j1 := k1 (by omega)
      have j2 := k2 (by omega)
      have j3 := k3 (by omega)
      clear k1 k2 k3 hk
      have b1 : 0 ≤ a ∧ a ≤ 4294967295 := by simpa [okOne] using j1
      have b2 : 0 ≤ b ∧ b ≤ 4294967295 := by simpa [okOne] using j2
      have b3 : 0 ≤ s ∧ s ≤ 4294967295 := by simpa [okOne] using j3
      obtain ⟨b11, b12⟩ := b1
      obtain ⟨b21, b22⟩ := b2
      obtain ⟨b31, b32⟩ := b3
      go_wp2
      all_goals go_ret
      all_goals refine ⟨?_, (Below.refl _ _).alloc (Nat.le_refl _) _⟩
      all_goals simp [lostSpec, j1, j2, j3]
      all_goals first | omega | (simp [*]; done) | trace_state

theorem losts (hA : ∀ w, Calls Tryz.prog 7 #[] w fun e w' => e = .returned (.bool true) ∧ Below w.heap.size w w') (a b s : Int) (w : World) :
    Calls Tryz.prog 5 #[.int .i64 a, .int .i64 b, .int .i64 s] w fun e w' => e = .returned (.bool true) ∧ Below w.heap.size w w' := by
  go_enter Tryz.func5, Tryz.ntmps5
  go_wp2_with (first
    | (go_at_call 7; refine (hA _).mono ?_; rintro e w1 ⟨rfl, hb1⟩)
    | (go_at_call 14; refine (lost _ _ _ _).mono ?_; rintro e w2 ⟨rfl, hb2⟩)
    | (go_at_call 15; refine (ref_lost _ _ _ _).mono ?_; rintro e w' ⟨rfl, rfl⟩))
  go_ret
  exact ⟨by simp, hb1.trans (hb2.mono hb1.size)⟩

theorem wrap64_in {x : Int} (h1 : -9223372036854775808 ≤ x) (h2 : x ≤ 9223372036854775807) : wrap64 x = x := by
  unfold wrap64; omega
theorem law1 {a d : Int} (h1 : 0 ≤ a) (h2 : a ≤ 1073741824) (h3 : 0 ≤ d) (h4 : d ≤ 1073741824) : lostSpec a (a + d) d = false := by
  unfold lostSpec
  have e : wrap64 (a + d - a - (a + d - a).tdiv 16) = d - d / 16 := by
    rw [show a + d - a = d by omega, Int.tdiv_eq_ediv_of_nonneg h3]
    exact wrap64_in (by omega) (by omega)
  rw [e]
  simp
  intros
  omega
theorem law2 {a d s : Int} (h1 : 0 ≤ a) (h2 : a ≤ 1073741824) (h3 : 0 ≤ d) (h4 : d ≤ 1073741824) (h5 : 0 ≤ s) (h6 : s ≤ 1073741824) (h : 3 + (d + s) / 16 ≤ a) : lostSpec a s (d + s) = true := by
  unfold lostSpec okOne
  simp
  refine ⟨⟨by omega, by omega⟩, ⟨by omega, by omega⟩, ⟨by omega, by omega⟩, ?_⟩
  rcases Int.lt_or_le (s + 1) a with h | h
  · exact .inl (.inl h)
  · refine .inr ?_
    omega
theorem epochs (hA : ∀ w, Calls Tryz.prog 7 #[] w fun e w' => e = .returned (.bool true) ∧ Below w.heap.size w w') (a d s : Int) (w : World) :
    Calls Tryz.prog 6 #[.int .i64 a, .int .i64 d, .int .i64 s] w fun e w' => e = .returned (.bool true) ∧ Below w.heap.size w w' := by
  by_cases h : 0 ≤ a ∧ 0 ≤ d ∧ 0 ≤ s ∧ a ≤ 1073741824 ∧ d ≤ 1073741824 ∧ s ≤ 1073741824
  · obtain ⟨h1, h2, h3, h4, h5, h6⟩ := h
    have l1 := law1 h1 h4 h3 h6
    by_cases k : 3 + (d + s) / 16 ≤ a
    · have l2 := law2 h1 h4 h2 h5 h3 h6 k
      go_enter Tryz.func6, Tryz.ntmps6
      go_wp2_with (first
        | (go_at_call 7; refine (hA _).mono ?_; rintro e w1 ⟨rfl, hb1⟩)
        | (go_at_call 14; refine (lost _ _ _ _).mono ?_; rintro e w2 ⟨rfl, hb2⟩))
      rename_i w2' hb2'
      go_ret
      exact ⟨rfl, hb1.trans ((hb2'.mono hb1.size).trans (hb2.mono (Nat.le_trans hb1.size hb2'.size)))⟩
    · have k' : a < 3 + (d + s) / 16 := by omega
      clear k
      go_enter Tryz.func6, Tryz.ntmps6
      go_wp2_with (first
        | (go_at_call 7; refine (hA _).mono ?_; rintro e w1 ⟨rfl, hb1⟩)
        | (go_at_call 14; refine (lost _ _ _ _).mono ?_; rintro e w2 ⟨rfl, hb2⟩))
      go_ret
      exact ⟨rfl, hb1.trans (hb2.mono hb1.size)⟩
  · have h' : a < 0 ∨ d < 0 ∨ s < 0 ∨ 1073741824 < a ∨ 1073741824 < d ∨ 1073741824 < s := by omega
    have hc : (decide (a < 0) || decide (d < 0) || decide (s < 0) || decide (1073741824 < a) || decide (1073741824 < d) || decide (1073741824 < s)) = true := by simp; omega
    clear h
    go_enter Tryz.func6, Tryz.ntmps6
    go_wp2_with (go_at_call 7; refine (hA _).mono ?_; rintro e w1 ⟨rfl, hb1⟩)
    all_goals first
      | (go_ret; exact ⟨rfl, hb1⟩)
      | (exfalso; omega)
      | trace_state
end Go.Proofs.YtbdpjpldnimojaaGreat
