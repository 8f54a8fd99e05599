/-
  A search of a row of numbers, by the kit's walk: one that is there is found.
  Conditions: those that each lemma names.
-/
import Derived.Test.YtekgfgignkihmaaGreatKnA
import Derived.Laws.AppendOwn
import Derived.WalkKit
import Derived.ProofKit
import Derived.OpenShut
open Go Go.Ab Go.ChangeShapes Go.WideShapes Go.ChangeAt Go.RowKit
namespace Go.Proofs.YtekgfgignkihmaaGreat
set_option linter.unusedVariables false

theorem index_c (b o n c : Nat) (v : Int) (w : World) (F : Nat → Int) (hn : n ≤ 1000) (hF : ∀ j, j < n → w.cell? ⟨b, o + j, none⟩ = some (.int .i64 (F j))) (j0 : Nat) (h0 : j0 < n) (hv : F j0 = v) :
    Calls Tryz.prog 111 #[.slice (some ⟨b, o, none⟩) n c, .int .i64 v] w fun e w' => (∃ i : Nat, e = .returned (.int .i64 i)) ∧ w' = w := by
  go_enter Tryz.func111, Tryz.ntmps111
  go_wp2
  go_loopw [8] (fun i wr => ∃ k : Nat, k ≤ j0 ∧ i = .int .i64 k ∧ wr = w) (fun i _ => n - (intOf i).toNat)
  case atStart => exact ⟨0, Nat.zero_le _, rfl, rfl⟩
  case round =>
    obtain ⟨k, hk, rfl, rfl⟩ := hrel
    have hkn : k < n := by omega
    have kc := hF k hkn
    by_cases hkv : F k = v
    · have hq : (v == F k) = true := by simp [hkv]
      generalize F k = x at kc hq
      clear hF hv hkv
      go_wp2
      go_ret
      exact ⟨⟨k, rfl⟩, rfl⟩
    · have hq : (v == F k) = false := by simpa using fun e => hkv e.symm
      have hne : k ≠ j0 := by rintro rfl; exact hkv hv
      generalize F k = x at kc hq
      clear hF hv hkv
      go_wp2
      go_roundw
      case rel => exact ⟨k + 1, by omega, by go_num, by trivial⟩
      case measure => simp [intOf]; omega

theorem contains_c (b o n c : Nat) (v : Int) (w : World) (F : Nat → Int) (hn : n ≤ 1000) (hF : ∀ j, j < n → w.cell? ⟨b, o + j, none⟩ = some (.int .i64 (F j))) (hv : ∃ j, j < n ∧ F j = v) :
    Calls Tryz.prog 52 #[.slice (some ⟨b, o, none⟩) n c, .int .i64 v] w fun e w' => e = .returned (.bool true) ∧ w.grownBy w' none := by
  obtain ⟨j0, h0, hv⟩ := hv
  have H := index_c b o n c v w F hn hF j0 h0 hv
  clear hF
  go_enter Tryz.func52, Tryz.ntmps52
  go_wp2_with (go_at_call 111; refine H.mono ?_; rintro e w1 ⟨⟨i, rfl⟩, rfl⟩; have hi : (0 : Int) ≤ (i : Int) := Int.natCast_nonneg i)
  go_ret
  exact ⟨rfl, rfl, rfl, rfl, Nat.le_refl _, fun _ _ _ => rfl⟩


theorem tmod_up (x : Int) (c : Nat) (h0 : 0 < c) (h : x.tmod c < 0) : x.tmod c + c = x % c := by
  have hx : x < 0 := by
    rcases Int.lt_or_le x 0 with hx | hx
    · exact hx
    · have := Int.emod_nonneg x (show (c : Int) ≠ 0 by omega)
      rw [Int.tmod_eq_emod_of_nonneg hx] at h
      omega
  obtain ⟨y, rfl⟩ : ∃ y : Int, x = -y := ⟨-x, by omega⟩
  have hy : (-y).tmod c = -(y % c) := by rw [Int.neg_tmod, Int.tmod_eq_emod_of_nonneg (by omega)]
  have h1 := Int.emod_lt_of_pos y (show (0 : Int) < c by omega)
  have h2 := Int.mul_ediv_add_emod y c
  rw [hy] at h ⊢
  have := ((Int.ediv_emod_unique (a := -y) (b := c) (q := -(y / c) - 1) (r := -(y % c) + c) (by omega)).mpr ⟨by rw [Int.mul_sub, Int.mul_neg]; omega, by omega, by omega⟩).2
  omega
theorem tmod_id (x : Int) (c : Nat) (h0 : 0 < c) (h : ¬ x.tmod c < 0) : x.tmod c = x % c := by
  rcases Int.lt_or_le x 0 with hx | hx
  · obtain ⟨y, rfl⟩ : ∃ y : Int, x = -y := ⟨-x, by omega⟩
    have hy : (-y).tmod c = -(y % c) := by rw [Int.neg_tmod, Int.tmod_eq_emod_of_nonneg (by omega)]
    have h1 := Int.emod_nonneg y (show (c : Int) ≠ 0 by omega)
    have h2 := Int.mul_ediv_add_emod y c
    rw [hy] at h ⊢
    have := ((Int.ediv_emod_unique (a := -y) (b := c) (q := -(y / c)) (r := 0) (by omega)).mpr ⟨by rw [Int.mul_neg]; omega, by omega, by omega⟩).2
    omega
  · exact Int.tmod_eq_emod_of_nonneg hx
theorem tmod_small (x : Int) (c : Nat) (h0 : 0 < c) : -(c : Int) ≤ x.tmod c ∧ x.tmod c < c := by
  have h1 := Int.emod_lt_of_pos x (show (0 : Int) < c by omega)
  have h2 := Int.emod_nonneg x (show (c : Int) ≠ 0 by omega)
  by_cases h : x.tmod c < 0
  · have := tmod_up x c h0 h; omega
  · have := tmod_id x c h0 h; omega
theorem wrap_i64 (k : Int) (h0 : -9223372036854775808 ≤ k) (h : k ≤ 9223372036854775807) : IntKind.i64.wrap k = k := by
  simp [IntKind.wrap, IntKind.bits, show IntKind.i64.signed = true from rfl]
  omega
theorem round_c (x : Int) (c : Nat) (w : World) (h0 : 0 < c) (h1 : c ≤ 1000000) :
    Calls Tryz.prog 19 #[.int .i64 x, .int .i64 c] w fun e w' => e = .returned (.int .i64 (x % c)) ∧ w.grownBy w' none := by
  have hs := tmod_small x c h0
  have hz : ((c : Int) == 0) = false := by simp; omega
  have hw := wrap_i64 (x.tmod c) (by omega) (by omega)
  by_cases h : x.tmod c < 0
  · have hu := tmod_up x c h0 h
    have hw2 := wrap_i64 (x.tmod c + c) (by omega) (by omega)
    have hd : decide (x.tmod c < 0) = true := by simpa using h
    generalize hg : x.tmod c = r at *
    go_enter Tryz.func19, Tryz.ntmps19
    go_wp2
    go_ret
    exact ⟨rfl, rfl, rfl, rfl, Nat.le_refl _, fun _ _ _ => rfl⟩
  · have hu := tmod_id x c h0 h
    generalize hg : x.tmod c = r at *
    go_enter Tryz.func19, Tryz.ntmps19
    go_wp2
    go_ret
    exact ⟨rfl, rfl, rfl, rfl, Nat.le_refl _, fun _ _ _ => rfl⟩

theorem kbSim : ∀ V : Val, @KnownSim V Tryz.prog kb := fun V => @knOr_sim V _ _ _ (@knRound_sim V _ _ round_c) (@knIn_sim V _ _ contains_c)
end Go.Proofs.YtekgfgignkihmaaGreat
