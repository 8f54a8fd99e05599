/-
  A search of a row of numbers, by the kit's walk: one that is there is found.
  Conditions: those that each lemma names.
-/
import Derived.Test.YtfipecdimnjckaaGreatLvA
import Derived.Laws.AppendOwn
import Derived.WalkKit
import Derived.ProofKit
import Derived.OpenShut
open Go Go.Ab Go.ChangeShapes Go.WideShapes Go.ChangeAt Go.RowKit
namespace Go.Proofs.YtfipecdimnjckaaGreat
set_option linter.unusedVariables false

theorem index_c (b o n c : Nat) (v : Int) (w : World) (F : Nat → Int) (hn : n ≤ 1000) (hF : ∀ j, j < n → w.cell? ⟨b, o + j, none⟩ = some (.int .i64 (F j))) (j0 : Nat) (h0 : j0 < n) (hv : F j0 = v) :
    Calls Tryz.prog 218 #[.slice (some ⟨b, o, none⟩) n c, .int .i64 v] w fun e w' => (∃ i : Nat, e = .returned (.int .i64 i)) ∧ w' = w := by
  go_enter Tryz.func218, Tryz.ntmps218
  go_wp2
  go_loopw [8] (fun i wr => ∃ k : Nat, k ≤ j0 ∧ i = .int .i64 k ∧ wr = w) (fun i _ => n - (intOf i).toNat)
  case atStart => exact ⟨0, Nat.zero_le _, rfl, rfl⟩
  case round =>
    obtain ⟨k, hk, rfl, rfl⟩ := hrel
    have hkn : k < n := by omega
    have kc := hF k hkn
    by_cases hkv : F k = v
    · have hq : (v == F k) = true := by simp [hkv]
      generalize F k = x at kc hq
      clear hF hv hkv
      go_wp2
      go_ret
      exact ⟨⟨k, rfl⟩, rfl⟩
    · have hq : (v == F k) = false := by simpa using fun e => hkv e.symm
      have hne : k ≠ j0 := by rintro rfl; exact hkv hv
      generalize F k = x at kc hq
      clear hF hv hkv
      go_wp2
      go_roundw
      case rel => exact ⟨k + 1, by omega, by go_num, by trivial⟩
      case measure => simp [intOf]; omega

theorem contains_c (b o n c : Nat) (v : Int) (w : World) (F : Nat → Int) (hn : n ≤ 1000) (hF : ∀ j, j < n → w.cell? ⟨b, o + j, none⟩ = some (.int .i64 (F j))) (hv : ∃ j, j < n ∧ F j = v) :
    Calls Tryz.prog 175 #[.slice (some ⟨b, o, none⟩) n c, .int .i64 v] w fun e w' => e = .returned (.bool true) ∧ w.grownBy w' none := by
  obtain ⟨j0, h0, hv⟩ := hv
  have H := index_c b o n c v w F hn hF j0 h0 hv
  clear hF
  go_enter Tryz.func175, Tryz.ntmps175
  go_wp2_with (go_at_call 218; refine H.mono ?_; rintro e w1 ⟨⟨i, rfl⟩, rfl⟩; have hi : (0 : Int) ≤ (i : Int) := Int.natCast_nonneg i)
  go_ret
  exact ⟨rfl, rfl, rfl, rfl, Nat.le_refl _, fun _ _ _ => rfl⟩

theorem kbSim : ∀ V : Val, @KnownSim V Tryz.prog kb := fun V => @knIn_sim V _ _ contains_c
end Go.Proofs.YtfipecdimnjckaaGreat
