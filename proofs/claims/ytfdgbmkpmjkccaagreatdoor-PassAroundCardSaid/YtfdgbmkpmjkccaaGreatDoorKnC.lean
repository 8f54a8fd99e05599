/-
  A sum's fold to 16 bits, by the kit's walk: what it comes to, above nought.
  Conditions: those that each lemma names.
-/
import Derived.Test.YtfdgbmkpmjkccaaGreatDoorKnA
import Derived.Laws.AppendOwn
import Derived.WalkKit
import Derived.ProofKit
import Derived.OpenShut
open Go Go.Ab Go.ChangeShapes Go.WideShapes Go.ChangeAt Go.RowKit
namespace Go.Proofs.YtfdgbmkpmjkccaaGreatDoor
set_option linter.unusedVariables false
theorem wrap64_id (k : Int) (h0 : 0 ≤ k) (h : k < 18446744073709551616) : IntKind.u64.wrap k = k := by
  simp [IntKind.wrap, IntKind.bits, show IntKind.u64.signed = false from rfl]
  omega
theorem and16 (k : Int) (h0 : 0 ≤ k) (h : k < 18446744073709551616) : bits BinOp.and IntKind.u64 k 65535 = k % 65536 := by
  obtain ⟨n, rfl⟩ : ∃ n : Nat, k = n := ⟨k.toNat, by omega⟩
  have h2 : n &&& 65535 = n % 65536 := Nat.and_two_pow_sub_one_eq_mod n 16
  have h3 : (BitVec.ofNat 64 n &&& 65535#64).toNat = n % 65536 := by
    rw [BitVec.toNat_and, BitVec.toNat_ofNat, BitVec.toNat_ofNat, Nat.mod_eq_of_lt (by omega : n < 2 ^ 64)]
    exact h2
  simp [bits, IntKind.bits, IntKind.wrap, show IntKind.u64.signed = false from rfl]
  erw [h3]
  omega
theorem index_c (b o n c : Nat) (v : Int) (w : World) (F : Nat → Int) (hn : n ≤ 1000) (hF : ∀ j, j < n → w.cell? ⟨b, o + j, none⟩ = some (.int .i64 (F j))) (j0 : Nat) (h0 : j0 < n) (hv : F j0 = v) :
    Calls Tryz.prog 327 #[.slice (some ⟨b, o, none⟩) n c, .int .i64 v] w fun e w' => (∃ i : Nat, e = .returned (.int .i64 i)) ∧ w' = w := by
  go_enter Tryz.func327, Tryz.ntmps327
  go_wp2
  go_loopw [8] (fun i wr => ∃ k : Nat, k ≤ j0 ∧ i = .int .i64 k ∧ wr = w) (fun i _ => n - (intOf i).toNat)
  case atStart => exact ⟨0, Nat.zero_le _, rfl, rfl⟩
  case round =>
    obtain ⟨k, hk, rfl, rfl⟩ := hrel
    have hkn : k < n := by omega
    have kc := hF k hkn
    by_cases hkv : F k = v
    · have hq : (v == F k) = true := by simp [hkv]
      generalize F k = x at kc hq
      clear hF hv hkv
      go_wp2
      go_ret
      exact ⟨⟨k, rfl⟩, rfl⟩
    · have hq : (v == F k) = false := by simpa using fun e => hkv e.symm
      have hne : k ≠ j0 := by rintro rfl; exact hkv hv
      generalize F k = x at kc hq
      clear hF hv hkv
      go_wp2
      go_roundw
      case rel => exact ⟨k + 1, by omega, by go_num, by trivial⟩
      case measure => simp [intOf]; omega

theorem contains_c (b o n c : Nat) (v : Int) (w : World) (F : Nat → Int) (hn : n ≤ 1000) (hF : ∀ j, j < n → w.cell? ⟨b, o + j, none⟩ = some (.int .i64 (F j))) (hv : ∃ j, j < n ∧ F j = v) :
    Calls Tryz.prog 284 #[.slice (some ⟨b, o, none⟩) n c, .int .i64 v] w fun e w' => e = .returned (.bool true) ∧ w.grownBy w' none := by
  obtain ⟨j0, h0, hv⟩ := hv
  have H := index_c b o n c v w F hn hF j0 h0 hv
  clear hF
  go_enter Tryz.func284, Tryz.ntmps284
  go_wp2_with (go_at_call 327; refine H.mono ?_; rintro e w1 ⟨⟨i, rfl⟩, rfl⟩; have hi : (0 : Int) ≤ (i : Int) := Int.natCast_nonneg i)
  go_ret
  exact ⟨rfl, rfl, rfl, rfl, Nat.le_refl _, fun _ _ _ => rfl⟩


theorem fold_a (x : Int) (w : World) (h1 : 1 ≤ x) (h2 : x < 18446744073709551616) :
    Calls Tryz.prog 123 #[.int .u64 x] w fun e w' => e = .returned (.int .i64 ((x - 1) % 65535 + 1)) ∧ w.grownBy w' none := by
  go_enter Tryz.func123, Tryz.ntmps123
  go_wp2
  go_loopw [0] (fun i wr => ∃ k : Int, 1 ≤ k ∧ k < 18446744073709551616 ∧ (k - 1) % 65535 = (x - 1) % 65535 ∧ i = .int .u64 k ∧ wr = w) (fun i _ => (intOf i).toNat)
  case atStart => exact ⟨x, h1, h2, rfl, rfl, rfl⟩
  case round =>
    obtain ⟨k, hk1, hk2, hm, rfl, rfl⟩ := hrel
    by_cases hb : k > 65535
    · have ha := and16 k (by omega) hk2
      have hw : IntKind.u64.wrap (k / 65536 + bits BinOp.and IntKind.u64 k 65535) = k / 65536 + k % 65536 := by rw [ha]; exact wrap64_id _ (by omega) (by omega)
      have hw2 : IntKind.u64.wrap (bits BinOp.and IntKind.u64 k 65535 + k / 65536) = k / 65536 + k % 65536 := by rw [ha, Int.add_comm]; exact wrap64_id _ (by omega) (by omega)
      clear ha
      go_wp2
      go_roundw
      case rel => exact ⟨k / 65536 + k % 65536, by omega, by omega, by omega, rfl, trivial⟩
      case measure =>
        show (k / 65536 + k % 65536).toNat < k.toNat
        omega
    · go_wp2
      go_ret
      refine ⟨?_, ?_⟩
      · show Ending.returned (.int .i64 k) = _
        rw [show (x - 1) % 65535 + 1 = k by omega]
      · exact ⟨rfl, rfl, rfl, Nat.le_refl _, fun _ _ _ => rfl⟩

theorem fold_b (x : Int) (w : World) (h1 : 1 ≤ x) (h2 : x < 18446744073709551616) :
    Calls Tryz.prog 119 #[.int .u64 x] w fun e w' => e = .returned (.int .i64 ((x - 1) % 65535 + 1)) ∧ w.grownBy w' none := by
  go_enter Tryz.func119, Tryz.ntmps119
  go_wp2
  go_loopw [0] (fun i wr => ∃ k : Int, 1 ≤ k ∧ k < 18446744073709551616 ∧ (k - 1) % 65535 = (x - 1) % 65535 ∧ i = .int .u64 k ∧ wr = w) (fun i _ => (intOf i).toNat)
  case atStart => exact ⟨x, h1, h2, rfl, rfl, rfl⟩
  case round =>
    obtain ⟨k, hk1, hk2, hm, rfl, rfl⟩ := hrel
    by_cases hb : k > 65535
    · have ha := and16 k (by omega) hk2
      have hw : IntKind.u64.wrap (k / 65536 + bits BinOp.and IntKind.u64 k 65535) = k / 65536 + k % 65536 := by rw [ha]; exact wrap64_id _ (by omega) (by omega)
      have hw2 : IntKind.u64.wrap (bits BinOp.and IntKind.u64 k 65535 + k / 65536) = k / 65536 + k % 65536 := by rw [ha, Int.add_comm]; exact wrap64_id _ (by omega) (by omega)
      clear ha
      go_wp2
      go_roundw
      case rel => exact ⟨k / 65536 + k % 65536, by omega, by omega, by omega, rfl, trivial⟩
      case measure =>
        show (k / 65536 + k % 65536).toNat < k.toNat
        omega
    · go_wp2
      go_ret
      refine ⟨?_, ?_⟩
      · show Ending.returned (.int .i64 k) = _
        rw [show (x - 1) % 65535 + 1 = k by omega]
      · exact ⟨rfl, rfl, rfl, Nat.le_refl _, fun _ _ _ => rfl⟩

theorem folds (i : Nat) (hi : i = 123 ∨ i = 119) (x : Int) (w : World) (h1 : 1 ≤ x) (h2 : x < 18446744073709551616) : Calls Tryz.prog i #[.int .u64 x] w fun e w' => e = .returned (.int .i64 ((x - 1) % 65535 + 1)) ∧ w.grownBy w' none := by
  rcases hi with rfl | rfl
  · exact fold_a x w h1 h2
  · exact fold_b x w h1 h2

theorem index_no (b o n c : Nat) (v : Int) (w : World) (F : Nat → Int) (hn : n ≤ 1000) (hF : ∀ j, j < n → w.cell? ⟨b, o + j, none⟩ = some (.int .i64 (F j))) (hv : ∀ j, j < n → F j ≠ v) :
    Calls Tryz.prog 327 #[.slice (some ⟨b, o, none⟩) n c, .int .i64 v] w fun e w' => e = .returned (.int .i64 (-1)) ∧ w' = w := by
  go_enter Tryz.func327, Tryz.ntmps327
  go_wp2
  go_loopw [8] (fun i wr => ∃ k : Nat, k ≤ n ∧ i = .int .i64 k ∧ wr = w) (fun i _ => n - (intOf i).toNat)
  case atStart => exact ⟨0, Nat.zero_le _, rfl, rfl⟩
  case round =>
    obtain ⟨k, hk, rfl, rfl⟩ := hrel
    by_cases hkn : k < n
    · have kc := hF k hkn
      have hq : (v == F k) = false := by simpa using fun e => hv k hkn e.symm
      generalize F k = x at kc hq
      clear hF hv
      go_wp2
      go_roundw
      case rel => exact ⟨k + 1, by omega, by go_num, by trivial⟩
      case measure => simp [intOf]; omega
    · clear hF hv
      go_wp2
      go_ret
      exact ⟨rfl, rfl⟩

theorem contains_no (b o n c : Nat) (v : Int) (w : World) (F : Nat → Int) (hn : n ≤ 1000) (hF : ∀ j, j < n → w.cell? ⟨b, o + j, none⟩ = some (.int .i64 (F j))) (hv : ∀ j, j < n → F j ≠ v) :
    Calls Tryz.prog 284 #[.slice (some ⟨b, o, none⟩) n c, .int .i64 v] w fun e w' => e = .returned (.bool false) ∧ w.grownBy w' none := by
  have H := index_no b o n c v w F hn hF hv
  clear hF
  go_enter Tryz.func284, Tryz.ntmps284
  go_wp2_with (go_at_call 327; refine H.mono ?_; rintro e w1 ⟨rfl, rfl⟩)
  go_ret
  exact ⟨rfl, rfl, rfl, rfl, Nat.le_refl _, fun _ _ _ => rfl⟩

def Inv (_ : Val) : Prop := True
theorem keeps : Keeps Inv := keeps_true
theorem kbSim : ∀ V : Val, Inv V → @KnownSim V Tryz.prog kb := fun V _ => @knOr_sim V _ _ _ (@knFold_sim V _ _ _ folds) (@knOr_sim V _ _ _ (@knOut_sim V _ _ contains_no) (@knIn_sim V _ _ contains_c))
end Go.Proofs.YtfdgbmkpmjkccaaGreatDoor
