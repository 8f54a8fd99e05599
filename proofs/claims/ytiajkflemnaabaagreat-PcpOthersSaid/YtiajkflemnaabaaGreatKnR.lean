/-
  The law's runs: by what is left of the port, with its two lives not known; and that they are all.
  Conditions: the three numbers are of 8 bits.
-/
import Derived.Test.YtiajkflemnaabaaGreatKnE04
import Derived.Test.YtiajkflemnaabaaGreatKnC
open Go Go.Ab Go.ChangeShapes Go.WideShapes Go.ChangeAt Go.RowKit
namespace Go.Proofs.YtiajkflemnaabaaGreat
noncomputable section
def a0 : List AV := [.sym .u8 128 255 (.add (.mul (.const 40) (.var 0 3 6)) (.add (.mul (.const 2) (.var 3 0 11)) (.const 0))), .sym .u8 0 255 (.var 1 0 255), .sym .u8 0 255 (.var 2 0 255)]
theorem ran0 : yieldsTrueA Tryz.prog (knWith kb 0 [e34, e31, e30, e28, e27, e18, e4, e2000000]) 1000 60 3 a0 = true := by decide +kernel
theorem run0 [Val] (w : World) (hG : Tryz.prog.globals.size ≤ w.heap.size) {x : Array Value} (ha : LR (phi0 Tryz.prog.globals.size) a0 x) : Calls Tryz.prog 3 x w fun e w' => e = .returned (.bool true) ∧ Below w.heap.size w w' :=
  below_of_args (knWith_sim kbSim (gd34.app (gd31.app (gd30.app (gd28.app (gd27.app (gd18.app (gd4.app (gd2000000.app .nil))))))))) (by rw [g0]; decide) (by rw [g0]; exact ran0) hG ha
def a1 : List AV := [.sym .u8 128 255 (.add (.mul (.const 40) (.var 0 3 6)) (.add (.mul (.const 2) (.var 3 0 11)) (.const 1))), .sym .u8 0 255 (.var 1 0 255), .sym .u8 0 255 (.var 2 0 255)]
theorem ran1 : yieldsTrueA Tryz.prog (knWith kb 0 [e48, e45, e44, e42, e41, e35, e4, e2000000]) 1000 60 3 a1 = true := by decide +kernel
theorem run1 [Val] (w : World) (hG : Tryz.prog.globals.size ≤ w.heap.size) {x : Array Value} (ha : LR (phi0 Tryz.prog.globals.size) a1 x) : Calls Tryz.prog 3 x w fun e w' => e = .returned (.bool true) ∧ Below w.heap.size w w' :=
  below_of_args (knWith_sim kbSim (gd48.app (gd45.app (gd44.app (gd42.app (gd41.app (gd35.app (gd4.app (gd2000000.app .nil))))))))) (by rw [g0]; decide) (by rw [g0]; exact ran1) hG ha
def a2 : List AV := [.sym .u8 0 127 (.add (.mul (.const 4) (.var 0 0 31)) (.var 3 0 3)), .sym .u8 0 255 (.var 1 0 255), .sym .u8 0 255 (.var 2 0 255)]
theorem ran2 : yieldsTrueA Tryz.prog (knWith kb 0 [e62, e59, e58, e56, e55, e49, e4, e2000000]) 1000 60 3 a2 = true := by decide +kernel
theorem run2 [Val] (w : World) (hG : Tryz.prog.globals.size ≤ w.heap.size) {x : Array Value} (ha : LR (phi0 Tryz.prog.globals.size) a2 x) : Calls Tryz.prog 3 x w fun e w' => e = .returned (.bool true) ∧ Below w.heap.size w w' :=
  below_of_args (knWith_sim kbSim (gd62.app (gd59.app (gd58.app (gd56.app (gd55.app (gd49.app (gd4.app (gd2000000.app .nil))))))))) (by rw [g0]; decide) (by rw [g0]; exact ran2) hG ha
def a3 : List AV := [.sym .u8 128 255 (.add (.mul (.const 40) (.var 0 3 6)) (.add (.const 24) (.var 3 0 15))), .sym .u8 0 255 (.var 1 0 255), .sym .u8 0 255 (.var 2 0 255)]
theorem ran3 : yieldsTrueA Tryz.prog (knWith kb 0 [e76, e73, e72, e70, e69, e63, e4, e2000000]) 1000 60 3 a3 = true := by decide +kernel
theorem run3 [Val] (w : World) (hG : Tryz.prog.globals.size ≤ w.heap.size) {x : Array Value} (ha : LR (phi0 Tryz.prog.globals.size) a3 x) : Calls Tryz.prog 3 x w fun e w' => e = .returned (.bool true) ∧ Below w.heap.size w w' :=
  below_of_args (knWith_sim kbSim (gd76.app (gd73.app (gd72.app (gd70.app (gd69.app (gd63.app (gd4.app (gd2000000.app .nil))))))))) (by rw [g0]; decide) (by rw [g0]; exact ran3) hG ha

/-- The numbers that are not known, as they are. -/
abbrev vals (q a b t : Int) : Val := ⟨fun i => match i with
  | 0 => q
  | 1 => a
  | 2 => b
  | _ => t⟩

theorem law (p a b : Int) (p0 : 0 ≤ p) (p1 : p ≤ 255) (a0 : 0 ≤ a) (a1 : a ≤ 255) (b0 : 0 ≤ b) (b1 : b ≤ 255) (w : World) :
    Calls Tryz.prog 3 #[.int .u8 p, .int .u8 a, .int .u8 b] w fun e w' => e = .returned (.bool true) ∧ Below w.heap.size w w' := by
  have hG : Tryz.prog.globals.size ≤ w.heap.size := by rw [g0]; exact Nat.zero_le _
  by_cases h1 : p < 128
  · letI : Val := vals (p / 4) a b (p % 4)
    refine run2 w hG (LR.three (.sym ?_ ⟨⟨trivial, ?_, ?_⟩, ?_, ?_⟩ p0 (by omega)) (.sym rfl ⟨a0, a1⟩ a0 a1) (.sym rfl ⟨b0, b1⟩ b0 b1))
    · show 4 * (p / 4) + p % 4 = p; omega
    · show 0 ≤ p / 4; omega
    · show p / 4 ≤ 31; omega
    · show 0 ≤ p % 4; omega
    · show p % 4 ≤ 3; omega
  · by_cases h2 : p % 40 < 24
    · letI : Val := vals (p / 40) a b (p % 40 / 2)
      rcases Int.emod_two_eq (p % 40) with h3 | h3
      · refine run0 w hG (LR.three (.sym ?_ ⟨⟨trivial, ?_, ?_⟩, ⟨trivial, ?_, ?_⟩, trivial⟩ (by omega) p1) (.sym rfl ⟨a0, a1⟩ a0 a1) (.sym rfl ⟨b0, b1⟩ b0 b1))
        · show 40 * (p / 40) + (2 * (p % 40 / 2) + 0) = p; omega
        · show 3 ≤ p / 40; omega
        · show p / 40 ≤ 6; omega
        · show 0 ≤ p % 40 / 2; omega
        · show p % 40 / 2 ≤ 11; omega
      · refine run1 w hG (LR.three (.sym ?_ ⟨⟨trivial, ?_, ?_⟩, ⟨trivial, ?_, ?_⟩, trivial⟩ (by omega) p1) (.sym rfl ⟨a0, a1⟩ a0 a1) (.sym rfl ⟨b0, b1⟩ b0 b1))
        · show 40 * (p / 40) + (2 * (p % 40 / 2) + 1) = p; omega
        · show 3 ≤ p / 40; omega
        · show p / 40 ≤ 6; omega
        · show 0 ≤ p % 40 / 2; omega
        · show p % 40 / 2 ≤ 11; omega
    · letI : Val := vals (p / 40) a b (p % 40 - 24)
      refine run3 w hG (LR.three (.sym ?_ ⟨⟨trivial, ?_, ?_⟩, trivial, ?_, ?_⟩ (by omega) p1) (.sym rfl ⟨a0, a1⟩ a0 a1) (.sym rfl ⟨b0, b1⟩ b0 b1))
      · show 40 * (p / 40) + (24 + (p % 40 - 24)) = p; omega
      · show 3 ≤ p / 40; omega
      · show p / 40 ≤ 6; omega
      · show 0 ≤ p % 40 - 24; omega
      · show p % 40 - 24 ≤ 15; omega
end
end Go.Proofs.YtiajkflemnaabaaGreat
