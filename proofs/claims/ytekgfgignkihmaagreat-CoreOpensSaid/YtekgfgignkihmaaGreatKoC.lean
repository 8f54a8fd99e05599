/-
  The state of a session behind a segment: what the program's Next answers, for every state and segment.
  Conditions: none.
-/
import Derived.Test.YtekgfgignkihmaaGreatKoA
open Go Go.Ab Go.RowKit
namespace Go.Proofs.YtekgfgignkihmaaGreat
noncomputable section
def bitB (x : Int) (k : Int) : Bool := decide (x / k % 2 = 1)
def nxb (s : Int) (b r y z : Bool) : Int :=
  bif r then 8 else
  bif y && decide (s = 2) && !b then 4 else bif y && decide (s = 3) && b then 4 else
  bif y && (decide (s = 0) || decide (s = 1) || decide (s = 7) || decide (s = 8)) then (bif b then 2 else 3) else
  bif z && decide (s = 5) && !b then 7 else bif z && decide (s = 6) && b then 7 else
  bif z && (decide (s = 0) || decide (s = 1) || decide (s = 2) || decide (s = 3) || decide (s = 4)) then (bif b then 5 else 6) else
  bif !y && !z && decide (s = 0) then 1 else s
def nx (s : Int) (b : Bool) (x : Int) : Int := nxb s b (bitB x 4) (bitB x 2) (bitB x 1)
def xV : E := .var 0 0 255
def nxTb (r y z : Bool) : List Fact := [⟨true, .mul (.const 4) (.rem (.quo xV 4) 2), .const 0, !r⟩, ⟨true, .mul (.const 2) (.rem (.quo xV 2) 2), .const 0, !y⟩, ⟨true, .rem xV 2, .const 0, !z⟩, ⟨true, .rem xV 4, .const 0, !(y || z)⟩]
def noKn : Known := fun _ _ _ => none
theorem noKn_sim [Val] : KnownSim Tryz.prog noKn := fun _ _ _ _ _ h => by simp [noKn] at h
def nxRun (s : Nat) (b r y z : Bool) : Bool := match bodyA Tryz.prog (fns Tryz.prog noKn 1000 20).cl (fns Tryz.prog noKn 1000 20).rn (fns Tryz.prog noKn 1000 20).dc 1000 56 [.int .i64 s, .bool b, .sym .i64 0 255 xV] .normal ⟨0, .e, [], nxTb r y z⟩ with
  | some (.ret (.int .i64 n), _, _) => decide (n = nxb s b r y z)
  | _ => false
def bools : List Bool := [true, false]
def nxAll (s : Nat) : Bool := bools.all fun b => bools.all fun r => bools.all fun y => bools.all fun z => nxRun s b r y z
theorem nx0 : nxAll 0 = true := by decide +kernel
theorem nx1 : nxAll 1 = true := by decide +kernel
theorem nx2 : nxAll 2 = true := by decide +kernel
theorem nx3 : nxAll 3 = true := by decide +kernel
theorem nx4 : nxAll 4 = true := by decide +kernel
theorem nx5 : nxAll 5 = true := by decide +kernel
theorem nx6 : nxAll 6 = true := by decide +kernel
theorem nx7 : nxAll 7 = true := by decide +kernel
theorem nx8 : nxAll 8 = true := by decide +kernel
theorem inBools (b : Bool) : b ∈ bools := by cases b <;> decide
theorem nx_all {s : Nat} (h : s < 9) (b r y z : Bool) : nxRun s b r y z = true := by
  have hs : nxAll s = true := by
    rcases (show s = 0 ∨ s = 1 ∨ s = 2 ∨ s = 3 ∨ s = 4 ∨ s = 5 ∨ s = 6 ∨ s = 7 ∨ s = 8 by omega) with rfl | rfl | rfl | rfl | rfl | rfl | rfl | rfl | rfl
    · exact nx0
    · exact nx1
    · exact nx2
    · exact nx3
    · exact nx4
    · exact nx5
    · exact nx6
    · exact nx7
    · exact nx8
  unfold nxAll at hs
  have h1 := List.all_eq_true.1 hs b (inBools b)
  have h2 := List.all_eq_true.1 h1 r (inBools r)
  have h3 := List.all_eq_true.1 h2 y (inBools y)
  exact List.all_eq_true.1 h3 z (inBools z)
theorem nxb_in {s : Int} (b r y z : Bool) (h0 : 0 ≤ s) (h : s ≤ 8) : 0 ≤ nxb s b r y z ∧ nxb s b r y z ≤ 8 := by
  unfold nxb
  cases b <;> cases r <;> cases y <;> cases z <;> simp [Bool.cond_eq_ite] <;> (repeat' split) <;> omega
theorem nx_in {s : Int} (b : Bool) (x : Int) (h0 : 0 ≤ s) (h : s ≤ 8) : 0 ≤ nx s b x ∧ nx s b x ≤ 8 := nxb_in b _ _ _ h0 h
theorem bit_cases (x k : Int) : (bitB x k = true ∧ x / k % 2 = 1) ∨ (bitB x k = false ∧ x / k % 2 = 0) := by
  unfold bitB
  generalize x / k = q
  rcases (show q % 2 = 0 ∨ q % 2 = 1 by omega) with h | h <;> simp [h]
theorem next_c (s : Int) (b : Bool) (x : Int) (w : World) (h0 : 0 ≤ s) (h8 : s ≤ 8) (x0 : 0 ≤ x) (x1 : x ≤ 255) : Calls Tryz.prog 56 #[.int .i64 s, .bool b, .int .i64 x] w fun e w' => e = .returned (.int .i64 (nx s b x)) ∧ w.grownBy w' none := by
  letI V : Val := ⟨fun _ => x⟩
  obtain ⟨k, rfl⟩ : ∃ k : Nat, s = k := ⟨s.toNat, by omega⟩
  have hx : xV.eval V.σ = x := clampI_id x0 x1
  have hrun := nx_all (s := k) (by omega) b (bitB x 4) (bitB x 2) (bitB x 1)
  have hT : ∀ f ∈ nxTb (bitB x 4) (bitB x 2) (bitB x 1), f.holds V.σ := by
    refine holds_cons ?_ (holds_cons ?_ (holds_cons ?_ (holds_cons ?_ (holds_nil _))))
    · show decide (4 * (xV.eval V.σ / (4 : Nat) % (2 : Nat)) = 0) = !bitB x 4
      rw [hx]
      rcases bit_cases x 4 with ⟨h, h'⟩ | ⟨h, h'⟩ <;> rw [h] <;> simp <;> omega
    · show decide (2 * (xV.eval V.σ / (2 : Nat) % (2 : Nat)) = 0) = !bitB x 2
      rw [hx]
      rcases bit_cases x 2 with ⟨h, h'⟩ | ⟨h, h'⟩ <;> rw [h] <;> simp <;> omega
    · show decide (xV.eval V.σ % (2 : Nat) = 0) = !bitB x 1
      rw [hx]
      rcases bit_cases x 1 with ⟨h, h'⟩ | ⟨h, h'⟩ <;> rw [h] <;> simp <;> omega
    · show decide (xV.eval V.σ % (4 : Nat) = 0) = !(bitB x 2 || bitB x 1)
      rw [hx]
      rcases bit_cases x 1 with ⟨h, h'⟩ | ⟨h, h'⟩ <;> rcases bit_cases x 2 with ⟨g, g'⟩ | ⟨g, g'⟩ <;> rw [h, g] <;> simp <;> omega
  have hro : Ro0 0 w := fun _ _ _ _ h => by simp [roTab] at h
  have ha : LR (phi0 Tryz.prog.globals.size) [.int .i64 k, .bool b, .sym .i64 0 255 xV] #[.int .i64 k, .bool b, .int .i64 x] :=
    VRs.lr (m := [.int .i64 k, .bool b, .int .i64 x]) (.cons (.int _ _) (.cons (.bool _) (.cons (.sym hx x0 x1) .nil)))
  unfold nxRun at hrun
  split at hrun
  · rename_i n u h' hb
    have e1 := of_decide_eq_true hrun
    have hG : Tryz.prog.globals.size = 0 := g0
    have hb' : bodyA Tryz.prog (fns Tryz.prog noKn 1000 20).cl (fns Tryz.prog noKn 1000 20).rn (fns Tryz.prog noKn 1000 20).dc 1000 56 [.int .i64 k, .bool b, .sym .i64 0 255 xV] .normal ⟨Tryz.prog.globals.size, .e, [], nxTb (bitB x 4) (bitB x 2) (bitB x 1)⟩ = some (.ret (.int .i64 n), u, h') := by
      rw [hG]; exact hb
    refine (quiet_run noKn_sim (by rw [hG]; decide) hT hb' (by rw [hG]; exact Nat.zero_le _) (by rw [hG]; exact hro) ha).mono fun e w' h => ?_
    obtain ⟨⟨φ', v', rfl, hv⟩, hg⟩ := h
    refine ⟨?_, hg⟩
    have e2 : n = nx k b x := e1
    rw [hv.int_inv, e2]
  · simp at hrun
def Inv (V : Val) : Prop := Row nx 36893488147419103232 VB VB2 0 2 true 8 V.σ
theorem keeps : Keeps Inv := keeps_row (by decide) (by decide) (by decide)
theorem kbSim : ∀ V : Val, Inv V → @KnownSim V Tryz.prog kb := fun V h => @knStep_sim V _ _ _ _ _ _ _ _ _ nx (by decide) (by decide) h next_c
end
end Go.Proofs.YtekgfgignkihmaaGreat
