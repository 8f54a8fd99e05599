/-
  One piece: what goes out and what comes back.
  Conditions: those that each theorem names.
-/
import Derived.Test.YthonhnjdbnkfpaaSI
import Derived.Test.YthonhnjdbnkfpaaAcD
namespace Go.Proofs.Ythonhnjdbnkfpaa
open Go.ChangeShapes Go.WideShapes Go.ChangeAt Go.RowKit
set_option linter.unusedVariables false

theorem ranAwake : Go.Ab.yieldsTrue Try.prog Go.Ab.noKnown 1000 60 8 = true := by decide +kernel
theorem globals0 : Try.prog.globals.size = 0 := by decide +kernel
theorem awakeC (w : World) : Calls Try.prog 8 #[] w fun e w' => e = .returned (.bool true) ∧ Below w.heap.size w w' :=
  Go.Ab.below_of_calls Go.Ab.noKnown_sim (by rw [globals0]; exact Nat.zero_le _) ranAwake (by rw [globals0]; exact Nat.zero_le _)

theorem grown_below {w w1 w2 : World} {B : Nat} (h : Below B w w1) (hB : B ≤ w1.heap.size) (hg : w1.grownBy w2 none) : Below B w w2 :=
  ⟨hg.os.trans h.os, hg.tape.trans h.tape, hg.output.trans h.output, Nat.le_trans h.size hg.size, fun k hk => (hg.block k (by omega) (by simp)).trans (h.block k hk)⟩
theorem fr_below {w w1 w2 : World} {B b : Nat} {ob : Option Nat} (h : Below B w w1) (hB : B ≤ w1.heap.size) (hg : Fr w1 w2 b ob) (hb : B ≤ b) (ho : ∀ k, ob = some k → B ≤ k) : Below B w w2 :=
  ⟨hg.os.trans h.os, hg.tape.trans h.tape, hg.output.trans h.output, Nat.le_trans h.size hg.size,
    fun k hk => (hg.block k (by omega) (by omega) (fun e => by have := ho k e.symm; omega)).trans (h.block k hk)⟩

theorem mark1_c (w : World) (B b : Nat) (f q d : Int) (h : SAt w B b 0 [] (.slice none 0 0)) (hB : B ≤ w.heap.size) (hg : Good f q d) :
    Calls Try.prog 10 #[.pointer (some ⟨b, 0, none⟩), .int .u32 f, .int .u32 q, .int .i64 d] w fun e w' => e = .returned (.int .i64 0) ∧ ∃ sl', SAt w' B b 0 [(f, q, d)] sl' ∧ Fr w w' b none := by
  have := mark_c w B b 0 [] (.slice none 0 0) f q d h hB (by simp)
  have hE : markE f q d = 0 := by unfold markE; rw [if_pos hg]
  have hS : markS 0 [] f q d = (0, [(f, q, d)]) := by unfold markS; rw [if_pos hg]; rfl
  rw [hE, hS] at this
  exact this
theorem mark0_c (w : World) (B b : Nat) (f q d : Int) (h : SAt w B b 0 [] (.slice none 0 0)) (hB : B ≤ w.heap.size) (hg : ¬ Good f q d) :
    Calls Try.prog 10 #[.pointer (some ⟨b, 0, none⟩), .int .u32 f, .int .u32 q, .int .i64 d] w fun e w' => e = .returned (.int .i64 1) ∧ w' = w :=
  mark_bad_h w b 0 _ f q d h.at_ hg

theorem out1_c (w : World) (B b : Nat) (f q d : Int) (sl : Value) (x : Int) (h : SAt w B b 0 [(f, q, d)] sl) :
    Calls Try.prog 11 #[.pointer (some ⟨b, 0, none⟩), .int .u32 x] w fun e w' => e = .returned (.int .u32 ((x + outD 0 x [(f, q, d)] % 4294967296) % 4294967296)) ∧ w.grownBy w' none :=
  out_c w B b 0 [(f, q, d)] sl x h (by simp)
theorem back1_c (w : World) (B b : Nat) (f q d : Int) (sl : Value) (x : Int) (h : SAt w B b 0 [(f, q, d)] sl) :
    Calls Try.prog 12 #[.pointer (some ⟨b, 0, none⟩), .int .u32 x] w fun e w' => e = .returned (.int .u32 (backL x 0 [(f, q, d)])) ∧ w.grownBy w' none :=
  back_c w B b 0 [(f, q, d)] sl x h (by simp)

/-- The plain law: one piece, from S to E = S + 1 + N, made longer by D. -/
theorem plain_law {S N D : Int} (s0 : 0 ≤ S) (s1 : S < 4294967296) (n0 : 0 ≤ N) (n1 : N < 256) (hg : Good S ((S + 1 + N) % 4294967296) D) :
    outD 0 ((S - 1) % 4294967296) [(S, (S + 1 + N) % 4294967296, D)] = 0 ∧ outD 0 S [(S, (S + 1 + N) % 4294967296, D)] = 0 ∧
    outD 0 ((S + 1 + N) % 4294967296) [(S, (S + 1 + N) % 4294967296, D)] = D ∧ outD 0 ((S + 1 + N + 1000) % 4294967296) [(S, (S + 1 + N) % 4294967296, D)] = D ∧
    backL ((S - 5) % 4294967296) 0 [(S, (S + 1 + N) % 4294967296, D)] = (S - 5) % 4294967296 ∧
    backL ((S + 1 + N + D + 9) % 4294967296) 0 [(S, (S + 1 + N) % 4294967296, D)] = (S + 1 + N + 9) % 4294967296 := by
  obtain ⟨g1, g2, g3, g4, g5⟩ := hg
  have hD : wrap64 (0 + D) = D := by unfold wrap64; omega
  refine ⟨?_, ?_, ?_, ?_, ?_, ?_⟩
  · have : reached ((S - 1) % 4294967296) ((S + 1 + N) % 4294967296) = false := by unfold reached wrap32; simp; omega
    simp [outD, this]
  · have : reached S ((S + 1 + N) % 4294967296) = false := by unfold reached wrap32; simp; omega
    simp [outD, this]
  · have : reached ((S + 1 + N) % 4294967296) ((S + 1 + N) % 4294967296) = true := by unfold reached wrap32; simp
    simp only [outD, List.foldl_cons, List.foldl_nil, this, if_true, hD]
  · have : reached ((S + 1 + N + 1000) % 4294967296) ((S + 1 + N) % 4294967296) = true := by unfold reached wrap32; simp; omega
    simp only [outD, List.foldl_cons, List.foldl_nil, this, if_true, hD]
  · simp only [backL, hD]
    have a1 : ¬ 0 ≤ gapOf ((S - 5) % 4294967296) (((S + 1 + N) % 4294967296 + D) % 4294967296) := by unfold gapOf wrap32; omega
    have a2 : ¬ 0 < gapOf ((S - 5) % 4294967296) ((S + 0) % 4294967296) := by unfold gapOf wrap32; omega
    rw [if_neg a1, if_neg a2]
    omega
  · simp only [backL, hD]
    have a1 : 0 ≤ gapOf ((S + 1 + N + D + 9) % 4294967296) (((S + 1 + N) % 4294967296 + D) % 4294967296) := by unfold gapOf wrap32; omega
    rw [if_pos a1]
    omega
theorem out_law (S N D : Int) (w0 : (Lit.int .u32 S).wf = true) (w1 : (Lit.int .u8 N).wf = true) (w2 : (Lit.int .i64 D).wf = true) (w : World) :
    Calls Try.prog 5 #[.int .u32 S, .int .u8 N, .int .i64 D] w fun e w' => e = .returned (.bool true) ∧ Below w.heap.size w w' := by
  by_cases hg : Good S ((S + 1 + N) % 4294967296) D
  · have Hg : Hid (Good S ((S + 1 + N) % 4294967296) D) := hg
    have z0 : 0 ≤ S ∧ S < 4294967296 := by have := bounds_u32 w0; omega
    have z1 : 0 ≤ N ∧ N < 256 := by have := bounds_u8 w1; omega
    obtain ⟨z01, z02⟩ := z0
    obtain ⟨z11, z12⟩ := z1
    obtain ⟨f1, f2, f3, f4, f5, f6⟩ := plain_law z01 z02 z11 z12 hg
    clear hg
    go_enter Try.func5, Try.ntmps5
    go_wp2_with (first
      | (go_at_call 8; refine (awakeC _).mono ?_; rintro e v1 ⟨rfl, hb⟩)
      | (go_at_call 9; refine (new_c _ w.heap.size).mono ?_; rintro e v2 ⟨rfl, hS, hgr⟩; have hbk := hb.size; have hb := grown_below hb hb.size hgr)
      | (go_at_call 10; refine (mark1_c _ _ _ _ _ _ hS hb.size Hg.out).mono ?_; rintro e v3 ⟨rfl, sl, hS, hfr⟩; have hb := fr_below hb hb.size hfr hbk (by simp))
      | (go_at_call 11; refine (out1_c _ _ _ _ _ _ _ _ hS).mono ?_; rintro e v4 ⟨rfl, hgr⟩; have hb := grown_below hb hb.size hgr; have hS := hS.grown hgr)
      | (go_at_call 12; refine (back1_c _ _ _ _ _ _ _ _ hS).mono ?_; rintro e v4 ⟨rfl, hgr⟩; have hb := grown_below hb hb.size hgr; have hS := hS.grown hgr))
    go_ret
    exact ⟨rfl, by assumption⟩
  · have z0 := bounds_u32 w0
    obtain ⟨z01, z02⟩ := z0
    have Hg : Hid (¬ Good S ((S + 1 + N) % 4294967296) D) := hg
    clear hg
    have hz : (S + 0 % 4294967296) % 4294967296 = S := by omega
    have hz' : (S - 0 % 4294967296) % 4294967296 = S := by omega
    go_enter Try.func5, Try.ntmps5
    go_wp2_with (first
      | (go_at_call 8; refine (awakeC _).mono ?_; rintro e v1 ⟨rfl, hb⟩)
      | (go_at_call 9; refine (new_c _ w.heap.size).mono ?_; rintro e v2 ⟨rfl, hS, hgr⟩; have hbk := hb.size; have hb := grown_below hb hb.size hgr)
      | (go_at_call 10; refine (mark0_c _ _ _ _ _ _ hS hb.size Hg.out).mono ?_; rintro e v3 ⟨rfl, rfl⟩)
      | (go_at_call 11; refine (out_nil_h _ _ 0 _ hS.at_).mono ?_; rw [hz]; rintro e v4 ⟨rfl, hgr⟩; have hb := grown_below hb hb.size hgr; have hS := hS.grown hgr)
      | (go_at_call 12; refine (back_nil_h _ _ 0 _ hS.at_).mono ?_; simp only [backL, hz']; rintro e v4 ⟨rfl, hgr⟩; have hb := grown_below hb hb.size hgr; have hS := hS.grown hgr)
      | (go_at_call 13; refine (marks_nil_h _ w.heap.size _ 0 hS.at_).mono ?_; rintro e v5 ⟨rfl, rfl⟩))
    all_goals go_outline
    all_goals go_ret
    all_goals exact ⟨rfl, by assumption⟩
end Go.Proofs.Ythonhnjdbnkfpaa
