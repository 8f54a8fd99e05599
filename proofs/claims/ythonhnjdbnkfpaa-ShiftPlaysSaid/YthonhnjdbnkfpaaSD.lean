/-
  The first mark.
  Conditions: those that each theorem names.
-/
import Derived.Test.YthonhnjdbnkfpaaSC
namespace Go.Proofs.Ythonhnjdbnkfpaa
open Go.ChangeShapes Go.WideShapes Go.ChangeAt Go.RowKit
set_option linter.unusedVariables false

theorem mark_nil_h (w : World) (B b : Nat) (base : Int) (f q d : Int) (hB : B ≤ w.heap.size)
   (hblk : w.heap[b]? = some (.cells #[.bool true, .int .i64 base, .slice none 0 0] 47 (0, 0)))
   (g1 : -2048 ≤ d) (g2 : d ≤ 2048) (g3 : 1 ≤ (q - f) % 4294967296) (g4 : (q - f) % 4294967296 ≤ 65535) (g5 : 1 ≤ (q - f) % 4294967296 + d) :
   Calls Try.prog 10 #[.pointer (some ⟨b, 0, none⟩), .int .u32 f, .int .u32 q, .int .i64 d] w fun e w' => e = .returned (.int .i64 0) ∧
     ∃ sl, SAt w' B b base [(f, q, d)] sl ∧ Fr w w' b none := by
  have hb : b < w.heap.size := (Array.getElem?_eq_some_iff.1 hblk).1
  have h0 : w.cell? ⟨b, 0, none⟩ = some (.bool true) := by simp [World.cell?, hblk]
  have h1 : w.cell? ⟨b, 1, none⟩ = some (.int .i64 base) := by simp [World.cell?, hblk]
  have h2 : w.cell? ⟨b, 2, none⟩ = some (.slice none 0 0) := by simp [World.cell?, hblk]
  have hbf : ∀ i, w.frozen? ⟨b, i, none⟩ = false := fun i => by simp [World.frozen?, hblk]
  have hown : w.ownsRow B 49 3 (.slice none 0 0) 0 (flat []) := World.ownsRow_nil _ _ _ _
  have nb : b ≠ w.heap.size := by omega
  obtain ⟨i0, hi, hz0, hz1, hz2⟩ := info_parts Try.info49
  go_enter Try.func10, Try.ntmps10
  go_wp2
  go_loopw [50] (fun i wr => i = .int .i64 0 ∧ wr = w) (fun i _ => 0)
  case atStart => exact ⟨rfl, rfl⟩
  case round =>
    obtain ⟨rfl, rfl⟩ := hrel
    go_wp2_with (first
        | (at_builtin; refine wpList_append_own _ rfl (.tmp 74) (.tmp 79) 34 rfl B 49 i0 _ 3 16 Try.underlying34 hi hz0 hz1 hz2 rfl (by decide) _ _ _ rfl (hown.alloc _) ⟨wr.heap.size, 0, none⟩ 1 1 [.int .u32 f, .int .u32 q, .int .i64 d] rfl rfl ?c1 ?c2 ?c3 ?c4 ?c5 ?_)
        | go_in)
    case c1 =>
      intro j u hj
      match j, hj with
      | 0, hj => simp at hj; subst hj; simp [Addr.add]
      | 1, hj => simp at hj; subst hj; simp [Addr.add]
      | 2, hj => simp at hj; subst hj; simp [Addr.add]
    case c2 => intro u hu; simp at hu; rcases hu with rfl | rfl | rfl <;> rfl
    case c3 => unfold maxLen; omega
    case c4 => omega
    case c5 => simp; omega
    · intro v1 w1 hown1 hgrow1 _
      have hs1 := hgrow1.size
      simp at hs1
      have hbw1 : w1.heap[b]? = some (.cells #[.bool true, .int .i64 base, .slice none 0 0] 47 (0, 0)) := by
        rw [hgrow1.block b (by simp; omega) (by simp [Value.ownBlock]), Below.heap_alloc _ _ b hb]
        exact hblk
      have q0 : w1.cell? ⟨b, 0, none⟩ = some (.bool true) := by simp [World.cell?, hbw1]
      have q1 : w1.cell? ⟨b, 1, none⟩ = some (.int .i64 base) := by simp [World.cell?, hbw1]
      have q2 : w1.cell? ⟨b, 2, none⟩ = some (.slice none 0 0) := by simp [World.cell?, hbw1]
      have qf : ∀ i, w1.frozen? ⟨b, i, none⟩ = false := fun i => by simp [World.frozen?, hbw1]
      have hown2 := hown1.2
      rcases hown2 with ⟨_, h0'⟩ | ⟨g', cap', cur', rfl, hbg', hg', hcap', hmax', hcs', htake'⟩
      · omega
      · have hg'b : g' ≠ b := by rintro rfl; rw [hbw1] at hg'; simp at hg'
        go_wp2
        go_ret
        have hg1 := heap_setCell_at (i := 2) (.slice (some ⟨g', 0, none⟩) 1 cap') hbw1
        refine ⟨rfl, .slice (some ⟨g', 0, none⟩) 1 cap', ⟨hg1, ?_⟩, ⟨?_, ?_, ?_, ?_, ?_⟩⟩
        · refine ⟨by rw [flat_length], .inr ⟨g', cap', cur', by simp, hbg', (Below.heap_setCell _ _ _ _ hg'b).trans hg', by simp; omega, hmax', hcs', ?_⟩⟩
          exact htake'
        · exact hgrow1.os
        · exact hgrow1.tape
        · exact hgrow1.output
        · simp; omega
        · intro i hi hib hig
          rw [Below.heap_setCell _ _ _ _ hib, hgrow1.block i (by simp; omega) (by simp [Value.ownBlock]), Below.heap_alloc _ _ i hi]
end Go.Proofs.Ythonhnjdbnkfpaa
