/-
  A mark that is there already is written anew (chapter 24).
  Conditions: those that each theorem names.
-/
import Derived.Test.YthonhnjdbnkfpaaSA
namespace Go.Proofs.Ythonhnjdbnkfpaa
open Go.ChangeShapes Go.WideShapes Go.ChangeAt Go.RowKit
set_option linter.unusedVariables false

/-- What a call leaves of blocks other than two. -/
structure Fr (w w' : World) (b : Nat) (ob : Option Nat) : Prop where
  os : w'.os = w.os
  tape : w'.tape = w.tape
  output : w'.output = w.output
  size : w.heap.size ≤ w'.heap.size
  block : ∀ k, k < w.heap.size → k ≠ b → some k ≠ ob → w'.heap[k]? = w.heap[k]?

theorem Fr.of_grown {w w' : World} {ob : Option Nat} (b : Nat) (h : w.grownBy w' ob) : Fr w w' b ob :=
  ⟨h.os, h.tape, h.output, h.size, fun k hk _ hn => h.block k hk hn⟩

/-- A shift in memory: at block b; B: the first block that the call may own. t, e: the types' numbers. -/
structure SAt (w : World) (B b : Nat) (base : Int) (ms : List M) (sl : Value) : Prop where
  at_ : w.heap[b]? = some (.cells #[.bool true, .int .i64 base, sl] 47 (0, 0))
  own : w.ownsRow B 49 3 sl ms.length (flat ms)

theorem mark_hit_h (w : World) (b g n cap : Nat) (cur : Array Value) (base : Int) (ms : List M) (f q d : Int) (hn : ms.length = n)
   (hblk : w.heap[b]? = some (.cells #[.bool true, .int .i64 base, .slice (some ⟨g, 0, none⟩) n cap] 47 (0, 0)))
   (hrow : w.heap[g]? = some (.cells cur 49 (0, 0))) (hn8 : n ≤ 8)
   (hc : ∀ j, j < n → cur[j * 3]? = some (.int .u32 (ms.getD j (0,0,0)).1) ∧ cur[j * 3 + 1]? = some (.int .u32 (ms.getD j (0,0,0)).2.1) ∧ cur[j * 3 + 2]? = some (.int .i64 (ms.getD j (0,0,0)).2.2))
   (g1 : -2048 ≤ d) (g2 : d ≤ 2048) (g3 : 1 ≤ (q - f) % 4294967296) (g4 : (q - f) % 4294967296 ≤ 65535) (g5 : 1 ≤ (q - f) % 4294967296 + d)
   (j : Nat) (hj : j < n) (hjq : (ms.getD j (0,0,0)).2.1 = q) (hne : ∀ i, i < j → (ms.getD i (0,0,0)).2.1 ≠ q) :
   Calls Try.prog 10 #[.pointer (some ⟨b, 0, none⟩), .int .u32 f, .int .u32 q, .int .i64 d] w fun e w' => e = .returned (.int .i64 0) ∧
     w'.heap[g]? = some (.cells (((cur.set! (j*3) (.int .u32 f)).set! (j*3+1) (.int .u32 q)).set! (j*3+2) (.int .i64 d)) 49 (0, 0)) ∧ w.grownBy w' (some g) := by
  have hb : b < w.heap.size := (Array.getElem?_eq_some_iff.1 hblk).1
  have hgs : g < w.heap.size := (Array.getElem?_eq_some_iff.1 hrow).1
  have hgb : g ≠ b := by rintro rfl; rw [hblk] at hrow; simp at hrow
  have h0 : w.cell? ⟨b, 0, none⟩ = some (.bool true) := by simp [World.cell?, hblk]
  have h1 : w.cell? ⟨b, 1, none⟩ = some (.int .i64 base) := by simp [World.cell?, hblk]
  have h2 : w.cell? ⟨b, 2, none⟩ = some (.slice (some ⟨g, 0, none⟩) n cap) := by simp [World.cell?, hblk]
  go_enter Try.func10, Try.ntmps10
  go_wp2
  go_loopw [50] (fun i wr => ∃ k : Nat, k ≤ j ∧ i = .int .i64 k ∧ w.grownBy wr none) (fun i _ => n - (intOf i).toNat)
  case atStart => exact ⟨0, by omega, rfl, ⟨rfl, rfl, rfl, Nat.le_refl _, fun _ _ _ => rfl⟩⟩
  case round =>
    obtain ⟨k, hk, rfl, hgr⟩ := hrel
    have hblk' : wr.heap[b]? = some (.cells #[.bool true, .int .i64 base, .slice (some ⟨g, 0, none⟩) n cap] 47 (0, 0)) := (hgr.block b hb (by simp)).trans hblk
    have hrow' : wr.heap[g]? = some (.cells cur 49 (0, 0)) := (hgr.block g hgs (by simp)).trans hrow
    have kc0 : wr.cell? ⟨g, k * 3, none⟩ = some (.int .u32 (ms.getD k (0,0,0)).1) := by simp [World.cell?, hrow', (hc k (by omega)).1]
    have kc1 : wr.cell? ⟨g, k * 3 + 1, none⟩ = some (.int .u32 (ms.getD k (0,0,0)).2.1) := by simp [World.cell?, hrow', (hc k (by omega)).2.1]
    have kc2 : wr.cell? ⟨g, k * 3 + 2, none⟩ = some (.int .i64 (ms.getD k (0,0,0)).2.2) := by simp [World.cell?, hrow', (hc k (by omega)).2.2]
    have kb2 : wr.cell? ⟨b, 2, none⟩ = some (.slice (some ⟨g, 0, none⟩) n cap) := by simp [World.cell?, hblk']
    have hb' : b < wr.heap.size := Nat.lt_of_lt_of_le hb hgr.size
    have hgs' : g < wr.heap.size := Nat.lt_of_lt_of_le hgs hgr.size
    have kf : ∀ i, wr.frozen? ⟨g, i, none⟩ = false := fun i => by simp [World.frozen?, hrow']
    have nb : b ≠ wr.heap.size := by omega
    have ng : g ≠ wr.heap.size := by omega
    have ab2 : ∀ o, (wr.alloc o).cell? ⟨b, 2, none⟩ = some (.slice (some ⟨g, 0, none⟩) n cap) := fun o => by rw [World.cell?_of_block (w := wr) (Below.heap_alloc wr o b hb')]; exact kb2
    have af : ∀ o i, (wr.alloc o).frozen? ⟨g, i, none⟩ = false := fun o i => by
      have : (wr.alloc o).heap[g]? = wr.heap[g]? := Below.heap_alloc wr o g hgs'
      simp [World.frozen?, this, hrow']
    generalize hm0 : (ms.getD k (0,0,0)).1 = m0 at kc0
    generalize hm1 : (ms.getD k (0,0,0)).2.1 = m1 at kc1
    generalize hm2 : (ms.getD k (0,0,0)).2.2 = m2 at kc2
    by_cases hkj : k = j
    · subst hkj
      have hq : m1 = q := hm1 ▸ hjq
      subst hq
      clear hc hne
      go_wp2
      go_ret
      have r1 := heap_setCell_at (i := k * 3) (.int .u32 f) hrow'
      have r2 := heap_setCell_at (i := k * 3 + 1) (.int .u32 m1) r1
      have r3 := heap_setCell_at (i := k * 3 + 2) (.int .i64 d) r2
      refine ⟨rfl, (Below.heap_alloc _ _ g (Array.getElem?_eq_some_iff.1 r3).1).trans r3, ⟨hgr.os, hgr.tape, hgr.output, by simp; have := hgr.size; omega, fun i hi h => ?_⟩⟩
      have hig : i ≠ g := fun e => h (by rw [e])
      have hi' : i < wr.heap.size := Nat.lt_of_lt_of_le hi hgr.size
      rw [Below.heap_alloc _ _ i (by simp; exact hi'), Below.heap_setCell _ _ _ _ hig, Below.heap_setCell _ _ _ _ hig, Below.heap_setCell _ _ _ _ hig]
      exact hgr.block i hi (by simp)
    · have hq : (m1 == q) = false := by rw [← hm1]; simpa using hne k (by omega)
      have hkj' : k < j := by omega
      clear hc hne
      go_wp2
      go_roundw
      case rel => exact ⟨k + 1, by omega, by go_num, ⟨hgr.os, hgr.tape, hgr.output, by simp; have := hgr.size; omega, fun i hi h => (Below.heap_alloc wr _ i (by have := hgr.size; omega)).trans (hgr.block i hi h)⟩⟩
      case measure => simp [intOf]; omega

end Go.Proofs.Ythonhnjdbnkfpaa
