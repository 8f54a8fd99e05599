/-
  The document's own Mark, where there is room.
  Conditions: those that each theorem names.
-/
import Derived.Test.YthonhnjdbnkfpaaTA
namespace Go.Proofs.Ythonhnjdbnkfpaa
open Go.ChangeShapes Go.WideShapes Go.ChangeAt Go.RowKit
set_option linter.unusedVariables false

theorem Try.info52 : (Try.prog.info? 52).map (fun i => (i.zero, i.size, i.bytes)) = some (some (.agg #[.int .u32 0, .int .u32 0, .int .i64 0]), 3, 16) := by kernel_rfl

theorem rmark_hit_h (w : World) (b g n cap : Nat) (cur : Array Value) (base : Int) (ms : List M) (f q d : Int) (hn : ms.length = n)
   (hblk : w.heap[b]? = some (.cells #[.int .i64 base, .slice (some ⟨g, 0, none⟩) n cap] 41 (0, 0)))
   (hrow : w.heap[g]? = some (.cells cur 52 (0, 0))) (hn8 : n ≤ 8)
   (hc : ∀ j, j < n → cur[j * 3]? = some (.int .u32 (ms.getD j (0,0,0)).1) ∧ cur[j * 3 + 1]? = some (.int .u32 (ms.getD j (0,0,0)).2.1) ∧ cur[j * 3 + 2]? = some (.int .i64 (ms.getD j (0,0,0)).2.2))
   (g1 : -2048 ≤ d) (g2 : d ≤ 2048) (g3 : 1 ≤ (q - f) % 4294967296) (g4 : (q - f) % 4294967296 ≤ 65535) (g5 : 1 ≤ (q - f) % 4294967296 + d)
   (j : Nat) (hj : j < n) (hjq : (ms.getD j (0,0,0)).2.1 = q) (hne : ∀ i, i < j → (ms.getD i (0,0,0)).2.1 ≠ q) :
   Calls Try.prog 14 #[.pointer (some ⟨b, 0, none⟩), .int .u32 f, .int .u32 q, .int .i64 d] w fun e w' => e = .returned (.int .i64 0) ∧
     w'.heap[g]? = some (.cells ((cur.set! (j*3) (.int .u32 f)).set! (j*3+2) (.int .i64 d)) 52 (0, 0)) ∧ w.grownBy w' (some g) := by
  have hb : b < w.heap.size := (Array.getElem?_eq_some_iff.1 hblk).1
  have hgs : g < w.heap.size := (Array.getElem?_eq_some_iff.1 hrow).1
  have hgb : g ≠ b := by rintro rfl; rw [hblk] at hrow; simp at hrow
  have h1 : w.cell? ⟨b, 0, none⟩ = some (.int .i64 base) := by simp [World.cell?, hblk]
  have h2 : w.cell? ⟨b, 1, none⟩ = some (.slice (some ⟨g, 0, none⟩) n cap) := by simp [World.cell?, hblk]
  have hf : ∀ i, w.frozen? ⟨g, i, none⟩ = false := fun i => by simp [World.frozen?, hrow]
  go_enter Try.func14, Try.ntmps14
  go_wp2
  go_loopw [10] (fun i wr => ∃ k : Nat, k ≤ j ∧ i = .int .i64 k ∧ wr = w) (fun i _ => n - (intOf i).toNat)
  case atStart => exact ⟨0, by omega, rfl, rfl⟩
  case round =>
    obtain ⟨k, hk, rfl, rfl⟩ := hrel
    have kc0 : wr.cell? ⟨g, k * 3, none⟩ = some (.int .u32 (ms.getD k (0,0,0)).1) := by simp [World.cell?, hrow, (hc k (by omega)).1]
    have kc1 : wr.cell? ⟨g, k * 3 + 1, none⟩ = some (.int .u32 (ms.getD k (0,0,0)).2.1) := by simp [World.cell?, hrow, (hc k (by omega)).2.1]
    have kc2 : wr.cell? ⟨g, k * 3 + 2, none⟩ = some (.int .i64 (ms.getD k (0,0,0)).2.2) := by simp [World.cell?, hrow, (hc k (by omega)).2.2]
    generalize hm0 : (ms.getD k (0,0,0)).1 = m0 at kc0
    generalize hm1 : (ms.getD k (0,0,0)).2.1 = m1 at kc1
    generalize hm2 : (ms.getD k (0,0,0)).2.2 = m2 at kc2
    by_cases hkj : k = j
    · subst hkj
      have hq : m1 = q := hm1 ▸ hjq
      subst hq
      clear hc hne
      go_wp2
      go_ret
      have r1 := heap_setCell_at (i := k * 3) (.int .u32 f) hrow
      have r2 := heap_setCell_at (i := k * 3 + 2) (.int .i64 d) r1
      refine ⟨rfl, r2, ⟨rfl, rfl, rfl, by simp, fun i hi h => ?_⟩⟩
      have hig : i ≠ g := fun e => h (by rw [e])
      rw [Below.heap_setCell _ _ _ _ hig, Below.heap_setCell _ _ _ _ hig]
    · have hq : (m1 == q) = false := by rw [← hm1]; simpa using hne k (by omega)
      have hkj' : k < j := by omega
      clear hc hne
      go_wp2
      go_roundw
      case rel => exact ⟨k + 1, by omega, by go_num, by trivial⟩
      case measure => simp [intOf]; omega

theorem rmark_bad_h (w : World) (b : Nat) (base : Int) (sl : Value) (f q d : Int) (hblk : w.heap[b]? = some (.cells #[.int .i64 base, sl] 41 (0, 0))) (hg : ¬ Good f q d) :
   Calls Try.prog 14 #[.pointer (some ⟨b, 0, none⟩), .int .u32 f, .int .u32 q, .int .i64 d] w fun e w' => e = .returned (.int .i64 1) ∧ w' = w := by
  have hb : d < -2048 ∨ 2048 < d ∨ (q - f) % 4294967296 < 1 ∨ 65535 < (q - f) % 4294967296 ∨ (q - f) % 4294967296 + d < 1 := by unfold Good at hg; omega
  have Hb : Hid (d < -2048 ∨ 2048 < d ∨ (q - f) % 4294967296 < 1 ∨ 65535 < (q - f) % 4294967296 ∨ (q - f) % 4294967296 + d < 1) := hb
  by_cases c1 : d < -2048
  · clear hb Hb hg
    go_enter Try.func14, Try.ntmps14
    go_wp2
    all_goals first
      | (go_ret; exact ⟨rfl, rfl⟩)
      | (exfalso; omega)
  · by_cases c2 : 2048 < d
    · clear hb Hb hg
      go_enter Try.func14, Try.ntmps14
      go_wp2
      all_goals first
        | (go_ret; exact ⟨rfl, rfl⟩)
        | (exfalso; omega)
    · by_cases c3 : (q - f) % 4294967296 < 1
      · clear hb Hb hg
        go_enter Try.func14, Try.ntmps14
        go_wp2
        all_goals first
          | (go_ret; exact ⟨rfl, rfl⟩)
          | (exfalso; omega)
      · by_cases c4 : 65535 < (q - f) % 4294967296
        · clear hb Hb hg
          go_enter Try.func14, Try.ntmps14
          go_wp2
          all_goals first
            | (go_ret; exact ⟨rfl, rfl⟩)
            | (exfalso; omega)
        · have c5 : (q - f) % 4294967296 + d < 1 := by omega
          clear hb Hb hg
          go_enter Try.func14, Try.ntmps14
          go_wp2
          all_goals first
            | (go_ret; exact ⟨rfl, rfl⟩)
            | (exfalso; omega)

theorem rmark_new_h (w : World) (B b g n cap : Nat) (cur : Array Value) (base : Int) (ms : List M) (f q d : Int) (hn : ms.length = n) (hB : B ≤ w.heap.size)
   (hblk : w.heap[b]? = some (.cells #[.int .i64 base, .slice (some ⟨g, 0, none⟩) n cap] 41 (0, 0)))
   (hrow : w.heap[g]? = some (.cells cur 52 (0, 0))) (hn8 : n < 8) (hown : w.ownsRow B 52 3 (.slice (some ⟨g, 0, none⟩) n cap) n (flat ms))
   (hc : ∀ j, j < n → cur[j * 3]? = some (.int .u32 (ms.getD j (0,0,0)).1) ∧ cur[j * 3 + 1]? = some (.int .u32 (ms.getD j (0,0,0)).2.1) ∧ cur[j * 3 + 2]? = some (.int .i64 (ms.getD j (0,0,0)).2.2))
   (g1 : -2048 ≤ d) (g2 : d ≤ 2048) (g3 : 1 ≤ (q - f) % 4294967296) (g4 : (q - f) % 4294967296 ≤ 65535) (g5 : 1 ≤ (q - f) % 4294967296 + d)
   (hne : ∀ i, i < n → (ms.getD i (0,0,0)).2.1 ≠ q) :
   Calls Try.prog 14 #[.pointer (some ⟨b, 0, none⟩), .int .u32 f, .int .u32 q, .int .i64 d] w fun e w' => e = .returned (.int .i64 0) ∧
     ∃ sl, RAt w' B b base (ms ++ [(f, q, d)]) sl ∧ Fr w w' b (some g) := by
  have hb : b < w.heap.size := (Array.getElem?_eq_some_iff.1 hblk).1
  have hgs : g < w.heap.size := (Array.getElem?_eq_some_iff.1 hrow).1
  have hgb : g ≠ b := by rintro rfl; rw [hblk] at hrow; simp at hrow
  have h1 : w.cell? ⟨b, 0, none⟩ = some (.int .i64 base) := by simp [World.cell?, hblk]
  have h2 : w.cell? ⟨b, 1, none⟩ = some (.slice (some ⟨g, 0, none⟩) n cap) := by simp [World.cell?, hblk]
  have nb : b ≠ w.heap.size := by omega
  obtain ⟨i0, hi, hz0, hz1, hz2⟩ := info_parts Try.info52
  go_enter Try.func14, Try.ntmps14
  go_wp2
  go_loopw [10] (fun i wr => ∃ k : Nat, k ≤ n ∧ i = .int .i64 k ∧ wr = w) (fun i _ => n - (intOf i).toNat)
  case atStart => exact ⟨0, by omega, rfl, rfl⟩
  case round =>
    obtain ⟨k, hk, rfl, rfl⟩ := hrel
    by_cases hkn : k = n
    · subst hkn
      clear hc hne
      go_wp2_with (first
        | (at_builtin; refine wpList_append_own _ rfl (.tmp 74) (.tmp 79) 39 rfl B 52 i0 _ 3 16 Try.underlying39 hi hz0 hz1 hz2 rfl (by decide) _ _ _ rfl (hown.alloc _) ⟨wr.heap.size, 0, none⟩ 1 1 [.int .u32 f, .int .u32 q, .int .i64 d] rfl rfl ?c1 ?c2 ?c3 ?c4 ?c5 ?_)
        | go_in)
      case c1 =>
        intro j u hj
        match j, hj with
        | 0, hj => simp at hj; subst hj; simp [Addr.add]
        | 1, hj => simp at hj; subst hj; simp [Addr.add]
        | 2, hj => simp at hj; subst hj; simp [Addr.add]
      case c2 => intro u hu; simp at hu; rcases hu with rfl | rfl | rfl <;> rfl
      case c3 => unfold maxLen; omega
      case c4 => omega
      case c5 => simp; omega
      · intro v1 w1 hown1 hgrow1 _
        have hs1 := hgrow1.size
        simp at hs1
        have hbw1 : w1.heap[b]? = some (.cells #[.int .i64 base, .slice (some ⟨g, 0, none⟩) k cap] 41 (0, 0)) := by
          rw [hgrow1.block b (by simp; omega) (by simp [Value.ownBlock]; exact fun e => hgb e.symm), Below.heap_alloc _ _ b hb]
          exact hblk
        have q1 : w1.cell? ⟨b, 0, none⟩ = some (.int .i64 base) := by simp [World.cell?, hbw1]
        have q2 : w1.cell? ⟨b, 1, none⟩ = some (.slice (some ⟨g, 0, none⟩) k cap) := by simp [World.cell?, hbw1]
        have qf : ∀ i, w1.frozen? ⟨b, i, none⟩ = false := fun i => by simp [World.frozen?, hbw1]
        have hown2 := hown1.2
        rcases hown2 with ⟨_, h0'⟩ | ⟨g', cap', cur', rfl, hbg', hg', hcap', hmax', hcs', htake'⟩
        · omega
        · have hg'b : g' ≠ b := by rintro rfl; rw [hbw1] at hg'; simp at hg'
          go_wp2
          go_ret
          have hg1 := heap_setCell_at (i := 1) (.slice (some ⟨g', 0, none⟩) (k + 1) cap') hbw1
          refine ⟨rfl, .slice (some ⟨g', 0, none⟩) (k + 1) cap', ⟨hg1, ?_⟩, ⟨?_, ?_, ?_, ?_, ?_⟩⟩
          · rw [flat_append]
            refine ⟨by rw [← flat_append, flat_length], .inr ⟨g', cap', cur', by simp [hn], hbg', (Below.heap_setCell _ _ _ _ hg'b).trans hg', by simp [hn]; omega, hmax', hcs', ?_⟩⟩
            simp only [List.length_append, List.length_cons, List.length_nil, hn, Nat.zero_add]
            exact htake'
          · exact hgrow1.os
          · exact hgrow1.tape
          · exact hgrow1.output
          · simp; omega
          · intro i hi hib hig
            rw [Below.heap_setCell _ _ _ _ hib, hgrow1.block i (by simp; omega) (by simpa [Value.ownBlock] using hig), Below.heap_alloc _ _ i hi]
    · have hkn' : k < n := by omega
      have kc1 : wr.cell? ⟨g, k * 3 + 1, none⟩ = some (.int .u32 (ms.getD k (0,0,0)).2.1) := by simp [World.cell?, hrow, (hc k (by omega)).2.1]
      generalize hm1 : (ms.getD k (0,0,0)).2.1 = m1 at kc1
      have hq : (m1 == q) = false := by rw [← hm1]; simpa using hne k (by omega)
      clear hc hne
      go_wp2
      go_roundw
      case rel => exact ⟨k + 1, by omega, by go_num, by trivial⟩
      case measure => simp [intOf]; omega

theorem rmark_nil_h (w : World) (B b : Nat) (base : Int) (f q d : Int) (hB : B ≤ w.heap.size)
   (hblk : w.heap[b]? = some (.cells #[.int .i64 base, .slice none 0 0] 41 (0, 0)))
   (g1 : -2048 ≤ d) (g2 : d ≤ 2048) (g3 : 1 ≤ (q - f) % 4294967296) (g4 : (q - f) % 4294967296 ≤ 65535) (g5 : 1 ≤ (q - f) % 4294967296 + d) :
   Calls Try.prog 14 #[.pointer (some ⟨b, 0, none⟩), .int .u32 f, .int .u32 q, .int .i64 d] w fun e w' => e = .returned (.int .i64 0) ∧
     ∃ sl, RAt w' B b base [(f, q, d)] sl ∧ Fr w w' b none := by
  have hb : b < w.heap.size := (Array.getElem?_eq_some_iff.1 hblk).1
  have h1 : w.cell? ⟨b, 0, none⟩ = some (.int .i64 base) := by simp [World.cell?, hblk]
  have h2 : w.cell? ⟨b, 1, none⟩ = some (.slice none 0 0) := by simp [World.cell?, hblk]
  have hown : w.ownsRow B 52 3 (.slice none 0 0) 0 (flat []) := World.ownsRow_nil _ _ _ _
  have nb : b ≠ w.heap.size := by omega
  obtain ⟨i0, hi, hz0, hz1, hz2⟩ := info_parts Try.info52
  go_enter Try.func14, Try.ntmps14
  go_wp2
  go_loopw [10] (fun i wr => i = .int .i64 0 ∧ wr = w) (fun i _ => 0)
  case atStart => exact ⟨rfl, rfl⟩
  case round =>
    obtain ⟨rfl, rfl⟩ := hrel
    go_wp2_with (first
        | (at_builtin; refine wpList_append_own _ rfl (.tmp 74) (.tmp 79) 39 rfl B 52 i0 _ 3 16 Try.underlying39 hi hz0 hz1 hz2 rfl (by decide) _ _ _ rfl (hown.alloc _) ⟨wr.heap.size, 0, none⟩ 1 1 [.int .u32 f, .int .u32 q, .int .i64 d] rfl rfl ?c1 ?c2 ?c3 ?c4 ?c5 ?_)
        | go_in)
    case c1 =>
      intro j u hj
      match j, hj with
      | 0, hj => simp at hj; subst hj; simp [Addr.add]
      | 1, hj => simp at hj; subst hj; simp [Addr.add]
      | 2, hj => simp at hj; subst hj; simp [Addr.add]
    case c2 => intro u hu; simp at hu; rcases hu with rfl | rfl | rfl <;> rfl
    case c3 => unfold maxLen; omega
    case c4 => omega
    case c5 => simp; omega
    · intro v1 w1 hown1 hgrow1 _
      have hs1 := hgrow1.size
      simp at hs1
      have hbw1 : w1.heap[b]? = some (.cells #[.int .i64 base, .slice none 0 0] 41 (0, 0)) := by
        rw [hgrow1.block b (by simp; omega) (by simp [Value.ownBlock]), Below.heap_alloc _ _ b hb]
        exact hblk
      have q1 : w1.cell? ⟨b, 0, none⟩ = some (.int .i64 base) := by simp [World.cell?, hbw1]
      have q2 : w1.cell? ⟨b, 1, none⟩ = some (.slice none 0 0) := by simp [World.cell?, hbw1]
      have qf : ∀ i, w1.frozen? ⟨b, i, none⟩ = false := fun i => by simp [World.frozen?, hbw1]
      have hown2 := hown1.2
      rcases hown2 with ⟨_, h0'⟩ | ⟨g', cap', cur', rfl, hbg', hg', hcap', hmax', hcs', htake'⟩
      · omega
      · have hg'b : g' ≠ b := by rintro rfl; rw [hbw1] at hg'; simp at hg'
        go_wp2
        go_ret
        have hg1 := heap_setCell_at (i := 1) (.slice (some ⟨g', 0, none⟩) 1 cap') hbw1
        refine ⟨rfl, .slice (some ⟨g', 0, none⟩) 1 cap', ⟨hg1, ?_⟩, ⟨?_, ?_, ?_, ?_, ?_⟩⟩
        · refine ⟨by rw [flat_length], .inr ⟨g', cap', cur', by simp, hbg', (Below.heap_setCell _ _ _ _ hg'b).trans hg', by simp; omega, hmax', hcs', ?_⟩⟩
          exact htake'
        · exact hgrow1.os
        · exact hgrow1.tape
        · exact hgrow1.output
        · simp; omega
        · intro i hi hib hig
          rw [Below.heap_setCell _ _ _ _ hib, hgrow1.block i (by simp; omega) (by simp [Value.ownBlock]), Below.heap_alloc _ _ i hi]
end Go.Proofs.Ythonhnjdbnkfpaa
