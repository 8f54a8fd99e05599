/-
  Numbers within: what Back answers.
  Conditions: those that each theorem names.
-/
import Derived.Test.YthonhnjdbnkfpaaSF
import Derived.WalkMore
import Derived.Deep.LoopGhost
namespace Go.Proofs.Ythonhnjdbnkfpaa
open Go.ChangeShapes Go.WideShapes Go.ChangeAt Go.RowKit
set_option linter.unusedVariables false

/-- How far a number lies behind another one. -/
def gapOf (x n : Int) : Int := wrap32 ((x - n) % 4294967296)
/-- Back: what is left of the marks. none: not in a piece. -/
def backL (x : Int) : Int → List M → Int
  | d, [] => (x - d % 4294967296) % 4294967296
  | d, m :: ms =>
    if 0 ≤ gapOf x ((m.2.1 + wrap64 (d + m.2.2)) % 4294967296) then backL x (wrap64 (d + m.2.2)) ms
    else if 0 < gapOf x ((m.1 + d) % 4294967296) then m.1
    else (x - d % 4294967296) % 4294967296
def backD (base : Int) (ms : List M) : Int := ms.foldl (fun a m => wrap64 (a + m.2.2)) base

theorem gap_c (w : World) (n x : Int) (bx : Nat) (hx : w.cell? ⟨bx, 0, none⟩ = some (.int .u32 x)) :
   Calls Try.prog 20 #[.int .u32 n, .pointer (some ⟨bx, 0, none⟩)] w fun e w' => e = .returned (.int .i32 (gapOf x n)) ∧ w' = w := by
  go_enter Try.func20, Try.ntmps20
  go_wp2
  go_ret
  exact ⟨rfl, rfl⟩

theorem backD_succ (base : Int) (ms : List M) (k : Nat) (h : k < ms.length) : backD base (ms.take (k + 1)) = wrap64 (backD base (ms.take k) + (ms.getD k (0,0,0)).2.2) := by
  unfold backD
  rw [List.take_add_one, List.foldl_append, List.getD_eq_getElem?_getD, List.getElem?_eq_getElem h]
  simp

theorem drop_at (ms : List M) (k : Nat) (h : k < ms.length) : ms.drop k = ms.getD k (0,0,0) :: ms.drop (k + 1) := by
  rw [List.getD_eq_getElem?_getD, List.getElem?_eq_getElem h]
  simp

theorem back_row_h (w : World) (b g n cap : Nat) (cur : Array Value) (base : Int) (ms : List M) (x : Int) (hn : ms.length = n)
   (hblk : w.heap[b]? = some (.cells #[.bool true, .int .i64 base, .slice (some ⟨g, 0, none⟩) n cap] 47 (0, 0)))
   (hrow : w.heap[g]? = some (.cells cur 49 (0, 0))) (hn8 : n ≤ 8)
   (hc : ∀ j, j < n → cur[j * 3]? = some (.int .u32 (ms.getD j (0,0,0)).1) ∧ cur[j * 3 + 1]? = some (.int .u32 (ms.getD j (0,0,0)).2.1) ∧ cur[j * 3 + 2]? = some (.int .i64 (ms.getD j (0,0,0)).2.2)) :
   Calls Try.prog 12 #[.pointer (some ⟨b, 0, none⟩), .int .u32 x] w fun e w' => e = .returned (.int .u32 (backL x base ms)) ∧ w.grownBy w' none := by
  have hb : b < w.heap.size := (Array.getElem?_eq_some_iff.1 hblk).1
  have hgs : g < w.heap.size := (Array.getElem?_eq_some_iff.1 hrow).1
  have h0 : w.cell? ⟨b, 0, none⟩ = some (.bool true) := by simp [World.cell?, hblk]
  have h1 : w.cell? ⟨b, 1, none⟩ = some (.int .i64 base) := by simp [World.cell?, hblk]
  have h2 : w.cell? ⟨b, 2, none⟩ = some (.slice (some ⟨g, 0, none⟩) n cap) := by simp [World.cell?, hblk]
  have nb : b ≠ w.heap.size := by omega
  go_enter Try.func12, Try.ntmps12
  go_wp2
  go_step3
  go_wp2
  go_step3
  go_wp2
  go_loopw [6, 30] (fun t i wr => ∃ (k : Nat) (D : Int), k ≤ n ∧ i = .int .i64 k ∧ t = .int .i64 D ∧ backL x D (ms.drop k) = backL x base ms ∧ w.grownBy wr none ∧ wr.heap[w.heap.size]? = some (.cells #[.int .u32 x] 27 (0, 0))) (fun _ i _ => n - (intOf i).toNat)
  case atStart => exact ⟨0, base, by omega, rfl, rfl, rfl, World.grownBy_alloc w _ none, heap_alloc_new w _⟩
  case round =>
    obtain ⟨k, D, hk, rfl, rfl, hbl, hgr, hbx⟩ := hrel
    have hrow' : wr.heap[g]? = some (.cells cur 49 (0, 0)) := (hgr.block g hgs (by simp)).trans hrow
    have nw : w.heap.size < wr.heap.size := (Array.getElem?_eq_some_iff.1 hbx).1
    have cx : wr.cell? ⟨w.heap.size, 0, none⟩ = some (.int .u32 x) := by simp [World.cell?, hbx]
    have nwx : w.heap.size ≠ wr.heap.size := by omega
    by_cases hkn : k < n
    · have kc0 : wr.cell? ⟨g, k * 3, none⟩ = some (.int .u32 (ms.getD k (0,0,0)).1) := by simp [World.cell?, hrow', (hc k hkn).1]
      have kc1 : wr.cell? ⟨g, k * 3 + 1, none⟩ = some (.int .u32 (ms.getD k (0,0,0)).2.1) := by simp [World.cell?, hrow', (hc k hkn).2.1]
      have kc2 : wr.cell? ⟨g, k * 3 + 2, none⟩ = some (.int .i64 (ms.getD k (0,0,0)).2.2) := by simp [World.cell?, hrow', (hc k hkn).2.2]
      rw [drop_at ms k (by omega)] at hbl
      rcases hmm : ms.getD k (0,0,0) with ⟨m0, m1, m2⟩
      rw [hmm] at kc0 kc1 kc2 hbl
      have Hbl : Hid (backL x base ms = backL x D ((m0, m1, m2) :: ms.drop (k + 1))) := hbl.symm
      have ac : ∀ c : Array Value, (wr.alloc (.cells c 49)).cell? ⟨w.heap.size, 0, none⟩ = some (.int .u32 x) := fun c => by rw [World.cell?_of_block (w := wr) (Below.heap_alloc wr _ _ nw)]; exact cx
      clear hc hbl hmm
      have adc : ∀ c : Array Value, ((wr.alloc (.cells c 49)).drew).cell? ⟨w.heap.size, 0, none⟩ = some (.int .u32 x) := fun c => ac c
      go_wp2
      go_region
      all_goals go_wp2_with (go_at_call 20; refine (gap_c _ _ x _ (adc _)).mono ?_; rintro e w1 ⟨rfl, rfl⟩)
      · rename_i hgap
        have hbx' : (wr.alloc (.cells #[.int .u32 m0, .int .u32 m1, .int .i64 m2] 49)).drew.heap[w.heap.size]? = some (.cells #[.int .u32 x] 27 (0, 0)) := (Below.heap_alloc wr _ _ nw).trans hbx
        refine ⟨⟨k + 1, wrap64 (D + m2), by omega, by go_num, rfl, ?_, gtrans hgr ⟨rfl, rfl, rfl, by simp [World.drew], fun i hi _ => Below.heap_alloc wr _ i hi⟩, hbx'⟩, by simp [intOf]; omega⟩
        rw [Hbl.out]
        simp only [backL]
        rw [if_pos hgap]
      · rename_i hg1 hg2
        rw [Exit.noGoto_ret]
        go_ret
        refine ⟨?_, gtrans hgr ⟨rfl, rfl, rfl, by simp [World.drew], fun i hi _ => Below.heap_alloc wr _ i hi⟩⟩
        rw [Hbl.out]
        simp only [backL]
        rw [if_neg (by omega), if_pos hg2]
        rfl
      · rename_i hg1 hg2
        rw [Exit.noGoto_ret]
        go_ret
        refine ⟨?_, gtrans hgr ⟨rfl, rfl, rfl, by simp [World.drew], fun i hi _ => Below.heap_alloc wr _ i hi⟩⟩
        rw [Hbl.out]
        simp only [backL]
        rw [if_neg (by omega), if_neg (by omega)]
        rfl
    · obtain rfl : k = n := by omega
      have e : ms.drop k = [] := List.drop_of_length_le (by omega)
      rw [e] at hbl
      have Hb : Hid (backL x base ms = (x - D % 4294967296) % 4294967296) := hbl.symm
      clear hbl
      go_wp2
      try rw [Exit.noGoto_ret]
      go_ret
      exact ⟨by rw [Hb.out]; rfl, hgr⟩

theorem back_nil_h (w : World) (b : Nat) (base : Int) (x : Int)
   (hblk : w.heap[b]? = some (.cells #[.bool true, .int .i64 base, .slice none 0 0] 47 (0, 0))) :
   Calls Try.prog 12 #[.pointer (some ⟨b, 0, none⟩), .int .u32 x] w fun e w' => e = .returned (.int .u32 (backL x base [])) ∧ w.grownBy w' none := by
  have hb : b < w.heap.size := (Array.getElem?_eq_some_iff.1 hblk).1
  have h0 : w.cell? ⟨b, 0, none⟩ = some (.bool true) := by simp [World.cell?, hblk]
  have h1 : w.cell? ⟨b, 1, none⟩ = some (.int .i64 base) := by simp [World.cell?, hblk]
  have h2 : w.cell? ⟨b, 2, none⟩ = some (.slice none 0 0) := by simp [World.cell?, hblk]
  have nb : b ≠ w.heap.size := by omega
  go_enter Try.func12, Try.ntmps12
  go_wp2
  go_step3
  go_wp2
  go_step3
  go_wp2
  go_loopw [6, 30] (fun t i wr => i = .int .i64 0 ∧ t = .int .i64 base ∧ wr = w.alloc (.cells #[.int .u32 x] 27)) (fun _ i _ => 0)
  case atStart => exact ⟨rfl, rfl, rfl⟩
  case round =>
    obtain ⟨rfl, rfl, rfl⟩ := hrel
    go_wp2
    rw [Exit.noGoto_ret]
    go_ret
    exact ⟨rfl, World.grownBy_alloc w _ none⟩
end Go.Proofs.Ythonhnjdbnkfpaa
