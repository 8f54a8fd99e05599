/-
  Numbers outside: what Out answers.
  Conditions: those that each theorem names.
-/
import Derived.Test.YthonhnjdbnkfpaaSD
namespace Go.Proofs.Ythonhnjdbnkfpaa
open Go.ChangeShapes Go.WideShapes Go.ChangeAt Go.RowKit
set_option linter.unusedVariables false

/-- Has a number reached a mark? -/
def reached (x q : Int) : Bool := decide (0 ≤ wrap32 ((x - q) % 4294967296))
def outD (base x : Int) (ms : List M) : Int := ms.foldl (fun a m => if reached x m.2.1 then wrap64 (a + m.2.2) else a) base

theorem gtrans {a b c : World} (h : a.grownBy b none) (h' : b.grownBy c none) : a.grownBy c none :=
  ⟨h'.os.trans h.os, h'.tape.trans h.tape, h'.output.trans h.output, Nat.le_trans h.size h'.size, fun k hk _ => (h'.block k (Nat.lt_of_lt_of_le hk h.size) (by simp)).trans (h.block k hk (by simp))⟩

theorem reached_c (w : World) (f q d x : Int) (bx : Nat) (hx : w.cell? ⟨bx, 0, none⟩ = some (.int .u32 x)) :
   Calls Try.prog 19 #[.agg #[.int .u32 f, .int .u32 q, .int .i64 d], .pointer (some ⟨bx, 0, none⟩)] w fun e w' => e = .returned (.bool (reached x q)) ∧ w.grownBy w' none := by
  have nb : bx < w.heap.size := World.block_lt_of_cell? w _ hx
  have nb' : bx ≠ w.heap.size := by omega
  have ax : ∀ o, (w.alloc o).cell? ⟨bx, 0, none⟩ = some (.int .u32 x) := fun o => by rw [World.cell?_of_block (w := w) (Below.heap_alloc w o bx nb)]; exact hx
  go_enter Try.func19, Try.ntmps19
  go_wp2
  go_ret
  exact ⟨rfl, World.grownBy_alloc w _ none⟩

theorem outD_succ (base x : Int) (ms : List M) (k : Nat) (h : k < ms.length) : outD base x (ms.take (k + 1)) = if reached x (ms.getD k (0,0,0)).2.1 then wrap64 (outD base x (ms.take k) + (ms.getD k (0,0,0)).2.2) else outD base x (ms.take k) := by
  unfold outD
  rw [List.take_add_one, List.foldl_append, List.getD_eq_getElem?_getD, List.getElem?_eq_getElem h]
  simp

theorem out_row_h (w : World) (b g n cap : Nat) (cur : Array Value) (base : Int) (ms : List M) (x : Int) (hn : ms.length = n)
   (hblk : w.heap[b]? = some (.cells #[.bool true, .int .i64 base, .slice (some ⟨g, 0, none⟩) n cap] 47 (0, 0)))
   (hrow : w.heap[g]? = some (.cells cur 49 (0, 0))) (hn8 : n ≤ 8)
   (hc : ∀ j, j < n → cur[j * 3]? = some (.int .u32 (ms.getD j (0,0,0)).1) ∧ cur[j * 3 + 1]? = some (.int .u32 (ms.getD j (0,0,0)).2.1) ∧ cur[j * 3 + 2]? = some (.int .i64 (ms.getD j (0,0,0)).2.2)) :
   Calls Try.prog 11 #[.pointer (some ⟨b, 0, none⟩), .int .u32 x] w fun e w' => e = .returned (.int .u32 ((x + outD base x ms % 4294967296) % 4294967296)) ∧ w.grownBy w' none := by
  have hb : b < w.heap.size := (Array.getElem?_eq_some_iff.1 hblk).1
  have hgs : g < w.heap.size := (Array.getElem?_eq_some_iff.1 hrow).1
  have h0 : w.cell? ⟨b, 0, none⟩ = some (.bool true) := by simp [World.cell?, hblk]
  have h1 : w.cell? ⟨b, 1, none⟩ = some (.int .i64 base) := by simp [World.cell?, hblk]
  have h2 : w.cell? ⟨b, 2, none⟩ = some (.slice (some ⟨g, 0, none⟩) n cap) := by simp [World.cell?, hblk]
  have nb : b ≠ w.heap.size := by omega
  have hbase : outD base x (ms.take 0) = base := rfl
  go_enter Try.func11, Try.ntmps11
  go_wp2
  go_loopw [6, 28] (fun t i wr => ∃ k : Nat, k ≤ n ∧ i = .int .i64 k ∧ t = .int .i64 (outD base x (ms.take k)) ∧ w.grownBy wr none ∧ wr.heap[w.heap.size]? = some (.cells #[.int .u32 x] 27 (0, 0))) (fun _ i _ => n - (intOf i).toNat)
  case atStart => exact ⟨0, by omega, rfl, rfl, World.grownBy_alloc w _ none, heap_alloc_new w _⟩
  case round =>
    obtain ⟨k, hk, rfl, rfl, hgr, hbx⟩ := hrel
    have hrow' : wr.heap[g]? = some (.cells cur 49 (0, 0)) := (hgr.block g hgs (by simp)).trans hrow
    have nw : w.heap.size < wr.heap.size := (Array.getElem?_eq_some_iff.1 hbx).1
    have cx : wr.cell? ⟨w.heap.size, 0, none⟩ = some (.int .u32 x) := by simp [World.cell?, hbx]
    have nwx : w.heap.size ≠ wr.heap.size := by omega
    by_cases hkn : k < n
    · have kc0 : wr.cell? ⟨g, k * 3, none⟩ = some (.int .u32 (ms.getD k (0,0,0)).1) := by simp [World.cell?, hrow', (hc k hkn).1]
      have kc1 : wr.cell? ⟨g, k * 3 + 1, none⟩ = some (.int .u32 (ms.getD k (0,0,0)).2.1) := by simp [World.cell?, hrow', (hc k hkn).2.1]
      have kc2 : wr.cell? ⟨g, k * 3 + 2, none⟩ = some (.int .i64 (ms.getD k (0,0,0)).2.2) := by simp [World.cell?, hrow', (hc k hkn).2.2]
      have Hs : Hid (outD base x (ms.take (k + 1)) = if reached x (ms.getD k (0,0,0)).2.1 then wrap64 (outD base x (ms.take k) + (ms.getD k (0,0,0)).2.2) else outD base x (ms.take k)) := outD_succ base x ms k (by omega)
      generalize hm0 : (ms.getD k (0,0,0)).1 = m0 at kc0
      generalize hm1 : (ms.getD k (0,0,0)).2.1 = m1 at kc1 Hs
      generalize hm2 : (ms.getD k (0,0,0)).2.2 = m2 at kc2 Hs
      generalize hD : outD base x (ms.take k) = D at Hs
      have ac : ∀ c : Array Value, (wr.alloc (.cells c 49)).cell? ⟨w.heap.size, 0, none⟩ = some (.int .u32 x) := fun c => by rw [World.cell?_of_block (w := wr) (Below.heap_alloc wr _ _ nw)]; exact cx
      have Hbx : Hid ((wr.alloc (.cells #[.int .u32 m0, .int .u32 m1, .int .i64 m2] 49)).heap[w.heap.size]? = some (.cells #[.int .u32 x] 27 (0, 0))) := (Below.heap_alloc wr _ _ nw).trans hbx
      clear hc hbase
      cases hr : reached x m1 with
      | true =>
        go_wp2_with (go_at_call 19; refine (reached_c _ _ _ _ x _ (ac _)).mono ?_; rintro e w1 ⟨rfl, hg1⟩; have d2 : w1.cell? ⟨wr.heap.size, 2, none⟩ = some (.int .i64 m2) := hg1.cell (by simp) (by simp))
        go_roundw
        case rel =>
          refine ⟨k + 1, by omega, by go_num, ?_, gtrans hgr (gtrans (World.grownBy_alloc wr _ none) hg1), (hg1.block _ (by simp; omega) (by simp)).trans Hbx.out⟩
          rw [Hs.out, hr]; simp
        case measure => simp [intOf]; omega
      | false =>
        go_wp2_with (go_at_call 19; refine (reached_c _ _ _ _ x _ (ac _)).mono ?_; rintro e w1 ⟨rfl, hg1⟩)
        go_roundw
        case rel =>
          refine ⟨k + 1, by omega, by go_num, ?_, gtrans hgr (gtrans (World.grownBy_alloc wr _ none) hg1), (hg1.block _ (by simp; omega) (by simp)).trans Hbx.out⟩
          rw [Hs.out, hr]; simp
        case measure => simp [intOf]; omega
    · obtain rfl : k = n := by omega
      have e : ms.take k = ms := by rw [List.take_of_length_le (by omega)]
      rw [e]
      go_wp2
      go_ret
      exact ⟨rfl, hgr⟩

theorem out_nil_h (w : World) (b : Nat) (base : Int) (x : Int)
   (hblk : w.heap[b]? = some (.cells #[.bool true, .int .i64 base, .slice none 0 0] 47 (0, 0))) :
   Calls Try.prog 11 #[.pointer (some ⟨b, 0, none⟩), .int .u32 x] w fun e w' => e = .returned (.int .u32 ((x + base % 4294967296) % 4294967296)) ∧ w.grownBy w' none := by
  have hb : b < w.heap.size := (Array.getElem?_eq_some_iff.1 hblk).1
  have h0 : w.cell? ⟨b, 0, none⟩ = some (.bool true) := by simp [World.cell?, hblk]
  have h1 : w.cell? ⟨b, 1, none⟩ = some (.int .i64 base) := by simp [World.cell?, hblk]
  have h2 : w.cell? ⟨b, 2, none⟩ = some (.slice none 0 0) := by simp [World.cell?, hblk]
  have nb : b ≠ w.heap.size := by omega
  go_enter Try.func11, Try.ntmps11
  go_wp2
  go_loopw [6, 28] (fun t i wr => i = .int .i64 0 ∧ t = .int .i64 base ∧ wr = w.alloc (.cells #[.int .u32 x] 27)) (fun _ i _ => 0)
  case atStart => exact ⟨rfl, rfl, rfl⟩
  case round =>
    obtain ⟨rfl, rfl, rfl⟩ := hrel
    go_wp2
    go_ret
    exact ⟨rfl, World.grownBy_alloc w _ none⟩
end Go.Proofs.Ythonhnjdbnkfpaa
