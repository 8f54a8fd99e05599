/-
  The document's own Out and Back.
  Conditions: those that each theorem names.
-/
import Derived.Test.YthonhnjdbnkfpaaSI
namespace Go.Proofs.Ythonhnjdbnkfpaa
open Go.ChangeShapes Go.WideShapes Go.ChangeAt Go.RowKit
set_option linter.unusedVariables false

/-- The document's own shift in memory. -/
structure RAt (w : World) (B b : Nat) (base : Int) (ms : List M) (sl : Value) : Prop where
  at_ : w.heap[b]? = some (.cells #[.int .i64 base, sl] 41 (0, 0))
  own : w.ownsRow B 52 3 sl ms.length (flat ms)

theorem RAt.grown {w w' : World} {B b : Nat} {base : Int} {ms : List M} {sl : Value} (h : RAt w B b base ms sl) (hg : w.grownBy w' none) : RAt w' B b base ms sl :=
  ⟨(hg.block b (Array.getElem?_eq_some_iff.1 h.at_).1 (by simp)).trans h.at_, h.own.kept hg (by cases sl.ownBlock <;> simp)⟩

theorem RAt.parts {w : World} {B b : Nat} {base : Int} {ms : List M} {sl : Value} (h : RAt w B b base ms sl) :
    (sl = .slice none 0 0 ∧ ms = []) ∨ ∃ g cap cur, sl = .slice (some ⟨g, 0, none⟩) ms.length cap ∧ B ≤ g ∧ w.heap[g]? = some (.cells cur 52 (0, 0)) ∧ ms.length ≤ cap ∧ cap ≤ maxLen ∧ cur.size = cap * 3 ∧ cur.toList.take (ms.length * 3) = flat ms := by
  rcases h.own.2 with ⟨h1, h2⟩ | h1
  · exact .inl ⟨h1, List.eq_nil_of_length_eq_zero h2⟩
  · exact .inr h1

theorem upTo_c (w : World) (a b : Int) : Calls Try.prog 21 #[.int .u32 a, .int .u32 b] w fun e w' => e = .returned (.bool (decide (0 ≤ wrap32 ((b - a) % 4294967296)))) ∧ w' = w := by
  go_enter Try.func21, Try.ntmps21
  go_wp2
  go_ret
  exact ⟨rfl, rfl⟩

theorem upTo_t (w : World) (a b : Int) (r : Bool) (h : decide (0 ≤ wrap32 ((b - a) % 4294967296)) = r) : Calls Try.prog 21 #[.int .u32 a, .int .u32 b] w fun e w' => e = .returned (.bool r) ∧ w' = w := by
  rw [← h]; exact upTo_c w a b

theorem outD_succ' (base x : Int) (ms : List M) (k : Nat) (h : k < ms.length) : outD base x (ms.take (k + 1)) % 4294967296 =
    if reached x (ms.getD k (0,0,0)).2.1 then (outD base x (ms.take k) % 4294967296 + (ms.getD k (0,0,0)).2.2 % 4294967296) % 4294967296 else outD base x (ms.take k) % 4294967296 := by
  rw [outD_succ base x ms k h]
  split
  · unfold wrap64; omega
  · rfl

theorem rout_row_h (w : World) (b g n cap : Nat) (cur : Array Value) (base : Int) (ms : List M) (x : Int) (hn : ms.length = n)
   (hblk : w.heap[b]? = some (.cells #[.int .i64 base, .slice (some ⟨g, 0, none⟩) n cap] 41 (0, 0)))
   (hrow : w.heap[g]? = some (.cells cur 52 (0, 0))) (hn8 : n ≤ 8)
   (hc : ∀ j, j < n → cur[j * 3]? = some (.int .u32 (ms.getD j (0,0,0)).1) ∧ cur[j * 3 + 1]? = some (.int .u32 (ms.getD j (0,0,0)).2.1) ∧ cur[j * 3 + 2]? = some (.int .i64 (ms.getD j (0,0,0)).2.2)) :
   Calls Try.prog 15 #[.pointer (some ⟨b, 0, none⟩), .int .u32 x] w fun e w' => e = .returned (.int .u32 ((x + outD base x ms % 4294967296) % 4294967296)) ∧ w' = w := by
  have h1 : w.cell? ⟨b, 0, none⟩ = some (.int .i64 base) := by simp [World.cell?, hblk]
  have h2 : w.cell? ⟨b, 1, none⟩ = some (.slice (some ⟨g, 0, none⟩) n cap) := by simp [World.cell?, hblk]
  have hbase : outD base x (ms.take 0) = base := rfl
  go_enter Try.func15, Try.ntmps15
  go_wp2
  go_loopw [5, 6] (fun t i wr => ∃ k : Nat, k ≤ n ∧ i = .int .i64 k ∧ t = .int .u32 (outD base x (ms.take k) % 4294967296) ∧ wr = w) (fun _ i _ => n - (intOf i).toNat)
  case atStart => exact ⟨0, by omega, rfl, by rw [hbase], rfl⟩
  case round =>
    obtain ⟨k, hk, rfl, rfl, rfl⟩ := hrel
    by_cases hkn : k < n
    · have kc1 : wr.cell? ⟨g, k * 3 + 1, none⟩ = some (.int .u32 (ms.getD k (0,0,0)).2.1) := by simp [World.cell?, hrow, (hc k hkn).2.1]
      have kc2 : wr.cell? ⟨g, k * 3 + 2, none⟩ = some (.int .i64 (ms.getD k (0,0,0)).2.2) := by simp [World.cell?, hrow, (hc k hkn).2.2]
      have Hs : Hid (outD base x (ms.take (k + 1)) % 4294967296 = if reached x (ms.getD k (0,0,0)).2.1 then (outD base x (ms.take k) % 4294967296 + (ms.getD k (0,0,0)).2.2 % 4294967296) % 4294967296 else outD base x (ms.take k) % 4294967296) := outD_succ' base x ms k (by omega)
      generalize hm1 : (ms.getD k (0,0,0)).2.1 = m1 at kc1 Hs
      generalize hm2 : (ms.getD k (0,0,0)).2.2 = m2 at kc2 Hs
      generalize hD : outD base x (ms.take k) % 4294967296 = D at Hs
      clear hc hbase
      have hrd : decide (0 ≤ wrap32 ((x - m1) % 4294967296)) = reached x m1 := rfl
      cases hr : reached x m1 with
      | true =>
        go_wp2_with (go_at_call 21; refine (upTo_c _ _ _).mono ?_; rintro e w1 ⟨rfl, rfl⟩; rw [hrd, hr])
        go_roundw
        case rel =>
          refine ⟨k + 1, by omega, by go_num, ?_, by trivial⟩
          rw [Hs.out, hr]; simp
        case measure => simp [intOf]; omega
      | false =>
        go_wp2_with (go_at_call 21; refine (upTo_c _ _ _).mono ?_; rintro e w1 ⟨rfl, rfl⟩; rw [hrd, hr])
        go_roundw
        case rel =>
          refine ⟨k + 1, by omega, by go_num, ?_, by trivial⟩
          rw [Hs.out, hr]; simp
        case measure => simp [intOf]; omega
    · obtain rfl : k = n := by omega
      have e : ms.take k = ms := by rw [List.take_of_length_le (by omega)]
      rw [e]
      go_wp2
      go_ret
      exact ⟨rfl, rfl⟩

theorem rout_nil_h (w : World) (b : Nat) (base : Int) (x : Int)
   (hblk : w.heap[b]? = some (.cells #[.int .i64 base, .slice none 0 0] 41 (0, 0))) :
   Calls Try.prog 15 #[.pointer (some ⟨b, 0, none⟩), .int .u32 x] w fun e w' => e = .returned (.int .u32 ((x + base % 4294967296) % 4294967296)) ∧ w' = w := by
  have h1 : w.cell? ⟨b, 0, none⟩ = some (.int .i64 base) := by simp [World.cell?, hblk]
  have h2 : w.cell? ⟨b, 1, none⟩ = some (.slice none 0 0) := by simp [World.cell?, hblk]
  go_enter Try.func15, Try.ntmps15
  go_wp2
  go_loopw [5, 6] (fun t i wr => i = .int .i64 0 ∧ t = .int .u32 (base % 4294967296) ∧ wr = w) (fun _ i _ => 0)
  case atStart => exact ⟨rfl, rfl, rfl⟩
  case round =>
    obtain ⟨rfl, rfl, rfl⟩ := hrel
    go_wp2
    go_ret
    exact ⟨rfl, rfl⟩

theorem rout_c (w : World) (B b : Nat) (base : Int) (ms : List M) (sl : Value) (x : Int) (h : RAt w B b base ms sl) (hl : ms.length ≤ 8) :
    Calls Try.prog 15 #[.pointer (some ⟨b, 0, none⟩), .int .u32 x] w fun e w' => e = .returned (.int .u32 ((x + outD base x ms % 4294967296) % 4294967296)) ∧ w' = w := by
  rcases h.parts with ⟨rfl, rfl⟩ | ⟨g, cap, cur, rfl, hbg, hrow, hcap, hmax, hcs, htk⟩
  · exact rout_nil_h w b base x h.at_
  · exact rout_row_h w b g ms.length cap cur base ms x rfl h.at_ hrow hl (fun j hj => row_cells rfl htk j hj)

theorem rback_row_h (w : World) (b g n cap : Nat) (cur : Array Value) (base : Int) (ms : List M) (x : Int) (hn : ms.length = n)
   (hblk : w.heap[b]? = some (.cells #[.int .i64 base, .slice (some ⟨g, 0, none⟩) n cap] 41 (0, 0)))
   (hrow : w.heap[g]? = some (.cells cur 52 (0, 0))) (hn8 : n ≤ 8) (hx0 : 0 ≤ x) (hx1 : x < 4294967296)
   (hc : ∀ j, j < n → cur[j * 3]? = some (.int .u32 (ms.getD j (0,0,0)).1) ∧ cur[j * 3 + 1]? = some (.int .u32 (ms.getD j (0,0,0)).2.1) ∧ cur[j * 3 + 2]? = some (.int .i64 (ms.getD j (0,0,0)).2.2)) :
   Calls Try.prog 16 #[.pointer (some ⟨b, 0, none⟩), .int .u32 x] w fun e w' => e = .returned (.int .u32 (backL x base ms)) ∧ w.grownBy w' none := by
  have hb : b < w.heap.size := (Array.getElem?_eq_some_iff.1 hblk).1
  have hgs : g < w.heap.size := (Array.getElem?_eq_some_iff.1 hrow).1
  have h1 : w.cell? ⟨b, 0, none⟩ = some (.int .i64 base) := by simp [World.cell?, hblk]
  have h2 : w.cell? ⟨b, 1, none⟩ = some (.slice (some ⟨g, 0, none⟩) n cap) := by simp [World.cell?, hblk]
  go_enter Try.func16, Try.ntmps16
  go_wp2
  go_loopw [5, 6] (fun t i wr => ∃ (k : Nat) (D : Int), k ≤ n ∧ i = .int .i64 k ∧ t = .int .u32 (D % 4294967296) ∧ backL x D (ms.drop k) = backL x base ms ∧ w.grownBy wr none) (fun _ i _ => n - (intOf i).toNat)
  case atStart => exact ⟨0, base, by omega, rfl, rfl, rfl, ⟨rfl, rfl, rfl, Nat.le_refl _, fun _ _ _ => rfl⟩⟩
  case round =>
    obtain ⟨k, D, hk, rfl, rfl, hbl, hgr⟩ := hrel
    have hblk' : wr.heap[b]? = some (.cells #[.int .i64 base, .slice (some ⟨g, 0, none⟩) n cap] 41 (0, 0)) := (hgr.block b hb (by simp)).trans hblk
    have hrow' : wr.heap[g]? = some (.cells cur 52 (0, 0)) := (hgr.block g hgs (by simp)).trans hrow
    have kb2 : wr.cell? ⟨b, 1, none⟩ = some (.slice (some ⟨g, 0, none⟩) n cap) := by simp [World.cell?, hblk']
    by_cases hkn : k < n
    · have kc0 : wr.cell? ⟨g, k * 3, none⟩ = some (.int .u32 (ms.getD k (0,0,0)).1) := by simp [World.cell?, hrow', (hc k hkn).1]
      have kc1 : wr.cell? ⟨g, k * 3 + 1, none⟩ = some (.int .u32 (ms.getD k (0,0,0)).2.1) := by simp [World.cell?, hrow', (hc k hkn).2.1]
      have kc2 : wr.cell? ⟨g, k * 3 + 2, none⟩ = some (.int .i64 (ms.getD k (0,0,0)).2.2) := by simp [World.cell?, hrow', (hc k hkn).2.2]
      rw [drop_at ms k (by omega)] at hbl
      rcases hmm : ms.getD k (0,0,0) with ⟨m0, m1, m2⟩
      rw [hmm] at kc0 kc1 kc2 hbl
      have Hbl : Hid (backL x base ms = backL x D ((m0, m1, m2) :: ms.drop (k + 1))) := hbl.symm
      clear hc hbl hmm
      have hgr' : Hid (w.grownBy (wr.alloc (.cells #[.int .u32 m0, .int .u32 m1, .int .i64 m2] 52)) none) := gtrans hgr (World.grownBy_alloc wr _ none)
      have He : Hid (backL x D ((m0, m1, m2) :: ms.drop (k + 1)) = if 0 ≤ gapOf x ((m1 + wrap64 (D + m2)) % 4294967296) then backL x (wrap64 (D + m2)) (ms.drop (k + 1)) else if 0 < gapOf x ((m0 + D) % 4294967296) then m0 else (x - D % 4294967296) % 4294967296) := rfl
      have Hgt : Hid (0 < gapOf x ((m0 + D) % 4294967296) ↔ 0 ≤ gapOf x ((m0 + D) % 4294967296) ∧ x ≠ (m0 + D) % 4294967296) := by
        unfold Hid gapOf wrap32; omega
      have Hw : Hid (wrap64 (D + m2) % 4294967296 = (D + m2) % 4294967296) := by unfold Hid wrap64; omega
      have F1 : ∀ r, decide (0 ≤ gapOf x ((m1 + wrap64 (D + m2)) % 4294967296)) = r → ∀ a, a % 4294967296 = (m1 + D + m2) % 4294967296 → decide (0 ≤ wrap32 ((x - a) % 4294967296)) = r := by
        intro r hr a ha
        rw [← hr]
        have h1 := Hw.out
        have : (x - a) % 4294967296 = (x - (m1 + wrap64 (D + m2)) % 4294967296) % 4294967296 := by omega
        unfold gapOf
        rw [this]
      have F2 : ∀ r, decide (0 ≤ gapOf x ((m0 + D) % 4294967296)) = r → ∀ a, a % 4294967296 = (m0 + D) % 4294967296 → decide (0 ≤ wrap32 ((x - a) % 4294967296)) = r := by
        intro r hr a ha
        rw [← hr]
        have : (x - a) % 4294967296 = (x - (m0 + D) % 4294967296) % 4294967296 := by omega
        unfold gapOf
        rw [this]
      by_cases q1 : 0 ≤ gapOf x ((m1 + wrap64 (D + m2)) % 4294967296)
      · have G1 : Hid (∀ a, a % 4294967296 = (m1 + D + m2) % 4294967296 → decide (0 ≤ wrap32 ((x - a) % 4294967296)) = true) := F1 true (decide_eq_true q1)
        have Hq : Hid (0 ≤ gapOf x ((m1 + wrap64 (D + m2)) % 4294967296)) := q1
        clear F1 F2 q1
        go_wp2_with (go_at_call 21; refine (upTo_t _ _ _ true (G1.out _ (by omega))).mono ?_; rintro e w1 ⟨rfl, rfl⟩)
        go_roundw
        case rel =>
          refine ⟨k + 1, wrap64 (D + m2), by omega, by go_num, by have := Hw.out; congr 1; omega, ?_, hgr'.out⟩
          rw [Hbl.out, He.out, if_pos Hq.out]
        case measure => simp [intOf]; omega
      · have G1 : Hid (∀ a, a % 4294967296 = (m1 + D + m2) % 4294967296 → decide (0 ≤ wrap32 ((x - a) % 4294967296)) = false) := F1 false (decide_eq_false q1)
        by_cases q3 : 0 ≤ gapOf x ((m0 + D) % 4294967296)
        · have G2 : Hid (∀ a, a % 4294967296 = (m0 + D) % 4294967296 → decide (0 ≤ wrap32 ((x - a) % 4294967296)) = true) := F2 true (decide_eq_true q3)
          by_cases q4 : x = (m0 + D) % 4294967296
          · have Hend : Hid (backL x base ms = (x - D % 4294967296) % 4294967296) := by
              unfold Hid
              rw [Hbl.out, He.out, if_neg q1, if_neg (fun h => (Hgt.out.1 h).2 q4)]
            have q5 : (x == (m0 + D) % 4294967296) = true := by simpa using q4
            have q6 : (x != (m0 + D) % 4294967296) = false := by simpa using q4
            clear F1 F2 q1 q3
            have Hq : Hid (x = (m0 + D) % 4294967296) := q4
            clear q4
            go_wp2_with (first | (go_at_call 21; refine (upTo_t _ _ _ true (G2.out _ (by omega))).mono ?_; rintro e w1 ⟨rfl, rfl⟩) | (go_at_call 21; refine (upTo_t _ _ _ false (G1.out _ (by omega))).mono ?_; rintro e w1 ⟨rfl, rfl⟩))
            all_goals go_ret
            all_goals refine ⟨?_, hgr'.out⟩
            all_goals rw [Hend.out]
            all_goals rfl
          · have Hend : Hid (backL x base ms = m0) := by
              unfold Hid
              rw [Hbl.out, He.out, if_neg q1, if_pos (Hgt.out.2 ⟨q3, q4⟩)]
            have q5 : (x == (m0 + D) % 4294967296) = false := by simpa using q4
            have q6 : (x != (m0 + D) % 4294967296) = true := by simpa using q4
            clear F1 F2 q1 q3 q4
            go_wp2_with (first | (go_at_call 21; refine (upTo_t _ _ _ true (G2.out _ (by omega))).mono ?_; rintro e w1 ⟨rfl, rfl⟩) | (go_at_call 21; refine (upTo_t _ _ _ false (G1.out _ (by omega))).mono ?_; rintro e w1 ⟨rfl, rfl⟩))
            all_goals go_ret
            all_goals refine ⟨?_, hgr'.out⟩
            all_goals rw [Hend.out]
            all_goals rfl
        · have G2 : Hid (∀ a, a % 4294967296 = (m0 + D) % 4294967296 → decide (0 ≤ wrap32 ((x - a) % 4294967296)) = false) := F2 false (decide_eq_false q3)
          have Hend : Hid (backL x base ms = (x - D % 4294967296) % 4294967296) := by
            unfold Hid
            rw [Hbl.out, He.out, if_neg q1, if_neg (fun h => q3 (Hgt.out.1 h).1)]
          clear F1 F2 q1 q3
          go_wp2_with (first | (go_at_call 21; refine (upTo_t _ _ _ false (G2.out _ (by omega))).mono ?_; rintro e w1 ⟨rfl, rfl⟩) | (go_at_call 21; refine (upTo_t _ _ _ false (G1.out _ (by omega))).mono ?_; rintro e w1 ⟨rfl, rfl⟩))
          all_goals go_ret
          all_goals refine ⟨?_, hgr'.out⟩
          all_goals rw [Hend.out]
          all_goals rfl
    · obtain rfl : k = n := by omega
      have e : ms.drop k = [] := List.drop_of_length_le (by omega)
      rw [e] at hbl
      have Hb : Hid (backL x base ms = (x - D % 4294967296) % 4294967296) := hbl.symm
      clear hbl
      go_wp2
      go_ret
      exact ⟨by rw [Hb.out]; rfl, hgr⟩

theorem rback_nil_h (w : World) (b : Nat) (base : Int) (x : Int)
   (hblk : w.heap[b]? = some (.cells #[.int .i64 base, .slice none 0 0] 41 (0, 0))) :
   Calls Try.prog 16 #[.pointer (some ⟨b, 0, none⟩), .int .u32 x] w fun e w' => e = .returned (.int .u32 (backL x base [])) ∧ w' = w := by
  have h1 : w.cell? ⟨b, 0, none⟩ = some (.int .i64 base) := by simp [World.cell?, hblk]
  have h2 : w.cell? ⟨b, 1, none⟩ = some (.slice none 0 0) := by simp [World.cell?, hblk]
  go_enter Try.func16, Try.ntmps16
  go_wp2
  go_loopw [5, 6] (fun t i wr => i = .int .i64 0 ∧ t = .int .u32 (base % 4294967296) ∧ wr = w) (fun _ i _ => 0)
  case atStart => exact ⟨rfl, rfl, rfl⟩
  case round =>
    obtain ⟨rfl, rfl, rfl⟩ := hrel
    go_wp2
    go_ret
    exact ⟨rfl, rfl⟩

theorem rback_c (w : World) (B b : Nat) (base : Int) (ms : List M) (sl : Value) (x : Int) (h : RAt w B b base ms sl) (hl : ms.length ≤ 8) (hx0 : 0 ≤ x) (hx1 : x < 4294967296) :
    Calls Try.prog 16 #[.pointer (some ⟨b, 0, none⟩), .int .u32 x] w fun e w' => e = .returned (.int .u32 (backL x base ms)) ∧ w.grownBy w' none := by
  rcases h.parts with ⟨rfl, rfl⟩ | ⟨g, cap, cur, rfl, hbg, hrow, hcap, hmax, hcs, htk⟩
  · refine (rback_nil_h w b base x h.at_).mono ?_
    rintro e w' ⟨rfl, rfl⟩
    exact ⟨rfl, ⟨rfl, rfl, rfl, Nat.le_refl _, fun _ _ _ => rfl⟩⟩
  · exact rback_row_h w b g ms.length cap cur base ms x rfl h.at_ hrow hl hx0 hx1 (fun j hj => row_cells rfl htk j hj)
end Go.Proofs.Ythonhnjdbnkfpaa
