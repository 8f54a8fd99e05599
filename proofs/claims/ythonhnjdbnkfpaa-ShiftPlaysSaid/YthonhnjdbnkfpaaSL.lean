/-
  The walk of ShiftSums.
  Conditions: those that each theorem names.
-/
import Derived.Test.YthonhnjdbnkfpaaSK
import Derived.Laws.BitsAllLaws
namespace Go.Proofs.Ythonhnjdbnkfpaa
open Go.ChangeShapes Go.WideShapes Go.ChangeAt Go.RowKit
set_option linter.unusedVariables false

theorem markgood_c (w : World) (B b : Nat) (base : Int) (ms : List M) (sl : Value) (f q d : Int) (h : SAt w B b base ms sl) (hB : B ≤ w.heap.size) (hl : ms.length ≤ 8) (hg : Good f q d) :
    Calls Try.prog 10 #[.pointer (some ⟨b, 0, none⟩), .int .u32 f, .int .u32 q, .int .i64 d] w fun e w' => e = .returned (.int .i64 0) ∧
      ∃ sl', SAt w' B b (markS base ms f q d).1 (markS base ms f q d).2 sl' ∧ Fr w w' b sl.ownBlock := by
  have := mark_c w B b base ms sl f q d h hB hl
  rw [show markE f q d = 0 by unfold markE; rw [if_pos hg]] at this
  exact this

theorem markbad_c (w : World) (B b : Nat) (base : Int) (ms : List M) (sl : Value) (f q d : Int) (h : SAt w B b base ms sl) (hg : ¬ Good f q d) :
    Calls Try.prog 10 #[.pointer (some ⟨b, 0, none⟩), .int .u32 f, .int .u32 q, .int .i64 d] w fun e w' => e = .returned (.int .i64 1) ∧ w' = w :=
  mark_bad_h w b base sl f q d h.at_ hg
theorem outs_c (w : World) (B b : Nat) (base : Int) (ms : List M) (sl : Value) (x s : Int) (h : SAt w B b base ms sl) (hl : ms.length ≤ 8) (hs : outD base x ms = s) :
    Calls Try.prog 11 #[.pointer (some ⟨b, 0, none⟩), .int .u32 x] w fun e w' => e = .returned (.int .u32 ((x + s % 4294967296) % 4294967296)) ∧ w.grownBy w' none := by
  rw [← hs]; exact out_c w B b base ms sl x h hl
theorem markslen_c (w : World) (B b : Nat) (base : Int) (ms : List M) (sl : Value) (h : SAt w B b base ms sl) (hB : B ≤ w.heap.size) (hl : ms.length ≤ 8) :
    Calls Try.prog 13 #[.pointer (some ⟨b, 0, none⟩)] w fun e w' => ∃ ao cap, e = .returned (.slice ao ms.length cap) ∧ w.grownBy w' none := by
  refine (marks_c w B b base ms sl h hB hl).mono ?_
  rintro e w' ⟨v, rfl, hg, hown⟩
  rcases hown.2 with ⟨rfl, h0⟩ | ⟨g, cap, cur, rfl, _⟩
  · exact ⟨none, 0, by rw [h0], hg⟩
  · exact ⟨_, cap, rfl, hg⟩

theorem SAt.owns {w : World} {B b : Nat} {base : Int} {ms : List M} {sl : Value} (h : SAt w B b base ms sl) : ∀ k, sl.ownBlock = some k → B ≤ k := fun k hk => (h.own.lt k hk).1

theorem and_511 {x : Int} (h0 : 0 ≤ x) (h1 : x < 4294967296) : bits .and .u32 x 511 = x % 512 := by
  rw [u32_and x 511 h0 h1 (by omega) (by omega)]
  have : (x.toNat &&& (511 : Int).toNat) = x.toNat % 512 := Nat.and_two_pow_sub_one_eq_mod x.toNat 9
  rw [this]
  omega
theorem and_1023 {x : Int} (h0 : 0 ≤ x) (h1 : x < 4294967296) : bits .and .u32 x 1023 = x % 1024 := by
  rw [u32_and x 1023 h0 h1 (by omega) (by omega)]
  have : (x.toNat &&& (1023 : Int).toNat) = x.toNat % 1024 := Nat.and_two_pow_sub_one_eq_mod x.toNat 10
  rw [this]
  omega

theorem sums_law (w : World) (S A : Int) (ao : Option Addr) (n cap : Nat) (SQ DL : Nat → Int) (w0 : (Lit.int .u32 S).wf = true) (w2 : (Lit.int .i64 A).wf = true) (hz : n = 0 ∨ ∃ lb lo, ao = some ⟨lb, lo, none⟩)
    (h63 : n ≤ 9223372036854775807)
    (h1 : ∀ lb lo, ao = some ⟨lb, lo, none⟩ → ∀ j, j < n → w.cell? ⟨lb, lo + j * 4 + 1, none⟩ = some (.int .u32 (SQ j)) ∧ 0 ≤ SQ j ∧ SQ j < 4294967296)
    (h2 : ∀ lb lo, ao = some ⟨lb, lo, none⟩ → ∀ j, j < n → w.cell? ⟨lb, lo + j * 4 + 2, none⟩ = some (.int .i64 (DL j)) ∧ -9223372036854775808 ≤ DL j ∧ DL j ≤ 9223372036854775807) :
    Calls Try.prog 6 #[.int .u32 S, .slice ao n cap, .int .i64 A] w fun e w' => e = .returned (.bool true) ∧ Below w.heap.size w w' := by
  have z0 := bounds_u32 w0
  obtain ⟨z01, z02⟩ := z0
  by_cases hn : 200 < n
  · go_enter Try.func6, Try.ntmps6
    go_wp2_with (first
      | (go_at_call 8; refine (awakeC _).mono ?_; rintro e v1 ⟨rfl, hb⟩))
    go_ret
    exact ⟨rfl, by assumption⟩
  · go_enter Try.func6, Try.ntmps6
    go_wp2_with (first
      | (go_at_call 8; refine (awakeC _).mono ?_; rintro e v1 ⟨rfl, hb⟩)
      | (go_at_call 9; refine (new_c _ w.heap.size).mono ?_; rintro e v2 ⟨rfl, hS, hgr⟩; have hbk := hb.size; have hb := grown_below hb hb.size hgr))
    go_loopw [8, 9, 10] (fun at_ sm i wr => ∃ (k : Nat) (base : Int) (ms : List M) (sl : Value) (a s : Int), k ≤ n ∧ i = .int .i64 k ∧ at_ = .int .u32 a ∧ sm = .int .i64 s ∧ Sums k base ms a s ∧ SAt wr w.heap.size v1.heap.size base ms sl ∧ Below w.heap.size w wr) (fun _ _ i _ => n - (intOf i).toNat)
    case atStart => exact ⟨0, 0, [], .slice none 0 0, S, 0, by omega, rfl, rfl, rfl, ⟨by simp, z01, by omega, by simp, by simp, rfl, by omega, by omega⟩, hS, hb⟩
    case round =>
      clear hS hb hgr
      obtain ⟨k, base, ms, sl, a, s, hk, rfl, rfl, rfl, hI, hS, hb⟩ := hrel
      have hsb := hI.bound (by omega)
      obtain ⟨sb1, sb2⟩ := hsb
      have a0 := hI.a0
      have a1 := hI.a1
      by_cases hkn : k < n
      · obtain ⟨lb, lo, rfl⟩ : ∃ lb lo, ao = some ⟨lb, lo, none⟩ := hz.resolve_left (by omega)
        obtain ⟨c1, q0, q1⟩ := h1 lb lo rfl k hkn
        obtain ⟨c2, d0, d1⟩ := h2 lb lo rfl k hkn
        have k1 : wr.cell? ⟨lb, lo + k * 4 + 1, none⟩ = some (.int .u32 (SQ k)) := (hb.cell (by exact World.block_lt_of_cell? w _ c1)).trans c1
        have k2 : wr.cell? ⟨lb, lo + k * 4 + 2, none⟩ = some (.int .i64 (DL k)) := (hb.cell (by exact World.block_lt_of_cell? w _ c2)).trans c2
        generalize SQ k = sq at k1 q0 q1
        generalize DL k = dl at k2 d0 d1
        have he : bits .and .u32 sq 511 = sq % 512 := and_511 q0 q1
        obtain ⟨e0, e1⟩ : 0 ≤ sq % 512 ∧ sq % 512 ≤ 511 := by omega
        generalize sq % 512 = e at he e0 e1
        have hE := markS_len base ms a ((a + 1 + e) % 4294967296) dl hI.len
        have HS : Hid (SAt wr w.heap.size v1.heap.size base ms sl) := hS
        have HI : Hid (Sums k base ms a s) := hI
        have HB : Hid (Below w.heap.size w wr) := hb
        have hl8 := hI.len
        clear hS hI hb h1 h2 c1 c2 hz
        by_cases g1 : Good a ((a + 1 + e) % 4294967296) dl
        · obtain ⟨g11, g12, _⟩ := id g1
          by_cases g2 : Good a ((a + 1 + e) % 4294967296) A
          · obtain ⟨g21, g22, _⟩ := id g2
            have G1 : Hid (Good a ((a + 1 + e) % 4294967296) dl) := g1
            have G2 : Hid (Good a ((a + 1 + e) % 4294967296) A) := g2
            clear g1 g2
            go_wp2_with (first
              | (go_at_call 10; refine (markgood_c _ w.heap.size v1.heap.size _ _ sl1 _ _ A hS1 hB1.size hE G2.out).mono ?_; rintro e' w2 ⟨rfl, sl2, hS2, hf2⟩; have hB2 := fr_below hB1 hB1.size hf2 hbk hS1.owns)
              | (go_at_call 10; refine (markgood_c _ w.heap.size v1.heap.size base ms sl _ _ dl HS.out HB.out.size hl8 G1.out).mono ?_; rintro e' w1 ⟨rfl, sl1, hS1, hf1⟩; have hB1 := fr_below HB.out HB.out.size hf1 hbk HS.out.owns))
            refine ⟨⟨k + 1, _, _, sl2, _, _, by omega, by go_num, rfl, rfl, HI.out.two (by omega) e0 e1 G1.out G2.out, hS2, hB2⟩, by simp [intOf]; omega⟩
          · have G1 : Hid (Good a ((a + 1 + e) % 4294967296) dl) := g1
            have G2 : Hid (¬ Good a ((a + 1 + e) % 4294967296) A) := g2
            clear g1 g2
            go_wp2_with (first
              | (go_at_call 10; refine (markbad_c _ w.heap.size v1.heap.size _ _ sl1 _ _ A hS1 G2.out).mono ?_; rintro e' w2 ⟨rfl, rfl⟩)
              | (go_at_call 10; refine (markgood_c _ w.heap.size v1.heap.size base ms sl _ _ dl HS.out HB.out.size hl8 G1.out).mono ?_; rintro e' w1 ⟨rfl, sl1, hS1, hf1⟩; have hB1 := fr_below HB.out HB.out.size hf1 hbk HS.out.owns))
            refine ⟨⟨k + 1, _, _, sl1, _, _, by omega, by go_num, rfl, rfl, HI.out.one (by omega) e0 e1 G1.out, hS1, hB1⟩, by simp [intOf]; omega⟩
        · have G1 : Hid (¬ Good a ((a + 1 + e) % 4294967296) dl) := g1
          clear g1
          go_wp2_with (go_at_call 10; refine (markbad_c _ w.heap.size v1.heap.size base ms sl _ _ dl HS.out G1.out).mono ?_; rintro e' w1 ⟨rfl, rfl⟩)
          refine ⟨⟨k + 1, _, _, sl, _, _, by omega, by go_num, rfl, rfl, HI.out.next (by omega) e0 e1, HS.out, HB.out⟩, by simp [intOf]; omega⟩
      · obtain rfl : k = n := by omega
        have HS : Hid (SAt wr w.heap.size v1.heap.size base ms sl) := hS
        have HB : Hid (Below w.heap.size w wr) := hb
        have HO : Hid (outD base ((a + 5) % 4294967296) ms = s) := hI.out (by omega)
        have hl8 := hI.len
        clear hS hI hb h1 h2 hz
        go_wp2_with (first
          | (go_at_call 11; refine (outs_c _ w.heap.size v1.heap.size base ms sl _ s HS.out hl8 HO.out).mono ?_; rintro e' w1 ⟨rfl, hg1⟩; have hS1 := HS.out.grown hg1; have hB1 := grown_below HB.out HB.out.size hg1)
          | (go_at_call 13; refine (markslen_c _ w.heap.size v1.heap.size base ms sl hS1 hB1.size hl8).mono ?_; rintro e' w2 ⟨ao', cap', rfl, hg2⟩; have hB2 := grown_below hB1 hB1.size hg2))
        go_ret
        exact ⟨by simp; omega, by assumption⟩
end Go.Proofs.Ythonhnjdbnkfpaa
