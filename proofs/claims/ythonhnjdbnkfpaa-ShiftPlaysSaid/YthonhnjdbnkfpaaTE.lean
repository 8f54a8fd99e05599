/-
  The walk of ShiftPlays.
  Conditions: those that each theorem names.
-/
import Derived.Test.YthonhnjdbnkfpaaTD
import Derived.Deep.RegionHeld3
namespace Go.Proofs.Ythonhnjdbnkfpaa
open Go.ChangeShapes Go.WideShapes Go.ChangeAt Go.RowKit
set_option linter.unusedVariables false

/-- Two loads by names of their own: which are carried out where they come up. -/
abbrev loadL : Op := Op.load 39 (Operand.tmp 98)
abbrev loadB : Op := Op.load 3 (Operand.tmp 108)

set_option maxHeartbeats 16000000 in
set_option maxRecDepth 100000 in
theorem plays_law (w : World) (ao : Option Addr) (n cap : Nat) (FR SQ DL AK : Nat → Int) (hz : n = 0 ∨ ∃ lb lo, ao = some ⟨lb, lo, none⟩)
    (h63 : n ≤ 9223372036854775807) (hak : ∀ j, j < n → 0 ≤ AK j ∧ AK j < 4294967296)
    (h0 : ∀ lb lo, ao = some ⟨lb, lo, none⟩ → ∀ j, j < n → w.cell? ⟨lb, lo + j * 4, none⟩ = some (.int .u32 (FR j)) ∧ w.cell? ⟨lb, lo + j * 4 + 1, none⟩ = some (.int .u32 (SQ j)) ∧ w.cell? ⟨lb, lo + j * 4 + 2, none⟩ = some (.int .i64 (DL j)) ∧ w.cell? ⟨lb, lo + j * 4 + 3, none⟩ = some (.int .u32 (AK j))) :
    Calls Try.prog 7 #[.slice ao n cap] w fun e w' => e = .returned (.bool true) ∧ Below w.heap.size w w' := by
  by_cases hn : 300 < n
  · go_enter Try.func7, Try.ntmps7
    go_wp2_with (first
      | (go_at_call 8; refine (awakeC _).mono ?_; rintro e v1 ⟨rfl, hb⟩))
    go_ret
    exact ⟨rfl, by assumption⟩
  · go_enter Try.func7, Try.ntmps7
    go_wp2_with (first
      | (go_at_call 8; refine (awakeC _).mono ?_; rintro e v1 ⟨rfl, hb⟩)
      | (go_at_call 9; refine (new_c _ w.heap.size).mono ?_; rintro e v2 ⟨rfl, hS, hgr⟩; have hbk := hb.size; have hsz2 := hgr.size; have hb := grown_below hb hb.size hgr))
    go_outline
    go_loopw [5] (fun i wr => ∃ (k : Nat) (base : Int) (ms : List M) (sl sl' : Value), k ≤ n ∧ i = .int .i64 k ∧ ms.length ≤ 8 ∧ Two w wr v1.heap.size v2.heap.size base ms base ms sl sl') (fun i _ => n - (intOf i).toNat)
    case atStart =>
      refine ⟨0, 0, [], .slice none 0 0, .slice none 0 0, by omega, rfl, by simp, ⟨hS.grown (World.grownBy_alloc v2 _ none), ⟨heap_alloc_new v2 _, World.ownsRow_nil _ _ _ _⟩, grown_below hb hb.size (World.grownBy_alloc v2 _ none), hbk, by omega⟩⟩
    case round =>
      clear hS hb hgr
      obtain ⟨k, base, ms, sl, sl', hk, rfl, hl8, hB⟩ := hrel
      by_cases hkn : k < n
      · obtain ⟨lb, lo, rfl⟩ : ∃ lb lo, ao = some ⟨lb, lo, none⟩ := hz.resolve_left (by omega)
        obtain ⟨c0, c1, c2, c3⟩ := h0 lb lo rfl k hkn
        have HC : ∀ w', Below w.heap.size w w' → w'.cell? ⟨lb, lo + k * 4, none⟩ = some (.int .u32 (FR k)) ∧ w'.cell? ⟨lb, lo + k * 4 + 1, none⟩ = some (.int .u32 (SQ k)) ∧ w'.cell? ⟨lb, lo + k * 4 + 2, none⟩ = some (.int .i64 (DL k)) ∧ w'.cell? ⟨lb, lo + k * 4 + 3, none⟩ = some (.int .u32 (AK k)) := fun w' hb =>
          ⟨(hb.cell (by exact World.block_lt_of_cell? w _ c0)).trans c0, (hb.cell (by exact World.block_lt_of_cell? w _ c1)).trans c1, (hb.cell (by exact World.block_lt_of_cell? w _ c2)).trans c2, (hb.cell (by exact World.block_lt_of_cell? w _ c3)).trans c3⟩
        have Hak : Hid (0 ≤ AK k ∧ AK k < 4294967296) := hak k hkn
        obtain ⟨k0, k1, k2, k3⟩ := HC wr.drew hB.drew.B
        generalize FR k = fr at *
        generalize SQ k = sq at *
        generalize DL k = dl at *
        generalize AK k = ak at *
        have HCC : Hid (∀ w', Below w.heap.size w w' → w'.cell? ⟨lb, lo + k * 4, none⟩ = some (.int .u32 fr) ∧ w'.cell? ⟨lb, lo + k * 4 + 1, none⟩ = some (.int .u32 sq) ∧ w'.cell? ⟨lb, lo + k * 4 + 2, none⟩ = some (.int .i64 dl) ∧ w'.cell? ⟨lb, lo + k * 4 + 3, none⟩ = some (.int .u32 ak)) := HC
        have HD : Hid (Two w wr.drew v1.heap.size v2.heap.size base ms base ms sl sl') := hB.drew
        have HL : Hid (ms.length ≤ 8 ∧ (markS base ms fr sq dl).2.length ≤ 8) := ⟨hl8, markS_len base ms fr sq dl hl8⟩
        clear hB HC h0 hz c0 c1 c2 c3 hak hl8
        go_wp2
        go_region_held3 (fun w' => w'.cell? ⟨lb, lo + k * 4, none⟩ = some (.int .u32 fr) ∧ w'.cell? ⟨lb, lo + k * 4 + 1, none⟩ = some (.int .u32 sq) ∧ w'.cell? ⟨lb, lo + k * 4 + 2, none⟩ = some (.int .i64 dl))
          (first | exact ⟨k0, k1, k2⟩ | exact ⟨by assumption, by assumption, by assumption⟩)
          (first | (go_at_call 10; refine (mark_two w _ _ _ base base ms ms sl sl' _ _ _ HD.out HL.out.1).mono ?_; rintro e w1 ⟨rfl, sl1, hM⟩; have HM : Hid (Two w w1 v1.heap.size v2.heap.size (markS base ms fr sq dl).1 (markS base ms fr sq dl).2 base ms sl1 sl') := hM; obtain ⟨m0, m1, m2, m3⟩ := HCC.out _ hM.B; clear hM))
        have HL1 : Hid ((markS base ms fr sq dl).2.length ≤ 8) := HL.out.2
        obtain ⟨base1, hb1⟩ : ∃ x, x = (markS base ms fr sq dl).1 := ⟨_, rfl⟩
        obtain ⟨ms1, hm1⟩ : ∃ x, x = (markS base ms fr sq dl).2 := ⟨_, rfl⟩
        rw [← hb1, ← hm1] at HM
        rw [← hm1] at HL1
        have Hbm : ∀ {x : World} {s s' : Value}, Two w x v1.heap.size v2.heap.size base1 ms1 (markS base ms fr sq dl).1 (markS base ms fr sq dl).2 s s' → Two w x v1.heap.size v2.heap.size base1 ms1 base1 ms1 s s' := by
          intro x s s' hx
          rw [← hb1, ← hm1] at hx
          exact hx
        have HbM : Hid (∀ (x : World) (s s' : Value), Two w x v1.heap.size v2.heap.size base1 ms1 (markS base ms fr sq dl).1 (markS base ms fr sq dl).2 s s' → Two w x v1.heap.size v2.heap.size base1 ms1 base1 ms1 s s') := fun x s s' hx => Hbm hx
        clear Hbm hb1 hm1
        go_wp2
        simp only [List.append_eq, List.cons_append, List.nil_append]
        rw [show Op.load 39 (Operand.tmp 98) = loadL from rfl, show Op.load 3 (Operand.tmp 108) = loadB from rfl]
        obtain ⟨q0, q1, q2, q3⟩ := HCC.out w1.drew HM.out.drew.B
        have HM1 : Hid (Two w w1.drew v1.heap.size v2.heap.size base1 ms1 base ms sl1 sl') := HM.out.drew
        go_region_held3 (fun w' => w'.cell? ⟨lb, lo + k * 4, none⟩ = some (.int .u32 fr) ∧ w'.cell? ⟨lb, lo + k * 4 + 1, none⟩ = some (.int .u32 sq) ∧ w'.cell? ⟨lb, lo + k * 4 + 2, none⟩ = some (.int .i64 dl) ∧ w'.cell? ⟨lb, lo + k * 4 + 3, none⟩ = some (.int .u32 ak))
          (first | exact ⟨q0, q1, q2, q3⟩ | exact ⟨by assumption, by assumption, by assumption, by assumption⟩)
          (first
            | (go_at_call 18; refine (base_two w _ _ _ base1 base1 ms1 ms1 sl1 sl2 HM7.out).mono ?_; rintro e w8 ⟨rfl, rfl⟩)
            | (go_at_call 17; refine (same_two w _ _ _ base1 base1 ms1 sl1 sl2 _ HM6.out HL1.out HV.out).mono ?_; rintro e w7 ⟨rfl, hM7⟩; have HM7 : Hid (Two w w7 v1.heap.size v2.heap.size base1 ms1 base1 ms1 sl1 sl2) := hM7; obtain ⟨m0, m1, m2, m3⟩ := HCC.out _ hM7.B; obtain ⟨p0, p1⟩ := hM7.cells; clear hM7)
            | (go_at_call 13; refine (marks_two w _ _ _ base1 base1 ms1 ms1 sl1 sl2 HM5.out HL1.out).mono ?_; rintro e w6 ⟨v, rfl, hM6, hV⟩; have HM6 : Hid (Two w w6 v1.heap.size v2.heap.size base1 ms1 base1 ms1 sl1 sl2) := hM6; have HV : Hid (w6.ownsRow w.heap.size 49 3 v ms1.length (flat ms1)) := hV; obtain ⟨m0, m1, m2, m3⟩ := HCC.out _ hM6.B; obtain ⟨p0, p1⟩ := hM6.cells; clear hM6 hV)
            | (go_at_call 16; refine (rback_two w _ _ _ base1 base1 ms1 ms1 sl1 sl2 ak HM4.out HL1.out Hak.out.1 Hak.out.2).mono ?_; rintro e w5 ⟨rfl, hM5⟩; have HM5 : Hid (Two w w5 v1.heap.size v2.heap.size base1 ms1 base1 ms1 sl1 sl2) := hM5; obtain ⟨m0, m1, m2, m3⟩ := HCC.out _ hM5.B; obtain ⟨p0, p1⟩ := hM5.cells; clear hM5)
            | (go_at_call 12; refine (back_two w _ _ _ base1 base1 ms1 ms1 sl1 sl2 ak HM3.out HL1.out).mono ?_; rintro e w4 ⟨rfl, hM4⟩; have HM4 : Hid (Two w w4 v1.heap.size v2.heap.size base1 ms1 base1 ms1 sl1 sl2) := hM4; obtain ⟨m0, m1, m2, m3⟩ := HCC.out _ hM4.B; clear hM4)
            | (go_at_call 15; refine (rout_two w _ _ _ base1 base1 ms1 ms1 sl1 sl2 ak HM3.out HL1.out).mono ?_; rintro e w9 ⟨rfl, rfl⟩)
            | (go_at_call 11; refine (out_two w _ _ _ base1 base1 ms1 ms1 sl1 sl2 ak HM2.out HL1.out).mono ?_; rintro e w3 ⟨rfl, hM3⟩; have HM3 : Hid (Two w w3 v1.heap.size v2.heap.size base1 ms1 base1 ms1 sl1 sl2) := hM3; obtain ⟨m0, m1, m2, m3⟩ := HCC.out _ hM3.B; clear hM3)
            | (go_at_call 14; refine (rmark_two w _ _ _ base1 base ms1 ms sl1 sl' fr sq dl HM1.out HL.out.1).mono ?_; rintro e w2 ⟨rfl, sl2, hM2⟩; have HM2 : Hid (Two w w2 v1.heap.size v2.heap.size base1 ms1 base1 ms1 sl1 sl2) := HbM.out _ _ _ hM2; obtain ⟨m0, m1, m2, m3⟩ := HCC.out _ HM2.out.B; clear hM2))
        all_goals go_wp2
        all_goals go_roundw
        all_goals first
          | exact ⟨k + 1, base1, ms1, sl1, sl2, by omega, by go_num, HL1.out, HM7.out⟩
          | (simp [intOf]; omega)
      · obtain rfl : k = n := by omega
        have hfin : Hid (Below w.heap.size w wr) := hB.B
        clear hB
        go_wp2
        go_ret
        exact ⟨rfl, hfin.out⟩
end Go.Proofs.Ythonhnjdbnkfpaa
