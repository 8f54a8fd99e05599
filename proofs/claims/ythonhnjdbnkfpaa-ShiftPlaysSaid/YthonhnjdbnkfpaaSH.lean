/-
  Mark, Out and Back, whatever the marks.
  Conditions: those that each theorem names.
-/
import Derived.Test.YthonhnjdbnkfpaaSE
import Derived.Test.YthonhnjdbnkfpaaSG
import Derived.Laws.AppendOwnNone
namespace Go.Proofs.Ythonhnjdbnkfpaa
open Go.ChangeShapes Go.WideShapes Go.ChangeAt Go.RowKit
set_option linter.unusedVariables false

/-- May a piece be marked? -/
def Good (f q d : Int) : Prop := -2048 ≤ d ∧ d ≤ 2048 ∧ 1 ≤ (q - f) % 4294967296 ∧ (q - f) % 4294967296 ≤ 65535 ∧ 1 ≤ (q - f) % 4294967296 + d
instance (f q d : Int) : Decidable (Good f q d) := by unfold Good; infer_instance

theorem mark_bad_h (w : World) (b : Nat) (base : Int) (sl : Value) (f q d : Int) (hblk : w.heap[b]? = some (.cells #[.bool true, .int .i64 base, sl] 47 (0, 0))) (hg : ¬ Good f q d) :
   Calls Try.prog 10 #[.pointer (some ⟨b, 0, none⟩), .int .u32 f, .int .u32 q, .int .i64 d] w fun e w' => e = .returned (.int .i64 1) ∧ w' = w := by
  have h0 : w.cell? ⟨b, 0, none⟩ = some (.bool true) := by simp [World.cell?, hblk]
  have hb : d < -2048 ∨ 2048 < d ∨ (q - f) % 4294967296 < 1 ∨ 65535 < (q - f) % 4294967296 ∨ (q - f) % 4294967296 + d < 1 := by unfold Good at hg; omega
  have Hb : Hid (d < -2048 ∨ 2048 < d ∨ (q - f) % 4294967296 < 1 ∨ 65535 < (q - f) % 4294967296 ∨ (q - f) % 4294967296 + d < 1) := hb
  by_cases c1 : d < -2048
  · clear hb Hb hg
    go_enter Try.func10, Try.ntmps10
    go_wp2
    all_goals first
      | (go_ret; exact ⟨rfl, rfl⟩)
      | (exfalso; omega)
  · by_cases c2 : 2048 < d
    · clear hb Hb hg
      go_enter Try.func10, Try.ntmps10
      go_wp2
      all_goals first
        | (go_ret; exact ⟨rfl, rfl⟩)
        | (exfalso; omega)
    · by_cases c3 : (q - f) % 4294967296 < 1
      · clear hb Hb hg
        go_enter Try.func10, Try.ntmps10
        go_wp2
        all_goals first
          | (go_ret; exact ⟨rfl, rfl⟩)
          | (exfalso; omega)
      · by_cases c4 : 65535 < (q - f) % 4294967296
        · clear hb Hb hg
          go_enter Try.func10, Try.ntmps10
          go_wp2
          all_goals first
            | (go_ret; exact ⟨rfl, rfl⟩)
            | (exfalso; omega)
        · have c5 : (q - f) % 4294967296 + d < 1 := by omega
          clear hb Hb hg
          go_enter Try.func10, Try.ntmps10
          go_wp2
          all_goals first
            | (go_ret; exact ⟨rfl, rfl⟩)
            | (exfalso; omega)

def idx (ms : List M) (q : Int) : Option Nat := ms.findIdx? (fun m => m.2.1 == q)
/-- What a mark does to the base and the marks. -/
def markS (base : Int) (ms : List M) (f q d : Int) : Int × List M :=
  if Good f q d then
    match idx ms q with
    | some j => (base, ms.set j (f, q, d))
    | none => if ms.length < 8 then (base, ms ++ [(f, q, d)]) else (wrap64 (base + (ms.getD 0 (0,0,0)).2.2), ms.tail ++ [(f, q, d)])
  else (base, ms)
def markE (f q d : Int) : Int := if Good f q d then 0 else 1

theorem idx_none {ms : List M} {q : Int} (h : idx ms q = none) : ∀ i, i < ms.length → (ms.getD i (0,0,0)).2.1 ≠ q := by
  intro i hi e
  unfold idx at h
  rw [List.findIdx?_eq_none_iff] at h
  have := h (ms.getD i (0,0,0)) (by rw [List.getD_eq_getElem?_getD, List.getElem?_eq_getElem hi]; simp)
  simp at this
  exact this (by simpa using e)
theorem idx_some {ms : List M} {q : Int} {j : Nat} (h : idx ms q = some j) : j < ms.length ∧ (ms.getD j (0,0,0)).2.1 = q ∧ ∀ i, i < j → (ms.getD i (0,0,0)).2.1 ≠ q := by
  unfold idx at h
  rw [List.findIdx?_eq_some_iff_getElem] at h
  obtain ⟨hj, h1, h2⟩ := h
  refine ⟨hj, ?_, fun i hi => ?_⟩
  · rw [List.getD_eq_getElem?_getD, List.getElem?_eq_getElem hj]; simpa using h1
  · rw [List.getD_eq_getElem?_getD, List.getElem?_eq_getElem (by omega)]; simpa using h2 i hi

theorem SAt.parts {w : World} {B b : Nat} {base : Int} {ms : List M} {sl : Value} (h : SAt w B b base ms sl) :
    (sl = .slice none 0 0 ∧ ms = []) ∨ ∃ g cap cur, sl = .slice (some ⟨g, 0, none⟩) ms.length cap ∧ B ≤ g ∧ w.heap[g]? = some (.cells cur 49 (0, 0)) ∧ ms.length ≤ cap ∧ cap ≤ maxLen ∧ cur.size = cap * 3 ∧ cur.toList.take (ms.length * 3) = flat ms := by
  rcases h.own.2 with ⟨h1, h2⟩ | h1
  · exact .inl ⟨h1, List.eq_nil_of_length_eq_zero h2⟩
  · exact .inr h1

theorem mark_c (w : World) (B b : Nat) (base : Int) (ms : List M) (sl : Value) (f q d : Int) (h : SAt w B b base ms sl) (hB : B ≤ w.heap.size) (hl : ms.length ≤ 8) :
    Calls Try.prog 10 #[.pointer (some ⟨b, 0, none⟩), .int .u32 f, .int .u32 q, .int .i64 d] w fun e w' => e = .returned (.int .i64 (markE f q d)) ∧
      ∃ sl', SAt w' B b (markS base ms f q d).1 (markS base ms f q d).2 sl' ∧ Fr w w' b sl.ownBlock := by
  by_cases hg : Good f q d
  · have hE : markE f q d = 0 := by unfold markE; rw [if_pos hg]
    rw [hE]
    rcases h.parts with ⟨rfl, rfl⟩ | ⟨g, cap, cur, rfl, hbg, hrow, hcap, hmax, hcs, htk⟩
    · have hS : markS base [] f q d = (base, [(f, q, d)]) := by unfold markS; rw [if_pos hg]; rfl
      rw [hS]
      exact mark_nil_h w B b base f q d hB h.at_ hg.1 hg.2.1 hg.2.2.1 hg.2.2.2.1 hg.2.2.2.2
    · have hc := fun j hj => row_cells (cur := cur) (ms := ms) rfl htk j hj
      cases hi : idx ms q with
      | some j =>
        obtain ⟨hj, hjq, hne⟩ := idx_some hi
        have hS : markS base ms f q d = (base, ms.set j (f, q, d)) := by unfold markS; rw [if_pos hg, hi]
        rw [hS]
        refine (mark_hit_h w b g ms.length cap cur base ms f q d rfl h.at_ hrow hl hc hg.1 hg.2.1 hg.2.2.1 hg.2.2.2.1 hg.2.2.2.2 j hj hjq hne).mono ?_
        rintro e w' ⟨rfl, hr, hgr⟩
        have hgb : b ≠ g := by rintro rfl; have := h.at_; rw [hrow] at this; simp at this
        refine ⟨rfl, .slice (some ⟨g, 0, none⟩) ms.length cap, ⟨(hgr.block b (Array.getElem?_eq_some_iff.1 h.at_).1 (by simpa using hgb)).trans h.at_, ⟨by rw [flat_length], .inr ⟨g, cap, _, by simp, hbg, hr, by simpa using hcap, hmax, by simp [hcs], ?_⟩⟩⟩, Fr.of_grown b hgr⟩
        have hsz : ms.length * 3 ≤ cur.toList.length := by simp [hcs]; omega
        have := flat_set (ms := ms) hj (f, q, d) (cur.toList.drop (ms.length * 3))
        rw [← htk, List.take_append_drop] at this
        simp only [Array.set!_eq_setIfInBounds, Array.toList_setIfInBounds]
        rw [this, List.length_set]
        rw [show ms.length * 3 = (flat (ms.set j (f, q, d))).length by rw [flat_length, List.length_set]]
        exact List.take_left
      | none =>
        have hne := idx_none hi
        by_cases h8 : ms.length < 8
        · have hS : markS base ms f q d = (base, ms ++ [(f, q, d)]) := by unfold markS; rw [if_pos hg, hi]; simp [h8]
          rw [hS]
          exact mark_new_h w B b g ms.length cap cur base ms f q d rfl hB h.at_ hrow h8 h.own hc hg.1 hg.2.1 hg.2.2.1 hg.2.2.2.1 hg.2.2.2.2 hne
        · have h8' : ms.length = 8 := by omega
          have hS : markS base ms f q d = (wrap64 (base + (ms.getD 0 (0,0,0)).2.2), ms.tail ++ [(f, q, d)]) := by unfold markS; rw [if_pos hg, hi]; simp [h8]
          rw [hS]
          have hown := h.own
          have hat := h.at_
          rw [h8'] at hown hat hc
          have := mark_full_h w B b g cap cur base ms f q d h8' _ rfl hB hat hrow hown hc hg.1 hg.2.1 hg.2.2.1 hg.2.2.2.1 hg.2.2.2.2 (fun i hi => hne i (by omega))
          exact this
  · have hE : markE f q d = 1 := by unfold markE; rw [if_neg hg]
    have hS : markS base ms f q d = (base, ms) := by unfold markS; rw [if_neg hg]
    rw [hE, hS]
    refine (mark_bad_h w b base sl f q d h.at_ hg).mono ?_
    rintro e w' ⟨rfl, rfl⟩
    exact ⟨rfl, sl, h, ⟨rfl, rfl, rfl, Nat.le_refl _, fun _ _ _ _ => rfl⟩⟩

theorem out_c (w : World) (B b : Nat) (base : Int) (ms : List M) (sl : Value) (x : Int) (h : SAt w B b base ms sl) (hl : ms.length ≤ 8) :
    Calls Try.prog 11 #[.pointer (some ⟨b, 0, none⟩), .int .u32 x] w fun e w' => e = .returned (.int .u32 ((x + outD base x ms % 4294967296) % 4294967296)) ∧ w.grownBy w' none := by
  rcases h.parts with ⟨rfl, rfl⟩ | ⟨g, cap, cur, rfl, hbg, hrow, hcap, hmax, hcs, htk⟩
  · exact out_nil_h w b base x h.at_
  · exact out_row_h w b g ms.length cap cur base ms x rfl h.at_ hrow hl (fun j hj => row_cells rfl htk j hj)
theorem back_c (w : World) (B b : Nat) (base : Int) (ms : List M) (sl : Value) (x : Int) (h : SAt w B b base ms sl) (hl : ms.length ≤ 8) :
    Calls Try.prog 12 #[.pointer (some ⟨b, 0, none⟩), .int .u32 x] w fun e w' => e = .returned (.int .u32 (backL x base ms)) ∧ w.grownBy w' none := by
  rcases h.parts with ⟨rfl, rfl⟩ | ⟨g, cap, cur, rfl, hbg, hrow, hcap, hmax, hcs, htk⟩
  · exact back_nil_h w b base x h.at_
  · exact back_row_h w b g ms.length cap cur base ms x rfl h.at_ hrow hl (fun j hj => row_cells rfl htk j hj)
theorem SAt.grown {w w' : World} {B b : Nat} {base : Int} {ms : List M} {sl : Value} (h : SAt w B b base ms sl) (hg : w.grownBy w' none) : SAt w' B b base ms sl :=
  ⟨(hg.block b (Array.getElem?_eq_some_iff.1 h.at_).1 (by simp)).trans h.at_, h.own.kept hg (by cases sl.ownBlock <;> simp)⟩
end Go.Proofs.Ythonhnjdbnkfpaa
