/-
  Both shifts side by side: what each call leaves of them.
  Conditions: those that each theorem names.
-/
import Derived.Test.YthonhnjdbnkfpaaTC
import Derived.Test.YthonhnjdbnkfpaaSL
namespace Go.Proofs.Ythonhnjdbnkfpaa
open Go.ChangeShapes Go.WideShapes Go.ChangeAt Go.RowKit
set_option linter.unusedVariables false

/-- Both shifts, and that all older memory is as it was. -/
structure Two (w wr : World) (b b' : Nat) (base : Int) (ms : List M) (base' : Int) (ms' : List M) (sl sl' : Value) : Prop where
  s : SAt wr w.heap.size b base ms sl
  r : RAt wr w.heap.size b' base' ms' sl'
  B : Below w.heap.size w wr
  b : w.heap.size ≤ b
  b' : w.heap.size ≤ b'

theorem Two.grown {w w1 w2 : World} {b b' : Nat} {base base' : Int} {ms ms' : List M} {sl sl' : Value} (h : Two w w1 b b' base ms base' ms' sl sl') (hg : w1.grownBy w2 none) : Two w w2 b b' base ms base' ms' sl sl' :=
  ⟨h.s.grown hg, h.r.grown hg, grown_below h.B h.B.size hg, h.b, h.b'⟩
theorem Two.drew {w wr : World} {b b' : Nat} {base base' : Int} {ms ms' : List M} {sl sl' : Value} (h : Two w wr b b' base ms base' ms' sl sl') : Two w wr.drew b b' base ms base' ms' sl sl' :=
  h.grown ⟨rfl, rfl, rfl, Nat.le_refl _, fun _ _ _ => rfl⟩

theorem SAt.own_at {w : World} {B b : Nat} {base : Int} {ms : List M} {sl : Value} (h : SAt w B b base ms sl) (k : Nat) (hk : sl.ownBlock = some k) : B ≤ k ∧ ∃ cur, w.heap[k]? = some (.cells cur 49 (0, 0)) := by
  rcases h.parts with ⟨rfl, rfl⟩ | ⟨g, cap, cur, rfl, hbg, hrow, hcap, hmax, hcs, htk⟩
  · simp [Value.ownBlock] at hk
  · simp [Value.ownBlock] at hk
    subst hk
    exact ⟨hbg, cur, hrow⟩
theorem RAt.own_at {w : World} {B b : Nat} {base : Int} {ms : List M} {sl : Value} (h : RAt w B b base ms sl) (k : Nat) (hk : sl.ownBlock = some k) : B ≤ k ∧ ∃ cur, w.heap[k]? = some (.cells cur 52 (0, 0)) := by
  rcases h.parts with ⟨rfl, rfl⟩ | ⟨g, cap, cur, rfl, hbg, hrow, hcap, hmax, hcs, htk⟩
  · simp [Value.ownBlock] at hk
  · simp [Value.ownBlock] at hk
    subst hk
    exact ⟨hbg, cur, hrow⟩

/-- A row's own block, kept. -/
theorem own_kept {w w' : World} {B : Nat} {e : TypeId} {sl : Value} {n : Nat} {xs : List Value} (h : w.ownsRow B e 3 sl n xs) (hk : ∀ k, sl.ownBlock = some k → w'.heap[k]? = w.heap[k]?) : w'.ownsRow B e 3 sl n xs := by
  refine ⟨h.1, ?_⟩
  rcases h.2 with h2 | ⟨g, cap, cur, rfl, h1, h2, h3⟩
  · exact .inl h2
  · exact .inr ⟨g, cap, cur, rfl, h1, (hk g (by simp [Value.ownBlock])).trans h2, h3⟩

theorem mark_two (w wr : World) (b b' : Nat) (base base' : Int) (ms ms' : List M) (sl sl' : Value) (f q d : Int) (h : Two w wr b b' base ms base' ms' sl sl') (hl : ms.length ≤ 8) :
    Calls Try.prog 10 #[.pointer (some ⟨b, 0, none⟩), .int .u32 f, .int .u32 q, .int .i64 d] wr fun e w' => e = .returned (.int .i64 (markE f q d)) ∧
      ∃ sl1, Two w w' b b' (markS base ms f q d).1 (markS base ms f q d).2 base' ms' sl1 sl' := by
  refine (mark_c wr w.heap.size b base ms sl f q d h.s h.B.size hl).mono ?_
  rintro e w' ⟨rfl, sl1, hs, hf⟩
  have hrb := h.r.at_
  have hsb := h.s.at_
  have hlt : ∀ (k : Nat) (o : Obj), wr.heap[k]? = some o → k < wr.heap.size := fun k o hk => (Array.getElem?_eq_some_iff.1 hk).1
  have keep : ∀ (k : Nat) (c : Array Value) (t : TypeId), wr.heap[k]? = some (.cells c t (0, 0)) → t ≠ 47 → t ≠ 49 → w'.heap[k]? = wr.heap[k]? := by
    intro k c t hk h1 h2
    refine hf.block k (hlt _ _ hk) (by rintro rfl; rw [hsb] at hk; simp at hk; exact h1 hk.2.symm) (fun e => ?_)
    obtain ⟨_, cur, hc⟩ := h.s.own_at k e.symm
    rw [hc] at hk; simp at hk; exact h2 hk.2.symm
  refine ⟨rfl, sl1, hs, ⟨(keep _ _ _ hrb (by decide) (by decide)).trans hrb, own_kept h.r.own fun k hk => ?_⟩, ?_, h.b, h.b'⟩
  · obtain ⟨_, cur, hc⟩ := h.r.own_at k hk
    exact keep _ _ _ hc (by decide) (by decide)
  · exact fr_below h.B h.B.size hf h.b (fun k hk => (h.s.own_at k hk).1)

theorem rmark_two (w wr : World) (b b' : Nat) (base base' : Int) (ms ms' : List M) (sl sl' : Value) (f q d : Int) (h : Two w wr b b' base ms base' ms' sl sl') (hl : ms'.length ≤ 8) :
    Calls Try.prog 14 #[.pointer (some ⟨b', 0, none⟩), .int .u32 f, .int .u32 q, .int .i64 d] wr fun e w' => e = .returned (.int .i64 (markE f q d)) ∧
      ∃ sl1, Two w w' b b' base ms (markS base' ms' f q d).1 (markS base' ms' f q d).2 sl sl1 := by
  refine (rmark_c wr w.heap.size b' base' ms' sl' f q d h.r h.B.size hl).mono ?_
  rintro e w' ⟨rfl, sl1, hs, hf⟩
  have hrb := h.r.at_
  have hsb := h.s.at_
  have hlt : ∀ (k : Nat) (o : Obj), wr.heap[k]? = some o → k < wr.heap.size := fun k o hk => (Array.getElem?_eq_some_iff.1 hk).1
  have keep : ∀ (k : Nat) (c : Array Value) (t : TypeId), wr.heap[k]? = some (.cells c t (0, 0)) → t ≠ 41 → t ≠ 52 → w'.heap[k]? = wr.heap[k]? := by
    intro k c t hk h1 h2
    refine hf.block k (hlt _ _ hk) (by rintro rfl; rw [hrb] at hk; simp at hk; exact h1 hk.2.symm) (fun e => ?_)
    obtain ⟨_, cur, hc⟩ := h.r.own_at k e.symm
    rw [hc] at hk; simp at hk; exact h2 hk.2.symm
  refine ⟨rfl, sl1, ⟨(keep _ _ _ hsb (by decide) (by decide)).trans hsb, own_kept h.s.own fun k hk => ?_⟩, hs, ?_, h.b, h.b'⟩
  · obtain ⟨_, cur, hc⟩ := h.s.own_at k hk
    exact keep _ _ _ hc (by decide) (by decide)
  · exact fr_below h.B h.B.size hf h.b' (fun k hk => (h.r.own_at k hk).1)

theorem out_two (w wr : World) (b b' : Nat) (base base' : Int) (ms ms' : List M) (sl sl' : Value) (x : Int) (h : Two w wr b b' base ms base' ms' sl sl') (hl : ms.length ≤ 8) :
    Calls Try.prog 11 #[.pointer (some ⟨b, 0, none⟩), .int .u32 x] wr fun e w' => e = .returned (.int .u32 ((x + outD base x ms % 4294967296) % 4294967296)) ∧ Two w w' b b' base ms base' ms' sl sl' := by
  refine (out_c wr w.heap.size b base ms sl x h.s hl).mono ?_
  rintro e w' ⟨rfl, hg⟩
  exact ⟨rfl, h.grown hg⟩
theorem rout_two (w wr : World) (b b' : Nat) (base base' : Int) (ms ms' : List M) (sl sl' : Value) (x : Int) (h : Two w wr b b' base ms base' ms' sl sl') (hl : ms'.length ≤ 8) :
    Calls Try.prog 15 #[.pointer (some ⟨b', 0, none⟩), .int .u32 x] wr fun e w' => e = .returned (.int .u32 ((x + outD base' x ms' % 4294967296) % 4294967296)) ∧ w' = wr :=
  rout_c wr w.heap.size b' base' ms' sl' x h.r hl
theorem back_two (w wr : World) (b b' : Nat) (base base' : Int) (ms ms' : List M) (sl sl' : Value) (x : Int) (h : Two w wr b b' base ms base' ms' sl sl') (hl : ms.length ≤ 8) :
    Calls Try.prog 12 #[.pointer (some ⟨b, 0, none⟩), .int .u32 x] wr fun e w' => e = .returned (.int .u32 (backL x base ms)) ∧ Two w w' b b' base ms base' ms' sl sl' := by
  refine (back_c wr w.heap.size b base ms sl x h.s hl).mono ?_
  rintro e w' ⟨rfl, hg⟩
  exact ⟨rfl, h.grown hg⟩
theorem rback_two (w wr : World) (b b' : Nat) (base base' : Int) (ms ms' : List M) (sl sl' : Value) (x : Int) (h : Two w wr b b' base ms base' ms' sl sl') (hl : ms'.length ≤ 8) (hx0 : 0 ≤ x) (hx1 : x < 4294967296) :
    Calls Try.prog 16 #[.pointer (some ⟨b', 0, none⟩), .int .u32 x] wr fun e w' => e = .returned (.int .u32 (backL x base' ms')) ∧ Two w w' b b' base ms base' ms' sl sl' := by
  refine (rback_c wr w.heap.size b' base' ms' sl' x h.r hl hx0 hx1).mono ?_
  rintro e w' ⟨rfl, hg⟩
  exact ⟨rfl, h.grown hg⟩
theorem marks_two (w wr : World) (b b' : Nat) (base base' : Int) (ms ms' : List M) (sl sl' : Value) (h : Two w wr b b' base ms base' ms' sl sl') (hl : ms.length ≤ 8) :
    Calls Try.prog 13 #[.pointer (some ⟨b, 0, none⟩)] wr fun e w' => ∃ v, e = .returned v ∧ Two w w' b b' base ms base' ms' sl sl' ∧ w'.ownsRow w.heap.size 49 3 v ms.length (flat ms) := by
  refine (marks_c wr w.heap.size b base ms sl h.s h.B.size hl).mono ?_
  rintro e w' ⟨v, rfl, hg, hv⟩
  exact ⟨v, rfl, h.grown hg, hv⟩

theorem same_zero (w : World) (p q : Option Addr) (c c' : Nat) :
   Calls Try.prog 17 #[.slice p 0 c, .slice q 0 c'] w fun e w' => e = .returned (.bool true) ∧ w.grownBy w' none := by
  go_enter Try.func17, Try.ntmps17
  go_wp2
  go_loopw [5] (fun i wr => i = .int .i64 0 ∧ wr = w) (fun i _ => 0)
  case atStart => exact ⟨rfl, rfl⟩
  case round =>
    obtain ⟨rfl, rfl⟩ := hrel
    go_wp2
    go_ret
    exact ⟨rfl, ⟨rfl, rfl, rfl, Nat.le_refl _, fun _ _ _ => rfl⟩⟩

theorem same_two (w wr : World) (b b' : Nat) (base base' : Int) (ms : List M) (sl sl' v : Value) (h : Two w wr b b' base ms base' ms sl sl') (hl : ms.length ≤ 8) (hv : wr.ownsRow w.heap.size 49 3 v ms.length (flat ms)) :
    Calls Try.prog 17 #[v, sl'] wr fun e w' => e = .returned (.bool true) ∧ Two w w' b b' base ms base' ms sl sl' := by
  have key : Calls Try.prog 17 #[v, sl'] wr fun e w' => e = .returned (.bool true) ∧ wr.grownBy w' none := by
    rcases h.r.parts with ⟨rfl, rfl⟩ | ⟨g', cap', cur', rfl, hbg', hrow', hcap', hmax', hcs', htk'⟩
    · rcases hv.2 with ⟨rfl, _⟩ | ⟨g, cap, cur, rfl, hbg, hrow, hcap, hmax, hcs, htk⟩
      · exact same_zero wr _ _ _ _
      · exact same_zero wr _ _ _ _
    · rcases hv.2 with ⟨rfl, h0⟩ | ⟨g, cap, cur, rfl, hbg, hrow, hcap, hmax, hcs, htk⟩
      · rw [h0]; exact same_zero wr _ _ _ _
      · exact same_row_h wr g g' ms.length cap cap' cur cur' ms rfl hrow hrow' hl hcap hcap' (fun j hj => row_cells rfl htk j hj) (fun j hj => row_cells rfl htk' j hj)
  refine key.mono ?_
  rintro e w' ⟨rfl, hg⟩
  exact ⟨rfl, h.grown hg⟩
theorem base_two (w wr : World) (b b' : Nat) (base base' : Int) (ms ms' : List M) (sl sl' : Value) (h : Two w wr b b' base ms base' ms' sl sl') :
    Calls Try.prog 18 #[.pointer (some ⟨b, 0, none⟩)] wr fun e w' => e = .returned (.int .i64 base) ∧ w' = wr :=
  base_c wr w.heap.size b base ms sl h.s
theorem Two.cells {w wr : World} {b b' : Nat} {base base' : Int} {ms ms' : List M} {sl sl' : Value} (h : Two w wr b b' base ms base' ms' sl sl') : wr.cell? ⟨b', 0, none⟩ = some (.int .i64 base') ∧ wr.cell? ⟨b', 1, none⟩ = some sl' := by
  constructor <;> simp [World.cell?, h.r.at_]
end Go.Proofs.Ythonhnjdbnkfpaa
