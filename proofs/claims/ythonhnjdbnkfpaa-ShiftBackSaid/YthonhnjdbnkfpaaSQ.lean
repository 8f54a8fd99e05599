/-
  Rows of numbers beside a shift.
  Conditions: those that each theorem names.
-/
import Derived.Test.YthonhnjdbnkfpaaSO
namespace Go.Proofs.Ythonhnjdbnkfpaa
open Go.ChangeShapes Go.WideShapes Go.ChangeAt Go.RowKit
set_option linter.unusedVariables false

def fsOf (s : Int) (all : List Pc) : List Value := all.map fun p => .int .u32 (cv s p).1
def qsOf (s : Int) (all : List Pc) : List Value := all.map fun p => .int .u32 (cv s p).2.1

theorem Try.info27 : (Try.prog.info? 27).map (fun i => (i.zero, i.size, i.bytes)) = some (some (.int .u32 0), 1, 4) := by kernel_rfl

theorem rows_ne {w : World} {B : Nat} {v v' : Value} {n n' : Nat} {xs xs' : List Value} (h : w.ownsRow B 27 1 v n xs) (h' : w.ownsRow B 27 1 v' n' xs') (hn : 0 < n) (hn' : 0 < n') (hx : xs[0]? ≠ xs'[0]?) :
    v.ownBlock ≠ v'.ownBlock := by
  obtain ⟨g, cap, cur, rfl, _, hg, _, _, _, ht⟩ := own_row h hn
  obtain ⟨g', cap', cur', rfl, _, hg', _, _, _, ht'⟩ := own_row h' hn'
  intro e
  simp [Value.ownBlock] at e
  subst e
  rw [hg] at hg'
  simp at hg'
  subst hg'
  apply hx
  rw [← ht, ← ht', List.getElem?_take, List.getElem?_take, if_pos (by omega), if_pos (by omega)]

theorem first_ne {s A : Int} {all : List Pc} (hc : Chain 0 A all) (hA : A ≤ 400000) (h : 0 < all.length) {p : Pc} : (fsOf s (all ++ [p]))[0]? ≠ (qsOf s all)[0]? ∧ (fsOf s all)[0]? ≠ (qsOf s all)[0]? := by
  cases all with
  | nil => simp at h
  | cons q all =>
    have := hc.mem q (by simp)
    constructor
    · simp [fsOf, qsOf, cv]; omega
    · simp [fsOf, qsOf, cv]; omega

theorem SAt.kept27 {w w' : World} {B b : Nat} {base : Int} {ms : List M} {sl v : Value} {n : Nat} {xs : List Value} (h : SAt w B b base ms sl) (hv : w.ownsRow B 27 1 v n xs) (hg : w.grownBy w' v.ownBlock) : SAt w' B b base ms sl := by
  have hne : ∀ k t c, w.heap[k]? = some (.cells c t (0, 0)) → t ≠ 27 → some k ≠ v.ownBlock := by
    intro k t c hk ht e
    rcases hv.2 with ⟨rfl, _⟩ | ⟨g, cap, cur, rfl, _, hgg, _⟩
    · simp [Value.ownBlock] at e
    · simp [Value.ownBlock] at e
      subst e
      rw [hk] at hgg
      simp at hgg
      exact ht hgg.2
  refine ⟨(hg.block b (Array.getElem?_eq_some_iff.1 h.at_).1 (hne b 47 _ h.at_ (by decide))).trans h.at_, h.own.kept hg ?_⟩
  rcases h.own.2 with ⟨rfl, _⟩ | ⟨g, cap, cur, rfl, _, hgg, _⟩
  · exact .inl rfl
  · exact .inr (hne g 49 _ hgg (by decide))

theorem row_fr {w w' : World} {B b : Nat} {base : Int} {ms : List M} {sl v : Value} {n : Nat} {xs : List Value} (hv : w.ownsRow B 27 1 v n xs) (h : SAt w B b base ms sl) (hf : Fr w w' b sl.ownBlock) : w'.ownsRow B 27 1 v n xs := by
  refine ⟨hv.1, ?_⟩
  rcases hv.2 with hn | ⟨g, cap, cur, rfl, hb, hgg, rest⟩
  · exact .inl hn
  · refine .inr ⟨g, cap, cur, rfl, hb, ?_, rest⟩
    rw [hf.block g (Array.getElem?_eq_some_iff.1 hgg).1 ?_ ?_]
    · exact hgg
    · rintro rfl; rw [h.at_] at hgg; simp at hgg
    · rcases h.own.2 with ⟨rfl, _⟩ | ⟨g', cap', cur', rfl, _, hg', _⟩
      · simp [Value.ownBlock]
      · simp [Value.ownBlock]; rintro rfl; rw [hg'] at hgg; simp at hgg

theorem below_row {w w1 w2 : World} {B : Nat} {v : Value} {n : Nat} {xs : List Value} (h : Below B w w1) (hB : B ≤ w1.heap.size) (hv : w1.ownsRow B 27 1 v n xs) (hg : w1.grownBy w2 v.ownBlock) : Below B w w2 :=
  ⟨hg.os.trans h.os, hg.tape.trans h.tape, hg.output.trans h.output, Nat.le_trans h.size hg.size,
    fun k hk => (hg.block k (by omega) (fun e => by have := (hv.lt k e.symm).1; omega)).trans (h.block k hk)⟩

theorem row_cell {w : World} {g : Nat} {cur : Array Value} {xs : List Value} {n : Nat} (hg : w.heap[g]? = some (.cells cur 27 (0, 0))) (h : cur.toList.take (n * 1) = xs) {j : Nat} {u : Value} (hu : xs[j]? = some u) : w.cell? ⟨g, j, none⟩ = some u := by
  rw [← h, List.getElem?_take] at hu
  split at hu
  · simp [World.cell?, hg]
    simpa using hu
  · simp at hu

/-- What the law's first loop keeps. -/
structure BL (w wr : World) (b : Nat) (S : Int) (k : Nat) (base a : Int) (ms : List M) (sl vf vt : Value) (all old cur : List Pc) : Prop where
  I : Backs k S base ms a all old cur
  S_ : SAt wr w.heap.size b base ms sl
  f : wr.ownsRow w.heap.size 27 1 vf all.length (fsOf S all)
  t : wr.ownsRow w.heap.size 27 1 vt all.length (qsOf S all)
  z : all = [] → vf = .slice none 0 0 ∧ vt = .slice none 0 0
  B : Below w.heap.size w wr
end Go.Proofs.Ythonhnjdbnkfpaa
