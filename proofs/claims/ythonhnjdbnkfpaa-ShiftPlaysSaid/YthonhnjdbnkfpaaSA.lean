/-
  Rows of marks in memory, cell by cell.
  Conditions: those that each theorem names.
-/
import Derived.Test.YthonhnjdbnkfpaaProg
import Derived.WalkKit
import Derived.ProofKit
import Derived.OpenShut
namespace Go.Proofs.Ythonhnjdbnkfpaa
open Go.ChangeShapes Go.WideShapes Go.ChangeAt Go.RowKit
set_option linter.unusedVariables false
/-- A mark: from, seq, delta. -/
abbrev M := Int × Int × Int
def mk (m : M) : List Value := [.int .u32 m.1, .int .u32 m.2.1, .int .i64 m.2.2]
def flat (ms : List M) : List Value := ms.flatMap mk

theorem flat_length (ms : List M) : (flat ms).length = ms.length * 3 := by
  induction ms with
  | nil => rfl
  | cons m ms ih => unfold flat at *; simp [ih, mk]; omega

theorem flat_cons (m : M) (ms : List M) : flat (m :: ms) = mk m ++ flat ms := rfl
theorem flat_append (a b : List M) : flat (a ++ b) = flat a ++ flat b := by simp [flat]

theorem flat_get : ∀ (ms : List M) (j i : Nat), j < ms.length → i < 3 → (flat ms)[j * 3 + i]? = (mk (ms.getD j (0, 0, 0)))[i]? := by
  intro ms
  induction ms with
  | nil => intro j i h; simp at h
  | cons m ms ih =>
    intro j i hj hi
    rw [flat_cons]
    cases j with
    | zero =>
      rw [List.getElem?_append_left (by simp [mk]; omega)]
      simp
    | succ j =>
      rw [List.getElem?_append_right (by simp [mk]; omega)]
      have e : (j + 1) * 3 + i - (mk m).length = j * 3 + i := by simp [mk]; omega
      rw [e, ih j i (by simpa using hj) hi]
      simp

/-- What a row holds, cell by cell. -/
theorem row_cells {cur : Array Value} {ms : List M} {n : Nat} (hn : n = ms.length) (h : cur.toList.take (n * 3) = flat ms) (j : Nat) (hj : j < n) :
    cur[j * 3]? = some (.int .u32 (ms.getD j (0,0,0)).1) ∧ cur[j * 3 + 1]? = some (.int .u32 (ms.getD j (0,0,0)).2.1) ∧ cur[j * 3 + 2]? = some (.int .i64 (ms.getD j (0,0,0)).2.2) := by
  subst hn
  have key : ∀ i, i < 3 → cur[j * 3 + i]? = (mk (ms.getD j (0,0,0)))[i]? := by
    intro i hi
    rw [← flat_get ms j i hj hi, ← h, List.getElem?_take, if_pos (by omega)]
    simp
  exact ⟨key 0 (by omega), key 1 (by omega), key 2 (by omega)⟩

theorem heap_setCell_at {w : World} {g i : Nat} {cur : Array Value} {t : TypeId} {fz : Nat × Nat} (v : Value) (h : w.heap[g]? = some (.cells cur t fz)) :
    (w.setCell ⟨g, i, none⟩ v).heap[g]? = some (.cells (cur.set! i v) t fz) := by
  have hlt : g < w.heap.size := (Array.getElem?_eq_some_iff.1 h).1
  unfold World.setCell
  simp [Array.getElem?_modify, h]

theorem flat_set {ms : List M} {j : Nat} (hj : j < ms.length) (m : M) (rest : List Value) :
    (((flat ms ++ rest).set (j * 3) (.int .u32 m.1)).set (j * 3 + 1) (.int .u32 m.2.1)).set (j * 3 + 2) (.int .i64 m.2.2) = flat (ms.set j m) ++ rest := by
  induction ms generalizing j with
  | nil => simp at hj
  | cons x ms ih =>
    cases j with
    | zero => simp [flat_cons, mk]
    | succ j =>
      have := ih (j := j) (by simpa using hj)
      simp only [flat_cons, List.set_cons_succ, mk, List.cons_append, List.nil_append, show (j + 1) * 3 = (((j * 3) + 1) + 1) + 1 by omega, List.set_cons_succ] at this ⊢
      rw [this]
end Go.Proofs.Ythonhnjdbnkfpaa
