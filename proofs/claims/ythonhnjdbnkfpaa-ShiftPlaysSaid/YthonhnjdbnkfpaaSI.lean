/-
  Marks, New.
  Conditions: those that each theorem names.
-/
import Derived.Test.YthonhnjdbnkfpaaSH
namespace Go.Proofs.Ythonhnjdbnkfpaa
open Go.ChangeShapes Go.WideShapes Go.ChangeAt Go.RowKit
set_option linter.unusedVariables false

theorem row_news {w : World} {g : Nat} {cur : Array Value} {xs : List Value} {m : Nat} (hg : w.heap[g]? = some (.cells cur 49 (0, 0))) (h : cur.toList.take m = xs) :
    ∀ j u, xs[j]? = some u → w.cell? ((⟨g, 0, none⟩ : Addr).add j) = some u := by
  intro j u hu
  rw [← h, List.getElem?_take] at hu
  split at hu
  · have hadd : (⟨g, 0, none⟩ : Addr).add j = ⟨g, j, none⟩ := by unfold Addr.add; split <;> simp_all
    rw [hadd]
    simp [World.cell?, hg]
    simpa using hu
  · simp at hu

theorem mk_oneCell' (ms : List M) : ∀ u ∈ flat ms, u.oneCell' = true := mk_oneCell ms

theorem marks_row_h (w : World) (B b g n cap : Nat) (cur : Array Value) (base : Int) (ms : List M) (hn : ms.length = n) (hB : B ≤ w.heap.size)
   (hblk : w.heap[b]? = some (.cells #[.bool true, .int .i64 base, .slice (some ⟨g, 0, none⟩) n cap] 47 (0, 0)))
   (hrow : w.heap[g]? = some (.cells cur 49 (0, 0))) (hn8 : n ≤ 8) (htk : cur.toList.take (n * 3) = flat ms) :
   Calls Try.prog 13 #[.pointer (some ⟨b, 0, none⟩)] w fun e w' => ∃ v, e = .returned v ∧ w.grownBy w' none ∧ w'.ownsRow B 49 3 v n (flat ms) := by
  have h0 : w.cell? ⟨b, 0, none⟩ = some (.bool true) := by simp [World.cell?, hblk]
  have h1 : w.cell? ⟨b, 1, none⟩ = some (.int .i64 base) := by simp [World.cell?, hblk]
  have h2 : w.cell? ⟨b, 2, none⟩ = some (.slice (some ⟨g, 0, none⟩) n cap) := by simp [World.cell?, hblk]
  obtain ⟨i0, hi, hz0, hz1, hz2⟩ := info_parts Try.info49
  have Hl : Hid ((flat ms).length = n * 3) := by unfold Hid; rw [flat_length, hn]
  have Hnews : Hid (∀ j u, (flat ms)[j]? = some u → w.cell? ((⟨g, 0, none⟩ : Addr).add j) = some u) := row_news hrow htk
  clear htk
  go_enter Try.func13, Try.ntmps13
  go_wp2_with (first
        | (at_builtin; refine wpList_append_own _ rfl (.const (.slice none 0 0)) (.tmp 8) 34 rfl B 49 i0 _ 3 16 Try.underlying34 hi hz0 hz1 hz2 rfl (by decide) _ _ _ rfl (World.ownsRow_nil _ _ _ _) ⟨g, 0, none⟩ n cap (flat ms) rfl Hl.out Hnews.out (mk_oneCell' _) (by unfold maxLen; omega) (by omega) hB ?_; intro v1 w1 hown1 hgrow1 _)
        | go_in)
  go_ret
  refine ⟨_, rfl, hgrow1, ?_⟩
  simpa using hown1

theorem marks_nil_h (w : World) (B b : Nat) (base : Int)
   (hblk : w.heap[b]? = some (.cells #[.bool true, .int .i64 base, .slice none 0 0] 47 (0, 0))) :
   Calls Try.prog 13 #[.pointer (some ⟨b, 0, none⟩)] w fun e w' => e = .returned (.slice none 0 0) ∧ w' = w := by
  have h0 : w.cell? ⟨b, 0, none⟩ = some (.bool true) := by simp [World.cell?, hblk]
  have h1 : w.cell? ⟨b, 1, none⟩ = some (.int .i64 base) := by simp [World.cell?, hblk]
  have h2 : w.cell? ⟨b, 2, none⟩ = some (.slice none 0 0) := by simp [World.cell?, hblk]
  go_enter Try.func13, Try.ntmps13
  go_wp2
  go_ret
  exact ⟨rfl, rfl⟩

theorem marks_c (w : World) (B b : Nat) (base : Int) (ms : List M) (sl : Value) (h : SAt w B b base ms sl) (hB : B ≤ w.heap.size) (hl : ms.length ≤ 8) :
    Calls Try.prog 13 #[.pointer (some ⟨b, 0, none⟩)] w fun e w' => ∃ v, e = .returned v ∧ w.grownBy w' none ∧ w'.ownsRow B 49 3 v ms.length (flat ms) := by
  rcases h.parts with ⟨rfl, rfl⟩ | ⟨g, cap, cur, rfl, hbg, hrow, hcap, hmax, hcs, htk⟩
  · refine (marks_nil_h w B b base h.at_).mono ?_
    rintro e w' ⟨rfl, rfl⟩
    exact ⟨_, rfl, ⟨rfl, rfl, rfl, Nat.le_refl _, fun _ _ _ => rfl⟩, World.ownsRow_nil _ _ _ _⟩
  · exact marks_row_h w B b g ms.length cap cur base ms rfl hB h.at_ hrow hl htk

theorem new_c (w : World) (B : Nat) : Calls Try.prog 9 #[] w fun e w' => e = .returned (.pointer (some ⟨w.heap.size, 0, none⟩)) ∧ SAt w' B w.heap.size 0 [] (.slice none 0 0) ∧ w.grownBy w' none := by
  go_enter Try.func9, Try.ntmps9
  go_wp2
  go_ret
  exact ⟨rfl, ⟨heap_alloc_new w _, World.ownsRow_nil _ _ _ _⟩, World.grownBy_alloc w _ none⟩
end Go.Proofs.Ythonhnjdbnkfpaa
