/-
  The document's own Mark, whatever the marks; two lists of marks, cell by cell; the base.
  Conditions: those that each theorem names.
-/
import Derived.Test.YthonhnjdbnkfpaaTB
import Derived.BigQuiet
namespace Go.Proofs.Ythonhnjdbnkfpaa
open Go.ChangeShapes Go.WideShapes Go.ChangeAt Go.RowKit
set_option linter.unusedVariables false

theorem rtail_cells {w : World} {g : Nat} {cur : Array Value} {ms : List M} (hn : ms.length = 9) (hg : w.heap[g]? = some (.cells cur 52 (0, 0))) (h : cur.toList.take (9 * 3) = flat ms) :
    ∀ j u, (flat ms.tail)[j]? = some u → w.cell? ((⟨g, 3, none⟩ : Addr).add j) = some u := by
  intro j u hu
  have hlen : (flat ms.tail).length = 24 := by rw [flat_length]; simp [hn]
  have hj : j < 24 := by
    have := (List.getElem?_eq_some_iff.1 hu).1
    omega
  cases ms with
  | nil => simp at hn
  | cons m ms =>
    have e : (flat (m :: ms))[3 + j]? = some u := by
      rw [flat_cons, List.getElem?_append_right (by simp [mk])]
      simpa [mk] using hu
    rw [← h, List.getElem?_take, if_pos (by omega)] at e
    have hadd : (⟨g, 3, none⟩ : Addr).add j = ⟨g, 3 + j, none⟩ := by unfold Addr.add; split <;> simp_all
    rw [hadd]
    simp [World.cell?, hg]
    simpa using e

set_option maxHeartbeats 3000000 in
theorem rmark_full_h (w : World) (B b g cap : Nat) (cur : Array Value) (base : Int) (ms : List M) (f q d : Int) (hn : ms.length = 8) (m2 : Int) (hm2 : (ms.getD 0 (0,0,0)).2.2 = m2) (hB : B ≤ w.heap.size)
   (hblk : w.heap[b]? = some (.cells #[.int .i64 base, .slice (some ⟨g, 0, none⟩) 8 cap] 41 (0, 0)))
   (hrow : w.heap[g]? = some (.cells cur 52 (0, 0))) (hown : w.ownsRow B 52 3 (.slice (some ⟨g, 0, none⟩) 8 cap) 8 (flat ms))
   (hc : ∀ j, j < 8 → cur[j * 3]? = some (.int .u32 (ms.getD j (0,0,0)).1) ∧ cur[j * 3 + 1]? = some (.int .u32 (ms.getD j (0,0,0)).2.1) ∧ cur[j * 3 + 2]? = some (.int .i64 (ms.getD j (0,0,0)).2.2))
   (g1 : -2048 ≤ d) (g2 : d ≤ 2048) (g3 : 1 ≤ (q - f) % 4294967296) (g4 : (q - f) % 4294967296 ≤ 65535) (g5 : 1 ≤ (q - f) % 4294967296 + d)
   (hne : ∀ i, i < 8 → (ms.getD i (0,0,0)).2.1 ≠ q) :
   Calls Try.prog 14 #[.pointer (some ⟨b, 0, none⟩), .int .u32 f, .int .u32 q, .int .i64 d] w fun e w' => e = .returned (.int .i64 0) ∧
     ∃ sl, RAt w' B b (wrap64 (base + m2)) (ms.tail ++ [(f, q, d)]) sl ∧ Fr w w' b (some g) := by
  have hb : b < w.heap.size := (Array.getElem?_eq_some_iff.1 hblk).1
  have hgs : g < w.heap.size := (Array.getElem?_eq_some_iff.1 hrow).1
  have hgb : g ≠ b := by rintro rfl; rw [hblk] at hrow; simp at hrow
  have h1 : w.cell? ⟨b, 0, none⟩ = some (.int .i64 base) := by simp [World.cell?, hblk]
  have h2 : w.cell? ⟨b, 1, none⟩ = some (.slice (some ⟨g, 0, none⟩) 8 cap) := by simp [World.cell?, hblk]
  have nb : b ≠ w.heap.size := by omega
  obtain ⟨i0, hi, hz0, hz1, hz2⟩ := info_parts Try.info52
  go_enter Try.func14, Try.ntmps14
  go_wp2
  go_loopw [10] (fun i wr => ∃ k : Nat, k ≤ 8 ∧ i = .int .i64 k ∧ wr = w) (fun i _ => 8 - (intOf i).toNat)
  case atStart => exact ⟨0, by omega, rfl, rfl⟩
  case round =>
    obtain ⟨k, hk, rfl, rfl⟩ := hrel
    by_cases hkn : k = 8
    · subst hkn
      clear hc hne
      go_wp2_with (first
        | (at_builtin; refine wpList_append_own _ rfl (.tmp 74) (.tmp 79) 39 rfl B 52 i0 _ 3 16 Try.underlying39 hi hz0 hz1 hz2 rfl (by decide) _ _ _ rfl (hown.alloc _) ⟨wr.heap.size, 0, none⟩ 1 1 [.int .u32 f, .int .u32 q, .int .i64 d] rfl rfl ?c1 ?c2 ?c3 ?c4 ?c5 ?_)
        | go_in)
      case c1 =>
        intro j u hj
        match j, hj with
        | 0, hj => simp at hj; subst hj; simp [Addr.add]
        | 1, hj => simp at hj; subst hj; simp [Addr.add]
        | 2, hj => simp at hj; subst hj; simp [Addr.add]
      case c2 => intro u hu; simp at hu; rcases hu with rfl | rfl | rfl <;> rfl
      case c3 => unfold maxLen; omega
      case c4 => omega
      case c5 => simp; omega
      · intro v1 w1 hown1 hgrow1 _
        have hs1 := hgrow1.size
        simp at hs1
        have hbw1 : w1.heap[b]? = some (.cells #[.int .i64 base, .slice (some ⟨g, 0, none⟩) 8 cap] 41 (0, 0)) := by
          rw [hgrow1.block b (by simp; omega) (by simp [Value.ownBlock]; exact fun e => hgb e.symm), Below.heap_alloc _ _ b hb]
          exact hblk
        have q1 : w1.cell? ⟨b, 0, none⟩ = some (.int .i64 base) := by simp [World.cell?, hbw1]
        have q2 : w1.cell? ⟨b, 1, none⟩ = some (.slice (some ⟨g, 0, none⟩) 8 cap) := by simp [World.cell?, hbw1]
        have qf : ∀ i, w1.frozen? ⟨b, i, none⟩ = false := fun i => by simp [World.frozen?, hbw1]
        have hown2 := hown1.2
        rcases hown2 with ⟨_, h0'⟩ | ⟨g', cap', cur', rfl, hbg', hg', hcap', hmax', hcs', htake'⟩
        · omega
        · have hg'b : g' ≠ b := by rintro rfl; rw [hbw1] at hg'; simp at hg'
          have z : cur'[2]? = some (.int .i64 (ms.getD 0 (0,0,0)).2.2) := (row_cells (ms := ms ++ [(f, q, d)]) (n := 9) (by simp [hn]) (by rw [flat_append]; exact htake') 0 (by omega)).2.2.trans (by cases ms with
            | nil => simp at hn
            | cons m ms => rfl)
          have zc : w1.cell? ⟨g', 2, none⟩ = some (.int .i64 (ms.getD 0 (0,0,0)).2.2) := by simp [World.cell?, hg', z]
          rw [hm2] at zc
          go_wp2
          have hg1 := heap_setCell_at (i := 1) (.slice (some ⟨g', 0, none⟩) 9 cap') hbw1
          have hg2 : (w1.setCell ⟨b, 1, none⟩ (.slice (some ⟨g', 0, none⟩) 9 cap')).heap[g']? = some (.cells cur' 52 (0, 0)) := (Below.heap_setCell _ _ _ _ hg'b).trans hg'
          generalize hw2 : w1.setCell ⟨b, 1, none⟩ (.slice (some ⟨g', 0, none⟩) 9 cap') = w2 at hg1 hg2
          have s1 : w2.cell? ⟨b, 0, none⟩ = some (.int .i64 base) := by simp [World.cell?, hg1]
          have s2 : w2.cell? ⟨b, 1, none⟩ = some (.slice (some ⟨g', 0, none⟩) 9 cap') := by simp [World.cell?, hg1]
          have sf : ∀ i, w2.frozen? ⟨b, i, none⟩ = false := fun i => by simp [World.frozen?, hg1]
          have s3 : w2.cell? ⟨g', 2, none⟩ = some (.int .i64 m2) := by have := z; rw [hm2] at this; simp [World.cell?, hg2, this]
          go_region
          have hg3 : ((w2.setCell ⟨b, 0, none⟩ (.int .i64 (wrap64 (base + m2)))).drew).heap[b]? = some (.cells #[.int .i64 (wrap64 (base + m2)), .slice (some ⟨g', 0, none⟩) 9 cap'] 41 (0, 0)) := heap_setCell_at (i := 0) (.int .i64 (wrap64 (base + m2))) hg1
          have hg4 : ((w2.setCell ⟨b, 0, none⟩ (.int .i64 (wrap64 (base + m2)))).drew).heap[g']? = some (.cells cur' 52 (0, 0)) := (Below.heap_setCell _ _ _ _ hg'b).trans hg2
          have hs3 : ((w2.setCell ⟨b, 0, none⟩ (.int .i64 (wrap64 (base + m2)))).drew).heap.size = w2.heap.size := by simp [World.drew]
          have hx3 : ∀ i, i ≠ b → ((w2.setCell ⟨b, 0, none⟩ (.int .i64 (wrap64 (base + m2)))).drew).heap[i]? = w2.heap[i]? := fun i hi => Below.heap_setCell _ _ _ _ hi
          have ho3 : ((w2.setCell ⟨b, 0, none⟩ (.int .i64 (wrap64 (base + m2)))).drew).os = w2.os ∧ ((w2.setCell ⟨b, 0, none⟩ (.int .i64 (wrap64 (base + m2)))).drew).tape = w2.tape ∧ ((w2.setCell ⟨b, 0, none⟩ (.int .i64 (wrap64 (base + m2)))).drew).output = w2.output := ⟨rfl, rfl, rfl⟩
          generalize hw3 : (w2.setCell ⟨b, 0, none⟩ (.int .i64 (wrap64 (base + m2)))).drew = w3 at hg3 hg4 hs3 hx3 ho3
          have t1 : w3.cell? ⟨b, 0, none⟩ = some (.int .i64 (wrap64 (base + m2))) := by simp [World.cell?, hg3]
          have t2 : w3.cell? ⟨b, 1, none⟩ = some (.slice (some ⟨g', 0, none⟩) 9 cap') := by simp [World.cell?, hg3]
          clear s1 s2 s3 sf q1 q2 qf zc
          have Hbl : Hid (b < w3.heap.size) := by
            have e1 : w2.heap.size = w1.heap.size := by rw [← hw2]; simp
            show b < w3.heap.size
            rw [hs3, e1]; omega
          have hbl := Hbl.out
          have hcapi : (9 : Int) ≤ (cap' : Int) := by omega
          have Hnl : Hid ((flat (ms ++ [(f, q, d)]).tail).length = 8 * 3) := by unfold Hid; rw [flat_length]; simp [hn]
          have hg'3 : g' < w3.heap.size := (Array.getElem?_eq_some_iff.1 hg4).1
          have Hnews : Hid (∀ j u, (flat (ms ++ [(f, q, d)]).tail)[j]? = some u → (w3.alloc (.cells #[] 52)).cell? ((⟨g', 3, none⟩ : Addr).add j) = some u) :=
            rtail_cells (by simp [hn]) ((Below.heap_alloc _ _ g' hg'3).trans hg4) (by rw [flat_append]; exact htake')
          have Hbs : Hid (B ≤ (w3.alloc (.cells #[] 52)).heap.size) := by
            have e1 : w2.heap.size = w1.heap.size := by rw [← hw2]; simp
            show B ≤ _
            simp; rw [hs3, e1]; omega
          have Hown0 : Hid ((w3.alloc (.cells #[] 52)).ownsRow B 52 3 (.slice (some ⟨w3.heap.size, 0, none⟩) 0 0) 0 []) := by
            have e1 : w2.heap.size = w1.heap.size := by rw [← hw2]; simp
            exact ⟨rfl, .inr ⟨w3.heap.size, 0, #[], rfl, by rw [hs3, e1]; omega, heap_alloc_new w3 _, Nat.le_refl _, by unfold maxLen; omega, rfl, rfl⟩⟩
          have nb3 : b ≠ w3.heap.size := by omega
          have ab2 : ∀ o, (w3.alloc o).cell? ⟨b, 1, none⟩ = some (.slice (some ⟨g', 0, none⟩) 9 cap') := fun o => by rw [World.cell?_of_block (w := w3) (Below.heap_alloc w3 o b hbl)]; exact t2
          have abf : ∀ o i, (w3.alloc o).frozen? ⟨b, i, none⟩ = false := fun o i => by
            have : (w3.alloc o).heap[b]? = w3.heap[b]? := Below.heap_alloc w3 o b hbl
            simp [World.frozen?, this, hg3]
          have HS3 : Hid (w3.heap.size = w2.heap.size ∧ (∀ i, i ≠ b → w3.heap[i]? = w2.heap[i]?) ∧ (w3.os = w2.os ∧ w3.tape = w2.tape ∧ w3.output = w2.output)) := ⟨hs3, hx3, ho3⟩
          clear hs3 hx3 ho3
          go_wp2_with (first
            | (at_builtin; refine wpList_append_own _ rfl (.tmp 105) (.tmp 110) 39 rfl B 52 i0 _ 3 16 Try.underlying39 hi hz0 hz1 hz2 rfl (by decide) _ _ _ rfl Hown0.out ⟨g', 3, none⟩ 8 _ (flat (ms ++ [(f, q, d)]).tail) rfl Hnl.out Hnews.out (mk_oneCell _) (by unfold maxLen; omega) (by omega) Hbs.out ?_)
            | go_in)
          intro v3 w4 hown4 hgrow4 _
          obtain ⟨g4, cap4, cur4, rfl, hbg4, hgg4, hcap4, hmax4, hcs4, htk4⟩ := own_row hown4 (by omega)
          obtain ⟨hs3, hx3, ho3⟩ := HS3.out
          have hs4 := hgrow4.size
          simp at hs4
          have e1 : w2.heap.size = w1.heap.size := by rw [← hw2]; simp
          have x2 : ∀ i, i ≠ b → w2.heap[i]? = w1.heap[i]? := fun i hi => by rw [← hw2]; exact Below.heap_setCell _ _ _ _ hi
          have o2 : w2.os = w1.os ∧ w2.tape = w1.tape ∧ w2.output = w1.output := by rw [← hw2]; exact ⟨rfl, rfl, rfl⟩
          have hb4 : w4.heap[b]? = some (.cells #[.int .i64 (wrap64 (base + m2)), .slice (some ⟨g', 0, none⟩) 9 cap'] 41 (0, 0)) := by
            rw [hgrow4.block b (by simp; omega) (by simp [Value.ownBlock]; omega), Below.heap_alloc _ _ b Hbl.out]; exact hg3
          have hg4b : g4 ≠ b := by rintro rfl; rw [hb4] at hgg4; simp at hgg4
          have Hfin : Hid (∃ sl, RAt (w4.setCell ⟨b, 1, none⟩ (.slice (some ⟨g4, 0, none⟩) 8 cap4)) B b (wrap64 (base + m2)) (ms.tail ++ [(f, q, d)]) sl ∧ Fr wr (w4.setCell ⟨b, 1, none⟩ (.slice (some ⟨g4, 0, none⟩) 8 cap4)) b (some g)) := by
            have et : (ms ++ [(f, q, d)]).tail = ms.tail ++ [(f, q, d)] := by cases ms with | nil => simp at hn | cons => rfl
            have el : (ms.tail ++ [(f, q, d)]).length = 8 := by simp [hn]
            refine ⟨.slice (some ⟨g4, 0, none⟩) 8 cap4, ⟨heap_setCell_at (i := 1) _ hb4, ?_⟩, ⟨?_, ?_, ?_, ?_, ?_⟩⟩
            · refine ⟨by rw [flat_length], .inr ⟨g4, cap4, cur4, by rw [el], hbg4, (Below.heap_setCell _ _ _ _ hg4b).trans hgg4, by rw [el]; omega, hmax4, hcs4, ?_⟩⟩
              rw [el, ← et]
              simpa using htk4
            · exact hgrow4.os.trans (ho3.1.trans (o2.1.trans hgrow1.os))
            · exact hgrow4.tape.trans (ho3.2.1.trans (o2.2.1.trans hgrow1.tape))
            · exact hgrow4.output.trans (ho3.2.2.trans (o2.2.2.trans hgrow1.output))
            · simp; omega
            · intro i hi hib hig
              rw [Below.heap_setCell _ _ _ _ hib, hgrow4.block i (by simp; omega) (by simp [Value.ownBlock]; omega), Below.heap_alloc _ _ i (by omega), hx3 i hib, x2 i hib,
                hgrow1.block i (by simp; omega) (by simpa [Value.ownBlock] using hig), Below.heap_alloc _ _ i hi]
          have p2 : w4.cell? ⟨b, 1, none⟩ = some (.slice (some ⟨g', 0, none⟩) 9 cap') := by simp [World.cell?, hb4]
          have pf : w4.frozen? ⟨b, 1, none⟩ = false := by simp [World.frozen?, hb4]
          clear hs3 hx3 ho3 e1 x2 o2
          go_wp2
          go_ret
          exact ⟨rfl, Hfin.out⟩
    · have hkn' : k < 8 := by omega
      have kc1 : wr.cell? ⟨g, k * 3 + 1, none⟩ = some (.int .u32 (ms.getD k (0,0,0)).2.1) := by simp [World.cell?, hrow, (hc k (by omega)).2.1]
      generalize hm1 : (ms.getD k (0,0,0)).2.1 = m1 at kc1
      have hq : (m1 == q) = false := by rw [← hm1]; simpa using hne k (by omega)
      clear hc hne
      go_wp2
      go_roundw
      case rel => exact ⟨k + 1, by omega, by go_num, by trivial⟩
      case measure => simp [intOf]; omega

theorem rmark_c (w : World) (B b : Nat) (base : Int) (ms : List M) (sl : Value) (f q d : Int) (h : RAt w B b base ms sl) (hB : B ≤ w.heap.size) (hl : ms.length ≤ 8) :
    Calls Try.prog 14 #[.pointer (some ⟨b, 0, none⟩), .int .u32 f, .int .u32 q, .int .i64 d] w fun e w' => e = .returned (.int .i64 (markE f q d)) ∧
      ∃ sl', RAt w' B b (markS base ms f q d).1 (markS base ms f q d).2 sl' ∧ Fr w w' b sl.ownBlock := by
  by_cases hg : Good f q d
  · have hE : markE f q d = 0 := by unfold markE; rw [if_pos hg]
    rw [hE]
    rcases h.parts with ⟨rfl, rfl⟩ | ⟨g, cap, cur, rfl, hbg, hrow, hcap, hmax, hcs, htk⟩
    · have hS : markS base [] f q d = (base, [(f, q, d)]) := by unfold markS; rw [if_pos hg]; rfl
      rw [hS]
      exact rmark_nil_h w B b base f q d hB h.at_ hg.1 hg.2.1 hg.2.2.1 hg.2.2.2.1 hg.2.2.2.2
    · have hc := fun j hj => row_cells (n := ms.length) rfl htk j hj
      cases hi : idx ms q with
      | some j =>
        obtain ⟨hj, hjq, hne⟩ := idx_some hi
        have hS : markS base ms f q d = (base, ms.set j (f, q, d)) := by unfold markS; rw [if_pos hg, hi]
        rw [hS]
        refine (rmark_hit_h w b g ms.length cap cur base ms f q d rfl h.at_ hrow hl hc hg.1 hg.2.1 hg.2.2.1 hg.2.2.2.1 hg.2.2.2.2 j hj hjq hne).mono ?_
        rintro e w' ⟨rfl, hr, hgr⟩
        have hgb : b ≠ g := by rintro rfl; have := h.at_; rw [hrow] at this; simp at this
        have hsz : ms.length * 3 ≤ cur.toList.length := by simp [hcs]; omega
        have hr' : w'.heap[g]? = some (.cells (((cur.set! (j*3) (.int .u32 f)).set! (j*3+1) (.int .u32 q)).set! (j*3+2) (.int .i64 d)) 52 (0, 0)) := by
          rw [hr]
          have hq1 := (hc j hj).2.1
          rw [hjq] at hq1
          have : (cur.set! (j*3) (.int .u32 f)).set! (j*3+1) (.int .u32 q) = cur.set! (j*3) (.int .u32 f) := by
            apply Array.ext_getElem?
            intro i
            simp only [Array.set!_eq_setIfInBounds, Array.getElem?_setIfInBounds, Array.size_setIfInBounds]
            have hlt : j * 3 + 1 < cur.size := by have := Array.length_toList (xs := cur); omega
            by_cases h1 : j * 3 + 1 = i
            · subst h1
              rw [if_pos rfl, if_pos hlt, if_neg (by omega), hq1]
            · rw [if_neg h1]
          rw [this]
        refine ⟨rfl, .slice (some ⟨g, 0, none⟩) ms.length cap, ⟨(hgr.block b (Array.getElem?_eq_some_iff.1 h.at_).1 (by simpa using hgb)).trans h.at_, ⟨by rw [flat_length], .inr ⟨g, cap, _, by simp, hbg, hr', by simpa using hcap, hmax, by simp [hcs], ?_⟩⟩⟩, Fr.of_grown b hgr⟩
        have := flat_set (ms := ms) hj (f, q, d) (cur.toList.drop (ms.length * 3))
        rw [← htk, List.take_append_drop] at this
        simp only [Array.set!_eq_setIfInBounds, Array.toList_setIfInBounds]
        rw [this, List.length_set]
        rw [show ms.length * 3 = (flat (ms.set j (f, q, d))).length by rw [flat_length, List.length_set]]
        exact List.take_left
      | none =>
        have hne := idx_none hi
        by_cases h8 : ms.length < 8
        · have hS : markS base ms f q d = (base, ms ++ [(f, q, d)]) := by unfold markS; rw [if_pos hg, hi]; simp [h8]
          rw [hS]
          exact rmark_new_h w B b g ms.length cap cur base ms f q d rfl hB h.at_ hrow h8 h.own hc hg.1 hg.2.1 hg.2.2.1 hg.2.2.2.1 hg.2.2.2.2 hne
        · have h8' : ms.length = 8 := by omega
          have hS : markS base ms f q d = (wrap64 (base + (ms.getD 0 (0,0,0)).2.2), ms.tail ++ [(f, q, d)]) := by unfold markS; rw [if_pos hg, hi]; simp [h8]
          rw [hS]
          have hown := h.own
          have hat := h.at_
          rw [h8'] at hown hat hc
          exact rmark_full_h w B b g cap cur base ms f q d h8' _ rfl hB hat hrow hown hc hg.1 hg.2.1 hg.2.2.1 hg.2.2.2.1 hg.2.2.2.2 (fun i hi => hne i (by omega))
  · have hE : markE f q d = 1 := by unfold markE; rw [if_neg hg]
    have hS : markS base ms f q d = (base, ms) := by unfold markS; rw [if_neg hg]
    rw [hE, hS]
    refine (rmark_bad_h w b base sl f q d h.at_ hg).mono ?_
    rintro e w' ⟨rfl, rfl⟩
    exact ⟨rfl, sl, h, ⟨rfl, rfl, rfl, Nat.le_refl _, fun _ _ _ _ => rfl⟩⟩

theorem base_c (w : World) (B b : Nat) (base : Int) (ms : List M) (sl : Value) (h : SAt w B b base ms sl) :
    Calls Try.prog 18 #[.pointer (some ⟨b, 0, none⟩)] w fun e w' => e = .returned (.int .i64 base) ∧ w' = w := by
  have h1 : w.cell? ⟨b, 1, none⟩ = some (.int .i64 base) := by simp [World.cell?, h.at_]
  go_enter Try.func18, Try.ntmps18
  go_wp2
  go_ret
  exact ⟨rfl, rfl⟩

theorem same_row_h (w : World) (g g' n cap cap' : Nat) (cur cur' : Array Value) (ms : List M) (hn : ms.length = n)
   (hrow : w.heap[g]? = some (.cells cur 49 (0, 0))) (hrow' : w.heap[g']? = some (.cells cur' 52 (0, 0))) (hn8 : n ≤ 8) (hcap : n ≤ cap) (hcap' : n ≤ cap')
   (hc : ∀ j, j < n → cur[j * 3]? = some (.int .u32 (ms.getD j (0,0,0)).1) ∧ cur[j * 3 + 1]? = some (.int .u32 (ms.getD j (0,0,0)).2.1) ∧ cur[j * 3 + 2]? = some (.int .i64 (ms.getD j (0,0,0)).2.2))
   (hc' : ∀ j, j < n → cur'[j * 3]? = some (.int .u32 (ms.getD j (0,0,0)).1) ∧ cur'[j * 3 + 1]? = some (.int .u32 (ms.getD j (0,0,0)).2.1) ∧ cur'[j * 3 + 2]? = some (.int .i64 (ms.getD j (0,0,0)).2.2)) :
   Calls Try.prog 17 #[.slice (some ⟨g, 0, none⟩) n cap, .slice (some ⟨g', 0, none⟩) n cap'] w fun e w' => e = .returned (.bool true) ∧ w.grownBy w' none := by
  go_enter Try.func17, Try.ntmps17
  go_wp2
  go_loopw [5] (fun i wr => ∃ k : Nat, k ≤ n ∧ i = .int .i64 k ∧ w.grownBy wr none) (fun i _ => n - (intOf i).toNat)
  case atStart => exact ⟨0, by omega, rfl, ⟨rfl, rfl, rfl, Nat.le_refl _, fun _ _ _ => rfl⟩⟩
  case round =>
    obtain ⟨k, hk, rfl, hgr⟩ := hrel
    have hr : wr.heap[g]? = some (.cells cur 49 (0, 0)) := (hgr.block g (Array.getElem?_eq_some_iff.1 hrow).1 (by simp)).trans hrow
    have hr' : wr.heap[g']? = some (.cells cur' 52 (0, 0)) := (hgr.block g' (Array.getElem?_eq_some_iff.1 hrow').1 (by simp)).trans hrow'
    by_cases hkn : k < n
    · have kc0 : wr.cell? ⟨g, k * 3, none⟩ = some (.int .u32 (ms.getD k (0,0,0)).1) := by simp [World.cell?, hr, (hc k hkn).1]
      have kc1 : wr.cell? ⟨g, k * 3 + 1, none⟩ = some (.int .u32 (ms.getD k (0,0,0)).2.1) := by simp [World.cell?, hr, (hc k hkn).2.1]
      have kc2 : wr.cell? ⟨g, k * 3 + 2, none⟩ = some (.int .i64 (ms.getD k (0,0,0)).2.2) := by simp [World.cell?, hr, (hc k hkn).2.2]
      have kd0 : wr.cell? ⟨g', k * 3, none⟩ = some (.int .u32 (ms.getD k (0,0,0)).1) := by simp [World.cell?, hr', (hc' k hkn).1]
      have kd1 : wr.cell? ⟨g', k * 3 + 1, none⟩ = some (.int .u32 (ms.getD k (0,0,0)).2.1) := by simp [World.cell?, hr', (hc' k hkn).2.1]
      have kd2 : wr.cell? ⟨g', k * 3 + 2, none⟩ = some (.int .i64 (ms.getD k (0,0,0)).2.2) := by simp [World.cell?, hr', (hc' k hkn).2.2]
      generalize (ms.getD k (0,0,0)).1 = m0 at kc0 kd0
      generalize (ms.getD k (0,0,0)).2.1 = m1 at kc1 kd1
      generalize (ms.getD k (0,0,0)).2.2 = m2 at kc2 kd2
      clear hc hc'
      go_wp2
      go_quiet (fail)
      go_wp2
      go_roundw
      case rel => exact ⟨k + 1, by omega, by go_num, hgr.os, hgr.tape, hgr.output, by simpa using hgr.size, fun i hi h => by simpa using hgr.block i hi h⟩
      case measure => simp [intOf]; omega
    · obtain rfl : k = n := by omega
      go_wp2
      go_ret
      exact ⟨rfl, hgr⟩
end Go.Proofs.Ythonhnjdbnkfpaa
