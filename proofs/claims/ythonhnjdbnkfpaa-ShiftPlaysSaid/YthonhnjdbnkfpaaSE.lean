/-
  A ninth mark: the first one goes into the base.
  Conditions: those that each theorem names.
-/
import Derived.Test.YthonhnjdbnkfpaaSD
import Derived.Deep.RegionLaw
namespace Go.Proofs.Ythonhnjdbnkfpaa
open Go.ChangeShapes Go.WideShapes Go.ChangeAt Go.RowKit
set_option linter.unusedVariables false

/-- append onto a row of the call's own that may grow, as one step of a region that draws. -/
theorem step_append_own {P : Program} {ops : Array Oper} {o : Oper} {a : Act} {w : World} {K : Act → World → Prop} {Q : Exit → Act → World → Prop} {E : Prop} (hgd : o.guard = none) (s x : Operand) (t : TypeId)
    (ho : o.op = .call { callee := .builtin .append, args := #[s, x], argTypes := #[t, t] })
    (base : Nat) (e : TypeId) (i : TypeInfo) (z : Value) (size bytes : Nat) (ht : P.underlying t = some (.slice e)) (hi : P.info? e = some i) (hz : i.zero = some z)
    (hsize : i.size = size) (hby : i.bytes = bytes) (hzs : z.cells.size = size) (hsz : 0 < size)
    (v : Value) (n : Nat) (xs : List Value) (hs : a.eval s = v) (hown : w.ownsRow base e size v n xs)
    (ad : Addr) (m c : Nat) (news : List Value) (hx : a.eval x = .slice (some ad) m c) (hl : news.length = m * size) (hnews : ∀ j u, news[j]? = some u → w.cell? (ad.add j) = some u) (h1 : ∀ u ∈ news, u.oneCell' = true)
    (h63 : n + m ≤ maxLen) (hbytes : (n + m) * bytes ≤ 140737488355328) (hbase : base ≤ w.heap.size)
    (h : ∀ v' w', w'.ownsRow base e size v' (n + m) (xs ++ news) → w.grownBy w' v.ownBlock → (v' = .slice none 0 0 ↔ v = .slice none 0 0 ∧ m = 0) → K (a.put o.dst v') w') :
    if Region.wanted o (yielded ops a.tmps) = true then Oper.wp P o a w K Q else E := by
  have hw : Region.wanted o (yielded ops a.tmps) = true := by simp [Region.wanted, hgd]
  rw [if_pos hw]
  exact wp_append_own w s x t ho base e i z size bytes ht hi hz hsize hby hzs hsz v n xs hs hown ad m c news hx hl hnews h1 h63 hbytes hbase h

theorem mk_oneCell (ms : List M) : ∀ u ∈ flat ms, u.oneCell' = true := by
  intro u hu
  unfold flat at hu
  rw [List.mem_flatMap] at hu
  obtain ⟨m, _, hm⟩ := hu
  simp [mk] at hm
  rcases hm with rfl | rfl | rfl <;> rfl

theorem tail_cells {w : World} {g : Nat} {cur : Array Value} {ms : List M} (hn : ms.length = 9) (hg : w.heap[g]? = some (.cells cur 49 (0, 0))) (h : cur.toList.take (9 * 3) = flat ms) :
    ∀ j u, (flat ms.tail)[j]? = some u → w.cell? ((⟨g, 3, none⟩ : Addr).add j) = some u := by
  intro j u hu
  have hlen : (flat ms.tail).length = 24 := by rw [flat_length]; simp [hn]
  have hj : j < 24 := by
    have := (List.getElem?_eq_some_iff.1 hu).1
    omega
  cases ms with
  | nil => simp at hn
  | cons m ms =>
    have e : (flat (m :: ms))[3 + j]? = some u := by
      rw [flat_cons, List.getElem?_append_right (by simp [mk])]
      simpa [mk] using hu
    rw [← h, List.getElem?_take, if_pos (by omega)] at e
    have hadd : (⟨g, 3, none⟩ : Addr).add j = ⟨g, 3 + j, none⟩ := by unfold Addr.add; split <;> simp_all
    rw [hadd]
    simp [World.cell?, hg]
    simpa using e

theorem own_row {w : World} {B : Nat} {e : TypeId} {size : Nat} {v : Value} {n : Nat} {xs : List Value} (h : w.ownsRow B e size v n xs) (hn : 0 < n) :
    ∃ g cap cur, v = .slice (some ⟨g, 0, none⟩) n cap ∧ B ≤ g ∧ w.heap[g]? = some (.cells cur e (0, 0)) ∧ n ≤ cap ∧ cap ≤ maxLen ∧ cur.size = cap * size ∧ cur.toList.take (n * size) = xs := by
  rcases h.2 with ⟨_, h0⟩ | h
  · omega
  · exact h

theorem full_end {w wr w1 w2 w3 w4 : World} {B b g g' g4 cap' cap4 : Nat} {cur4 : Array Value} {base m2 : Int} {ms : List M} {f q d : Int} (hn : ms.length = 8) (hB : B ≤ w.heap.size)
    (hgr : w.grownBy wr none) (h1 : ∀ i, i < wr.heap.size → i ≠ g → w1.heap[i]? = wr.heap[i]?) (s1 : wr.heap.size ≤ w1.heap.size) (o1 : w1.os = wr.os ∧ w1.tape = wr.tape ∧ w1.output = wr.output)
    (hw2 : w1.setCell ⟨b, 2, none⟩ (.slice (some ⟨g', 0, none⟩) 9 cap') = w2) (hs3 : w3.heap.size = w2.heap.size) (hx3 : ∀ i, i ≠ b → w3.heap[i]? = w2.heap[i]?)
    (ho3 : w3.os = w2.os ∧ w3.tape = w2.tape ∧ w3.output = w2.output) (hgrow4 : w3.drew.grownBy w4 (Value.slice none 0 0).ownBlock)
    (hown4 : w4.ownsRow B 49 3 (.slice (some ⟨g4, 0, none⟩) 8 cap4) (0 + 8) ([] ++ flat (ms ++ [(f, q, d)]).tail))
    (hgg4 : w4.heap[g4]? = some (.cells cur4 49 (0, 0)))
    (hb4 : w4.heap[b]? = some (.cells #[.bool true, .int .i64 (wrap64 (base + m2)), .slice (some ⟨g', 0, none⟩) 9 cap'] 47 (0, 0))) :
    ∃ sl, SAt (w4.setCell ⟨b, 2, none⟩ (.slice (some ⟨g4, 0, none⟩) 8 cap4)) B b (wrap64 (base + m2)) (ms.tail ++ [(f, q, d)]) sl ∧ Fr w (w4.setCell ⟨b, 2, none⟩ (.slice (some ⟨g4, 0, none⟩) 8 cap4)) b (some g) := by
  have hgb : g4 ≠ b := by rintro rfl; rw [hb4] at hgg4; simp at hgg4
  have e2 : w2.heap.size = w1.heap.size := by rw [← hw2]; simp
  have x2 : ∀ i, i ≠ b → w2.heap[i]? = w1.heap[i]? := fun i hi => by rw [← hw2]; exact Below.heap_setCell _ _ _ _ hi
  have o2 : w2.os = w1.os ∧ w2.tape = w1.tape ∧ w2.output = w1.output := by rw [← hw2]; exact ⟨rfl, rfl, rfl⟩
  have z4 := hgrow4.size
  have z4' : w3.heap.size ≤ w4.heap.size := z4
  have et : (ms ++ [(f, q, d)]).tail = ms.tail ++ [(f, q, d)] := by cases ms with | nil => simp at hn | cons => rfl
  have el : (ms.tail ++ [(f, q, d)]).length = 8 := by simp [hn]
  refine ⟨.slice (some ⟨g4, 0, none⟩) 8 cap4, ⟨heap_setCell_at (i := 2) _ hb4, ?_⟩, ⟨?_, ?_, ?_, ?_, ?_⟩⟩
  · rcases hown4.2 with ⟨hv, _⟩ | ⟨g5, cap5, cur5, hv, k1, k2, k3, k4, k5, k6⟩
    · simp at hv
    · simp only [Value.slice.injEq, Option.some.injEq, Addr.mk.injEq, and_true] at hv
      obtain ⟨rfl, _, rfl⟩ := hv
      refine ⟨by rw [flat_length], .inr ⟨g4, cap4, cur5, by rw [el], k1, (Below.heap_setCell _ _ _ _ hgb).trans k2, by rw [el]; simpa using k3, k4, k5, ?_⟩⟩
      rw [el, ← et]
      simpa using k6
  · exact (hgrow4.os.trans (ho3.1.trans (o2.1.trans o1.1))).trans hgr.os
  · exact (hgrow4.tape.trans (ho3.2.1.trans (o2.2.1.trans o1.2.1))).trans hgr.tape
  · exact (hgrow4.output.trans (ho3.2.2.trans (o2.2.2.trans o1.2.2))).trans hgr.output
  · have := hgr.size; simp; omega
  · intro i hi hib hig
    have hi' : i < wr.heap.size := Nat.lt_of_lt_of_le hi hgr.size
    rw [Below.heap_setCell _ _ _ _ hib, hgrow4.block i (by show i < w3.heap.size; omega) (by simp [Value.ownBlock])]
    show w3.heap[i]? = _
    rw [hx3 i hib, x2 i hib, h1 i hi' (fun e => hig (by rw [e]))]
    exact hgr.block i hi (by simp)

set_option maxHeartbeats 3000000 in
theorem mark_full_h (w : World) (B b g cap : Nat) (cur : Array Value) (base : Int) (ms : List M) (f q d : Int) (hn : ms.length = 8) (m2 : Int) (hm2 : (ms.getD 0 (0,0,0)).2.2 = m2) (hB : B ≤ w.heap.size)
   (hblk : w.heap[b]? = some (.cells #[.bool true, .int .i64 base, .slice (some ⟨g, 0, none⟩) 8 cap] 47 (0, 0)))
   (hrow : w.heap[g]? = some (.cells cur 49 (0, 0))) (hown : w.ownsRow B 49 3 (.slice (some ⟨g, 0, none⟩) 8 cap) 8 (flat ms))
   (hc : ∀ j, j < 8 → cur[j * 3]? = some (.int .u32 (ms.getD j (0,0,0)).1) ∧ cur[j * 3 + 1]? = some (.int .u32 (ms.getD j (0,0,0)).2.1) ∧ cur[j * 3 + 2]? = some (.int .i64 (ms.getD j (0,0,0)).2.2))
   (g1 : -2048 ≤ d) (g2 : d ≤ 2048) (g3 : 1 ≤ (q - f) % 4294967296) (g4 : (q - f) % 4294967296 ≤ 65535) (g5 : 1 ≤ (q - f) % 4294967296 + d)
   (hne : ∀ i, i < 8 → (ms.getD i (0,0,0)).2.1 ≠ q) :
   Calls Try.prog 10 #[.pointer (some ⟨b, 0, none⟩), .int .u32 f, .int .u32 q, .int .i64 d] w fun e w' => e = .returned (.int .i64 0) ∧
     ∃ sl, SAt w' B b (wrap64 (base + m2)) (ms.tail ++ [(f, q, d)]) sl ∧ Fr w w' b (some g) := by
  have hb : b < w.heap.size := (Array.getElem?_eq_some_iff.1 hblk).1
  have hgs : g < w.heap.size := (Array.getElem?_eq_some_iff.1 hrow).1
  have hgb : g ≠ b := by rintro rfl; rw [hblk] at hrow; simp at hrow
  have h0 : w.cell? ⟨b, 0, none⟩ = some (.bool true) := by simp [World.cell?, hblk]
  have h1 : w.cell? ⟨b, 1, none⟩ = some (.int .i64 base) := by simp [World.cell?, hblk]
  have h2 : w.cell? ⟨b, 2, none⟩ = some (.slice (some ⟨g, 0, none⟩) 8 cap) := by simp [World.cell?, hblk]
  obtain ⟨i0, hi, hz0, hz1, hz2⟩ := info_parts Try.info49
  go_enter Try.func10, Try.ntmps10
  go_wp2
  go_loopw [50] (fun i wr => ∃ k : Nat, k ≤ 8 ∧ i = .int .i64 k ∧ w.grownBy wr none) (fun i _ => 8 - (intOf i).toNat)
  case atStart => exact ⟨0, by omega, rfl, ⟨rfl, rfl, rfl, Nat.le_refl _, fun _ _ _ => rfl⟩⟩
  case round =>
    obtain ⟨k, hk, rfl, hgr⟩ := hrel
    have hblk' : wr.heap[b]? = some (.cells #[.bool true, .int .i64 base, .slice (some ⟨g, 0, none⟩) 8 cap] 47 (0, 0)) := (hgr.block b hb (by simp)).trans hblk
    have hrow' : wr.heap[g]? = some (.cells cur 49 (0, 0)) := (hgr.block g hgs (by simp)).trans hrow
    have hown' := hown.kept hgr (by simp [Value.ownBlock])
    have kb0 : wr.cell? ⟨b, 0, none⟩ = some (.bool true) := by simp [World.cell?, hblk']
    have kb1 : wr.cell? ⟨b, 1, none⟩ = some (.int .i64 base) := by simp [World.cell?, hblk']
    have kb2 : wr.cell? ⟨b, 2, none⟩ = some (.slice (some ⟨g, 0, none⟩) 8 cap) := by simp [World.cell?, hblk']
    have kbf : ∀ i, wr.frozen? ⟨b, i, none⟩ = false := fun i => by simp [World.frozen?, hblk']
    have hb' : b < wr.heap.size := Nat.lt_of_lt_of_le hb hgr.size
    have hgs' : g < wr.heap.size := Nat.lt_of_lt_of_le hgs hgr.size
    have nb : b ≠ wr.heap.size := by omega
    by_cases hkn : k = 8
    · subst hkn
      clear hc hne
      go_wp2_with (first
        | (at_builtin; refine wpList_append_own _ rfl (.tmp 74) (.tmp 79) 34 rfl B 49 i0 _ 3 16 Try.underlying34 hi hz0 hz1 hz2 rfl (by decide) _ _ _ rfl (hown'.alloc _) ⟨wr.heap.size, 0, none⟩ 1 1 [.int .u32 f, .int .u32 q, .int .i64 d] rfl rfl ?c1 ?c2 ?c3 ?c4 ?c5 ?_)
        | go_in)
      case c1 =>
        intro j u hj
        match j, hj with
        | 0, hj => simp at hj; subst hj; simp [Addr.add]
        | 1, hj => simp at hj; subst hj; simp [Addr.add]
        | 2, hj => simp at hj; subst hj; simp [Addr.add]
      case c2 => intro u hu; simp at hu; rcases hu with rfl | rfl | rfl <;> rfl
      case c3 => unfold maxLen; omega
      case c4 => omega
      case c5 => have := hgr.size; simp; omega
      · intro v1 w1 hown1 hgrow1 _
        have hs1 := hgrow1.size
        simp at hs1
        have hbw1 : w1.heap[b]? = some (.cells #[.bool true, .int .i64 base, .slice (some ⟨g, 0, none⟩) 8 cap] 47 (0, 0)) := by
          rw [hgrow1.block b (by simp; omega) (by simp [Value.ownBlock]; exact fun e => hgb e.symm), Below.heap_alloc _ _ b hb']
          exact hblk'
        have q0 : w1.cell? ⟨b, 0, none⟩ = some (.bool true) := by simp [World.cell?, hbw1]
        have q1 : w1.cell? ⟨b, 1, none⟩ = some (.int .i64 base) := by simp [World.cell?, hbw1]
        have q2 : w1.cell? ⟨b, 2, none⟩ = some (.slice (some ⟨g, 0, none⟩) 8 cap) := by simp [World.cell?, hbw1]
        have qf : ∀ i, w1.frozen? ⟨b, i, none⟩ = false := fun i => by simp [World.frozen?, hbw1]
        have hown2 := hown1.2
        rcases hown2 with ⟨_, h0'⟩ | ⟨g', cap', cur', rfl, hbg', hg', hcap', hmax', hcs', htake'⟩
        · omega
        · have hg'b : g' ≠ b := by rintro rfl; rw [hbw1] at hg'; simp at hg'
          clear hown'
          have z : cur'[2]? = some (.int .i64 (ms.getD 0 (0,0,0)).2.2) := (row_cells (ms := ms ++ [(f, q, d)]) (n := 9) (by simp [hn]) (by rw [flat_append]; exact htake') 0 (by omega)).2.2.trans (by cases ms with
            | nil => simp at hn
            | cons m ms => rfl)
          have zc : w1.cell? ⟨g', 2, none⟩ = some (.int .i64 (ms.getD 0 (0,0,0)).2.2) := by simp [World.cell?, hg', z]
          rw [hm2] at zc
          go_wp2
          have hg1 := heap_setCell_at (i := 2) (.slice (some ⟨g', 0, none⟩) 9 cap') hbw1
          have hg2 : (w1.setCell ⟨b, 2, none⟩ (.slice (some ⟨g', 0, none⟩) 9 cap')).heap[g']? = some (.cells cur' 49 (0, 0)) := (Below.heap_setCell _ _ _ _ hg'b).trans hg'
          generalize hw2 : w1.setCell ⟨b, 2, none⟩ (.slice (some ⟨g', 0, none⟩) 9 cap') = w2 at hg1 hg2
          have s0 : w2.cell? ⟨b, 0, none⟩ = some (.bool true) := by simp [World.cell?, hg1]
          have s1 : w2.cell? ⟨b, 1, none⟩ = some (.int .i64 base) := by simp [World.cell?, hg1]
          have s2 : w2.cell? ⟨b, 2, none⟩ = some (.slice (some ⟨g', 0, none⟩) 9 cap') := by simp [World.cell?, hg1]
          have sf : ∀ i, w2.frozen? ⟨b, i, none⟩ = false := fun i => by simp [World.frozen?, hg1]
          have s3 : w2.cell? ⟨g', 2, none⟩ = some (.int .i64 m2) := by have := z; rw [hm2] at this; simp [World.cell?, hg2, this]
          go_region
          have hg3 : ((w2.setCell ⟨b, 1, none⟩ (.int .i64 (wrap64 (base + m2)))).drew).heap[b]? = some (.cells #[.bool true, .int .i64 (wrap64 (base + m2)), .slice (some ⟨g', 0, none⟩) 9 cap'] 47 (0, 0)) := heap_setCell_at (i := 1) (.int .i64 (wrap64 (base + m2))) hg1
          have hg4 : ((w2.setCell ⟨b, 1, none⟩ (.int .i64 (wrap64 (base + m2)))).drew).heap[g']? = some (.cells cur' 49 (0, 0)) := (Below.heap_setCell _ _ _ _ hg'b).trans hg2
          have hs3 : ((w2.setCell ⟨b, 1, none⟩ (.int .i64 (wrap64 (base + m2)))).drew).heap.size = w2.heap.size := by simp [World.drew]
          have hx3 : ∀ i, i ≠ b → ((w2.setCell ⟨b, 1, none⟩ (.int .i64 (wrap64 (base + m2)))).drew).heap[i]? = w2.heap[i]? := fun i hi => Below.heap_setCell _ _ _ _ hi
          have ho3 : ((w2.setCell ⟨b, 1, none⟩ (.int .i64 (wrap64 (base + m2)))).drew).os = w2.os ∧ ((w2.setCell ⟨b, 1, none⟩ (.int .i64 (wrap64 (base + m2)))).drew).tape = w2.tape ∧ ((w2.setCell ⟨b, 1, none⟩ (.int .i64 (wrap64 (base + m2)))).drew).output = w2.output := ⟨rfl, rfl, rfl⟩
          generalize hw3 : (w2.setCell ⟨b, 1, none⟩ (.int .i64 (wrap64 (base + m2)))).drew = w3 at hg3 hg4 hs3 hx3 ho3
          have t0 : w3.cell? ⟨b, 0, none⟩ = some (.bool true) := by simp [World.cell?, hg3]
          have t1 : w3.cell? ⟨b, 1, none⟩ = some (.int .i64 (wrap64 (base + m2))) := by simp [World.cell?, hg3]
          have t2 : w3.cell? ⟨b, 2, none⟩ = some (.slice (some ⟨g', 0, none⟩) 9 cap') := by simp [World.cell?, hg3]
          have tf : ∀ i, w3.frozen? ⟨b, i, none⟩ = false := fun i => by simp [World.frozen?, hg3]
          clear s0 s1 s2 s3 sf q0 q1 q2 qf zc
          go_wp2
          have hx1 : ∀ i, i < wr.heap.size → i ≠ g → w1.heap[i]? = wr.heap[i]? := fun i hi hig => (hgrow1.block i (by simp; omega) (by simpa [Value.ownBlock] using hig)).trans (Below.heap_alloc _ _ i hi)
          have hz1' : wr.heap.size ≤ w1.heap.size := by omega
          have ho1 : w1.os = wr.os ∧ w1.tape = wr.tape ∧ w1.output = wr.output := ⟨hgrow1.os, hgrow1.tape, hgrow1.output⟩
          have hcapi : (9 : Int) ≤ (cap' : Int) := by omega
          have Hnl : Hid ((flat (ms ++ [(f, q, d)]).tail).length = 8 * 3) := by unfold Hid; rw [flat_length]; simp [hn]
          have Hnews : Hid (∀ j u, (flat (ms ++ [(f, q, d)]).tail)[j]? = some u → w3.drew.cell? ((⟨g', 3, none⟩ : Addr).add j) = some u) :=
            tail_cells (by simp [hn]) hg4 (by rw [flat_append]; exact htake')
          have Hbs : Hid (B ≤ w3.drew.heap.size) := by
            have e1 : w2.heap.size = w1.heap.size := by rw [← hw2]; simp
            have := hgr.size
            show B ≤ w3.heap.size
            rw [hs3, e1]; omega
          have Hbl : Hid (b < w3.heap.size) := by
            have e1 : w2.heap.size = w1.heap.size := by rw [← hw2]; simp
            have := hgr.size
            show b < w3.heap.size
            rw [hs3, e1]; omega
          go_region_law (refine step_append_own rfl (.const (.slice none 0 0)) (.tmp 118) 34 rfl B 49 i0 _ 3 16 Try.underlying34 hi hz0 hz1 hz2 rfl (by decide) (.slice none 0 0) 0 [] (by simp [Act.eval]) (World.ownsRow_nil _ _ _ _) ⟨g', 3, none⟩ 8 8 (flat (ms ++ [(f, q, d)]).tail) (by simp [Act.eval, Act.put]) Hnl.out Hnews.out (mk_oneCell _) (by unfold maxLen; omega) (by omega) Hbs.out ?_; intro v3 w4 hown4 hgrow4 _; obtain ⟨g4, cap4, cur4, rfl, hbg4, hgg4, hcap4, hmax4, hcs4, htk4⟩ := own_row hown4 (by omega); have hb4 : w4.heap[b]? = some (.cells #[.bool true, .int .i64 (wrap64 (base + m2)), .slice (some ⟨g', 0, none⟩) 9 cap'] 47 (0, 0)) := (hgrow4.block b Hbl.out (by simp [Value.ownBlock])).trans hg3; have p2 : w4.cell? ⟨b, 2, none⟩ = some (.slice (some ⟨g', 0, none⟩) 9 cap') := (by simp [World.cell?, hb4]); have pf : w4.frozen? ⟨b, 2, none⟩ = false := (by simp [World.frozen?, hb4]))
          all_goals go_wp2
          all_goals go_ret
          all_goals exact ⟨rfl, (full_end hn hB hgr hx1 hz1' ho1 hw2 hs3 hx3 ho3 hgrow4 hown4 hgg4 hb4).elim fun sl h => ⟨⟨sl, h.1⟩, h.2⟩⟩
    · have hkn' : k < 8 := by omega
      have kc0 : wr.cell? ⟨g, k * 3, none⟩ = some (.int .u32 (ms.getD k (0,0,0)).1) := by simp [World.cell?, hrow', (hc k (by omega)).1]
      have kc1 : wr.cell? ⟨g, k * 3 + 1, none⟩ = some (.int .u32 (ms.getD k (0,0,0)).2.1) := by simp [World.cell?, hrow', (hc k (by omega)).2.1]
      have kc2 : wr.cell? ⟨g, k * 3 + 2, none⟩ = some (.int .i64 (ms.getD k (0,0,0)).2.2) := by simp [World.cell?, hrow', (hc k (by omega)).2.2]
      generalize hm0 : (ms.getD k (0,0,0)).1 = m0 at kc0
      generalize hm1 : (ms.getD k (0,0,0)).2.1 = m1 at kc1
      generalize hm3 : (ms.getD k (0,0,0)).2.2 = m3 at kc2
      have hq : (m1 == q) = false := by rw [← hm1]; simpa using hne k (by omega)
      clear hc hne
      go_wp2
      go_roundw
      case rel => exact ⟨k + 1, by omega, by go_num, ⟨hgr.os, hgr.tape, hgr.output, by simp; have := hgr.size; omega, fun i hi h => (Below.heap_alloc wr _ i (by have := hgr.size; omega)).trans (hgr.block i hi h)⟩⟩
      case measure => simp [intOf]; omega
end Go.Proofs.Ythonhnjdbnkfpaa
