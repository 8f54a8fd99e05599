/-
  The walk of ShiftBack.
  Conditions: those that each theorem names.
-/
import Derived.Test.YthonhnjdbnkfpaaSQ
namespace Go.Proofs.Ythonhnjdbnkfpaa
open Go.ChangeShapes Go.WideShapes Go.ChangeAt Go.RowKit
set_option linter.unusedVariables false

/-- Behind the mark, ahead of the two appends. -/
structure BM (w w1 : World) (b : Nat) (S : Int) (base : Int) (ms : List M) (sl vf vt : Value) (all : List Pc) : Prop where
  S_ : SAt w1 w.heap.size b base ms sl
  f : w1.ownsRow w.heap.size 27 1 vf all.length (fsOf S all)
  t : w1.ownsRow w.heap.size 27 1 vt all.length (qsOf S all)
  D : vt.ownBlock = none ∨ vt.ownBlock ≠ vf.ownBlock
  B : Below w.heap.size w w1

theorem BL.marked {w wr w1 : World} {b k : Nat} {S base a base' : Int} {ms ms' : List M} {sl vf vt sl' : Value} {all old cur : List Pc} (h : BL w wr b S k base a ms sl vf vt all old cur) (hk : k ≤ 200)
    (hS : SAt w1 w.heap.size b base' ms' sl') (hf : Fr wr w1 b sl.ownBlock) (hb : w.heap.size ≤ b) : BM w w1 b S base' ms' sl' vf vt all := by
  refine ⟨hS, row_fr h.f h.S_ hf, row_fr h.t h.S_ hf, ?_, fr_below h.B h.B.size hf hb h.S_.owns⟩
  obtain ⟨A, hA, A0, A1, hc⟩ := h.I.at_
  cases ha : all with
  | nil => left; rw [(h.z ha).2]; rfl
  | cons q qs =>
    right
    have hp : 0 < all.length := by rw [ha]; simp
    exact rows_ne h.t h.f hp hp fun e => (first_ne (s := S) (p := q) hc (by omega) hp).2 e.symm

theorem BM.one {w w1 w2 : World} {b : Nat} {S base A : Int} {ms : List M} {sl vf vt vf' : Value} {all : List Pc} {p : Pc} {o : Obj} (h : BM w w1 b S base ms sl vf vt all) (hc : Chain 0 A all) (hA : A ≤ 400000) (hz : all = [] → vt = .slice none 0 0)
    {X : Int} (hown : w2.ownsRow w.heap.size 27 1 vf' (all.length + 1) (fsOf S all ++ [.int .u32 X])) (hX : X = (cv S p).1) (hg : (w1.alloc o).grownBy w2 vf.ownBlock) :
    SAt w2 w.heap.size b base ms sl ∧ w2.ownsRow w.heap.size 27 1 vt all.length (qsOf S all) ∧ Below w.heap.size w w2 ∧ (vf'.ownBlock = none ∨ vf'.ownBlock ≠ vt.ownBlock) ∧ w2.ownsRow w.heap.size 27 1 vf' (all.length + 1) (fsOf S all ++ [.int .u32 (cv S p).1]) := by
  subst hX
  have h1 : SAt (w1.alloc o) w.heap.size b base ms sl := h.S_.grown (World.grownBy_alloc w1 o none)
  have h2 := h1.kept27 (h.f.alloc o) hg
  have h3 := (h.t.alloc o).kept hg h.D
  refine ⟨h2, h3, below_row (grown_below h.B h.B.size (World.grownBy_alloc w1 o none)) (by simp; have := h.B.size; omega) (h.f.alloc o) hg, ?_, hown⟩
  cases ha : all with
  | nil => right; rw [hz ha]; intro e; obtain ⟨g, cap, cur, rfl, _⟩ := own_row hown (by omega); simp [Value.ownBlock] at e
  | cons q qs =>
    right
    have hp : 0 < all.length := by rw [ha]; simp
    refine rows_ne hown h3 (by omega) hp ?_
    have := (first_ne (s := S) (p := p) hc hA hp).1
    simpa [fsOf] using this

theorem BM.two {w w2 w3 : World} {b k : Nat} {S base a : Int} {ms : List M} {sl vt vf' vt' : Value} {all old cur : List Pc} {p : Pc} {o : Obj}
    (hS : SAt w2 w.heap.size b base ms sl) (hf : w2.ownsRow w.heap.size 27 1 vf' (all.length + 1) (fsOf S all ++ [.int .u32 (cv S p).1])) (ht : w2.ownsRow w.heap.size 27 1 vt all.length (qsOf S all)) (hB : Below w.heap.size w w2)
    (hD : vf'.ownBlock = none ∨ vf'.ownBlock ≠ vt.ownBlock)
    {X : Int} (hown : w3.ownsRow w.heap.size 27 1 vt' (all.length + 1) (qsOf S all ++ [.int .u32 X])) (hX : X = (cv S p).2.1) (hg : (w2.alloc o).grownBy w3 vt.ownBlock)
    (hI : Backs (k + 1) S base ms a (all ++ [p]) old cur) : BL w w3 b S (k + 1) base a ms sl vf' vt' (all ++ [p]) old cur := by
  subst hX
  have h1 : SAt (w2.alloc o) w.heap.size b base ms sl := hS.grown (World.grownBy_alloc w2 o none)
  refine ⟨hI, h1.kept27 (ht.alloc o) hg, ?_, ?_, fun e => by simp at e, below_row (grown_below hB hB.size (World.grownBy_alloc w2 o none)) (by simp; have := hB.size; omega) (ht.alloc o) hg⟩
  · have := (hf.alloc o).kept hg hD
    simpa [fsOf] using this
  · simpa [qsOf] using hown

theorem BL.same {w wr : World} {b k : Nat} {S base a a' : Int} {ms : List M} {sl vf vt : Value} {all old cur : List Pc} (h : BL w wr b S k base a ms sl vf vt all old cur) (hI : Backs (k + 1) S base ms a' all old cur) :
    BL w wr b S (k + 1) base a' ms sl vf vt all old cur := ⟨hI, h.S_, h.f, h.t, h.z, h.B⟩

theorem hideIt {p : Prop} (h : p) : Hid p := h
theorem one_news (w : World) (v : Value) (t : TypeId) : ∀ j u, [v][j]? = some u → (w.alloc (.cells #[v] t)).cell? ((⟨w.heap.size, 0, none⟩ : Addr).add j) = some u := by
  intro j u hj
  match j, hj with
  | 0, hj => simp at hj; subst hj; simp [Addr.add]
theorem one_cell (x : Int) : ∀ u ∈ [Value.int .u32 x], u.oneCell' = true := by
  intro u hu; simp at hu; subst hu; rfl

theorem backs_c (w : World) (B b : Nat) (base : Int) (ms : List M) (sl : Value) (y x : Int) (h : SAt w B b base ms sl) (hl : ms.length ≤ 8) (hb : backL y base ms = x) :
    Calls Try.prog 12 #[.pointer (some ⟨b, 0, none⟩), .int .u32 y] w fun e w' => e = .returned (.int .u32 x) ∧ w.grownBy w' none := by
  rw [← hb]; exact back_c w B b base ms sl y h hl

theorem in_all {S x : Int} {all : List Pc} (h : ∀ q, q < all.length → ¬ (0 < wrap32 ((x - (cv S (all.getD q (0,0,0))).1) % 4294967296) ∧ 0 < wrap32 (((cv S (all.getD q (0,0,0))).2.1 - x) % 4294967296))) :
    ∀ p ∈ all, ¬ (0 < wrap32 ((x - (cv S p).1) % 4294967296) ∧ 0 < wrap32 (((cv S p).2.1 - x) % 4294967296)) := by
  intro p hp
  obtain ⟨q, hq, rfl⟩ := List.getElem_of_mem hp
  have := h q hq
  rw [List.getD_eq_getElem?_getD, List.getElem?_eq_getElem hq] at this
  exact this

theorem old_last {k : Nat} {S base a : Int} {ms : List M} {all old cur us : List Pc} {p : Pc} (h : Backs k S base ms a all old cur) (ho : old = us ++ [p]) : 8 < all.length ∧ all.getD (all.length - 9) (0,0,0) = p := by
  have hf := h.full (by rw [ho]; simp)
  have hl : all.length = us.length + 9 := by rw [h.all_, ho]; simp; omega
  refine ⟨by omega, ?_⟩
  rw [hl, h.all_, ho, List.getD_eq_getElem?_getD]
  simp

theorem back_fin {k : Nat} {S base a x Y : Int} {ms : List M} {all old cur : List Pc} (h : Backs k S base ms a all old cur) (hk : k ≤ 200) (y0 : 0 ≤ Y) (hy : Y < (a - S + 1000) % 4294967296) (hx : x = (S + Y) % 4294967296)
    (hin : ∀ q, q < all.length → ¬ (0 < wrap32 ((x - (cv S (all.getD q (0,0,0))).1) % 4294967296) ∧ 0 < wrap32 (((cv S (all.getD q (0,0,0))).2.1 - x) % 4294967296)))
    (hold : 8 < all.length → 0 ≤ wrap32 ((x - (cv S (all.getD (all.length - 9) (0,0,0))).2.1) % 4294967296)) : backL ((x + outD base x ms) % 4294967296) base ms = x := by
  have := h.back hk y0 hy hx (in_all hin) (fun us p ho => by
    obtain ⟨h8, he⟩ := old_last h ho
    have := hold h8
    rw [he] at this
    exact this)
  rwa [show (x + outD base x ms % 4294967296) % 4294967296 = (x + outD base x ms) % 4294967296 by omega] at this

theorem back_law (w : World) (S A : Int) (ao : Option Addr) (n cap : Nat) (FR SQ DL : Nat → Int) (w0 : (Lit.int .u32 S).wf = true) (w2 : (Lit.int .u32 A).wf = true) (hz : n = 0 ∨ ∃ lb lo, ao = some ⟨lb, lo, none⟩)
    (h63 : n ≤ 9223372036854775807)
    (h0 : ∀ lb lo, ao = some ⟨lb, lo, none⟩ → ∀ j, j < n → w.cell? ⟨lb, lo + j * 4, none⟩ = some (.int .u32 (FR j)) ∧ 0 ≤ FR j ∧ FR j < 4294967296)
    (h1 : ∀ lb lo, ao = some ⟨lb, lo, none⟩ → ∀ j, j < n → w.cell? ⟨lb, lo + j * 4 + 1, none⟩ = some (.int .u32 (SQ j)) ∧ 0 ≤ SQ j ∧ SQ j < 4294967296)
    (h2 : ∀ lb lo, ao = some ⟨lb, lo, none⟩ → ∀ j, j < n → w.cell? ⟨lb, lo + j * 4 + 2, none⟩ = some (.int .i64 (DL j)) ∧ -9223372036854775808 ≤ DL j ∧ DL j ≤ 9223372036854775807) :
    Calls Try.prog 4 #[.int .u32 S, .slice ao n cap, .int .u32 A] w fun e w' => e = .returned (.bool true) ∧ Below w.heap.size w w' := by
  have z0 := bounds_u32 w0
  obtain ⟨z01, z02⟩ := z0
  by_cases hn : 200 < n
  · go_enter Try.func4, Try.ntmps4
    go_wp2_with (first
      | (go_at_call 8; refine (awakeC _).mono ?_; rintro e v1 ⟨rfl, hb⟩))
    go_ret
    exact ⟨rfl, by assumption⟩
  · obtain ⟨i0, hi, hz0, hz1, hz2⟩ := info_parts Try.info27
    go_enter Try.func4, Try.ntmps4
    go_wp2_with (first
      | (go_at_call 8; refine (awakeC _).mono ?_; rintro e v1 ⟨rfl, hb⟩)
      | (go_at_call 9; refine (new_c _ w.heap.size).mono ?_; rintro e v2 ⟨rfl, hS, hgr⟩; have hbk := hb.size; have hb := grown_below hb hb.size hgr))
    go_loopw [8, 9, 10, 11] (fun at_ vf vt i wr => ∃ (k : Nat) (base : Int) (ms : List M) (sl : Value) (a : Int) (all old cur : List Pc), k ≤ n ∧ i = .int .i64 k ∧ at_ = .int .u32 a ∧ BL w wr v1.heap.size S k base a ms sl vf vt all old cur) (fun _ _ _ i _ => n - (intOf i).toNat)
    case atStart => exact ⟨0, 0, [], .slice none 0 0, S, [], [], [], by omega, rfl, rfl, ⟨Backs.start z01 (by omega), hS, World.ownsRow_nil _ _ _ _, World.ownsRow_nil _ _ _ _, fun _ => ⟨rfl, rfl⟩, hb⟩⟩
    case round =>
      clear hS hb hgr
      obtain ⟨k, base, ms, sl, a, all, old, cur, hk, rfl, rfl, hL⟩ := hrel
      obtain ⟨AA, hAA, hA0, hA1, hch⟩ := hL.I.at_
      have a0 : 0 ≤ a := by omega
      have a1 : a < 4294967296 := by omega
      by_cases hkn : k < n
      · obtain ⟨lb, lo, rfl⟩ : ∃ lb lo, ao = some ⟨lb, lo, none⟩ := hz.resolve_left (by omega)
        obtain ⟨c0, f0, f1⟩ := h0 lb lo rfl k hkn
        obtain ⟨c1, q0, q1⟩ := h1 lb lo rfl k hkn
        obtain ⟨c2, d0, d1⟩ := h2 lb lo rfl k hkn
        have k0 : wr.cell? ⟨lb, lo + k * 4, none⟩ = some (.int .u32 (FR k)) := (hL.B.cell (by exact World.block_lt_of_cell? w _ c0)).trans c0
        have k1 : wr.cell? ⟨lb, lo + k * 4 + 1, none⟩ = some (.int .u32 (SQ k)) := (hL.B.cell (by exact World.block_lt_of_cell? w _ c1)).trans c1
        have k2 : wr.cell? ⟨lb, lo + k * 4 + 2, none⟩ = some (.int .i64 (DL k)) := (hL.B.cell (by exact World.block_lt_of_cell? w _ c2)).trans c2
        generalize FR k = fr at k0 f0 f1
        generalize SQ k = sq at k1 q0 q1
        generalize DL k = dl at k2 d0 d1
        have he1 : bits .and .u32 fr 1023 = fr % 1024 := and_1023 f0 f1
        have he2 : bits .and .u32 sq 511 = sq % 512 := and_511 q0 q1
        obtain ⟨p0, p1⟩ : 0 ≤ fr % 1024 ∧ fr % 1024 ≤ 1023 := by omega
        obtain ⟨r0, r1⟩ : 0 ≤ sq % 512 ∧ sq % 512 ≤ 511 := by omega
        generalize fr % 1024 = e1 at he1 p0 p1
        generalize sq % 512 = e2 at he2 r0 r1
        have HL : Hid (BL w wr v1.heap.size S k base a ms sl u9 u10 all old cur) := hL
        have HC : Hid (Chain 0 AA all) := hch
        have hl8 := by have := hL.I.len; rw [← List.length_map (f := cv S), ← hL.I.ms_] at this; exact this
        clear hL h0 h1 h2 c0 c1 c2 hz hch hAA
        by_cases g1 : Good ((a + e1) % 4294967296) ((a + e1 + 1 + e2) % 4294967296) dl
        · have G1 : Hid (Good ((a + e1) % 4294967296) ((a + e1 + 1 + e2) % 4294967296) dl) := g1
          clear g1
          obtain ⟨pc, old', cur', hpc, hI'⟩ := HL.out.I.put (by omega) p0 p1 r0 r1 G1.out
          have HP : Hid (cv S pc = ((a + e1) % 4294967296, (a + e1 + 1 + e2) % 4294967296, dl)) := hpc
          have HI : Hid (Backs (k + 1) S (markS base ms ((a + e1) % 4294967296) ((a + e1 + 1 + e2) % 4294967296) dl).1 (markS base ms ((a + e1) % 4294967296) ((a + e1 + 1 + e2) % 4294967296) dl).2 ((a + e1 + 1 + e2) % 4294967296) (all ++ [pc]) old' cur') := hI'
          have hal : all.length ≤ 200 := by have := HL.out.I.num; omega
          have HA : Hid (AA ≤ 400000) := by unfold Hid; omega
          have HZ : Hid (all = [] → u10 = .slice none 0 0) := fun e => (HL.out.z e).2
          have HF : Hid ((a + e1) % 4294967296 = (cv S pc).1) := by unfold Hid; rw [hpc]
          have HQ : Hid ((a + e1 + 1 + e2) % 4294967296 = (cv S pc).2.1) := by unfold Hid; rw [hpc]
          clear hpc hI'
          go_wp2_with (first
            | (at_builtin; refine wpList_append_own _ rfl (.tmp 62) (.tmp 64) 30 rfl w.heap.size 27 i0 _ 1 4 Try.underlying30 hi hz0 hz1 hz2 rfl (by decide) u10 all.length (qsOf S all) rfl (HN.out.2.1.alloc _) ⟨w2.heap.size, 0, none⟩ 1 1 [.int .u32 ((a + e1 + 1 + e2) % 4294967296)] rfl rfl (one_news _ _ _) (one_cell _) (by unfold maxLen; omega) (by omega) (by have := HN.out.2.2.1.size; simp; omega) ?_; intro vt' w3 hown3 hgrow3 _)
            | (at_builtin; refine wpList_append_own _ rfl (.tmp 58) (.tmp 60) 30 rfl w.heap.size 27 i0 _ 1 4 Try.underlying30 hi hz0 hz1 hz2 rfl (by decide) u9 all.length (fsOf S all) rfl (HM.out.f.alloc _) ⟨w1.heap.size, 0, none⟩ 1 1 [.int .u32 ((a + e1) % 4294967296)] rfl rfl (one_news _ _ _) (one_cell _) (by unfold maxLen; omega) (by omega) (by have := HM.out.B.size; simp; omega) ?_; intro vf' w2 hown2 hgrow2 _; have HN1 := HM.out.one HC.out HA.out HZ.out hown2 HF.out hgrow2; have HN := hideIt HN1; clear HN1)
            | (go_at_call 10; refine (markgood_c _ w.heap.size v1.heap.size base ms sl _ _ dl HL.out.S_ HL.out.B.size hl8 G1.out).mono ?_; rintro e' w1 ⟨rfl, sl1, hS1, hf1⟩; have HM : Hid (BM w w1 v1.heap.size S _ _ sl1 u9 u10 all) := HL.out.marked (by omega) hS1 hf1 hbk))
          refine ⟨⟨k + 1, _, _, sl1, _, all ++ [pc], old', cur', by omega, by go_num, rfl, BM.two HN.out.1 HN.out.2.2.2.2 HN.out.2.1 HN.out.2.2.1 HN.out.2.2.2.1 hown3 HQ.out hgrow3 HI.out⟩, by simp [intOf]; omega⟩
        · have G1 : Hid (¬ Good ((a + e1) % 4294967296) ((a + e1 + 1 + e2) % 4294967296) dl) := g1
          clear g1
          go_wp2_with (go_at_call 10; refine (markbad_c _ w.heap.size v1.heap.size base ms sl _ _ dl HL.out.S_ G1.out).mono ?_; rintro e' w1 ⟨rfl, rfl⟩)
          refine ⟨⟨k + 1, _, _, sl, _, all, old, cur, by omega, by go_num, rfl, HL.out.same (HL.out.I.next p0 p1 r0 r1)⟩, by simp [intOf]; omega⟩
      · obtain rfl : k = n := by omega
        have HL : Hid (BL w wr v1.heap.size S k base a ms sl u9 u10 all old cur) := hL
        have hd : 1000 ≤ (a - S + 1000) % 4294967296 := by omega
        have hal : all.length ≤ 200 := by have := HL.out.I.num; omega
        clear hL h0 h1 h2 hz hch hAA
        have hA0' := (bounds_u32 w2).1
        have hY0 : 0 ≤ A.tmod ((a - S) % 4294967296 + 1000) := by rw [Int.tmod_eq_emod_of_nonneg hA0']; exact Int.emod_nonneg _ (by omega)
        have hY1 : A.tmod ((a - S) % 4294967296 + 1000) < (a - S) % 4294967296 + 1000 := by rw [Int.tmod_eq_emod_of_nonneg hA0']; exact Int.emod_lt_of_pos _ (by omega)
        have hY2 : (a - S) % 4294967296 + 1000 ≤ (a - S + 1000) % 4294967296 := by omega
        generalize hY : A.tmod ((a - S) % 4294967296 + 1000) = Y at hY0 hY1
        cases hall : all with
        | nil =>
          obtain ⟨rfl, rfl⟩ := HL.out.z hall
          have HBK : Hid (backL (((S + Y) % 4294967296 + outD base ((S + Y) % 4294967296) ms) % 4294967296) base ms = (S + Y) % 4294967296) :=
            back_fin HL.out.I (by omega) hY0 (by omega) rfl (fun q hq => by rw [hall] at hq; simp at hq) (fun h => by rw [hall] at h; simp at h)
          have hl8 : ms.length ≤ 8 := by have := HL.out.I.len; rw [← List.length_map (f := cv S), ← HL.out.I.ms_] at this; exact this
          obtain ⟨x, hx⟩ : ∃ x, x = (S + Y) % 4294967296 := ⟨_, rfl⟩
          rw [← hx] at HBK
          have hx0 : 0 ≤ x := by omega
          have hx1 : x < 4294967296 := by omega
          have HX : Hid (x = (S + Y) % 4294967296) := hx
          clear hY0 hY1 hY2 hx
          go_wp2
          rw [← HX.out]
          clear hY
          go_loop [15] (fun i => i = .int .i64 0) (fun i => 0)
          case atStart => rfl
          case round =>
            subst hrel
            go_wp2_with (first
                  | (go_at_call 12; refine (backs_c _ w.heap.size v1.heap.size base ms sl _ x hS1 hl8 HBK.out).mono ?_; rintro e' w3 ⟨rfl, hg2⟩; have hB2 := grown_below hB1 hB1.size hg2)
                  | (go_at_call 11; refine (out_c _ w.heap.size v1.heap.size base ms sl x HL.out.S_ hl8).mono ?_; rintro e' w1 ⟨rfl, hg1⟩; have hS1 := HL.out.S_.grown hg1; have hB1 := grown_below HL.out.B HL.out.B.size hg1))
            go_ret
            exact ⟨rfl, by assumption⟩
        | cons pc0 pcs =>
          have hK : 0 < all.length := by rw [hall]; simp
          clear hall
          obtain ⟨gf, capf, curf, rfl, _, hgf, hcf, _, _, htf⟩ := own_row HL.out.f hK
          obtain ⟨gt, capt, curt, rfl, _, hgt, hct, _, _, htt⟩ := own_row HL.out.t hK
          generalize hKK : all.length = K at hK hal hcf hct htf htt
          have HK : Hid (all.length = K) := hKK
          clear hKK
          go_wp2
          obtain ⟨x, hx⟩ : ∃ x, x = (S + Y) % 4294967296 := ⟨_, rfl⟩
          rw [← hx]
          have hx0 : 0 ≤ x := by omega
          have hx1 : x < 4294967296 := by omega
          have HX : Hid (x = (S + Y) % 4294967296) := hx
          have HY0 : Hid (0 ≤ Y) := hY0
          have HY : Hid (Y < (a - S + 1000) % 4294967296) := by unfold Hid; omega
          have cf : ∀ j, j < K → wr.cell? ⟨gf, j, none⟩ = some (.int .u32 (cv S (all.getD j (0,0,0))).1) := fun j hj => row_cell hgf htf (by
            have := HK.out; unfold fsOf; rw [List.getElem?_map, List.getElem?_eq_getElem (by omega), List.getD_eq_getElem?_getD, List.getElem?_eq_getElem (by omega)]; rfl)
          have ct : ∀ j, j < K → wr.cell? ⟨gt, j, none⟩ = some (.int .u32 (cv S (all.getD j (0,0,0))).2.1) := fun j hj => row_cell hgt htt (by
            have := HK.out; unfold qsOf; rw [List.getElem?_map, List.getElem?_eq_getElem (by omega), List.getD_eq_getElem?_getD, List.getElem?_eq_getElem (by omega)]; rfl)
          clear hx hY hY0 hY1 hY2 hd hgf hgt htf htt
          go_loop [15] (fun i => ∃ j : Nat, j ≤ K ∧ i = .int .i64 j ∧ ∀ q, q < j → ¬ (0 < wrap32 ((x - (cv S (all.getD q (0,0,0))).1) % 4294967296) ∧ 0 < wrap32 (((cv S (all.getD q (0,0,0))).2.1 - x) % 4294967296))) (fun i => K - (intOf i).toNat)
          case atStart => exact ⟨0, by omega, rfl, by omega⟩
          case round =>
            obtain ⟨j, hj, rfl, hin⟩ := hrel
            by_cases hjK : j < K
            · have cfj := cf j hjK
              have ctj := ct j hjK
              have HIn : Hid (∀ q, q < j → ¬ (0 < wrap32 ((x - (cv S (all.getD q (0,0,0))).1) % 4294967296) ∧ 0 < wrap32 (((cv S (all.getD q (0,0,0))).2.1 - x) % 4294967296))) := hin
              generalize hF : (cv S (all.getD j (0,0,0))).1 = F at cfj
              generalize hT : (cv S (all.getD j (0,0,0))).2.1 = T at ctj
              have HF : Hid ((cv S (all.getD j (0,0,0))).1 = F) := hF
              have HT : Hid ((cv S (all.getD j (0,0,0))).2.1 = T) := hT
              clear cf ct hin hF hT
              go_wp2
              · go_ret
                exact ⟨rfl, HL.out.B⟩
              · rename_i hq1 hq2
                refine ⟨⟨j + 1, by omega, by go_num, fun q hq => ?_⟩, by simp [intOf]; omega⟩
                rcases Nat.lt_or_eq_of_le (Nat.le_of_lt_succ hq) with h | rfl
                · exact HIn.out q h
                · rw [HF.out, HT.out]; omega
              · rename_i hq1
                refine ⟨⟨j + 1, by omega, by go_num, fun q hq => ?_⟩, by simp [intOf]; omega⟩
                rcases Nat.lt_or_eq_of_le (Nat.le_of_lt_succ hq) with h | rfl
                · exact HIn.out q h
                · rw [HF.out, HT.out]; omega
            · obtain rfl : j = K := by omega
              have HIn : Hid (∀ q, q < j → ¬ (0 < wrap32 ((x - (cv S (all.getD q (0,0,0))).1) % 4294967296) ∧ 0 < wrap32 (((cv S (all.getD q (0,0,0))).2.1 - x) % 4294967296))) := hin
              clear hin
              have hl8 : ms.length ≤ 8 := by have := HL.out.I.len; rw [← List.length_map (f := cv S), ← HL.out.I.ms_] at this; exact this
              by_cases h8 : 8 < j
              · have ctj : wr.cell? ⟨gt, j - 8 - 1, none⟩ = some (.int .u32 (cv S (all.getD (j - 9) (0,0,0))).2.1) := ct (j - 9) (by omega)
                by_cases hlt : wrap32 ((x - (cv S (all.getD (j - 9) (0,0,0))).2.1) % 4294967296) < 0
                · generalize hT : (cv S (all.getD (j - 9) (0,0,0))).2.1 = T at ctj hlt
                  clear cf ct hT
                  go_wp2
                  go_ret
                  exact ⟨rfl, HL.out.B⟩
                · have HBK : Hid (backL ((x + outD base x ms) % 4294967296) base ms = x) :=
                    back_fin HL.out.I (by omega) HY0.out HY.out HX.out (fun q hq => HIn.out q (by have := HK.out; omega)) (fun _ => by rw [HK.out]; omega)
                  generalize hT : (cv S (all.getD (j - 9) (0,0,0))).2.1 = T at ctj hlt
                  clear cf ct hT
                  go_wp2_with (first
                  | (go_at_call 12; refine (backs_c _ w.heap.size v1.heap.size base ms sl _ x hS1 hl8 HBK.out).mono ?_; rintro e' w3 ⟨rfl, hg2⟩; have hB2 := grown_below hB1 hB1.size hg2)
                  | (go_at_call 11; refine (out_c _ w.heap.size v1.heap.size base ms sl x HL.out.S_ hl8).mono ?_; rintro e' w1 ⟨rfl, hg1⟩; have hS1 := HL.out.S_.grown hg1; have hB1 := grown_below HL.out.B HL.out.B.size hg1))
                  go_ret
                  exact ⟨rfl, by assumption⟩
              · have HBK : Hid (backL ((x + outD base x ms) % 4294967296) base ms = x) :=
                  back_fin HL.out.I (by omega) HY0.out HY.out HX.out (fun q hq => HIn.out q (by have := HK.out; omega)) (fun h => absurd h (by rw [HK.out]; exact h8))
                clear cf ct
                go_wp2_with (first
                  | (go_at_call 12; refine (backs_c _ w.heap.size v1.heap.size base ms sl _ x hS1 hl8 HBK.out).mono ?_; rintro e' w3 ⟨rfl, hg2⟩; have hB2 := grown_below hB1 hB1.size hg2)
                  | (go_at_call 11; refine (out_c _ w.heap.size v1.heap.size base ms sl x HL.out.S_ hl8).mono ?_; rintro e' w1 ⟨rfl, hg1⟩; have hS1 := HL.out.S_.grown hg1; have hB1 := grown_below HL.out.B HL.out.B.size hg1))
                go_ret
                exact ⟨rfl, by assumption⟩
end Go.Proofs.Ythonhnjdbnkfpaa
