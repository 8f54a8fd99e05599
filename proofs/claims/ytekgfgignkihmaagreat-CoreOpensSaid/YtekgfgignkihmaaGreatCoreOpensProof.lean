/-
  The law CoreOpens: the given function answers true for every input, and leaves all that was there as it was. No condition.
  The calls are run by a machine of ours, whose answers are proved to be the model's, and which the kernel runs here.
-/
import Derived.Test.YtekgfgignkihmaaGreatKoL
import Derived.Test.YtekgfgignkihmaaGreatRows
import Derived.WalkKit
import Derived.ProofKit
import Derived.OpenShut
import Derived.Deep.Slices
import Derived.Deep.Grids
import Derived.Carry
import Derived.Lib.SmallJoins
namespace Go.Proofs.YtekgfgignkihmaaGreat.coreOpens
open Go.Joins Go.ChangeShapes Go.WideShapes Go.ChangeAt Go.RowKit Go.Deep
set_option linter.unusedVariables false

/-- A row's 'post' where the row does not ask for itself again. -/
theorem post_old {H : Type} {enc : TypeId × Value → H} {P : Program} {f : Func} {s : ChangeSpec} {W W' : World} {args : Array Value} {v : Value} {ds : List (DataW H)} {before : List MemPlace}
    (hW : DataW.Whole enc P f.params.toList s.vars false W args.toList ds [] before)
    (hres : DataW.TrodAll enc P W' W.heap.size (fun _ => false) false f.resultTypes.toList (v.resultList f.resultTypes.size) (s.fn H (ds ++ [])).results [])
    (hargs : DataW.TrodAll enc P W' 0 (fun b => decide (b < W.heap.size)) true f.params.toList args.toList (s.fn H (ds ++ [])).args before)
    (hvars : DataW.TrodVars enc P W' (fun b => decide (b < W.heap.size)) s.vars (s.fn H (ds ++ [])).vars [])
    (hb : Below W.heap.size W W') : s.post enc P f false true false false W args v W' :=
  ⟨ds, [], before, [], before, [], hW, hres, hargs, hvars, World.keptBut_mono (fun _ hp => ⟨hp, Or.inr (Or.inl hp)⟩) (hb.frame (· ∈ before)), fun h => by cases h⟩

theorem laidOut : laidOutB Tryz.prog = true := by kernel_rfl
theorem own : ownKnob Tryz.prog.godebug = none := by kernel_rfl

theorem cellsU8 : Tryz.prog.cellsOf 5 = 1 := by kernel_rfl
theorem cellsBool : Tryz.prog.cellsOf 4 = 1 := by kernel_rfl
theorem cellsShape : Tryz.prog.cellsOf 23 = 13 := by kernel_rfl
set_option maxRecDepth 100000 in
theorem shape_open {H : Type} {enc : TypeId × Value → H} {w : World} {base b0 : Nat} {spare : Nat → Bool} {held : Bool} {r : Reach} {v : Value} {d : DataW H} {p : List MemPlace}
    (hv : Value.okWide Tryz.prog w r b0 23 v) (h : DataW.Trod enc Tryz.prog w base spare held 23 v d p) :
    ∃ (o c b2 b3 b4 b5 b6 b7 b8 b9 b10 b11 : Int) (t : Bool), v = .agg #[.int .u8 o, .int .u8 c, .int .u8 b2, .int .u8 b3, .int .u8 b4, .int .u8 b5, .int .u8 b6, .int .u8 b7, .int .u8 b8, .int .u8 b9, .int .u8 b10, .int .u8 b11, .bool t] ∧ (Lit.int .u8 o).wf = true ∧ (Lit.int .u8 c).wf = true ∧ (Lit.int .u8 b2).wf = true ∧ (Lit.int .u8 b3).wf = true ∧ (Lit.int .u8 b4).wf = true ∧ (Lit.int .u8 b5).wf = true ∧ (Lit.int .u8 b6).wf = true ∧ (Lit.int .u8 b7).wf = true ∧ (Lit.int .u8 b8).wf = true ∧ (Lit.int .u8 b9).wf = true ∧ (Lit.int .u8 b10).wf = true ∧ (Lit.int .u8 b11).wf = true := by
  obtain ⟨cs, rfl, hsz⟩ := okWide_struct Tryz.underlying23 hv
  obtain ⟨l⟩ := cs
  match l, hsz.trans cellsShape with
  | [c0, c1, c2, c3, c4, c5, c6, c7, c8, c9, c10, c11, c12], _ =>
    obtain ⟨fuel, hf⟩ := h
    obtain ⟨xs, n, _, hx, _, hlen, hg⟩ := DataW.trod_struct Tryz.underlying23 hf
    match xs, hlen with
    | [y0, y1, y2, y3, y4, y5, y6, y7, y8, y9, y10, y11, y12], _ =>
      have g0 := hg 0 _ rfl
      have g1 := hg 1 _ rfl
      have g2 := hg 2 _ rfl
      have g3 := hg 3 _ rfl
      have g4 := hg 4 _ rfl
      have g5 := hg 5 _ rfl
      have g6 := hg 6 _ rfl
      have g7 := hg 7 _ rfl
      have g8 := hg 8 _ rfl
      have g9 := hg 9 _ rfl
      have g10 := hg 10 _ rfl
      have g11 := hg 11 _ rfl
      have g12 := hg 12 _ rfl
      simp [Value.cells, cellsU8, cellsBool] at g0 g1 g2 g3 g4 g5 g6 g7 g8 g9 g10 g11 g12
      obtain ⟨n0, e0, _, w0⟩ := DataW.trod_int Tryz.underlying5 g0
      obtain ⟨n1, e1, _, w1⟩ := DataW.trod_int Tryz.underlying5 g1
      obtain ⟨n2, e2, _, w2⟩ := DataW.trod_int Tryz.underlying5 g2
      obtain ⟨n3, e3, _, w3⟩ := DataW.trod_int Tryz.underlying5 g3
      obtain ⟨n4, e4, _, w4⟩ := DataW.trod_int Tryz.underlying5 g4
      obtain ⟨n5, e5, _, w5⟩ := DataW.trod_int Tryz.underlying5 g5
      obtain ⟨n6, e6, _, w6⟩ := DataW.trod_int Tryz.underlying5 g6
      obtain ⟨n7, e7, _, w7⟩ := DataW.trod_int Tryz.underlying5 g7
      obtain ⟨n8, e8, _, w8⟩ := DataW.trod_int Tryz.underlying5 g8
      obtain ⟨n9, e9, _, w9⟩ := DataW.trod_int Tryz.underlying5 g9
      obtain ⟨n10, e10, _, w10⟩ := DataW.trod_int Tryz.underlying5 g10
      obtain ⟨n11, e11, _, w11⟩ := DataW.trod_int Tryz.underlying5 g11
      obtain ⟨n12, e12, _⟩ := DataW.trod_bool Tryz.underlying4 g12
      simp at e0 e1 e2 e3 e4 e5 e6 e7 e8 e9 e10 e11 e12
      exact ⟨n0, n1, n2, n3, n4, n5, n6, n7, n8, n9, n10, n11, n12, by simp [e0, e1, e2, e3, e4, e5, e6, e7, e8, e9, e10, e11, e12], w0, w1, w2, w3, w4, w5, w6, w7, w8, w9, w10, w11⟩


theorem uses_view {H : Type} {enc : TypeId × Value → H} {W : World} {ao : Option Addr} {len cap fuel : Nat} {x : DataW H × List MemPlace} (h : DataW.trod enc Tryz.prog W 0 (fun _ => true) true fuel 24 [.slice ao len cap] = some x) :
    len ≤ cap ∧ cap ≤ maxLen ∧ ∃ Z : Nat → Int, Ab.Holds W ao len fun j v => v = .int .u8 (Z j) ∧ 0 ≤ Z j ∧ Z j ≤ 255 := by
  rcases open_ints Tryz.underlying24 Tryz.underlying5 (by kernel_rfl) h with ⟨h0, _⟩ | ⟨a, len', cap', zs, h0, _, hl, hm, hz, _, hcell, hwf⟩
  · simp at h0
    obtain ⟨rfl, rfl, rfl⟩ := h0
    exact ⟨Nat.le_refl _, by simp [maxLen], fun _ => 0, .inl rfl⟩
  · simp at h0
    obtain ⟨rfl, rfl, rfl⟩ := h0
    refine ⟨hl, hm, fun j => zs.getD j 0, ?_⟩
    rcases Nat.eq_zero_or_pos len with hp | hp
    · exact .inl hp
    have hz' : len ≤ zs.length := by
      rw [hz]
      split <;> omega
    have hw : ∀ j, j < len → 0 ≤ zs.getD j 0 ∧ zs.getD j 0 ≤ 255 := by
      intro j hj
      have hm : zs.getD j 0 ∈ zs := by
        rw [List.getD_eq_getElem?_getD, List.getElem?_eq_getElem (by omega)]
        exact List.getElem_mem _
      exact bounds_u8 (hwf _ hm)
    obtain ⟨lb, lo, sp⟩ := a
    cases sp with
    | none =>
      refine .inr ⟨lb, lo, rfl, fun j hj => ⟨_, ?_, rfl, hw j hj⟩⟩
      have hc := hcell j (by omega)
      have hadd : (⟨lb, lo, Option.none⟩ : Addr).add j = ⟨lb, lo + j, Option.none⟩ := by
        by_cases h0 : j = 0
        · subst h0; simp [Addr.add]
        · simp [Addr.add, h0]
      rw [hadd] at hc
      exact hc
    | some s =>
      exfalso
      have := hcell 0 (by omega)
      simp [World.cell?, Addr.add] at this
      revert this
      split <;> simp

theorem sides_view {H : Type} {enc : TypeId × Value → H} {W : World} {ao : Option Addr} {len cap fuel : Nat} {x : DataW H × List MemPlace} (h : DataW.trod enc Tryz.prog W 0 (fun _ => true) true fuel 57 [.slice ao len cap] = some x) :
    len ≤ cap ∧ cap ≤ maxLen ∧ ∃ Y : Nat → Int, Ab.Holds W ao len fun j v => v = .bool (decide (Y j = 1)) ∧ 0 ≤ Y j ∧ Y j ≤ 1 := by
  rcases open_bools Tryz.underlying57 Tryz.underlying4 (by kernel_rfl) h with ⟨h0, _⟩ | ⟨a, len', cap', B, h0, _, hl, hm, _, hcell⟩
  · simp at h0
    obtain ⟨rfl, rfl, rfl⟩ := h0
    exact ⟨Nat.le_refl _, by simp [maxLen], fun _ => 0, .inl rfl⟩
  · simp at h0
    obtain ⟨rfl, rfl, rfl⟩ := h0
    refine ⟨hl, hm, fun j => bif B j then 1 else 0, ?_⟩
    rcases Nat.eq_zero_or_pos len with hp | hp
    · exact .inl hp
    obtain ⟨lb, lo, sp⟩ := a
    cases sp with
    | none =>
      refine .inr ⟨lb, lo, rfl, fun j hj => ⟨_, ?_, rfl, ?_⟩⟩
      · have hc := hcell j (by omega)
        have hadd : (⟨lb, lo, Option.none⟩ : Addr).add j = ⟨lb, lo + j, Option.none⟩ := by
          by_cases h0 : j = 0
          · subst h0; simp [Addr.add]
          · simp [Addr.add, h0]
        rw [hadd] at hc
        rw [hc]
        cases hB : B j <;> simp [hB]
      · cases hB : B j <;> simp [hB]
    | some s =>
      exfalso
      have := hcell 0 (by omega)
      simp [World.cell?, Addr.add] at this
      revert this
      split <;> simp
set_option maxRecDepth 100000 in
theorem lifted (os : Os) (started : os.Started) (H : Type) (enc : TypeId × Value → H) :
    ReturnsInHanded {} Tryz.checked os 4 .any (Rows.coreOpensSpec.pre6 enc Tryz.prog Tryz.f4 Rows.coreOpensRow.domain false) (Rows.coreOpensSpec.post enc Tryz.prog Tryz.f4 false true false false) := by
  refine returnsInHanded_of_change (C := Tryz.checked) own started (by kernel_rfl) Tryz.func4
    (ChangeSpec.witness6 (enc := enc) (C := Tryz.checked) false ⟨#[], #[.agg #[.int .u8 0, .int .u8 0, .int .u8 0, .int .u8 0, .int .u8 0, .int .u8 0, .int .u8 0, .int .u8 0, .int .u8 0, .int .u8 0, .int .u8 0, .int .u8 0, .bool false], .slice none 0 0, .slice none 0 0], []⟩ 8 (by kernel_rfl) (by kernel_rfl) (by kernel_rfl) (by kernel_rfl)) ?_
  intro W base args ds gs before hval0 hW hcnd _
  have hval : ∀ (j : Nat) t v, Tryz.f4.params[j]? = some t → args[j]? = some v → Value.okWide Tryz.prog W .any base t v := hval0
  have hW' := hW
  obtain ⟨p, q, hA0, hV, rfl, hfz, hnd⟩ := hW
  have hA : DataW.TrodAll enc Tryz.prog W 0 (fun _ => true) true Tryz.f4.params.toList args.toList ds p := hA0
  rw [Tryz.params4] at hA hval
  obtain ⟨v0, vs0, d0, ds0, p0, q0, hargs, rfl, rfl, h0, r0⟩ := trodAll_cons hA
  obtain ⟨v1, vs1, d1, ds1, p1, q1, rfl, rfl, rfl, h1, r1⟩ := trodAll_cons r0
  obtain ⟨v2, vs2, d2, ds2, p2, q2, rfl, rfl, rfl, h2, r2⟩ := trodAll_cons r1
  obtain ⟨rfl, rfl, rfl⟩ := trodAll_nil r2
  obtain rfl : args = #[v0, v1, v2] := by cases args; simp_all
  obtain ⟨rfl, rfl⟩ := trodVars_none hV
  obtain ⟨ao1, len1, cap1, rfl⟩ := okWide_slice Tryz.underlying57 (hval 1 57 v1 rfl rfl)
  have h1k := h1
  obtain ⟨fuel1, hf1⟩ := h1
  obtain ⟨hlc1, hcm1, Y, hY⟩ := sides_view hf1
  obtain ⟨ao, len, cap, rfl⟩ := okWide_slice Tryz.underlying24 (hval 2 24 v2 rfl rfl)
  have h2k := h2
  obtain ⟨fuel, hf⟩ := h2
  obtain ⟨hlc, hcm, Z, hZ⟩ := uses_view hf
  have h0k := h0
  obtain ⟨o, c, b2, b3, b4, b5, b6, b7, b8, b9, b10, b11, t, rfl, wo, wc, wb2, wb3, wb4, wb5, wb6, wb7, wb8, wb9, wb10, wb11⟩ := shape_open (hval 0 23 v0 rfl rfl) h0
  clear hA0 hval0
  simp only [List.append_nil] at hW'
  have hlt0 : ∀ x ∈ p0, x.block < W.heap.size := fun x hx => by simpa using hW'.lt x (by simp [hx])
  have hlt1 : ∀ x ∈ p1, x.block < W.heap.size := fun x hx => by simpa using hW'.lt x (by simp [hx])
  have hlt2 : ∀ x ∈ p2, x.block < W.heap.size := fun x hx => by simpa using hW'.lt x (by simp [hx])
  have hcm1' : cap1 ≤ 9223372036854775807 := hcm1
  have hcm' : cap ≤ 9223372036854775807 := hcm
  have zo := bounds_u8 wo
  have zc := bounds_u8 wc
  have zb2 := bounds_u8 wb2
  have zb3 := bounds_u8 wb3
  have zb4 := bounds_u8 wb4
  have zb5 := bounds_u8 wb5
  have zb6 := bounds_u8 wb6
  have zb7 := bounds_u8 wb7
  have zb8 := bounds_u8 wb8
  have zb9 := bounds_u8 wb9
  have zb10 := bounds_u8 wb10
  have zb11 := bounds_u8 wb11
  refine (law o c b2 b3 b4 b5 b6 b7 b8 b9 b10 b11 t ao1 ao len1 cap1 len cap Y Z (by omega) (by omega) (by omega) (by omega) (by omega) (by omega) (by omega) (by omega) (by omega) (by omega) (by omega) (by omega) (by omega) (by omega) (by omega) (by omega) (by omega) (by omega) (by omega) (by omega) (by omega) (by omega) (by omega) (by omega) hlc1 hcm1' hlc hcm' W hY hZ).mono fun e W' ⟨he, hg⟩ => ?_
  subst he
  have hargs' := trodAll_cons_mk (Below.trod laidOut (by kernel_rfl) (of_decide_eq_true (by kernel_rfl)) h0k hg hlt0)
    (trodAll_cons_mk (Below.trod laidOut (by kernel_rfl) (of_decide_eq_true (by kernel_rfl)) h1k hg hlt1) (trodAll_cons_mk (Below.trod laidOut (by kernel_rfl) (of_decide_eq_true (by kernel_rfl)) h2k hg hlt2) trodAll_mk0))
  simp only [List.append_nil] at hargs'
  exact ⟨_, rfl, post_old (ds := [d0, d1, d2]) (before := p0 ++ (p1 ++ p2)) (by simpa using hW') (trodAll_cons_mk (shut_bool Tryz.underlying4 _) trodAll_mk0) hargs' rfl hg⟩

theorem over : Rows.coreOpensRow.holds Tryz.pinned (OpenSpec.ofChange Rows.coreOpensSpec) :=
  OpenClaim.holds_of_wide 4 Tryz.f4 rfl rfl rfl rfl rfl rfl rfl ⟨rfl, rfl, rfl, rfl, rfl⟩ rfl rfl rfl rfl rfl (by kernel_rfl) Tryz.func4 (by kernel_rfl)
    (of_decide_eq_true (by kernel_rfl)) (by unfold Func.isWrapper; first | (rw [if_pos (by decide +kernel)]; kernel_rfl) | (rw [if_neg (by decide +kernel)]; exact ⟨rfl, rfl⟩))
    (fun os started H enc _ => lifted os started H enc)

/-- The statement. -/
theorem proved : Rows.CoreOpensSaid :=
  over
#print axioms proved
end Go.Proofs.YtekgfgignkihmaaGreat.coreOpens
