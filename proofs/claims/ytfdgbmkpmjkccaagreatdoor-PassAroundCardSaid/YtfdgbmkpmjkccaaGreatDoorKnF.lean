/-
  The law PassAround: the given function answers true for every input, and leaves all that was there as it was. No condition.
  The calls are run by a machine of ours, whose answers are proved to be the model's, and which the kernel runs here.
  The frame is turned from the seed's page on a law over a package-level table.
-/
import Derived.Test.YtfdgbmkpmjkccaaGreatDoorKnL
import Derived.Test.YtfdgbmkpmjkccaaGreatDoorCards
import Derived.Test.YtfdgbmkpmjkccaaGreatDoorTie
import Derived.WalkKit
import Derived.ProofKit
import Derived.OpenShut
import Derived.Deep.Slices
import Derived.Carry
import Derived.Lib.SmallJoins
import Derived.Deep.DeepHandedRow
import Derived.Lib.LaidTab
namespace Go.Proofs.YtfdgbmkpmjkccaaGreatDoor.passAround
open Go.ChangeShapes Go.WideShapes Go.ChangeAt Go.RowKit
set_option linter.unusedVariables false
open Go.Joins Go.Deep
/-- A row's 'post' where the row does not ask for itself again. -/
theorem post_old {H : Type} {enc : TypeId × Value → H} {P : Program} {f : Func} {s : ChangeSpec} {W W' : World} {args : Array Value} {v : Value} {ds : List (DataW H)} {before : List MemPlace}
    (hW : DataW.Whole enc P f.params.toList s.vars false W args.toList ds [] before)
    (hres : DataW.TrodAll enc P W' W.heap.size (fun _ => false) false f.resultTypes.toList (v.resultList f.resultTypes.size) (s.fn H (ds ++ [])).results [])
    (hargs : DataW.TrodAll enc P W' 0 (fun b => decide (b < W.heap.size)) true f.params.toList args.toList (s.fn H (ds ++ [])).args before)
    (hvars : DataW.TrodVars enc P W' (fun b => decide (b < W.heap.size)) s.vars (s.fn H (ds ++ [])).vars [])
    (hb : Below W.heap.size W W') : s.post enc P f false true false false W args v W' :=
  ⟨ds, [], before, [], before, [], hW, hres, hargs, hvars, World.keptBut_mono (fun _ hp => ⟨hp, Or.inr (Or.inl hp)⟩) (hb.frame (· ∈ before)), fun h => by cases h⟩

theorem laidOut : laidOutB Tryz.prog = true := by kernel_rfl
theorem own : ownKnob Tryz.prog.godebug = none := by kernel_rfl

theorem cellsU8 : Tryz.prog.cellsOf 5 = 1 := by kernel_rfl
theorem cellsBool : Tryz.prog.cellsOf 4 = 1 := by kernel_rfl
theorem cellsShape : Tryz.prog.cellsOf 23 = 13 := by kernel_rfl
set_option maxRecDepth 100000 in
theorem shape_open {H : Type} {enc : TypeId × Value → H} {w : World} {base b0 : Nat} {spare : Nat → Bool} {held : Bool} {r : Reach} {v : Value} {d : DataW H} {p : List MemPlace}
    (hv : Value.okWide Tryz.prog w r b0 23 v) (h : DataW.Trod enc Tryz.prog w base spare held 23 v d p) :
    ∃ (o c b2 b3 b4 b5 b6 b7 b8 b9 b10 b11 : Int) (t : Bool), v = .agg #[.int .u8 o, .int .u8 c, .int .u8 b2, .int .u8 b3, .int .u8 b4, .int .u8 b5, .int .u8 b6, .int .u8 b7, .int .u8 b8, .int .u8 b9, .int .u8 b10, .int .u8 b11, .bool t] ∧ (Lit.int .u8 o).wf = true ∧ (Lit.int .u8 c).wf = true ∧ (Lit.int .u8 b2).wf = true ∧ (Lit.int .u8 b3).wf = true ∧ (Lit.int .u8 b4).wf = true ∧ (Lit.int .u8 b5).wf = true ∧ (Lit.int .u8 b6).wf = true ∧ (Lit.int .u8 b7).wf = true ∧ (Lit.int .u8 b8).wf = true ∧ (Lit.int .u8 b9).wf = true ∧ (Lit.int .u8 b10).wf = true ∧ (Lit.int .u8 b11).wf = true := by
  obtain ⟨cs, rfl, hsz⟩ := okWide_struct Tryz.underlying23 hv
  obtain ⟨l⟩ := cs
  match l, hsz.trans cellsShape with
  | [c0, c1, c2, c3, c4, c5, c6, c7, c8, c9, c10, c11, c12], _ =>
    obtain ⟨fuel, hf⟩ := h
    obtain ⟨xs, n, _, hx, _, hlen, hg⟩ := DataW.trod_struct Tryz.underlying23 hf
    match xs, hlen with
    | [y0, y1, y2, y3, y4, y5, y6, y7, y8, y9, y10, y11, y12], _ =>
      have g0 := hg 0 _ rfl
      have g1 := hg 1 _ rfl
      have g2 := hg 2 _ rfl
      have g3 := hg 3 _ rfl
      have g4 := hg 4 _ rfl
      have g5 := hg 5 _ rfl
      have g6 := hg 6 _ rfl
      have g7 := hg 7 _ rfl
      have g8 := hg 8 _ rfl
      have g9 := hg 9 _ rfl
      have g10 := hg 10 _ rfl
      have g11 := hg 11 _ rfl
      have g12 := hg 12 _ rfl
      simp [Value.cells, cellsU8, cellsBool] at g0 g1 g2 g3 g4 g5 g6 g7 g8 g9 g10 g11 g12
      obtain ⟨n0, e0, _, w0⟩ := DataW.trod_int Tryz.underlying5 g0
      obtain ⟨n1, e1, _, w1⟩ := DataW.trod_int Tryz.underlying5 g1
      obtain ⟨n2, e2, _, w2⟩ := DataW.trod_int Tryz.underlying5 g2
      obtain ⟨n3, e3, _, w3⟩ := DataW.trod_int Tryz.underlying5 g3
      obtain ⟨n4, e4, _, w4⟩ := DataW.trod_int Tryz.underlying5 g4
      obtain ⟨n5, e5, _, w5⟩ := DataW.trod_int Tryz.underlying5 g5
      obtain ⟨n6, e6, _, w6⟩ := DataW.trod_int Tryz.underlying5 g6
      obtain ⟨n7, e7, _, w7⟩ := DataW.trod_int Tryz.underlying5 g7
      obtain ⟨n8, e8, _, w8⟩ := DataW.trod_int Tryz.underlying5 g8
      obtain ⟨n9, e9, _, w9⟩ := DataW.trod_int Tryz.underlying5 g9
      obtain ⟨n10, e10, _, w10⟩ := DataW.trod_int Tryz.underlying5 g10
      obtain ⟨n11, e11, _, w11⟩ := DataW.trod_int Tryz.underlying5 g11
      obtain ⟨n12, e12, _⟩ := DataW.trod_bool Tryz.underlying4 g12
      simp at e0 e1 e2 e3 e4 e5 e6 e7 e8 e9 e10 e11 e12
      exact ⟨n0, n1, n2, n3, n4, n5, n6, n7, n8, n9, n10, n11, n12, by simp [e0, e1, e2, e3, e4, e5, e6, e7, e8, e9, e10, e11, e12], w0, w1, w2, w3, w4, w5, w6, w7, w8, w9, w10, w11⟩

/-- A listed variable has its block. -/
theorem has_block {P : Program} {W : World} {name : String} {g : Nat} (hg : P.globalNamed name = some g) : ∀ {l : List (String × DataW Unit)} {ps : List MemPlace}, DataW.LaidVars P W l ps → name ∈ l.map (·.1) → g < W.heap.size := by
  intro l
  induction l with
  | nil => intro ps _ h; simp at h
  | cons x l ih =>
    intro ps h hm
    obtain ⟨n, d⟩ := x
    obtain ⟨g', t, cs, fuel, p, q, e1, _, hv, _, hr, _⟩ := h
    rw [List.map_cons, List.mem_cons] at hm
    rcases hm with rfl | hm
    · obtain rfl := Option.some.inj (hg.symm.trans e1)
      unfold World.var? at hv
      rw [hg] at hv
      simp only [Option.bind_some] at hv
      split at hv
      · rename_i hb
        exact (Array.getElem?_eq_some_iff.mp hb).1
      · simp at hv
    · exact ih hr hm

theorem room {W : World} (h : laidMetH Tryz.prog Rows.passAroundRow.laid W) : Tryz.prog.globals.size ≤ W.heap.size := by
  have h' : laidMet Tryz.prog Rows.passAroundRow.laid W := h
  obtain ⟨ps, hl, _⟩ := h'
  have := has_block (P := Tryz.prog) (name := "math/bits.deBruijn64tab") (g := 5) (by kernel_rfl) hl (by decide)
  rw [g0]
  exact this
theorem ro {W : World} (_ : laidMetH Tryz.prog Rows.passAroundRow.laid W) : Go.Ab.Ro0 Tryz.prog.globals.size W := fun _ _ _ _ h => by simp [Go.Ab.roTab] at h

set_option maxRecDepth 100000 in
theorem contract (H : Type) (enc : TypeId × Value → H) (W : World) (base : Nat) (args : Array Value) (ds gs : List (DataW H)) (before : List MemPlace)
    (hval : ∀ (j : Nat) t v, Tryz.f3.params[j]? = some t → args[j]? = some v → Value.okWide Tryz.prog W .any base t v)
    (hW : DataW.Whole enc Tryz.prog Tryz.f3.params.toList Rows.passAroundSpec.vars false W args.toList ds gs before) (hL : laidMetH Tryz.prog Rows.passAroundRow.laid W) :
    Calls Tryz.prog 3 args W fun e W' => ∃ v, e = .returned v ∧ Rows.passAroundSpec.post enc Tryz.prog Tryz.f3 false true false false W args v W' := by
  have hW' := hW
  obtain ⟨p, q, hA0, hV, rfl, hfz, hnd⟩ := hW
  have hA : DataW.TrodAll enc Tryz.prog W 0 (fun _ => true) true Tryz.f3.params.toList args.toList ds p := hA0
  rw [Tryz.params3] at hA hval
  obtain ⟨v0, vs0, d0, ds0, p0, q0, hargs, rfl, rfl, h0, r0⟩ := trodAll_cons hA
  obtain ⟨v1, vs1, d1, ds1, p1, q1, rfl, rfl, rfl, h1, r1⟩ := trodAll_cons r0
  obtain ⟨v2, vs2, d2, ds2, p2, q2, rfl, rfl, rfl, h2, r2⟩ := trodAll_cons r1
  obtain ⟨rfl, rfl, rfl⟩ := trodAll_nil r2
  obtain rfl : args = #[v0, v1, v2] := by cases args; simp_all
  obtain ⟨rfl, rfl⟩ := trodVars_none hV
  obtain ⟨a1, rfl, rfl, rfl, w1⟩ := open_int Tryz.underlying24 (hval 1 24 v1 rfl rfl) h1
  obtain ⟨a2, rfl, rfl, rfl, w2⟩ := open_int Tryz.underlying24 (hval 2 24 v2 rfl rfl) h2
  have h0k := h0
  obtain ⟨o, c, b2, b3, b4, b5, b6, b7, b8, b9, b10, b11, t, rfl, wo, wc, wb2, wb3, wb4, wb5, wb6, wb7, wb8, wb9, wb10, wb11⟩ := shape_open (hval 0 23 v0 rfl rfl) h0
  clear hA0
  simp only [List.append_nil] at hW'
  have hlt : ∀ x ∈ p0, x.block < W.heap.size := fun x hx => by simpa using hW'.lt x (by simp [hx])
  have z1 := bounds_u16 w1
  have z2 := bounds_u16 w2
  have zo := bounds_u8 wo
  have zc := bounds_u8 wc
  have zb2 := bounds_u8 wb2
  have zb3 := bounds_u8 wb3
  have zb4 := bounds_u8 wb4
  have zb5 := bounds_u8 wb5
  have zb6 := bounds_u8 wb6
  have zb7 := bounds_u8 wb7
  have zb8 := bounds_u8 wb8
  have zb9 := bounds_u8 wb9
  have zb10 := bounds_u8 wb10
  have zb11 := bounds_u8 wb11
  refine (law o c b2 b3 b4 b5 b6 b7 b8 b9 b10 b11 t a1 a2 (by omega) (by omega) (by omega) (by omega) (by omega) (by omega) (by omega) (by omega) (by omega) (by omega) (by omega) (by omega) (by omega) (by omega) (by omega) (by omega) (by omega) (by omega) (by omega) (by omega) (by omega) (by omega) (by omega) (by omega) (by omega) (by omega) (by omega) (by omega) W (room hL) (ro hL) ).mono fun e W' ⟨he, hg⟩ => ?_
  subst he
  have hargs' := trodAll_cons_mk (Below.trod laidOut (by kernel_rfl) (of_decide_eq_true (by kernel_rfl)) h0k hg hlt)
    (trodAll_cons_mk (shut_int (enc := enc) (w := W') (base := 0) (spare := fun b => decide (b < W.heap.size)) (held := true) Tryz.underlying24 w1) (trodAll_cons_mk (shut_int Tryz.underlying24 w2) trodAll_mk0))
  simp only [List.append_nil] at hargs'
  exact ⟨_, rfl, post_old (ds := [d0, .lit (.int .u16 a1), .lit (.int .u16 a2)]) (before := p0) (by simpa using hW') (trodAll_cons_mk (shut_bool Tryz.underlying4 _) trodAll_mk0) hargs' rfl hg⟩
end Go.Proofs.YtfdgbmkpmjkccaaGreatDoor.passAround
