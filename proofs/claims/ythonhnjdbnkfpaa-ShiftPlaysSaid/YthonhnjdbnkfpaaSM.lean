/-
  A list of deeds that came in, cell by cell; what a row asks of old memory.
  Conditions: those that each theorem names.
-/
import Derived.Test.YthonhnjdbnkfpaaSL
import Derived.Deep.Slices
import Derived.Carry
namespace Go.Proofs.Ythonhnjdbnkfpaa
open Go.ChangeShapes Go.WideShapes Go.ChangeAt Go.RowKit Go.Deep
set_option linter.unusedVariables false

theorem Try.cells32 : Try.prog.cellsOf 32 = 4 := by kernel_rfl
theorem Try.cells27 : Try.prog.cellsOf 27 = 1 := by kernel_rfl
theorem Try.cells3 : Try.prog.cellsOf 3 = 1 := by kernel_rfl

theorem deed_at {H : Type} {enc : TypeId × Value → H} {W : World} {fuel : Nat} {cs : List Value} {x : DataW H × List MemPlace} (h : DataW.trod enc Try.prog W 0 (fun _ => true) true fuel 32 cs = some x) (hl : cs.length = 4) :
    ∃ q : Int × Int × Int × Int, cs = [.int .u32 q.1, .int .u32 q.2.1, .int .i64 q.2.2.1, .int .u32 q.2.2.2] ∧ (Lit.int .u32 q.1).wf = true ∧ (Lit.int .u32 q.2.1).wf = true ∧ (Lit.int .i64 q.2.2.1).wf = true ∧ (Lit.int .u32 q.2.2.2).wf = true := by
  obtain ⟨xs, k, hk, hxy, _, hxl, hf⟩ := DataW.trod_struct Try.underlying32 h
  match xs, hxl, cs, hl with
  | [y0, y1, y2, y3], _, [v0, v1, v2, v3], _ =>
    have g0 := hf 0 _ rfl
    have g1 := hf 1 _ rfl
    have g2 := hf 2 _ rfl
    have g3 := hf 3 _ rfl
    simp [Try.cells27, Try.cells3] at g0 g1 g2 g3
    obtain ⟨n0, e0, _, w0⟩ := DataW.trod_int Try.underlying27 g0
    obtain ⟨n1, e1, _, w1⟩ := DataW.trod_int Try.underlying27 g1
    obtain ⟨n2, e2, _, w2⟩ := DataW.trod_int Try.underlying3 g2
    obtain ⟨n3, e3, _, w3⟩ := DataW.trod_int Try.underlying27 g3
    simp at e0 e1 e2 e3
    exact ⟨(n0, n1, n2, n3), by simp [e0, e1, e2, e3], w0, w1, w2, w3⟩
theorem deeds_view {H : Type} {enc : TypeId × Value → H} {W : World} {ao : Option Addr} {len cap fuel : Nat} {x : DataW H × List MemPlace} (h : DataW.trod enc Try.prog W 0 (fun _ => true) true fuel 29 [.slice ao len cap] = some x) :
    (len = 0 ∨ ∃ lb lo, ao = some ⟨lb, lo, none⟩) ∧ len ≤ maxLen ∧ ∃ Q : Nat → Int × Int × Int × Int, ∀ lb lo, ao = some ⟨lb, lo, none⟩ → ∀ j, j < len →
      (W.cell? ⟨lb, lo + j * 4, none⟩ = some (.int .u32 (Q j).1) ∧ W.cell? ⟨lb, lo + j * 4 + 1, none⟩ = some (.int .u32 (Q j).2.1) ∧ W.cell? ⟨lb, lo + j * 4 + 2, none⟩ = some (.int .i64 (Q j).2.2.1) ∧ W.cell? ⟨lb, lo + j * 4 + 3, none⟩ = some (.int .u32 (Q j).2.2.2)) ∧
      (Lit.int .u32 (Q j).1).wf = true ∧ (Lit.int .u32 (Q j).2.1).wf = true ∧ (Lit.int .i64 (Q j).2.2.1).wf = true ∧ (Lit.int .u32 (Q j).2.2.2).wf = true := by
  rcases open_slice Try.underlying29 h with ⟨h0, _⟩ | ⟨a, len', cap', m, n, D, Pl, h0, hb, hl, hm, hmm, _, hx⟩
  · simp at h0
    obtain ⟨rfl, rfl, rfl⟩ := h0
    exact ⟨.inl rfl, by simp, fun _ => (0, 0, 0, 0), by simp⟩
  · simp at h0
    obtain ⟨rfl, rfl, rfl⟩ := h0
    simp at hmm
    subst hmm
    have each : ∀ j, j < len → ∃ q : Int × Int × Int × Int, (∀ i, i < 4 → W.cell? ((a.add (j * 4)).add i) = [Value.int .u32 q.1, .int .u32 q.2.1, .int .i64 q.2.2.1, .int .u32 q.2.2.2][i]?) ∧
        (Lit.int .u32 q.1).wf = true ∧ (Lit.int .u32 q.2.1).wf = true ∧ (Lit.int .i64 q.2.2.1).wf = true ∧ (Lit.int .u32 q.2.2.2).wf = true := by
      intro j hj
      obtain ⟨cs, h1, h2⟩ := hx j (by omega)
      rw [Try.cells32] at h1
      obtain ⟨_, hlen, hcell⟩ := World.cells?_some h1
      obtain ⟨q, rfl, hw⟩ := deed_at h2 hlen
      exact ⟨q, hcell, hw⟩
    obtain ⟨Q, hQ⟩ := choose_lt each
    have hs : len = 0 ∨ ∃ lb lo, a = ⟨lb, lo, none⟩ := by
      rcases Nat.eq_zero_or_pos len with hz | hp
      · exact .inl hz
      · obtain ⟨lb, lo, sp⟩ := a
        have := (hQ 0 hp).1 0 (by omega)
        cases sp with
        | none => exact .inr ⟨lb, lo, rfl⟩
        | some s => exfalso; simp [World.cell?, Addr.add] at this; revert this; split <;> simp
    refine ⟨hs.imp id fun ⟨lb, lo, e⟩ => ⟨lb, lo, by rw [e]⟩, by omega, Q, fun lb lo e j hj => ?_⟩
    obtain rfl := Option.some.inj e
    have hadd : ∀ i, ((⟨lb, lo, none⟩ : Addr).add (j * 4)).add i = ⟨lb, lo + j * 4 + i, none⟩ := fun i => by
      rw [add_add]
      unfold Addr.add
      split
      · have : j * 4 + i = 0 := by assumption
        first | (simp; done) | (simp; omega)
      · first | (simp; done) | (simp; omega)
    obtain ⟨hc, hw⟩ := hQ j hj
    refine ⟨⟨?_, ?_, ?_, ?_⟩, hw⟩
    · have := hc 0 (by omega); rw [hadd] at this; simpa using this
    · have := hc 1 (by omega); rw [hadd] at this; simpa using this
    · have := hc 2 (by omega); rw [hadd] at this; simpa using this
    · have := hc 3 (by omega); rw [hadd] at this; simpa using this

/-- A row's 'post' where the row does not ask for itself again. -/
theorem post_old {H : Type} {enc : TypeId × Value → H} {P : Program} {f : Func} {s : ChangeSpec} {W W' : World} {args : Array Value} {v : Value} {ds : List (DataW H)} {before : List MemPlace}
    (hW : DataW.Whole enc P f.params.toList s.vars false W args.toList ds [] before)
    (hres : DataW.TrodAll enc P W' W.heap.size (fun _ => false) false f.resultTypes.toList (v.resultList f.resultTypes.size) (s.fn H (ds ++ [])).results [])
    (hargs : DataW.TrodAll enc P W' 0 (fun b => decide (b < W.heap.size)) true f.params.toList args.toList (s.fn H (ds ++ [])).args before)
    (hvars : DataW.TrodVars enc P W' (fun b => decide (b < W.heap.size)) s.vars (s.fn H (ds ++ [])).vars [])
    (hb : Below W.heap.size W W') : s.post enc P f false true false false W args v W' :=
  ⟨ds, [], before, [], before, [], hW, hres, hargs, hvars, World.keptBut_mono (fun _ hp => ⟨hp, Or.inr (Or.inl hp)⟩) (hb.frame (· ∈ before)), fun h => by cases h⟩
end Go.Proofs.Ythonhnjdbnkfpaa
