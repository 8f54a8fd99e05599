/-
  A frame leaves: its deferred calls, its results.
  Conditions: those that each lemma names.
-/
import Derived.Test.YtiajkflemnaabaaGreatBbS
namespace Go.Ab
variable [Val]
section
variable {P : Program} {G : Nat}

theorem results_go {φ : Phi} {h : H} {w : World} (hr : HR G φ h w) {fi : FI} (hG : fi.G = G) {s : S} (hh : s.h = h) {tmps : Array Value} (hrr : RR φ fi s.regs tmps) {g : ResultVar → Sem Value}
    (g1 : ∀ t, g (.tmp t) = pure (tmps.getD t undef)) (g2 : ∀ a t, g (.cell a t) = (do loadVar t (← asAddr (tmps.getD a undef)))) :
    ∀ (l : List ResultVar) (vs : List AV), resultsA.go P fi s l = some vs → ∃ vs' : List Value, (l.mapM g).run P w = .ok vs' w ∧ LR φ vs vs'.toArray := by
  have hev : ∀ t, VR φ (ev fi s.regs (.tmp t)) (tmps.getD t undef) := fun t => ev_rel hG hr hrr { (default : Frame) with tmps := tmps } rfl (.tmp t)
  intro l
  induction l with
  | nil =>
    intro vs h
    simp only [resultsA.go, Option.some.injEq] at h
    subst h
    exact ⟨[], rfl, LR.nil φ⟩
  | cons x l ih =>
    intro vs h
    unfold resultsA.go at h
    dsimp only at h
    split at h
    · rename_i v l2 hv hl
      simp only [Option.some.injEq] at h
      subst h
      obtain ⟨vs', h1, h2⟩ := ih l2 hl
      have key : ∃ v', (g x).run P w = .ok v' w ∧ VR φ v v' := by
        cases x with
        | tmp t =>
          simp only [Option.some.injEq] at hv
          subst hv
          exact ⟨_, by rw [g1]; rfl, hev t⟩
        | cell a t =>
          dsimp only at hv
          have ha := hev a
          split at hv
          · rename_i id off heq
            rw [heq] at ha
            obtain ⟨b, base, cs, hp, e⟩ := ha.ptr_inv
            rw [hh] at hv
            obtain ⟨v', h1, h2⟩ := load_ok (P := P) hr hp hv
            refine ⟨v', ?_, h2⟩
            rw [g2]
            simp only [e, asAddr, Sem.run_bind, Sem.run_pure, Result.andThen_ok, h1]
          · simp at hv
      obtain ⟨v', h3, h4⟩ := key
      refine ⟨v' :: vs', ?_, ?_⟩
      · rw [List.mapM_cons]
        simp only [Sem.run_bind, h3, h1, Result.andThen_ok, Sem.run_pure]
      · have := LR.cons h4 h2
        simpa using this
    · simp at h

def resG (tmps : Array Value) : ResultVar → Sem Value
  | .tmp t => pure (tmps.getD t undef)
  | .cell a t => do loadVar t (← asAddr (tmps.getD a undef))

theorem results_ok {φ : Phi} {w : World} {fi : FI} (hG : fi.G = G) {s : S} (hr : HR G φ s.h w) {tmps : Array Value} (hrr : RR φ fi s.regs tmps) {fn : Func} {v : AV} (hv : resultsA P fi fn s = some v) :
    ∃ v', (results fn tmps).run P w = .ok v' w ∧ VR φ v v' := by
  unfold resultsA at hv
  have key : ∀ vs, resultsA.go P fi s fn.results.toList = some vs → ∃ vs' : List Value, LR φ vs vs'.toArray ∧
      (results fn tmps).run P w = .ok (if h : vs'.toArray.size = 1 then vs'.toArray[0] else .tuple vs'.toArray) w := by
    intro vs h
    obtain ⟨vs', h1, h2⟩ := results_go (P := P) hr hG rfl hrr (g := resG tmps) (fun _ => rfl) (fun _ _ => rfl) _ vs h
    refine ⟨vs', h2, ?_⟩
    have e : results fn tmps = (do let vs ← fn.results.mapM (resG tmps); pure (if h : vs.size = 1 then vs[0] else .tuple vs)) := by
      unfold results
      congr
    rw [e, Array.mapM_eq_mapM_toList, map_eq_pure_bind]
    simp only [Sem.run_bind, h1, Result.andThen_ok, Sem.run_pure]
  split at hv
  · rename_i v2 hgo
    simp only [Option.some.injEq] at hv
    subst hv
    obtain ⟨vs', h2, h3⟩ := key _ hgo
    have hsz := h2.size
    refine ⟨_, h3, ?_⟩
    rw [dif_pos (by simpa using hsz)]
    have := h2.get 0 (by simp)
    rw [Array.getD_eq_getD_getElem?, Array.getElem?_eq_getElem (by rw [hsz]; simp)] at this
    simpa using this
  · rename_i l hne hgo
    simp only [Option.some.injEq] at hv
    subst hv
    obtain ⟨vs', h2, h3⟩ := key _ hgo
    have hsz := h2.size
    refine ⟨_, h3, ?_⟩
    have hn : ¬ vs'.toArray.size = 1 := by
      rw [hsz]
      intro h1
      obtain ⟨x, rfl⟩ := List.length_eq_one_iff.1 h1
      exact hne x rfl
    rw [dif_neg hn]
    exact h2.tup
  · simp at hv

theorem settle_ok {φ : Phi} {u : AMode} {m : FrameMode} (h : ModeR φ u m) : ModeR φ (settleA u) (settle m) := by
  cases h with
  | returning => exact .returning
  | panicking hch =>
    cases hch with
    | nil => exact .panicking .nil
    | @cons v v' rec l l' hv ht =>
      cases rec with
      | false => exact .panicking (.cons hv ht)
      | true =>
        have := ht.noExit
        simp only [settleA, settle, this]
        exact .returning

theorem raised_ok {φ : Phi} {u : AMode} {m : FrameMode} (h : ModeR φ u m) {l : List APanic} {l' : List PanicEntry} (hl : ChainR φ l l') : ModeR φ (raisedA u l) (raised m l') := by
  cases h with
  | returning => exact .panicking hl
  | panicking hch => exact .panicking (hl.append hch)

theorem ModeR.ne_run {φ : Phi} {u : AMode} {m : FrameMode} (h : ModeR φ u m) : m ≠ .run := by cases h <;> simp

/-- Where a frame stands when all its deferred calls have been carried out. -/
def Left (P : Program) (G : Nat) (m : Machine) (b : Frame) (tmps : Array Value) (todo : List Item) (fn : Func) (cs : List Frame) (φ : Phi) (h : H) (w : World) (h' : H) : AEnd → Prop
  | .ret v => ∃ φ' v' w', VR φ' v v' ∧ HR G φ' h' w' ∧ Post φ h w φ' h' w' ∧ Steps P m (lone { mkF b tmps [] todo with mode := .returning } cs w') ∧ (results fn tmps).run P w' = .ok v' w'
  | .pan chain => ∃ φ' chain' w', ChainR φ' chain chain' ∧ HR G φ' h' w' ∧ Post φ h w φ' h' w' ∧ Steps P m (lone { mkF b tmps [] todo with mode := .panicking chain' } cs w')

theorem Left.pre {m m₁ : Machine} {b : Frame} {tmps : Array Value} {todo : List Item} {fn : Func} {cs : List Frame} {φ φ₁ : Phi} {h h₁ h' : H} {w w₁ : World} {e : AEnd}
    (hs : Steps P m m₁) (hp : Post φ h w φ₁ h₁ w₁) (ha : Left P G m₁ b tmps todo fn cs φ₁ h₁ w₁ h' e) : Left P G m b tmps todo fn cs φ h w h' e := by
  cases e with
  | ret v => obtain ⟨φ', v', w', h1, h2, h3, h4, h5⟩ := ha; exact ⟨φ', v', w', h1, h2, hp.trans h3, hs.trans h4, h5⟩
  | pan c => obtain ⟨φ', v', w', h1, h2, h3, h4⟩ := ha; exact ⟨φ', v', w', h1, h2, hp.trans h3, hs.trans h4⟩

theorem leave_sim {dc : DeferFn} (hdc : DeferSim P G dc) {fi : FI} (hG : fi.G = G) {fn : Func} {b : Frame} {tmps : Array Value} {todo : List Item} {cs : List Frame} :
    ∀ (ds : List ADefer) (u : AMode) (s : S) (e : AEnd) (h' : H), leaveA P dc fi fn ds u s = some (e, h') →
    ∀ (φ : Phi) (df : List Deferred) (m : FrameMode) (w : World), HR G φ s.h w → RR φ fi s.regs tmps → DFs φ ds df → ModeR φ u m →
      Left P G (lone { mkF b tmps df todo with mode := m } cs w) b tmps todo fn cs φ s.h w h' e := by
  intro ds
  induction ds with
  | nil =>
    intro u s e h' hl φ df m w hr hrr hd hm
    cases hd
    cases hm with
    | returning =>
      simp only [leaveA] at hl
      cases hv : resultsA P fi fn s with
      | none => rw [hv] at hl; simp at hl
      | some v =>
        rw [hv] at hl
        simp only [Option.map_some, Option.some.injEq, Prod.mk.injEq] at hl
        obtain ⟨rfl, rfl⟩ := hl
        obtain ⟨v', h1, h2⟩ := results_ok (P := P) hG hr hrr hv
        exact ⟨φ, v', w, h2, hr, Post.refl _ _ _, .refl _ _, h1⟩
    | panicking hch =>
      simp only [leaveA, Option.some.injEq, Prod.mk.injEq] at hl
      obtain ⟨rfl, rfl⟩ := hl
      exact ⟨φ, _, w, hch, hr, Post.refl _ _ _, .refl _ _⟩
  | cons d ds ih =>
    intro u s e h' hl φ df m w hr hrr hd hm
    cases hd with
    | @mark id p _ df2 hp hd2 =>
      simp only [leaveA] at hl
      split at hl
      · rename_i hg
        have hob := hr.obj id _ p hg hp
        obtain ⟨a1, b1⟩ := set_ok hr hg rfl hp (o₂ := .dfr true) (ob := .deferred none) rfl
        have hob' : w.heap[p.1]? = some (.deferred (some [])) := hob
        have htake := run_takeDeferred (P := P) hob'
        have hstep : step P (lone { mkF b tmps ({ target := .collected p.1, args := #[] } :: df2) todo with mode := m } cs w) =
            .next (lone { mkF b tmps df2 todo with mode := m } cs (setBlk w p.1 (.deferred none))) := by
          refine step_lone_go ?_
          cases hm with
          | returning => simp [stepG, unwind, mkF, htake]; rfl
          | panicking _ => simp [stepG, unwind, mkF, htake]; rfl
        exact (ih u _ e h' hl φ df2 m _ a1 hrr hd2 hm).pre (.one hstep) b1
      · simp at hl
    | @call d d' _ df2 hdr hd2 =>
      obtain ⟨⟨fn', cap', ht, hfn, hcap⟩, hargs⟩ := hdr
      simp only [leaveA] at hl
      split at hl
      · rename_i f heq
        rw [heq] at hfn
        cases hfn
        split at hl
        · rename_i g hf
          split at hl
          · simp at hl
          · rename_i hname
            have hname1 : ¬ (g.name == "runtime.NumGoroutine") = true := fun h => hname (.inl h)
            have hname2 : g.body.isNone = false := by
              cases h : g.body.isNone with
              | false => rfl
              | true => exact absurd (.inr h) hname
            have hbody : g.body.isSome = true := by
              cases hh : g.body with
              | none => rw [hh] at hname2; simp at hname2
              | some _ => rfl
            have hinv : (invoke d'.target d'.args).run P w = .ok (.enter f (d'.args ++ cap')) w := by
              rw [ht]
              simp only [invoke, callFunc, Sem.run_bind, run_program, Result.andThen_ok, hf, hname1, hname2, Bool.false_eq_true, if_false, Sem.run_pure]
            have hstep := step_defer (P := P) (fr := { mkF b tmps (d' :: df2) todo with mode := m }) (cs := cs) (w := w) (d := d') (ds := df2) (fv := .func f) (cap := cap') hm.ne_run rfl ht hinv
            cases hc : dc f (d.args ++ d.cap) u s.h with
            | none => rw [hc] at hl; simp at hl
            | some q =>
              obtain ⟨e2, u2, h2⟩ := q
              rw [hc] at hl
              obtain ⟨φ2, w2, m2, hr2, hp2, hm2, hst⟩ := hdc f _ u u2 s.h h2 e2 hc ⟨g, hf, hbody⟩ φ w (d'.args ++ cap') { mkF b tmps df2 todo with mode := m } cs m hr (hargs.append hcap) hm
              cases e2 with
              | ret v =>
                dsimp only at hl hst
                exact (ih (settleA u2) _ e h' hl φ2 df2 (settle m2) w2 hr2 (hrr.mono hp2.le) (hd2.mono hp2.le) (settle_ok hm2)).pre (.head hstep hst) hp2
              | pan chain =>
                dsimp only at hl hst
                obtain ⟨chain', hch, hst⟩ := hst
                exact (ih (raisedA u2 chain) _ e h' hl φ2 df2 (raised m2 chain') w2 hr2 (hrr.mono hp2.le) (hd2.mono hp2.le) (raised_ok hm2 hch)).pre (.head hstep hst) hp2
        · simp at hl
      · simp at hl
end
end Go.Ab
