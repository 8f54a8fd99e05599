/-
  A region whose order is open: the whole of it.
  Conditions: those that each lemma names.
-/
import Derived.Test.YtiajkflemnaabaaGreatBbZ
namespace Go.Ab
variable [Val]
section
variable {P : Program} {G : Nat} {cl : CallFn} {rn : RoundFn} {fi : FI} {ops : Array Oper} {regs0 : Tr AV} {b : Frame} {cs0 : List Frame} {φ0 : Phi} {h0 : H} {w0 : World}

/-- What the abstract machine has carried out already, the model's carries out now. -/
theorem eager_step (pok : POk ops.toList) (hd : fi.sz ≤ 2 ^ fi.rd) (hG : fi.G = G) {E D : List Nat} {pend : Pend} {s : S} {φ : Phi} {tmps : Array Value} {df : List Deferred} {cs : List Frame} {w : World}
    (hp : PR P G ops.toList fi regs0 b cs0 φ0 h0 w0 E D pend s φ tmps df cs w) (hag : again P ops.toList fi s.h pend = true)
    {x : Nat} (hxE : x ∈ E) (hxD : x ∉ D) (hA : ∀ i, AH ops.toList i x → i ∈ D) {rest : List Nat} {k : List Item} :
    ∃ φ' tmps' w', PR P G ops.toList fi regs0 b cs0 φ0 h0 w0 E (D ++ [x]) pend s φ' tmps' df cs w' ∧
      Steps P (lone (mkF b tmps df (.inRegion ops (x :: rest) :: k)) cs w) (lone (mkF b tmps' df (.inRegion ops rest :: k)) cs w') := by
  obtain ⟨id, inj, bnd, hrd⟩ := hp.ready
  obtain ⟨o, R, ho, hch, hsees, hval⟩ := hrd x hxE hxD
  have ho' : ops[x]? = some o := by simpa using ho
  have hlook := hp.sees pok ho hxD hA hsees
  have hsz := hp.size
  have hne : b.kind ≠ .early := by
    have hur := hp.ur
    generalize s.u = u at hur
    cases hur with
    | normal hk _ => rw [hk]; simp
    | round hk _ => rw [hk]; simp
    | deferred hk _ _ _ => rw [hk]; simp
  rcases hval with ⟨hw, hgv⟩ | ⟨hw, v, hgv, hrv⟩
  · have hwa := wanted_at (ops := ops) hd hsz hw hlook
    refine ⟨φ, putT o.dst undef tmps, w, hp.take pok ho hxE hxD hA inj bnd hrd φ.le_refl hp.hr hp.post (fun d h1 h2 => ?_) (fun _ _ _ _ h => h), .one ?_⟩
    · rw [hgv d h1 h2]; exact VR.undef φ
    · rw [← mkF_finish' ho']
      exact step_skip' (by rw [ho']; simpa using hwa)
  · have hwa := wanted_at (ops := ops) hd hsz hw hlook
    have hseen : ∀ y, VR φ (seen fi R o y) ((mkF b tmps df (.inRegion ops (x :: rest) :: k)).eval y) :=
      seen_rel hp.hr hG hsz (fun t ht hm => hlook t ht (.inl hm)) _ rfl
    -- a value over the memory as it stands
    have plain : ∀ v2, opA P fi R o s.h = some (.val v2 s.h) → (∀ φ' u, VR φ' v2 u → VR φ' v u) → ∃ φ' tmps' w', PR P G ops.toList fi regs0 b cs0 φ0 h0 w0 E (D ++ [x]) pend s φ' tmps' df cs w' ∧
        Steps P (lone (mkF b tmps df (.inRegion ops (x :: rest) :: k)) cs w) (lone (mkF b tmps' df (.inRegion ops rest :: k)) cs w') := by
      intro v2 hop hsame
      rw [seen_congr] at hop
      obtain ⟨φ', nx, v', w', hrun, hnx, hv, hhr, hps⟩ := opR_ok hp.hr hseen hop
      have nd : ∀ c, o.op ≠ .defer c := op_defer (P := P) (ρ := seen fi R o) (h := s.h) (fun d h₂ he => by rw [hop] at he; simp at he) (by rw [hop]; rfl)
      refine ⟨φ', putT o.dst v' tmps, w', hp.take pok ho hxE hxD hA inj bnd hrd hps.le hhr (hp.post.trans hps) (fun d h1 h2 => ?_) (fun z n _ hz hn => (hps.unt n (bnd z n hz) hn).2), .one (step_lone_go ?_)⟩
      · rw [hgv d h1 h2]; exact hsame φ' v' hv
      · rw [stepG_op' ho' hwa (.inr nd)]
        rcases hnx with rfl | ⟨rfl, rfl⟩
        · rw [← mkF_finish' ho']
          simp [stepG.apply, hrun]
        · rw [← mkF_finish' ho']
          simp [stepG.apply, hrun]
    rcases hrv with ⟨h1, h2, hh, hh', h3⟩ | ⟨h1, h2, h3⟩ | ⟨h1, k1, k2, h5, h6, h7, h8, h9, h10⟩
    · rw [opA_eq] at h3
      have := (pure_any hch h1 h2 h3 s.h).2
      exact plain v (by rw [opA_eq]; exact this) (fun _ _ h => h)
    · have hz := List.all_eq_true.1 hag _ h3
      dsimp only at hz
      rw [ho] at hz
      dsimp only at hz
      split at hz
      · rename_i v2 h2' hop
        simp only [Bool.and_eq_true] at hz
        have hnx := Nat.eq_of_beq_eq_true hz.1
        have hsh := same_heap hch h1 (by rw [← opA_eq]; exact hop) hnx
        rw [hsh] at hop
        exact plain v2 hop (fun φ' u hu => same_rel 4 hz.2 hu)
      · simp at hz
    · rw [seen_congr] at h5
      obtain ⟨ob, u, ob', csz, hnew, hrun, hor, hvr⟩ := late_core hseen h1 h5 w
      obtain ⟨_, hlt, _, hget⟩ := H.new_spec hnew
      have hgo : s.h.get k1.nx = some ob := by rw [h10, hget _ hlt, if_pos rfl]
      have nd : ∀ c, o.op ≠ .defer c := op_defer (P := P) (ρ := seen fi R o) (h := k1) (fun d h₂ he => by rw [h5] at he; simp at he) (by rw [h5]; rfl)
      refine ⟨φ.set k1.nx (w.heap.size, 0, csz), putT o.dst u tmps, w.alloc ob', hp.take pok ho hxE hxD hA inj bnd hrd (Phi.le_set _ h9) (hp.hr.late h9 h8 hgo hor) (hp.post.late h9 h7 ob' csz) (fun d e1 e2 => ?_) (fun z n hzx hz hn => ?_), .one (step_lone_go ?_)⟩
      · rw [hgv d e1 e2]; exact hvr _ (Phi.set_same _ _ _)
      · unfold Phi.set
        rw [if_neg (fun e => hzx (inj z x n hz (by rw [h6, e])))]
        exact hn
      · rw [stepG_op' ho' hwa (.inr nd), ← mkF_finish' ho']
        simp [stepG.apply, hrun]

omit [Val] in
theorem map_new {h : H} {x : Option (Nat × H)} {ob : AObj} (hx : x = h.new ob) {g : Nat × H → AR} (hg : ∀ p, ∃ a, g p = .val a p.2) {v : AV} {h' : H} (hm : x.map g = some (.val v h')) :
    h.new ob = some (h.nx, h') := by
  subst hx
  rw [Option.map_eq_some_iff] at hm
  obtain ⟨p, hn, e⟩ := hm
  obtain ⟨a, ha⟩ := hg p
  rw [ha] at e
  simp only [AR.val.injEq] at e
  have e1 := (H.new_spec (show h.new ob = some (p.1, p.2) from hn)).1
  rw [hn, ← e.2, ← e1]

omit [Val] in
theorem map_new2 {h : H} {x : Option (Nat × H)} {ob : AObj} (hx : x = h.new ob) {g : Nat × H → AV × H} (hg : ∀ p, (g p).2 = p.2) {v : AV} {h' : H} (hm : x.map g = some (v, h')) :
    h.new ob = some (h.nx, h') := by
  subst hx
  rw [Option.map_eq_some_iff] at hm
  obtain ⟨p, hn, e⟩ := hm
  have ha := hg p
  rw [e] at ha
  have e1 := (H.new_spec (show h.new ob = some (p.1, p.2) from hn)).1
  have e2 : h' = p.2 := ha
  rw [hn, e2, ← e1]

omit [Val] in
theorem late_new {ρ : Operand → AV} {o : Oper} (hl : isLate o = true) {h h' : H} {v : AV} (ho : opR P ρ o h = some (.val v h')) : ∃ ob, h.new ob = some (h.nx, h') := by
  obtain ⟨dst, op, type, pos, after, guard⟩ := o
  unfold opR at ho
  cases op <;> dsimp only at ho <;> simp only [isLate, Bool.false_eq_true] at hl
  case alloc e =>
    split at ho
    · split at ho
      · exact ⟨_, map_new rfl (fun p => ⟨_, rfl⟩) ho⟩
      · simp at ho
    · simp at ho
  case box e x =>
    split at ho
    · exact ⟨_, map_new rfl (fun p => ⟨_, rfl⟩) ho⟩
    · simp at ho
  case buildSlice t len parts =>
    obtain ⟨a, h2, ha, e⟩ := val2_inv ho
    simp only [AR.val.injEq] at e
    obtain ⟨rfl, rfl⟩ := e
    unfold buildSliceA at ha
    split at ha
    · split at ha
      · split at ha
        · split at ha
          · split at ha
            · exact ⟨_, map_new2 rfl (fun p => rfl) ha⟩
            · simp at ha
          · simp at ha
        · simp at ha
      · simp at ha
    · simp at ha
  case makeMap t r =>
    split at ho
    · exact ⟨_, map_new rfl (fun p => ⟨_, rfl⟩) ho⟩
    · split at ho
      · exact ⟨_, map_new rfl (fun p => ⟨_, rfl⟩) ho⟩
      · simp at ho
  case makeSlice t l c =>
    obtain ⟨a, h2, ha, e⟩ := val2_inv ho
    simp only [AR.val.injEq] at e
    obtain ⟨rfl, rfl⟩ := e
    unfold makeSliceA at ha
    split at ha
    · split at ha
      · split at ha
        · split at ha
          · split at ha
            · exact ⟨_, map_new2 rfl (fun p => rfl) ha⟩
            · simp at ha
          · simp at ha
        · simp at ha
      · simp at ha
    · simp at ha

/-- The abstract machine's run of what need not wait. -/
theorem runEager_ok (pok : POk ops.toList) (hd : fi.sz ≤ 2 ^ fi.rd) {D : List Nat} {φ : Phi} {tmps : Array Value} {df : List Deferred} {cs : List Frame} {w : World} :
    ∀ (l E : List Nat) (more : List Nat) (s s' : S) (p p' : Pend), runEager P ops.toList fi l s p = some (s', p') → PR P G ops.toList fi regs0 b cs0 φ0 h0 w0 E D p s φ tmps df cs w →
      TP (AH ops.toList) E (l ++ more) → (∀ x ∈ l, ∀ o, ops.toList[x]? = some o → isChain o = false) →
      PR P G ops.toList fi regs0 b cs0 φ0 h0 w0 (E ++ l) D p' s' φ tmps df cs w ∧ TP (AH ops.toList) (E ++ l) more := by
  intro l
  induction l with
  | nil =>
    intro E more s s' p p' hrun hp htp _
    simp only [runEager, Option.some.injEq, Prod.mk.injEq] at hrun
    obtain ⟨rfl, rfl⟩ := hrun
    simpa using ⟨hp, htp⟩
  | cons y l ih =>
    intro E more s s' p p' hrun hp htp hch
    obtain ⟨hyE, hyA, htp⟩ := htp
    unfold runEager at hrun
    split at hrun
    · simp at hrun
    · rename_i o ho
      have hc := hch y List.mem_cons_self o ho
      have e : E ++ y :: l = (E ++ [y]) ++ l := by simp
      rw [e]
      have hch' : ∀ x ∈ l, ∀ o, ops.toList[x]? = some o → isChain o = false := fun x hx => hch x (List.mem_cons_of_mem _ hx)
      split at hrun
      · simp at hrun
      · rename_i hw
        refine ih (E ++ [y]) more _ s' p p' hrun ?_ htp hch'
        exact hp.grow pok hd ho hyE hyA hc (v := .tup []) (h' := s.h) (pend' := p) hp.hr hp.post (Nat.le_refl _) (fun _ _ => rfl) (fun _ h => h) fun id inj bnd => ⟨id, inj, bnd, fun _ _ => rfl, .inl ⟨hw, rfl⟩⟩
      · rename_i hw
        split at hrun
        · rename_i v h' hopA
          have hop := hopA
          rw [opA_eq] at hop
          generalize hcond : (isLate o || Nat.beq h'.nx s.h.nx) = cond at hrun
          cases cond with
          | false => simp at hrun
          | true =>
            simp only [cond_true] at hrun
            refine ih (E ++ [y]) more _ s' _ p' hrun ?_ htp hch'
            cases hl : isLate o with
            | false =>
              rw [hl, Bool.false_or] at hcond
              have hnx := Nat.eq_of_beq_eq_true hcond
              have hsh : h' = s.h := same_heap hc hl hop hnx
              subst hsh
              refine hp.grow pok hd ho hyE hyA hc (v := v) (h' := s.h) hp.hr hp.post (Nat.le_refl _) (fun _ _ => rfl) (fun z h => ?_) fun id inj bnd => ⟨id, inj, bnd, fun _ _ => rfl, .inr ⟨hw, ?_⟩⟩
              · cases isRead o
                · exact h
                · exact List.mem_cons_of_mem _ h
              · cases hrd : isRead o with
                | false => exact .inl ⟨hl, hrd, s.h, s.h, hopA⟩
                | true => exact .inr (.inl ⟨hl, hrd, by simp⟩)
            | true =>
              obtain ⟨ob, hnew⟩ := late_new hl hop
              obtain ⟨_, hlt, hnx, hget⟩ := H.new_spec hnew
              have hnone : φ s.h.nx = none := by
                cases e : φ s.h.nx with
                | none => rfl
                | some q => exact absurd (hp.hr.dom _ _ e).1 (by omega)
              refine hp.grow pok hd ho hyE hyA hc (v := v) (h' := h') (hp.hr.grow hnew) (Post.grow hp.hr hp.post hnew) (by omega) (fun n hn => ?_) (fun z h => ?_) fun id inj bnd =>
                ⟨fun z => if z = y then some s.h.nx else id z, fun z1 z2 n h1 h2 => ?_, fun z n hz => ?_, fun z hz => ?_, .inr ⟨hw, .inr (.inr ⟨hl, s.h, h', hopA, by simp, hp.post.nx, by omega, hnone, rfl⟩)⟩⟩
              · have := hp.hr.nx
                rw [hget n (by omega), if_neg (by omega)]
              · cases isRead o
                · exact h
                · exact List.mem_cons_of_mem _ h
              · dsimp only at h1 h2
                split at h1
                · rename_i e1
                  split at h2
                  · rename_i e2; rw [e1, e2]
                  · have := bnd z2 n h2
                    have := Option.some.inj h1
                    omega
                · split at h2
                  · have := bnd z1 n h1
                    have := Option.some.inj h2
                    omega
                  · exact inj z1 z2 n h1 h2
              · dsimp only at hz
                split at hz
                · have := Option.some.inj hz
                  omega
                · have := bnd z n hz
                  omega
              · simp only [if_neg hz]
        · simp at hrun
end
end Go.Ab
