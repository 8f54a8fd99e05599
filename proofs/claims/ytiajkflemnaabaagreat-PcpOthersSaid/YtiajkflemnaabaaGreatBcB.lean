/-
  A region whose order is open: the whole of it.
  Conditions: those that each lemma names.
-/
import Derived.Test.YtiajkflemnaabaaGreatBcA
namespace Go.Ab
variable [Val]
section
variable {P : Program} {G : Nat} {cl : CallFn} {rn : RoundFn} {fi : FI} {ops : Array Oper} {regs0 : Tr AV} {b : Frame} {cs0 : List Frame} {φ0 : Phi} {h0 : H} {w0 : World}

omit [Val] in
theorem rg_junk (hd : fi.sz ≤ 2 ^ fi.rd) {L : List Oper} {t : Nat} (ht : t < fi.sz) : ∀ (l : List Nat) (r : Tr AV),
    ((∃ i, i ∈ l ∧ dstOf L i = some t) → rg fi (junkAll L fi r l) t = .junk) ∧ ((∀ i, i ∈ l → dstOf L i ≠ some t) → rg fi (junkAll L fi r l) t = rg fi r t) := by
  intro l
  induction l with
  | nil => intro r; exact ⟨fun ⟨i, hi, _⟩ => absurd hi (by simp), fun _ => rfl⟩
  | cons x l ih =>
    intro r
    obtain ⟨h1, h2⟩ := ih (putReg fi r (dstOf L x) .junk)
    have e : junkAll L fi r (x :: l) = junkAll L fi (putReg fi r (dstOf L x) .junk) l := rfl
    rw [e]
    by_cases hex : ∃ i, i ∈ l ∧ dstOf L i = some t
    · exact ⟨fun _ => h1 hex, fun hall => by obtain ⟨i, hi, hdi⟩ := hex; exact absurd hdi (hall i (List.mem_cons_of_mem _ hi))⟩
    · have hno : ∀ i, i ∈ l → dstOf L i ≠ some t := fun i hi hdi => hex ⟨i, hi, hdi⟩
      rw [h2 hno, rg_put hd ht]
      refine ⟨fun ⟨i, hi, hdi⟩ => ?_, fun hall => ?_⟩
      · rcases List.mem_cons.1 hi with rfl | hi
        · rw [if_pos hdi]
        · exact absurd hdi (hno i hi)
      · rw [if_neg (hall x List.mem_cons_self)]

/-- The model's machine goes on until the next operation of the chain. -/
theorem drain (pok : POk ops.toList) (hd : fi.sz ≤ 2 ^ fi.rd) (hG : fi.G = G) {E : List Nat} {pend : Pend} {s : S} {df : List Deferred} {cs : List Frame} (hag : again P ops.toList fi s.h pend = true)
    {c : Nat} (hcE : c ∉ E) (hc : c < ops.size) (hwait : ∀ y, y < ops.size → y ∉ E → y ≠ c → AH ops.toList c y) {k : List Item} :
    ∀ (rest D : List Nat) (φ : Phi) (tmps : Array Value) (w : World), PR P G ops.toList fi regs0 b cs0 φ0 h0 w0 E D pend s φ tmps df cs w → TP (AH ops.toList) D rest →
      (∀ i, i < ops.size → i ∈ D ∨ i ∈ rest) → (∀ x ∈ rest, x < ops.size) →
      ∃ D' rest' φ' tmps' w', PR P G ops.toList fi regs0 b cs0 φ0 h0 w0 E D' pend s φ' tmps' df cs w' ∧ TP (AH ops.toList) D' (c :: rest') ∧ (∀ i, i < ops.size → i ∈ D' ∨ i ∈ c :: rest') ∧
        (∀ x ∈ c :: rest', x < ops.size) ∧ Steps P (lone (mkF b tmps df (.inRegion ops rest :: k)) cs w) (lone (mkF b tmps' df (.inRegion ops (c :: rest') :: k)) cs w') := by
  intro rest
  induction rest with
  | nil =>
    intro D φ tmps w hp _ hcov _
    rcases hcov c hc with h | h
    · exact absurd (hp.sub c h) hcE
    · simp at h
  | cons x rest ih =>
    intro D φ tmps w hp htp hcov hlt
    by_cases hxc : x = c
    · subst hxc
      exact ⟨D, rest, φ, tmps, w, hp, htp, hcov, hlt, .refl _ _⟩
    · obtain ⟨hxD, hxA, htp'⟩ := htp
      have hxn := hlt x List.mem_cons_self
      have hcD : c ∉ D := fun h => hcE (hp.sub c h)
      have hxE : x ∈ E := by
        refine Classical.byContradiction fun hne => ?_
        exact hcD (hxA c (hwait x hxn hne hxc))
      obtain ⟨φ', tmps', w', hp', hst⟩ := eager_step (rest := rest) (k := k) pok hd hG hp hag hxE hxD hxA
      obtain ⟨D2, r2, φ2, t2, w2, a1, a2, a3, a4, a5⟩ := ih (D ++ [x]) φ' tmps' w' hp' htp' (fun i hi => by
        rcases hcov i hi with h | h
        · exact .inl (List.mem_append_left _ h)
        · rcases List.mem_cons.1 h with rfl | h
          · exact .inl (by simp)
          · exact .inr h) (fun y hy => hlt y (List.mem_cons_of_mem _ hy))
      exact ⟨D2, r2, φ2, t2, w2, a1, a2, a3, a4, hst.trans a5⟩

/-- .. or to the region's end. -/
theorem drain_all (pok : POk ops.toList) (hd : fi.sz ≤ 2 ^ fi.rd) (hG : fi.G = G) {E : List Nat} {pend : Pend} {s : S} {df : List Deferred} {cs : List Frame} (hag : again P ops.toList fi s.h pend = true)
    (hall : ∀ y, y < ops.size → y ∈ E) {k : List Item} :
    ∀ (rest D : List Nat) (φ : Phi) (tmps : Array Value) (w : World), PR P G ops.toList fi regs0 b cs0 φ0 h0 w0 E D pend s φ tmps df cs w → TP (AH ops.toList) D rest →
      (∀ i, i < ops.size → i ∈ D ∨ i ∈ rest) → (∀ x ∈ rest, x < ops.size) →
      ∃ D' φ' tmps' w', PR P G ops.toList fi regs0 b cs0 φ0 h0 w0 E D' pend s φ' tmps' df cs w' ∧ (∀ i, i < ops.size → i ∈ D') ∧
        Steps P (lone (mkF b tmps df (.inRegion ops rest :: k)) cs w) (lone (mkF b tmps' df (.inRegion ops [] :: k)) cs w') := by
  intro rest
  induction rest with
  | nil =>
    intro D φ tmps w hp _ hcov _
    exact ⟨D, φ, tmps, w, hp, fun i hi => (hcov i hi).resolve_right (by simp), .refl _ _⟩
  | cons x rest ih =>
    intro D φ tmps w hp htp hcov hlt
    obtain ⟨hxD, hxA, htp'⟩ := htp
    have hxn := hlt x List.mem_cons_self
    obtain ⟨φ', tmps', w', hp', hst⟩ := eager_step (rest := rest) (k := k) pok hd hG hp hag (hall x hxn) hxD hxA
    obtain ⟨D2, φ2, t2, w2, a1, a2, a5⟩ := ih (D ++ [x]) φ' tmps' w' hp' htp' (fun i hi => by
      rcases hcov i hi with h | h
      · exact .inl (List.mem_append_left _ h)
      · rcases List.mem_cons.1 h with rfl | h
        · exact .inl (by simp)
        · exact .inr h) (fun y hy => hlt y (List.mem_cons_of_mem _ hy))
    exact ⟨D2, φ2, t2, w2, a1, a2, hst.trans a5⟩

theorem PR.seesSelf {L : List Oper} (pok : POk L) {E D : List Nat} {pend : Pend} {s : S} {φ : Phi} {tmps : Array Value} {df : List Deferred} {cs : List Frame} {w : World}
    (hp : PR P G L fi regs0 b cs0 φ0 h0 w0 E D pend s φ tmps df cs w) {c : Nat} {o : Oper} (ho : L[c]? = some o) (hcE : c ∉ E) : Sees L fi regs0 s.regs s.regs c o := by
  refine fun t ht hlook => ⟨fun _ => rfl, fun hno => hp.ra t ht fun i hi hdi => ?_⟩
  have hne : i ≠ c := fun e => hcE (e ▸ hi)
  rcases hlook with hop | ⟨g, wt, hgd, hdg⟩
  · rcases pok.opd i c t o hne hdi ho hop with h1 | h1
    · exact hno i hdi h1
    · exact hcE (hp.dce i hi c h1)
  · exact hno g hdg (pok.guard c o g wt ho hgd)

omit [Val] in
theorem ordOf_cons (st : Stage) (more : List Stage) (last : List Nat) : ordOf (st :: more) last = st.eager ++ (st.chain :: ordOf more last) := by
  simp [ordOf]

omit [Val] in
theorem at_lt {x : Nat} {o : Oper} (ho : ops.toList[x]? = some o) : x < ops.size := by
  rcases Nat.lt_or_ge x ops.size with h | h
  · exact h
  · rw [List.getElem?_eq_none (by simpa using h)] at ho; simp at ho

theorem plan_main (hcl : CallSim P G cl) (hrn : RoundSim P G rn) (pok : POk ops.toList) (hd : fi.sz ≤ 2 ^ fi.rd) (hG : fi.G = G) {last : List Nat} {k : List Item} :
    ∀ (stages : List Stage) (s : S) (p : Pend) (done : List Nat) (r : Res), runPlan P cl rn ops.toList fi (ahead ops.toList) last stages s p done = some r →
      waitsOk (ahead ops.toList) last stages = true → (∀ x ∈ stages.flatMap (·.eager) ++ last, ∀ o, ops.toList[x]? = some o → isChain o = false) →
      TP (AH ops.toList) done (ordOf stages last) → (∀ i, i < ops.size → i ∈ done ∨ i ∈ ordOf stages last) →
    ∀ (D rest : List Nat) (φ : Phi) (tmps : Array Value) (df : List Deferred) (cs : List Frame) (w : World),
      PR P G ops.toList fi regs0 b cs0 φ0 h0 w0 done D p s φ tmps df cs w → TP (AH ops.toList) D rest → (∀ i, i < ops.size → i ∈ D ∨ i ∈ rest) → (∀ x ∈ rest, x < ops.size) →
      Arr P G (lone (mkF b tmps df (.inRegion ops rest :: k)) cs w) fi b k cs0 φ0 h0 w0 r := by
  intro stages
  induction stages with
  | nil =>
    intro s p done r hrun hwt hch htp hcov D rest φ tmps df cs w hp htr hcr hlr
    unfold runPlan at hrun
    split at hrun
    · simp at hrun
    · rename_i s1 p1 hre
      generalize hag : again P ops.toList fi s1.h p1 = ag at hrun
      cases ag with
      | false => simp at hrun
      | true =>
        simp only [cond_true, Option.some.injEq] at hrun
        subst hrun
        have e : ordOf [] last = last := by simp [ordOf]
        rw [e] at htp hcov
        obtain ⟨hp1, _⟩ := runEager_ok pok hd last done [] s s1 p p1 hre hp (by simpa using htp) (fun x hx => hch x (by simpa using hx))
        obtain ⟨D', φ', t', w', hp2, hfull, hst⟩ := drain_all (k := k) pok hd hG hag (fun y hy => by
          rcases hcov y hy with h | h
          · exact List.mem_append_left _ h
          · exact List.mem_append_right _ h) rest D φ tmps w hp1 htr hcr hlr
        refine ⟨φ', t', df, cs, w', ⟨hp2.hr, ⟨hp2.size, hd, fun t ht => ?_⟩, hp2.dr, hp2.ur, hG⟩, hp2.post, hst.trans (.one step_region_end')⟩
        show VR φ' (rg fi s1.regs t) _
        by_cases hex : ∃ i, i < ops.size ∧ dstOf ops.toList i = some t
        · obtain ⟨i, hi, hdi⟩ := hex
          exact hp2.reg1 t ht i (hfull i hi) hdi
        · have hno : ∀ i, dstOf ops.toList i ≠ some t := by
            intro i hdi
            unfold dstOf at hdi
            cases ho : ops.toList[i]? with
            | none => rw [ho] at hdi; simp at hdi
            | some o => exact hex ⟨i, at_lt ho, by unfold dstOf; exact hdi⟩
          rw [hp2.ra t ht fun i _ => hno i]
          exact hp2.reg0 t ht fun i _ => hno i
  | cons st more ih =>
    intro s p done r hrun hwt hch htp hcov D rest φ tmps df cs w hp htr hcr hlr
    unfold runPlan at hrun
    simp only [waitsOk, Bool.and_eq_true] at hwt
    obtain ⟨hwait, hwt⟩ := hwt
    rw [ordOf_cons] at htp hcov
    split at hrun
    · simp at hrun
    · rename_i s1 p1 hre
      generalize hag : again P ops.toList fi s1.h p1 = ag at hrun
      cases ag with
      | false => simp at hrun
      | true =>
        simp only [cond_true] at hrun
        obtain ⟨hp1, htp1⟩ := runEager_ok pok hd st.eager done _ s s1 p p1 hre hp htp (fun x hx => hch x (by rw [List.flatMap_cons, List.append_assoc]; exact List.mem_append_left _ hx))
        obtain ⟨hcE, hcA, htp2⟩ := htp1
        cases hoc : ops.toList[st.chain]? with
        | none => rw [hoc] at hrun; simp at hrun
        | some o =>
          rw [hoc] at hrun
          dsimp only at hrun
          have hcn := at_lt hoc
          obtain ⟨D1, r1, φ1, t1, w1, hp2, htr1, hcr1, hlr1, hst1⟩ := drain (k := k) pok hd hG hag hcE hcn (fun y hy hyE hyc => by
            have hmem : y ∈ ordOf more last := by
              rcases hcov y hy with h | h
              · exact absurd (List.mem_append_left _ h) hyE
              · rcases List.mem_append.1 h with h | h
                · exact absurd (List.mem_append_right _ h) hyE
                · rcases List.mem_cons.1 h with h | h
                  · exact absurd h hyc
                  · exact h
            exact List.all_eq_true.1 hwait y hmem) rest D φ tmps w hp1 htr hcr hlr
          obtain ⟨hcD, hcA1, htr2⟩ := htr1
          have ho' : ops[st.chain]? = some o := by simpa using hoc
          have hlook := hp2.sees pok hoc hcD hcA1 (hp2.seesSelf pok hoc hcE)
          have hcov2 : ∀ i, i < ops.size → i ∈ done ++ st.eager ++ [st.chain] ∨ i ∈ ordOf more last := by
            intro i hi
            rcases hcov i hi with h | h
            · exact .inl (by simp [h])
            · rcases List.mem_append.1 h with h | h
              · exact .inl (by simp [h])
              · rcases List.mem_cons.1 h with h | h
                · exact .inl (by simp [h])
                · exact .inr h
          have hcr2 : ∀ i, i < ops.size → i ∈ D1 ++ [st.chain] ∨ i ∈ r1 := by
            intro i hi
            rcases hcr1 i hi with h | h
            · exact .inl (List.mem_append_left _ h)
            · rcases List.mem_cons.1 h with h | h
              · exact .inl (by simp [h])
              · exact .inr h
          have hlr2 : ∀ x ∈ r1, x < ops.size := fun x hx => hlr1 x (List.mem_cons_of_mem _ hx)
          have hch2 : ∀ x ∈ more.flatMap (·.eager) ++ last, ∀ o, ops.toList[x]? = some o → isChain o = false := by
            intro x hx
            refine hch x ?_
            rw [List.flatMap_cons, List.append_assoc]
            exact List.mem_append_right _ hx
          split at hrun
          · simp at hrun
          · rename_i hw
            have hwa := wanted_at (ops := ops) hd hp2.size hw hlook
            have hst2 : step P (lone (mkF b t1 df (.inRegion ops (st.chain :: r1) :: k)) cs w1) = .next (lone (mkF b (putT o.dst undef t1) df (.inRegion ops r1 :: k)) cs w1) := by
              rw [← mkF_finish' ho']
              exact step_skip' (by rw [ho']; simpa using hwa)
            have hp3 := hp2.chain pok hd hoc hcE hcA1 (s' := { s1 with regs := putReg fi s1.regs o.dst (.tup []) }) (v := .tup []) rfl (VR.undef φ1) hp2.hr (Post.refl _ _ _) hp2.dr hp2.ur
            exact (ih _ _ _ r hrun hwt hch2 htp2 hcov2 _ _ _ _ _ _ _ hp3 htr2 hcr2 hlr2).pre (hst1.trans (.one hst2)) (Post.refl _ _ _)
          · rename_i hw
            have hwa := wanted_at (ops := ops) hd hp2.size hw hlook
            cases hsa : stepA P cl rn fi o s1 with
            | none => rw [hsa] at hrun; simp at hrun
            | some x =>
              rw [hsa] at hrun
              have hout := step_core (rest := r1) (k := k) hcl hrn hsa (seen_congr s1.regs o s1.h) (seen_rel hp2.hr hG hp2.size (fun t ht hm => hlook t ht (.inl hm)) _ rfl) ho' hwa hp2.hr hp2.dr hp2.ur
              cases x with
              | inl s2 =>
                dsimp only at hrun
                obtain ⟨v, hregs, φ2, v', df2, cs2, w2, hv, hhr, hps, hdf, hur, hst2⟩ := hout
                have hp3 := hp2.chain pok hd hoc hcE hcA1 hregs hv hhr hps hdf hur
                exact (ih _ _ _ r hrun hwt hch2 htp2 hcov2 _ _ _ _ _ _ _ hp3 htr2 hcr2 hlr2).pre (hst1.trans hst2) (Post.refl _ _ _)
              | inr q =>
                cases q with
                | nor _ => simp at hrun
                | ext _ _ => simp at hrun
                | ret _ => simp at hrun
                | pan chain s2 =>
                  simp only [Option.some.injEq] at hrun
                  subst hrun
                  obtain ⟨e1, e2, e3, φ2, chain', w2, hchn, hhr, hps, hst2⟩ := hout
                  refine ⟨φ2, t1, df, cs, w2, _, chain', ⟨hhr, ⟨hp2.size, hd, fun t ht => ?_⟩, by rw [e2]; exact hp2.dr.mono hps.le, by rw [e3]; exact hp2.ur.mono hps.le, hG⟩, hp2.post.trans hps, hchn, hst1.trans hst2⟩
                  show VR φ2 (rg fi (junkAll ops.toList fi s2.regs ((done ++ st.eager).filter fun i => !Nat.testBit ((ahead ops.toList).getD st.chain 0) i)) t) _
                  obtain ⟨j1, j2⟩ := rg_junk hd ht ((done ++ st.eager).filter fun i => !Nat.testBit ((ahead ops.toList).getD st.chain 0) i) (L := ops.toList) s2.regs
                  by_cases hex : ∃ i, i ∈ (done ++ st.eager).filter (fun i => !Nat.testBit ((ahead ops.toList).getD st.chain 0) i) ∧ dstOf ops.toList i = some t
                  · rw [j1 hex]
                    exact .junk _
                  · rw [j2 (fun i hi hdi => hex ⟨i, hi, hdi⟩), e1]
                    by_cases hex2 : ∃ i, i ∈ D1 ∧ dstOf ops.toList i = some t
                    · obtain ⟨i, hi, hdi⟩ := hex2
                      exact (hp2.reg1 t ht i hi hdi).mono hps.le
                    · have hnD : ∀ i, i ∈ D1 → dstOf ops.toList i ≠ some t := fun i hi hdi => hex2 ⟨i, hi, hdi⟩
                      rw [hp2.ra t ht fun i hi hdi => ?_]
                      · exact (hp2.reg0 t ht hnD).mono hps.le
                      · cases hb : Nat.testBit ((ahead ops.toList).getD st.chain 0) i with
                        | true => exact hnD i (hcA1 i hb) hdi
                        | false => exact hex ⟨i, List.mem_filter.2 ⟨hi, by show (!Nat.testBit _ i) = true; rw [hb]; rfl⟩, hdi⟩

omit [Val] in
theorem planOk_ok {L : List Oper} {p : List Stage × List Nat} (h : planOk L p = true) :
    POk L ∧ TP (AH L) [] (ordOf p.1 p.2) ∧ waitsOk (ahead L) p.2 p.1 = true ∧ (∀ x ∈ p.1.flatMap (·.eager) ++ p.2, ∀ o, L[x]? = some o → isChain o = false) ∧ ∀ i, i < L.length → i ∈ ordOf p.1 p.2 := by
  simp only [planOk, Bool.and_eq_true] at h
  obtain ⟨h1, h2, h3, h4, h5⟩ := h
  have lt_of : ∀ j o, L[j]? = some o → j < L.length := by
    intro j o ho
    rcases Nat.lt_or_ge j L.length with h | h
    · exact h
    · rw [List.getElem?_eq_none h] at ho; simp at ho
  have h3' : ∀ j o, L[j]? = some o → (∀ e ∈ o.after.toList, Region.binds .any e = true → e.on < j) ∧ opOk L (ahead L) j o = true := by
    intro j o ho
    have := List.all_eq_true.1 h3 j (List.mem_range.2 (lt_of j o ho))
    rw [ho] at this
    simp only [Bool.and_eq_true] at this
    refine ⟨fun e he hb => ?_, this.2⟩
    have h6 := List.all_eq_true.1 this.1 e he
    rw [hb] at h6
    simp only [Bool.not_true, Bool.false_or] at h6
    unfold Nat.blt at h6
    exact Nat.le_of_ble_eq_true h6
  have dlt : ∀ i d, dstOf L i = some d → i < L.length := by
    intro i d hdi
    unfold dstOf at hdi
    cases ho : L[i]? with
    | none => rw [ho] at hdi; simp at hdi
    | some o => exact lt_of i o ho
  have hop : ∀ i j d o, i ≠ j → dstOf L i = some d → L[j]? = some o → o.dst ≠ some d ∧ (d ∈ operTmps o → AH L i j ∨ AH L j i) := by
    intro i j d o hne hdi ho
    have := (h3' j o ho).2
    simp only [opOk, Bool.and_eq_true] at this
    have h6 := List.all_eq_true.1 this.1 i (List.mem_range.2 (dlt i d hdi))
    have hb : Nat.beq i j = false := by
      cases h : Nat.beq i j with
      | false => rfl
      | true => exact absurd (Nat.eq_of_beq_eq_true h) hne
    unfold dstOf at hdi
    rw [hb, hdi, Bool.false_or] at h6
    simp only [Bool.and_eq_true, Bool.not_eq_true', Bool.or_eq_true, beq_eq_false_iff_ne, ne_eq] at h6
    refine ⟨h6.1, fun hm => ?_⟩
    rcases h6.2 with h7 | h7
    · have : (operTmps o).contains d = true := by simpa using hm
      rw [this] at h7
      simp at h7
    · exact h7
  refine ⟨⟨fun j o ho => (h3' j o ho).1, fun i j d hne hdi hdj => ?_, fun i j d o hne hdi ho hm => (hop i j d o hne hdi ho).2 hm, fun j o g w ho hg => ?_⟩, ?_, h4, fun x hx o ho => ?_, fun i hi => ?_⟩
  · unfold dstOf at hdj
    cases ho : L[j]? with
    | none => rw [ho] at hdj; simp at hdj
    | some o =>
      rw [ho] at hdj
      exact (hop i j d o hne hdi ho).1 hdj
  · have := (h3' j o ho).2
    simp only [opOk, Bool.and_eq_true] at this
    have h6 := this.2
    rw [hg] at h6
    simp only [Bool.and_eq_true] at h6
    exact h6.2
  · exact topo_ok _ [] 0 (fun i => by simp) h2
  · have := List.all_eq_true.1 h5 x hx
    rw [ho] at this
    simpa using this
  · have := List.all_eq_true.1 h1 i (List.mem_range.2 hi)
    simpa using this

omit [Val] in
theorem step_draw' {b : Frame} {tmps : Array Value} {df : List Deferred} {id : Nat} {ops : Array Oper} {k : List Item} {cs : List Frame} {w : World} :
    step P (lone (mkF b tmps df (.code (.region id ops true) :: k)) cs w) =
      .next (lone (mkF b tmps df (.inRegion ops (Region.schedule (P.follows .mixedOrders) ops (w.tape w.drawn (.order b.fn id))) :: k)) cs w.drew) :=
  step_lone_go (by simp [stepG, stepG.exec, mkF, choose, Sem.run, Question.forced, Question.cut])

theorem draw_sim (hcl : CallSim P G cl) (hrn : RoundSim P G rn) : DrawSim P G cl rn := by
  intro fi id ops b k cs0 s r φ tmps df cs w hrun hs
  simp only [runRegion, cond_true] at hrun
  generalize hcond : ((P.follows .mixedOrders || !Region.departs ops) && planOk ops.toList (plan ops.toList)) = cond at hrun
  cases cond with
  | false => simp at hrun
  | true =>
    simp only [cond_true] at hrun
    simp only [Bool.and_eq_true] at hcond
    obtain ⟨hmix, hplan⟩ := hcond
    obtain ⟨pok, htp, hwt, hch, hcov⟩ := planOk_ok hplan
    have hsch : Region.schedule (P.follows .mixedOrders) ops (w.tape w.drawn (.order b.fn id)) = Region.linearise .any ops (w.tape w.drawn (.order b.fn id)) := by
      unfold Region.schedule
      rw [if_pos hmix]
    obtain ⟨l1, l2, l3⟩ := lin_ok pok.edges (w.tape w.drawn (.order b.fn id))
    have hp : PR P G ops.toList fi s.regs b cs0 φ s.h w.drew [] [] [] s φ tmps df cs w.drew := by
      refine ⟨hs.hr.drew, hs.dr, hs.ur, Post.refl _ _ _, hs.rr.size, fun t ht i hi => absurd hi (by simp), fun t ht _ => hs.rr.get t ht, fun t ht _ => rfl, fun i hi => absurd hi (by simp),
        fun x hx => absurd hx (by simp), fun x hx => absurd hx (by simp), fun _ => none, fun x y n h => by simp at h, fun x n h => by simp at h, fun x hx => absurd hx (by simp)⟩
    have harr := plan_main (k := k) hcl hrn pok hs.rr.deep hs.fG _ s [] [] r hrun hwt hch htp (fun i hi => .inr (hcov i (by simpa using hi))) [] _ φ tmps df cs w.drew hp l1 (fun i hi => .inr (l3 i hi)) l2
    refine harr.pre (.one ?_) (Post.drew φ s.h w)
    rw [step_draw', hsch]
end
end Go.Ab
