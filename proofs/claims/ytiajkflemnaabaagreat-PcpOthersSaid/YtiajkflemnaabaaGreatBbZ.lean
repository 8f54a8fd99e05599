/-
  A region whose order is open: the steps.
  Conditions: those that each lemma names.
-/
import Derived.Test.YtiajkflemnaabaaGreatBbY
namespace Go.Ab
variable [Val]
section
variable {P : Program} {G : Nat} {fi : FI} {L : List Oper} {regs0 : Tr AV} {b : Frame} {cs0 : List Frame} {φ0 : Phi} {h0 : H} {w0 : World}
variable {E D : List Nat} {pend : Pend} {s : S} {φ : Phi} {tmps : Array Value} {df : List Deferred} {cs : List Frame} {w : World}

omit [Val] in
theorem dstOf_at {x : Nat} {o : Oper} (ho : L[x]? = some o) : dstOf L x = o.dst := by unfold dstOf; rw [ho]; rfl

/-- The abstract machine goes one operation further that need not wait. -/
theorem PR.grow (pok : POk L) (hd : fi.sz ≤ 2 ^ fi.rd) (hp : PR P G L fi regs0 b cs0 φ0 h0 w0 E D pend s φ tmps df cs w) {y : Nat} {o : Oper} (ho : L[y]? = some o) (hy : y ∉ E) (hA : ∀ i, AH L i y → i ∈ E)
    (hch : isChain o = false) {v : AV} {h' : H} {pend' : Pend} (hr' : HR G φ h' w) (post' : Post φ0 h0 w0 φ h' w) (hn : s.h.nx ≤ h'.nx) (hg : ∀ n, n < s.h.nx → h'.get n = s.h.get n)
    (hpd : ∀ z, z ∈ pend → z ∈ pend')
    (hrdy : ∀ id : Nat → Option Nat, (∀ x y n, id x = some n → id y = some n → x = y) → (∀ x n, id x = some n → n < s.h.nx) →
      ∃ id' : Nat → Option Nat, (∀ x y n, id' x = some n → id' y = some n → x = y) ∧ (∀ x n, id' x = some n → n < h'.nx) ∧ (∀ x, x ≠ y → id' x = id x) ∧
        ((wantedA L fi s.regs o = some false ∧ v = .tup []) ∨ (wantedA L fi s.regs o = some true ∧ RdyV P fi φ h0 h' pend' id' y o s.regs v))) :
    PR P G L fi regs0 b cs0 φ0 h0 w0 (E ++ [y]) D pend' { s with regs := putReg fi s.regs o.dst v, h := h' } φ tmps df cs w := by
  have hdy := dstOf_at ho
  have keep : ∀ t, t < fi.sz → dstOf L y ≠ some t → rg fi (putReg fi s.regs o.dst v) t = rg fi s.regs t := by
    intro t ht hne
    rw [rg_put hd ht, if_neg (by rw [← hdy]; exact hne)]
  have mem1 : ∀ i, i ∈ E → i ∈ E ++ [y] := fun i hi => List.mem_append_left _ hi
  refine ⟨hr', hp.dr, hp.ur, post', hp.size, fun t ht i hi hdi => ?_, hp.reg0, fun t ht hall => ?_, fun i hi => mem1 i (hp.sub i hi), hp.dce.snoc hA, hp.dcd, ?_⟩
  · show VR φ (rg fi (putReg fi s.regs o.dst v) t) _
    have hne : i ≠ y := fun e => hy (e ▸ hp.sub i hi)
    rw [keep t ht (pok.dst i y t hne hdi)]
    exact hp.reg1 t ht i hi hdi
  · show rg fi (putReg fi s.regs o.dst v) t = _
    rw [keep t ht (hall y (by simp))]
    exact hp.ra t ht fun i hi => hall i (mem1 i hi)
  · obtain ⟨id, inj, bnd, hrd⟩ := hp.ready
    obtain ⟨id', inj', bnd', hid, hnew⟩ := hrdy id inj bnd
    refine ⟨id', inj', bnd', fun x hx hxD => ?_⟩
    by_cases hxy : x = y
    · subst hxy
      refine ⟨o, s.regs, ho, hch, fun t ht hlook => ⟨fun ⟨i, hi, hiA⟩ => ?_, fun hno => ?_⟩, ?_⟩
      · show _ = rg fi (putReg fi s.regs o.dst v) t
        rw [keep t ht (pok.dst i x t (pok.irr ho hiA) hi)]
      · refine hp.ra t ht fun i hi hdi => ?_
        have hne : i ≠ x := fun e => hy (e ▸ hi)
        rcases hlook with hop | ⟨g, wt, hgd, hdg⟩
        · rcases pok.opd i x t o hne hdi ho hop with h1 | h1
          · exact hno i hdi h1
          · exact hy (hp.dce i hi x h1)
        · exact hno g hdg (pok.guard x o g wt ho hgd)
      · have giv : ∀ v', v' = v → Gives fi (putReg fi s.regs o.dst v) o v' := by
          intro v' e d hdd hdlt
          rw [rg_put hd hdlt, if_pos hdd, e]
        rcases hnew with ⟨h1, h2⟩ | ⟨h1, h2⟩
        · exact .inl ⟨h1, giv _ h2.symm⟩
        · exact .inr ⟨h1, v, giv v rfl, h2⟩
    · have hxE : x ∈ E := by
        rcases List.mem_append.1 hx with h | h
        · exact h
        · exact absurd (List.mem_singleton.1 h) hxy
      obtain ⟨o', R, ho', hch', hsees, hval⟩ := hrd x hxE hxD
      have giv : ∀ v', Gives fi s.regs o' v' → Gives fi (putReg fi s.regs o.dst v) o' v' := by
        intro v' hgv d hdd hdlt
        rw [keep d hdlt (pok.dst x y d hxy (by rw [dstOf_at ho']; exact hdd))]
        exact hgv d hdd hdlt
      refine ⟨o', R, ho', hch', fun t ht hlook => ⟨fun ⟨i, hi, hiA⟩ => ?_, (hsees t ht hlook).2⟩, ?_⟩
      · show _ = rg fi (putReg fi s.regs o.dst v) t
        have hne : i ≠ y := fun e => hy (e ▸ hp.dce x hxE i hiA)
        rw [keep t ht (pok.dst i y t hne hi)]
        exact (hsees t ht hlook).1 ⟨i, hi, hiA⟩
      · rcases hval with ⟨h1, h2⟩ | ⟨h1, v', h2, h3⟩
        · exact .inl ⟨h1, giv _ h2⟩
        · refine .inr ⟨h1, v', giv _ h2, ?_⟩
          rcases h3 with h3 | ⟨h4, h5, h6⟩ | ⟨h4, k1, k2, h5, h6, h7, h8, h9, h10⟩
          · exact .inl h3
          · exact .inr (.inl ⟨h4, h5, hpd _ h6⟩)
          · exact .inr (.inr ⟨h4, k1, k2, h5, by rw [hid x hxy]; exact h6, h7, by show _ < h'.nx; omega, h9, by show h'.get _ = _; rw [hg _ h8]; exact h10⟩)

/-- What an operation sees in the model's frame. -/
theorem PR.sees (pok : POk L) (hp : PR P G L fi regs0 b cs0 φ0 h0 w0 E D pend s φ tmps df cs w) {x : Nat} {o : Oper} (ho : L[x]? = some o) (hxD : x ∉ D) (hA : ∀ i, AH L i x → i ∈ D) {R : Tr AV}
    (hs : Sees L fi regs0 s.regs R x o) : ∀ t, t < fi.sz → Looks L o t → VR φ (rg fi R t) (tmps.getD t undef) := by
  intro t ht hlook
  by_cases hex : ∃ i, dstOf L i = some t ∧ AH L i x
  · obtain ⟨i, hi, hiA⟩ := hex
    rw [(hs t ht hlook).1 ⟨i, hi, hiA⟩]
    exact hp.reg1 t ht i (hA i hiA) hi
  · have hno : ∀ i, dstOf L i = some t → ¬ AH L i x := fun i h1 h2 => hex ⟨i, h1, h2⟩
    rw [(hs t ht hlook).2 hno]
    refine hp.reg0 t ht fun i hi hdi => ?_
    have hne : i ≠ x := fun e => hxD (e ▸ hi)
    rcases hlook with hop | ⟨g, wt, hgd, hdg⟩
    · rcases pok.opd i x t o hne hdi ho hop with h1 | h1
      · exact hno i hdi h1
      · exact hxD (hp.dcd i hi x h1)
    · exact hno g hdg (pok.guard x o g wt ho hgd)

/-- The model's machine carries out what the abstract one has carried out already. -/
theorem PR.take (pok : POk L) (hp : PR P G L fi regs0 b cs0 φ0 h0 w0 E D pend s φ tmps df cs w) {x : Nat} {o : Oper} (ho : L[x]? = some o) (hxE : x ∈ E) (hxD : x ∉ D) (hA : ∀ i, AH L i x → i ∈ D)
    {id : Nat → Option Nat} (inj : ∀ x y n, id x = some n → id y = some n → x = y) (bnd : ∀ x n, id x = some n → n < s.h.nx)
    (hrd : ∀ x, x ∈ E → x ∉ D → Rdy P L fi regs0 φ h0 s.regs s.h pend id x) {φ' : Phi} {v' : Value} {w' : World} (hle : φ.le φ') (hr' : HR G φ' s.h w') (post' : Post φ0 h0 w0 φ' s.h w')
    (hv : ∀ d, o.dst = some d → d < fi.sz → VR φ' (rg fi s.regs d) v') (hφ : ∀ z n, z ≠ x → id z = some n → φ n = none → φ' n = none) :
    PR P G L fi regs0 b cs0 φ0 h0 w0 E (D ++ [x]) pend s φ' (putT o.dst v' tmps) df cs w' := by
  have hdx := dstOf_at ho
  refine ⟨hr', hp.dr.mono hle, hp.ur.mono hle, post', (putT_size _ _ _).trans hp.size, fun t ht i hi hdi => ?_, fun t ht hall => ?_, hp.ra, fun i hi => ?_, hp.dce, hp.dcd.snoc hA, id, inj, bnd, fun z hz hzD => ?_⟩
  · rw [putT_get (by rw [hp.size]; exact ht)]
    by_cases e : o.dst = some t
    · rw [if_pos e]
      exact hv t e ht
    · rw [if_neg e]
      rcases List.mem_append.1 hi with h | h
      · exact (hp.reg1 t ht i h hdi).mono hle
      · obtain rfl := List.mem_singleton.1 h
        rw [hdx] at hdi
        exact absurd hdi e
  · have hne : ¬ o.dst = some t := by rw [← hdx]; exact hall x (by simp)
    rw [putT_get (by rw [hp.size]; exact ht), if_neg hne]
    exact (hp.reg0 t ht fun i hi => hall i (List.mem_append_left _ hi)).mono hle
  · rcases List.mem_append.1 hi with h | h
    · exact hp.sub i h
    · obtain rfl := List.mem_singleton.1 h
      exact hxE
  · have hzx : z ≠ x := fun e => hzD (by rw [e]; simp)
    obtain ⟨o', R, ho', hch', hsees, hval⟩ := hrd z hz (fun h => hzD (List.mem_append_left _ h))
    refine ⟨o', R, ho', hch', hsees, ?_⟩
    rcases hval with h1 | ⟨h1, v2, h2, h3⟩
    · exact .inl h1
    · refine .inr ⟨h1, v2, h2, ?_⟩
      rcases h3 with h3 | h3 | ⟨h4, k1, k2, h5, h6, h7, h8, h9, h10⟩
      · exact .inl h3
      · exact .inr (.inl h3)
      · exact .inr (.inr ⟨h4, k1, k2, h5, h6, h7, h8, hφ z _ hzx h6 h9, h10⟩)

/-- Both machines carry out an operation of the chain. -/
theorem PR.chain (pok : POk L) (hd : fi.sz ≤ 2 ^ fi.rd) (hp : PR P G L fi regs0 b cs0 φ0 h0 w0 E D pend s φ tmps df cs w) {c : Nat} {o : Oper} (ho : L[c]? = some o) (hcE : c ∉ E) (hA : ∀ i, AH L i c → i ∈ D)
    {s' : S} {v : AV} (hregs : s'.regs = putReg fi s.regs o.dst v) {φ' : Phi} {v' : Value} {df' : List Deferred} {cs' : List Frame} {w' : World} (hv : VR φ' v v') (hr' : HR G φ' s'.h w')
    (post' : Post φ s.h w φ' s'.h w') (hdf : DFs φ' s'.df df') (hur : URel φ' b cs0 s'.u cs') :
    PR P G L fi regs0 b cs0 φ0 h0 w0 (E ++ [c]) (D ++ [c]) (pend.filter fun x => !Nat.testBit ((ahead L).getD c 0) x.1) s' φ' (putT o.dst v' tmps) df' cs' w' := by
  have hdc := dstOf_at ho
  have hcD : c ∉ D := fun h => hcE (hp.sub c h)
  have hle := post'.le
  have keep : ∀ t, t < fi.sz → dstOf L c ≠ some t → rg fi s'.regs t = rg fi s.regs t := by
    intro t ht hne
    rw [hregs, rg_put hd ht, if_neg (by rw [← hdc]; exact hne)]
  refine ⟨hr', hdf, hur, hp.post.trans post', (putT_size _ _ _).trans hp.size, fun t ht i hi hdi => ?_, fun t ht hall => ?_, fun t ht hall => ?_, fun i hi => ?_, hp.dce.snoc fun i hi => hp.sub i (hA i hi), hp.dcd.snoc hA, ?_⟩
  · rw [putT_get (by rw [hp.size]; exact ht)]
    by_cases e : o.dst = some t
    · rw [if_pos e, hregs, rg_put hd ht, if_pos e]
      exact hv
    · rw [if_neg e, keep t ht (by rw [hdc]; exact e)]
      rcases List.mem_append.1 hi with h | h
      · exact (hp.reg1 t ht i h hdi).mono hle
      · obtain rfl := List.mem_singleton.1 h
        rw [hdc] at hdi
        exact absurd hdi e
  · have hne : ¬ o.dst = some t := by rw [← hdc]; exact hall c (by simp)
    rw [putT_get (by rw [hp.size]; exact ht), if_neg hne]
    exact (hp.reg0 t ht fun i hi => hall i (List.mem_append_left _ hi)).mono hle
  · rw [keep t ht (hall c (by simp))]
    exact hp.ra t ht fun i hi => hall i (List.mem_append_left _ hi)
  · rcases List.mem_append.1 hi with h | h
    · exact List.mem_append_left _ (hp.sub i h)
    · exact List.mem_append_right _ h
  · obtain ⟨id, inj, bnd, hrd⟩ := hp.ready
    have hnx := post'.nx
    refine ⟨id, inj, fun x n h => Nat.lt_of_lt_of_le (bnd x n h) hnx, fun z hz hzD => ?_⟩
    have hzc : z ≠ c := fun e => hzD (by rw [e]; simp)
    have hzE : z ∈ E := by
      rcases List.mem_append.1 hz with h | h
      · exact h
      · exact absurd (List.mem_singleton.1 h) hzc
    have hzD' : z ∉ D := fun h => hzD (List.mem_append_left _ h)
    obtain ⟨o', R, ho', hch', hsees, hval⟩ := hrd z hzE hzD'
    have giv : ∀ v2, Gives fi s.regs o' v2 → Gives fi s'.regs o' v2 := by
      intro v2 hgv d hdd hdlt
      rw [keep d hdlt (pok.dst z c d hzc (by rw [dstOf_at ho']; exact hdd))]
      exact hgv d hdd hdlt
    refine ⟨o', R, ho', hch', fun t ht hlook => ⟨fun ⟨i, hi, hiA⟩ => ?_, (hsees t ht hlook).2⟩, ?_⟩
    · have hne : i ≠ c := fun e => hcE (e ▸ hp.dce z hzE i hiA)
      rw [keep t ht (pok.dst i c t hne hi)]
      exact (hsees t ht hlook).1 ⟨i, hi, hiA⟩
    · rcases hval with ⟨h1, h2⟩ | ⟨h1, v2, h2, h3⟩
      · exact .inl ⟨h1, giv _ h2⟩
      · refine .inr ⟨h1, v2, giv _ h2, ?_⟩
        rcases h3 with h3 | ⟨h4, h5, h6⟩ | ⟨h4, k1, k2, h5, h6, h7, h8, h9, h10⟩
        · exact .inl h3
        · refine .inr (.inl ⟨h4, h5, List.mem_filter.2 ⟨h6, ?_⟩⟩)
          cases hb : Nat.testBit ((ahead L).getD c 0) z with
          | false => rfl
          | true => exact absurd (hA z hb) hzD'
        · obtain ⟨e1, e2⟩ := post'.unt k1.nx h8 h9
          exact .inr (.inr ⟨h4, k1, k2, h5, h6, h7, Nat.lt_of_lt_of_le h8 hnx, e2, by rw [e1]; exact h10⟩)
end
end Go.Ab
