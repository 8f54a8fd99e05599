/-
  Orders of a region's operations: what stands surely ahead, what a schedule keeps.
  Conditions: those that each lemma names.
-/
import Derived.Test.YtiajkflemnaabaaGreatBbW
namespace Go.Ab
variable [Val]

/-- i stands surely ahead of j. -/
def AH (L : List Oper) (i j : Nat) : Prop := Nat.testBit ((ahead L).getD j 0) i = true

/-- Each once, and behind those that surely come ahead of it. -/
def TP (A : Nat → Nat → Prop) : List Nat → List Nat → Prop
  | _, [] => True
  | done, x :: r => x ∉ done ∧ (∀ i, A i x → i ∈ done) ∧ TP A (done ++ [x]) r

def DC (A : Nat → Nat → Prop) (l : List Nat) : Prop := ∀ x ∈ l, ∀ i, A i x → i ∈ l

omit [Val] in
theorem DC.snoc {A : Nat → Nat → Prop} {l : List Nat} {x : Nat} (h : DC A l) (hx : ∀ i, A i x → i ∈ l) : DC A (l ++ [x]) := by
  intro y hy i hi
  rcases List.mem_append.1 hy with h1 | h1
  · exact List.mem_append_left _ (h y h1 i hi)
  · obtain rfl := List.mem_singleton.1 h1
    exact List.mem_append_left _ (hx i hi)

omit [Val] in
theorem topo_ok {L : List Oper} : ∀ (l done : List Nat) (m : Nat), (∀ i, Nat.testBit m i = true ↔ i ∈ done) → topo (ahead L) m l = true → TP (AH L) done l := by
  intro l
  induction l with
  | nil => intro _ _ _ _; trivial
  | cons x r ih =>
    intro done m hm h
    simp only [topo, Bool.and_eq_true, Bool.not_eq_true'] at h
    obtain ⟨h1, h2, h3⟩ := h
    have h2 := Nat.eq_of_beq_eq_true h2
    refine ⟨fun hx => ?_, fun i hi => ?_, ih _ _ (fun i => ?_) h3⟩
    · rw [(hm x).2 hx] at h1; simp at h1
    · refine (hm i).1 ?_
      have e : Nat.testBit (Nat.land ((ahead L).getD x 0) m) i = true := by rw [h2]; exact hi
      have e2 : Nat.testBit ((ahead L).getD x 0 &&& m) i = true := e
      rw [Nat.testBit_and, Bool.and_eq_true] at e2
      exact e2.2
    · show Nat.testBit (m ||| 2 ^ x) i = true ↔ _
      rw [Nat.testBit_or, Bool.or_eq_true, hm i, Nat.testBit_two_pow, List.mem_append, List.mem_singleton, decide_eq_true_iff]
      exact or_congr Iff.rfl ⟨fun h => h.symm, fun h => h.symm⟩

omit [Val] in
theorem row_bits (acc : List Nat) : ∀ (l : List Edge) (s i : Nat), Nat.testBit (l.foldl (fun s e => bif Region.binds .any e then Nat.lor (Nat.lor s (2 ^ e.on)) (acc.getD e.on 0) else s) s) i = true →
    Nat.testBit s i = true ∨ ∃ e ∈ l, Region.binds .any e = true ∧ (e.on = i ∨ Nat.testBit (acc.getD e.on 0) i = true) := by
  intro l
  induction l with
  | nil => intro s i h; exact .inl h
  | cons e l ih =>
    intro s i h
    rw [List.foldl_cons] at h
    rcases ih _ i h with h1 | ⟨e', he', hb, hx⟩
    · cases hb : Region.binds .any e with
      | false => rw [hb] at h1; exact .inl h1
      | true =>
        rw [hb] at h1
        simp only [cond_true] at h1
        have h2 : Nat.testBit ((s ||| 2 ^ e.on) ||| acc.getD e.on 0) i = true := h1
        rw [Nat.testBit_or, Nat.testBit_or, Bool.or_eq_true, Bool.or_eq_true, Nat.testBit_two_pow, decide_eq_true_iff] at h2
        rcases h2 with (h2 | h2) | h2
        · exact .inl h2
        · exact .inr ⟨e, List.mem_cons_self, hb, .inl h2⟩
        · exact .inr ⟨e, List.mem_cons_self, hb, .inr h2⟩
    · exact .inr ⟨e', List.mem_cons_of_mem _ he', hb, hx⟩

def aheadF (acc : List Nat) (o : Oper) : List Nat :=
  acc ++ [o.after.toList.foldl (fun s e => bif Region.binds .any e then Nat.lor (Nat.lor s (2 ^ e.on)) (acc.getD e.on 0) else s) 0]

omit [Val] in
theorem aheadF_prefix : ∀ (l : List Oper) (acc : List Nat), ∃ t, l.foldl aheadF acc = acc ++ t ∧ t.length = l.length := by
  intro l
  induction l with
  | nil => intro acc; exact ⟨[], by simp, rfl⟩
  | cons o l ih =>
    intro acc
    obtain ⟨t, h1, h2⟩ := ih (aheadF acc o)
    refine ⟨o.after.toList.foldl (fun s e => bif Region.binds .any e then Nat.lor (Nat.lor s (2 ^ e.on)) (acc.getD e.on 0) else s) 0 :: t, ?_, by simp [h2]⟩
    rw [List.foldl_cons, h1]
    unfold aheadF
    rw [List.append_assoc, List.singleton_append]

omit [Val] in
theorem aheadF_row : ∀ (l : List Oper) (acc : List Nat) (k : Nat) (o : Oper), l[k]? = some o →
    ∃ acc', acc'.length = acc.length + k ∧ (∃ t, l.foldl aheadF acc = acc' ++ t) ∧
      (l.foldl aheadF acc).getD (acc.length + k) 0 = o.after.toList.foldl (fun s e => bif Region.binds .any e then Nat.lor (Nat.lor s (2 ^ e.on)) (acc'.getD e.on 0) else s) 0 := by
  intro l
  induction l with
  | nil => intro acc k o h; simp at h
  | cons p l ih =>
    intro acc k o h
    cases k with
    | zero =>
      simp only [List.getElem?_cons_zero, Option.some.injEq] at h
      subst h
      obtain ⟨t, h1, h2⟩ := aheadF_prefix l (aheadF acc p)
      refine ⟨acc, rfl, ⟨_, by rw [List.foldl_cons, h1]; unfold aheadF; rw [List.append_assoc]⟩, ?_⟩
      rw [List.foldl_cons, h1]
      unfold aheadF
      simp
    | succ k =>
      rw [List.getElem?_cons_succ] at h
      obtain ⟨acc', h1, h2, h3⟩ := ih (aheadF acc p) k o h
      have hl : (aheadF acc p).length = acc.length + 1 := by simp [aheadF]
      rw [hl] at h1 h3
      refine ⟨acc', by omega, h2, ?_⟩
      rw [List.foldl_cons, ← h3]
      congr 1
      omega

omit [Val] in
theorem ahead_row {L : List Oper} {j : Nat} {o : Oper} (ho : L[j]? = some o) (hlt : ∀ e ∈ o.after.toList, Region.binds .any e = true → e.on < j) {i : Nat} (h : AH L i j) :
    ∃ e ∈ o.after.toList, Region.binds .any e = true ∧ (e.on = i ∨ AH L i e.on) := by
  obtain ⟨acc', h1, ⟨t, h2⟩, h3⟩ := aheadF_row L [] j o ho
  have e : ahead L = L.foldl aheadF [] := rfl
  unfold AH at h
  rw [e] at h
  simp only [List.length_nil, Nat.zero_add] at h1 h3
  rw [h3] at h
  rcases row_bits _ _ _ _ h with h4 | ⟨ed, he, hb, hx⟩
  · simp at h4
  · refine ⟨ed, he, hb, hx.imp id fun hx => ?_⟩
    have := hlt ed he hb
    unfold AH
    rw [e, h2, List.getD_eq_getElem?_getD, List.getElem?_append_left (by omega), ← List.getD_eq_getElem?_getD]
    exact hx

omit [Val] in
theorem ahead_lt {L : List Oper} (hlt : ∀ j o, L[j]? = some o → ∀ e ∈ o.after.toList, Region.binds .any e = true → e.on < j) : ∀ j, j < L.length → ∀ i, AH L i j → i < j := by
  intro j
  induction j using Nat.strongRecOn with
  | _ j ih =>
    intro hj i h
    have ho : L[j]? = some L[j] := List.getElem?_eq_getElem hj
    obtain ⟨e, he, hb, hx⟩ := ahead_row ho (hlt j _ ho) h
    have := hlt j _ ho e he hb
    rcases hx with rfl | hx
    · exact this
    · have := ih e.on this (by omega) i hx
      omega

/-! ### Schedules -/

omit [Val] in
theorem nodup_bound : ∀ (n : Nat) (l : List Nat), l.Nodup → (∀ x ∈ l, x < n) → l.length ≤ n := by
  intro n
  induction n with
  | zero =>
    intro l _ h
    cases l with
    | nil => simp
    | cons x l => exact absurd (h x List.mem_cons_self) (by omega)
  | succ n ih =>
    intro l hn h
    have h1 : (l.erase n).length ≤ n := ih _ (hn.erase n) fun x hx => by
      have := (hn.mem_erase_iff).1 hx
      have := h x this.2
      omega
    have := List.length_erase (a := n) (l := l)
    split at this <;> omega

omit [Val] in
theorem nodup_full : ∀ (n : Nat) (l : List Nat), l.Nodup → (∀ x ∈ l, x < n) → n ≤ l.length → ∀ i, i < n → i ∈ l := by
  intro n
  induction n with
  | zero => intro l _ _ _ i hi; omega
  | succ n ih =>
    intro l hn h hlen i hi
    have hmem : n ∈ l := by
      refine Classical.byContradiction fun hne => ?_
      have := nodup_bound n l hn fun x hx => by
        have h1 := h x hx
        have h2 : x ≠ n := fun e => hne (e ▸ hx)
        omega
      omega
    have h1 : ∀ x ∈ l.erase n, x < n := fun x hx => by
      have := (hn.mem_erase_iff).1 hx
      have := h x this.2
      omega
    have h2 : n ≤ (l.erase n).length := by rw [List.length_erase_of_mem hmem]; omega
    by_cases e : i = n
    · exact e ▸ hmem
    · exact List.mem_of_mem_erase (ih _ (hn.erase n) h1 h2 i (by omega))

/-- The listed flags, beside the list. -/
def Flags (n : Nat) (listed : Array Bool) (acc : List Nat) : Prop := listed.size = n ∧ ∀ i, i < n → (listed.getD i true = true ↔ i ∈ acc) ∧ (listed.getD i false = true ↔ i ∈ acc)

omit [Val] in
theorem Flags.set {n : Nat} {listed : Array Bool} {acc : List Nat} (h : Flags n listed acc) {i : Nat} (hi : i < n) : Flags n (listed.setIfInBounds i true) (i :: acc) := by
  refine ⟨by simpa using h.1, fun j hj => ?_⟩
  have hs := h.1
  have h1 := h.2 j hj
  simp only [Array.getD_eq_getD_getElem?, Array.getElem?_setIfInBounds] at h1 ⊢
  by_cases e : i = j
  · subst e
    rw [if_pos rfl, if_pos (by omega)]
    simp
  · rw [if_neg e, h1.1, h1.2]
    have : ¬ j = i := fun h => e h.symm
    simp [this]

omit [Val] in
theorem lin_go {ops : Array Oper} (hlt : ∀ j o, ops.toList[j]? = some o → ∀ e ∈ o.after.toList, Region.binds .any e = true → e.on < j) :
    ∀ (fuel t : Nat) (listed : Array Bool) (acc : List Nat), Flags ops.size listed acc → acc.Nodup → (∀ x ∈ acc, x < ops.size) → acc.length + fuel = ops.size → DC (AH ops.toList) acc.reverse →
      ∃ l, Region.linearise.go .any ops fuel t listed acc = acc.reverse ++ l ∧ TP (AH ops.toList) acc.reverse l ∧ (∀ x ∈ l, x < ops.size) ∧ ∀ i, i < ops.size → i ∈ acc.reverse ++ l := by
  intro fuel
  induction fuel with
  | zero =>
    intro t listed acc hf hn hb hlen hdc
    exact ⟨[], by simp [Region.linearise.go], trivial, by simp, fun i hi => by simpa using nodup_full _ acc hn hb (by omega) i hi⟩
  | succ fuel ih =>
    intro t listed acc hf hn hb hlen hdc
    unfold Region.linearise.go
    dsimp only
    generalize hrs : (List.range ops.size).filter (fun i => !listed.getD i true && ((ops[i]?).map (·.after.all fun e => !Region.binds .any e || listed.getD e.on false)).getD false) = rs
    have hmem : ∀ i, i ∈ rs ↔ i < ops.size ∧ i ∉ acc ∧ ∃ o, ops[i]? = some o ∧ ∀ e ∈ o.after.toList, Region.binds .any e = true → listed.getD e.on false = true := by
      intro i
      rw [← hrs, List.mem_filter, List.mem_range, Bool.and_eq_true, Bool.not_eq_true']
      constructor
      · rintro ⟨h1, h2, h3⟩
        refine ⟨h1, fun hm => ?_, ?_⟩
        · rw [((hf.2 i h1).1).2 hm] at h2; simp at h2
        · rw [Array.getElem?_eq_getElem h1] at h3 ⊢
          refine ⟨_, rfl, fun e he hbd => ?_⟩
          simp only [Option.map_some, Option.getD_some] at h3
          have := Array.all_eq_true_iff_forall_mem.1 h3 e (by simpa using he)
          simpa [hbd] using this
      · rintro ⟨h1, h2, o, ho, h3⟩
        refine ⟨h1, ?_, ?_⟩
        · cases hx : listed.getD i true with
          | false => rfl
          | true => exact absurd (((hf.2 i h1).1).1 hx) h2
        · rw [ho]
          simp only [Option.map_some, Option.getD_some]
          refine Array.all_eq_true_iff_forall_mem.2 fun e he => ?_
          cases hbd : Region.binds .any e with
          | false => simp
          | true => simpa using h3 e (by simpa using he) hbd
    cases hg : rs[t % rs.length]? with
    | none =>
      have hnil : rs = [] := by
        cases rs with
        | nil => rfl
        | cons x r =>
          rw [List.getElem?_eq_getElem (Nat.mod_lt _ (by simp))] at hg
          simp at hg
      refine ⟨[], by simp, trivial, by simp, ?_⟩
      have key : ∀ i, i < ops.size → i ∈ acc := by
        intro i
        induction i using Nat.strongRecOn with
        | _ i ihi =>
          intro hi
          refine Classical.byContradiction fun hne => ?_
          have : i ∈ rs := (hmem i).2 ⟨hi, hne, ops[i], Array.getElem?_eq_getElem hi, fun e he hbd => by
            have hl := hlt i ops[i] (by simp [hi]) e he hbd
            exact ((hf.2 e.on (by omega)).2).2 (ihi e.on hl (by omega))⟩
          rw [hnil] at this
          simp at this
      intro i hi
      simpa using key i hi
    | some i =>
      dsimp only
      have him : i ∈ rs := List.mem_of_getElem? hg
      obtain ⟨hi, hnm, o, ho, hready⟩ := (hmem i).1 him
      have hoL : ops.toList[i]? = some o := by simpa using ho
      have hA : ∀ j, AH ops.toList j i → j ∈ acc := by
        intro j hj
        obtain ⟨e, he, hbd, hx⟩ := ahead_row hoL (hlt i o hoL) hj
        have hl := hlt i o hoL e he hbd
        have hin := ((hf.2 e.on (by omega)).2).1 (hready e he hbd)
        rcases hx with rfl | hx
        · exact hin
        · have := hdc e.on (by simpa using hin) j hx
          simpa using this
      obtain ⟨l, h1, h2, h3, h4⟩ := ih (t / rs.length) (listed.setIfInBounds i true) (i :: acc) (hf.set hi) (List.nodup_cons.2 ⟨hnm, hn⟩)
        (fun x hx => by rcases List.mem_cons.1 hx with rfl | hx; exact hi; exact hb x hx) (by simp only [List.length_cons]; omega)
        (by rw [List.reverse_cons]; exact hdc.snoc fun j hj => by simpa using hA j hj)
      rw [List.reverse_cons] at h1 h2 h4
      refine ⟨i :: l, by rw [h1, List.append_assoc]; rfl, ⟨by simpa using hnm, fun j hj => by simpa using hA j hj, h2⟩, fun x hx => ?_, fun j hj => ?_⟩
      · rcases List.mem_cons.1 hx with rfl | hx
        · exact hi
        · exact h3 x hx
      · have := h4 j hj
        rwa [List.append_assoc] at this

omit [Val] in
theorem lin_ok {ops : Array Oper} (hlt : ∀ j o, ops.toList[j]? = some o → ∀ e ∈ o.after.toList, Region.binds .any e = true → e.on < j) (t : Nat) :
    TP (AH ops.toList) [] (Region.linearise .any ops t) ∧ (∀ x ∈ Region.linearise .any ops t, x < ops.size) ∧ ∀ i, i < ops.size → i ∈ Region.linearise .any ops t := by
  obtain ⟨l, h1, h2, h3, h4⟩ := lin_go hlt ops.size t (Array.replicate ops.size false) [] ⟨by simp, fun i hi => by simp [Array.getD_eq_getD_getElem?, hi]⟩ List.nodup_nil (by simp) (by simp)
    (by intro x hx; simp at hx)
  have e : Region.linearise .any ops t = l := by unfold Region.linearise; rw [h1]; simp
  rw [e]
  exact ⟨h2, h3, fun i hi => by simpa using h4 i hi⟩
end Go.Ab
