/-
  The abstract machine's trees and aggregates: what is read behind what was written.
  Conditions: those that each lemma names.
-/
import Derived.Test.YtiajkflemnaabaaGreatBbB
namespace Go.Ab
namespace Tr
variable {α : Type}

theorem bit_eq (i d : Nat) : bit i d = i.testBit d := by
  have h : Nat.land (Nat.shiftRight i d) 1 = (i >>> d) &&& 1 := rfl
  unfold bit
  rw [h, Nat.testBit_eq_decide_div_mod_eq, Nat.shiftRight_eq_div_pow, Nat.and_one_is_mod]
  by_cases hb : i / 2 ^ d % 2 = 1
  · simp [hb]
  · have : i / 2 ^ d % 2 = 0 := by omega
    rw [this]
    rfl

theorem get_zero (t : Tr α) (i : Nat) : t.get 0 i = t.val := rfl
theorem path_succ (d i : Nat) : path (d + 1) i = if bit i d = true then .s (path d i) else .f (path d i) := by
  have h : path (d + 1) i = @Bool.casesOn (fun _ => Path) (bit i d) (.f (path d i)) (.s (path d i)) := rfl
  rw [h]
  cases bit i d <;> rfl

theorem get_e (d i : Nat) : (Tr.e : Tr α).get d i = none := by
  cases d with
  | zero => rfl
  | succ d =>
    unfold get
    rw [path_succ]
    split <;> rfl

theorem get_l (x : α) (d i : Nat) : (Tr.l x : Tr α).get (d + 1) i = none := by
  unfold get
  rw [path_succ]
  split <;> rfl

theorem get_succ (d : Nat) (t : Tr α) (i : Nat) : t.get (d + 1) i = if bit i d = true then t.snd.get d i else t.fst.get d i := by
  cases t with
  | e => rw [get_e]; simp [fst, snd, get_e]
  | l x => rw [get_l]; simp [fst, snd, get_e]
  | n a b =>
    conv => lhs; unfold get
    rw [path_succ]
    split <;> rfl

theorem set_succ (x : α) (d : Nat) (t : Tr α) (i : Nat) :
    t.set x (d + 1) i = if bit i d = true then .n t.fst (t.snd.set x d i) else .n (t.fst.set x d i) t.snd := by
  conv => lhs; unfold set
  rw [path_succ]
  split <;> cases t <;> rfl

theorem get_set (x : α) : ∀ (d : Nat) (t : Tr α) (i j : Nat),
    (t.set x d i).get d j = if (∀ k, k < d → bit i k = bit j k) then some x else t.get d j := by
  intro d
  induction d with
  | zero => intro t i j; simp [show t.set x 0 i = .l x from rfl, get_zero, val]
  | succ d ih =>
    intro t i j
    rw [set_succ, get_succ, get_succ]
    have key : (∀ k, k < d + 1 → bit i k = bit j k) ↔ bit i d = bit j d ∧ ∀ k, k < d → bit i k = bit j k := by
      constructor
      · intro h; exact ⟨h d (by omega), fun k hk => h k (by omega)⟩
      · intro h k hk
        rcases Nat.lt_or_ge k d with h' | h'
        · exact h.2 k h'
        · obtain rfl : k = d := by omega
          exact h.1
    by_cases hi : bit i d = true
    · by_cases hj : bit j d = true
      · rw [if_pos hi, if_pos hj, if_pos hj]
        simp only [snd]
        rw [ih]
        simp only [key, hi, hj, true_and]
      · rw [if_pos hi, if_neg hj, if_neg hj, if_neg (by rw [key]; intro h; exact hj (h.1 ▸ hi))]
        simp only [fst]
    · by_cases hj : bit j d = true
      · rw [if_neg hi, if_pos hj, if_pos hj, if_neg (by rw [key]; intro h; exact hi (h.1.symm ▸ hj))]
        simp only [snd]
      · rw [if_neg hi, if_neg hj, if_neg hj]
        simp only [fst]
        rw [ih]
        have e : bit i d = bit j d := by rw [Bool.not_eq_true] at hi hj; rw [hi, hj]
        simp only [key, e, true_and]

theorem bits_eq_iff {d i j : Nat} (hi : i < 2 ^ d) (hj : j < 2 ^ d) : (∀ k, k < d → bit i k = bit j k) ↔ i = j := by
  constructor
  · intro h
    refine Nat.eq_of_testBit_eq fun k => ?_
    rcases Nat.lt_or_ge k d with hk | hk
    · rw [← bit_eq, ← bit_eq]; exact h k hk
    · rw [Nat.testBit_lt_two_pow (Nat.lt_of_lt_of_le hi (Nat.pow_le_pow_right (by omega) hk)), Nat.testBit_lt_two_pow (Nat.lt_of_lt_of_le hj (Nat.pow_le_pow_right (by omega) hk))]
  · rintro rfl k _; rfl

theorem get_set_lt (x : α) {d : Nat} (t : Tr α) {i j : Nat} (hi : i < 2 ^ d) (hj : j < 2 ^ d) :
    (t.set x d i).get d j = if i = j then some x else t.get d j := by
  rw [get_set]; simp only [bits_eq_iff hi hj]

/-- Upper bits do not count. -/
theorem get_low : ∀ (d : Nat) (t : Tr α) (i j : Nat), (∀ k, k < d → bit i k = bit j k) → t.get d i = t.get d j := by
  intro d
  induction d with
  | zero => intro t i j _; rfl
  | succ d ih =>
    intro t i j h
    rw [get_succ, get_succ, h d (by omega), ih t.snd i j fun k hk => h k (by omega), ih t.fst i j fun k hk => h k (by omega)]

theorem bit_add {i j k n : Nat} (hj : j < 2 ^ k) (hi : i % 2 ^ k = 0) (hn : k ≤ n) : bit (i + j) n = bit i n := by
  rw [bit_eq, bit_eq, Nat.testBit_eq_decide_div_mod_eq, Nat.testBit_eq_decide_div_mod_eq]
  have e : (i + j) / 2 ^ n = i / 2 ^ n := by
    obtain ⟨m, rfl⟩ : ∃ m, n = k + m := ⟨n - k, by omega⟩
    rw [Nat.pow_add, ← Nat.div_div_eq_div_mul, ← Nat.div_div_eq_div_mul]
    congr 1
    obtain ⟨q, rfl⟩ : ∃ q, i = 2 ^ k * q := Nat.dvd_of_mod_eq_zero hi
    rw [Nat.mul_add_div (Nat.two_pow_pos k), Nat.div_eq_of_lt hj, Nat.mul_div_cancel_left _ (Nat.two_pow_pos k)]
    rfl
  rw [e]

theorem bit_add_low {i j k n : Nat} (hj : j < 2 ^ k) (hi : i % 2 ^ k = 0) (hn : n < k) : bit (i + j) n = bit j n := by
  rw [bit_eq, bit_eq]
  obtain ⟨q, rfl⟩ : ∃ q, i = 2 ^ k * q := Nat.dvd_of_mod_eq_zero hi
  rw [Nat.testBit_two_pow_mul_add _ hj]
  simp [hn]

theorem get_sub (k : Nat) : ∀ (m : Nat) (t : Tr α) (i j : Nat), j < 2 ^ k → i % 2 ^ k = 0 → (t.sub k m i).get k j = t.get (k + m) (i + j) := by
  intro m
  induction m with
  | zero =>
    intro t i j hj hi
    show t.get k j = t.get k (i + j)
    exact get_low k t j (i + j) fun n hn => (bit_add_low hj hi hn).symm
  | succ m ih =>
    intro t i j hj hi
    have h : sub k (m + 1) t i = @Bool.casesOn (fun _ => Tr α) (bit i (m + k)) (sub k m t.fst i) (sub k m t.snd i) := rfl
    rw [h, show k + (m + 1) = (k + m) + 1 from rfl, get_succ, bit_add hj hi (show k ≤ k + m by omega), show k + m = m + k by omega]
    cases hb : bit i (m + k) with
    | true => simp only [if_true]; rw [← show k + m = m + k by omega]; exact ih t.snd i j hj hi
    | false => simp only [Bool.false_eq_true, if_false]; rw [← show k + m = m + k by omega]; exact ih t.fst i j hj hi

theorem put_succ (s : Tr α) (k m : Nat) (t : Tr α) (i : Nat) :
    Tr.put s k (m + 1) t i = if bit i (m + k) = true then .n t.fst (Tr.put s k m t.snd i) else .n (Tr.put s k m t.fst i) t.snd := by
  have h : Tr.put s k (m + 1) t i = @Bool.casesOn (fun _ => Tr α) (bit i (m + k)) (.n (Tr.put s k m t.fst i) t.snd) (.n t.fst (Tr.put s k m t.snd i)) := by cases t <;> rfl
  rw [h]
  cases bit i (m + k) <;> rfl

theorem get_put (s : Tr α) (k : Nat) : ∀ (m : Nat) (t : Tr α) (i j : Nat),
    (Tr.put s k m t i).get (k + m) j = if (∀ n, n < m → bit i (n + k) = bit j (n + k)) then s.get k j else t.get (k + m) j := by
  intro m
  induction m with
  | zero =>
    intro t i j
    rw [if_pos (by intro n h1; omega)]
    rfl
  | succ m ih =>
    intro t i j
    have key : (∀ n, n < m + 1 → bit i (n + k) = bit j (n + k)) ↔ bit i (m + k) = bit j (m + k) ∧ ∀ n, n < m → bit i (n + k) = bit j (n + k) := by
      constructor
      · intro h; exact ⟨h m (by omega), fun n h1 => h n (by omega)⟩
      · intro h n h1
        rcases Nat.lt_or_ge n m with h' | h'
        · exact h.2 n h'
        · obtain rfl : n = m := by omega
          exact h.1
    have ec : k + m = m + k := by omega
    rw [put_succ, show k + (m + 1) = (k + m) + 1 from rfl, get_succ, get_succ, ec]
    by_cases hi : bit i (m + k) = true
    · by_cases hj : bit j (m + k) = true
      · rw [if_pos hi, if_pos hj, if_pos hj]
        simp only [snd]
        rw [← ec, ih]
        simp only [key, hi, hj, true_and]
      · rw [if_pos hi, if_neg hj, if_neg hj, if_neg (by rw [key]; intro h; exact hj (h.1 ▸ hi))]
        simp only [fst]
    · by_cases hj : bit j (m + k) = true
      · rw [if_neg hi, if_pos hj, if_pos hj, if_neg (by rw [key]; intro h; exact hi (h.1.symm ▸ hj))]
        simp only [snd]
      · rw [if_neg hi, if_neg hj, if_neg hj]
        simp only [fst]
        rw [← ec, ih]
        have e : bit i (m + k) = bit j (m + k) := by rw [Bool.not_eq_true] at hi hj; rw [hi, hj]
        simp only [key, e, true_and]
end Tr

theorem E.eq_of_same : ∀ {a b : E}, a.same b = true → a = b := by
  intro a
  induction a <;> intro b h <;> cases b <;> simp_all [E.same]
  case add.add ih₁ ih₂ _ _ => exact ⟨ih₁ h.1, ih₂ h.2⟩
  case sub.sub ih₁ ih₂ _ _ => exact ⟨ih₁ h.1, ih₂ h.2⟩
  case mul.mul ih₁ ih₂ _ _ => exact ⟨ih₁ h.1, ih₂ h.2⟩
  case rem.rem ih _ _ => exact ih h.2
  case quo.quo ih _ _ => exact ih h.2
  case max.max ih₁ ih₂ _ _ => exact ⟨ih₁ h.1, ih₂ h.2⟩
  case min.min ih₁ ih₂ _ _ => exact ⟨ih₁ h.1, ih₂ h.2⟩
theorem AV.eq_of_scalarEq {a b : AV} (h : a.scalarEq b = true) : a = b := by
  cases a <;> cases b <;> simp_all [AV.scalarEq]
  case sym.sym => exact E.eq_of_same h.2.2.2

theorem le_depFor (n : Nat) : n ≤ 2 ^ depFor n := by
  unfold depFor
  cases h : Nat.ble n 1 with
  | true =>
    have h' := Nat.le_of_ble_eq_true h
    simp only [cond_true]
    simpa using h'
  | false =>
    have h' : ¬ n ≤ 1 := fun hle => by rw [Nat.ble_eq_true_of_le hle] at h; exact absurd h (by simp)
    simp only [cond_false]
    have : n - 1 < 2 ^ (Nat.log2 (n - 1) + 1) := Nat.lt_log2_self
    omega

theorem length_cellsFrom (dep : Nat) (d : AV) (t : Tr AV) : ∀ (k o : Nat), (cellsFrom dep d t o k).length = k := by
  intro k
  induction k with
  | zero => intro o; rfl
  | succ k ih => intro o; simp [cellsFrom, ih]

theorem getD_cellsFrom (dep : Nat) (d : AV) (t : Tr AV) (x : AV) : ∀ (k o i : Nat), i < k → (cellsFrom dep d t o k).getD i x = cget dep d t (o + i) := by
  intro k
  induction k with
  | zero => intro o i h; omega
  | succ k ih =>
    intro o i h
    cases i with
    | zero => rfl
    | succ i =>
      simp only [cellsFrom, List.getD_cons_succ]
      rw [ih (o + 1) i (by omega)]
      congr 1
      omega

theorem getElem?_cellsFrom (dep : Nat) (d : AV) (t : Tr AV) (k o i : Nat) (h : i < k) : (cellsFrom dep d t o k)[i]? = some (cget dep d t (o + i)) := by
  have h1 := getD_cellsFrom dep d t .junk k o i h
  have hl := length_cellsFrom dep d t k o
  rw [List.getElem?_eq_getElem (by omega)]
  rw [List.getD_eq_getElem?_getD, List.getElem?_eq_getElem (by omega)] at h1
  simpa using h1

theorem get_setFrom (dep : Nat) : ∀ (l : List AV) (t : Tr AV) (o j : Nat), o + l.length ≤ 2 ^ dep → j < 2 ^ dep →
    (setFrom dep t o l).get dep j = if o ≤ j ∧ j < o + l.length then l[j - o]? else t.get dep j := by
  intro l
  induction l with
  | nil => intro t o j _ _; simp [setFrom]; omega
  | cons v l ih =>
    intro t o j ho hj
    simp only [List.length_cons] at ho
    simp only [setFrom]
    rw [ih _ _ _ (by omega) hj, Tr.get_set_lt _ _ (by omega) hj]
    simp only [List.length_cons]
    by_cases h1 : o + 1 ≤ j ∧ j < o + 1 + l.length
    · rw [if_pos h1, if_pos (by omega), show j - o = (j - (o + 1)) + 1 by omega, List.getElem?_cons_succ]
    · rw [if_neg h1]
      by_cases h2 : o = j
      · subst h2
        rw [if_pos rfl, if_pos (by omega)]
        simp
      · rw [if_neg h2, if_neg (by omega)]

theorem cget_setFrom (dep : Nat) (d : AV) (t : Tr AV) (o : Nat) (l : List AV) (j : Nat) (ho : o + l.length ≤ 2 ^ dep) (hj : j < 2 ^ dep) :
    cget dep d (setFrom dep t o l) j = if o ≤ j ∧ j < o + l.length then l.getD (j - o) .junk else cget dep d t j := by
  unfold cget
  rw [get_setFrom dep l t o j ho hj]
  split
  · rename_i h
    rw [List.getD_eq_getElem?_getD, List.getElem?_eq_getElem (by omega)]
    rfl
  · rfl

structure Vec.Wf (v : Vec) : Prop where
  le : v.n ≤ 2 ^ v.dep

theorem vecOf_n (l : List AV) : (vecOf l).n = l.length := by
  unfold vecOf
  split
  · rfl
  · split <;> rfl

theorem vecOf_wf (l : List AV) : (vecOf l).Wf := by
  constructor
  unfold vecOf
  split
  · simp
  · split <;> exact le_depFor _

theorem vecOf_get (l : List AV) (i : Nat) (h : i < l.length) : (vecOf l).get i = l.getD i .junk := by
  unfold vecOf
  split
  · simp at h
  · rename_i v r
    split
    · rename_i hall
      simp only [Vec.get, cget, Tr.get_e, Option.getD_none]
      cases i with
      | zero => rfl
      | succ i =>
        simp only [List.getD_cons_succ]
        simp only [List.length_cons] at h
        rw [List.getD_eq_getElem?_getD, List.getElem?_eq_getElem (by omega)]
        simp only [Option.getD_some]
        exact AV.eq_of_scalarEq (List.all_eq_true.1 hall _ (List.getElem_mem _))
    · simp only [Vec.get]
      rw [cget_setFrom _ _ _ _ _ _ (by have := le_depFor (v :: r).length; omega) (by have := le_depFor (v :: r).length; omega)]
      rw [if_pos (by omega)]
      simp

theorem subVec_n (n dep : Nat) (d : AV) (t : Tr AV) (off size : Nat) : (subVec n dep d t off size).n = size := by
  unfold subVec
  split
  · rename_i h; exact h.2.symm
  · dsimp only
    split
    · rfl
    · rw [vecOf_n, length_cellsFrom]

theorem subVec_wf (n dep : Nat) (d : AV) (t : Tr AV) (off size : Nat) (hn : n ≤ 2 ^ dep) : (subVec n dep d t off size).Wf := by
  unfold subVec
  split
  · exact ⟨hn⟩
  · dsimp only
    split
    · rename_i h; exact ⟨by simp [h.1]⟩
    · exact vecOf_wf _

theorem subVec_get (n dep : Nat) (d : AV) (t : Tr AV) (off size i : Nat) (hi : i < size) : (subVec n dep d t off size).get i = cget dep d t (off + i) := by
  unfold subVec
  split
  · rename_i h; simp [Vec.get, h.1]
  · dsimp only
    split
    · rename_i h
      obtain ⟨h1, h2, h3⟩ := h
      simp only [Vec.get, cget]
      rw [Tr.get_sub _ _ _ _ _ (by omega) (by rw [h1]; exact h2), show Nat.log2 size + (dep - Nat.log2 size) = dep by omega]
    · rw [vecOf_get _ _ (by rw [length_cellsFrom]; exact hi), getD_cellsFrom _ _ _ _ _ _ _ hi]

/-- What a store leaves. -/
theorem storeVec_spec (n dep : Nat) (d : AV) (tr : Tr AV) (off : Nat) (v : Vec) (hn : n ≤ 2 ^ dep) (hv : v.Wf) (hoff : off + v.n ≤ n) :
    ∃ dep' d' t', storeVec n dep d tr off v = .cells n dep' d' t' ∧ n ≤ 2 ^ dep' ∧
      ∀ j, j < n → cget dep' d' t' j = if off ≤ j ∧ j < off + v.n then v.get (j - off) else cget dep d tr j := by
  unfold storeVec
  split
  · rename_i h
    obtain ⟨rfl, h⟩ := h
    refine ⟨v.dep, v.d, v.t, rfl, by have := hv.le; omega, fun j hj => ?_⟩
    rw [if_pos (by omega)]
    rfl
  · dsimp only
    split
    · rename_i h1
      refine ⟨dep, d, _, rfl, hn, fun j hj => ?_⟩
      unfold cget
      rw [Tr.get_set_lt _ _ (by omega) (by omega)]
      by_cases hj' : off = j
      · subst hj'
        rw [if_pos rfl, if_pos (by omega)]
        simp
      · rw [if_neg hj', if_neg (by omega)]
    · split
      · rename_i h
        obtain ⟨h1, h2, h3, h4, h5⟩ := h
        refine ⟨dep, d, _, rfl, hn, fun j hj => ?_⟩
        have e := AV.eq_of_scalarEq h5
        have hd : dep = Nat.log2 v.n + (dep - Nat.log2 v.n) := by omega
        generalize hk : Nat.log2 v.n = k at *
        unfold cget Vec.get cget
        rw [show (Tr.put v.t k (dep - k) tr off).get dep j = (Tr.put v.t k (dep - k) tr off).get (k + (dep - k)) j by rw [← hd], Tr.get_put, ← hd]
        have hmod : off % 2 ^ k = 0 := by rw [h1]; exact h2
        by_cases hin : off ≤ j ∧ j < off + v.n
        · rw [if_pos hin]
          have hj2 : j - off < 2 ^ k := by omega
          have ej : j = off + (j - off) := by omega
          rw [if_pos (by
            intro m hm
            rw [ej]
            exact (Tr.bit_add hj2 hmod (by omega)).symm)]
          rw [h4, e]
          congr 1
          refine Tr.get_low k v.t j (j - off) fun m hm => ?_
          rw [ej]
          simp only [Nat.add_sub_cancel_left]
          exact Tr.bit_add_low hj2 hmod hm
        · rw [if_neg hin]
          rw [if_neg]
          intro hall
          -- the upper bits agree: j lies in the part
          apply hin
          have hq : off / 2 ^ k = j / 2 ^ k := by
            refine Nat.eq_of_testBit_eq fun m => ?_
            rw [Nat.testBit_div_two_pow, Nat.testBit_div_two_pow]
            rcases Nat.lt_or_ge (k + m) dep with hm | hm
            · have := hall m (by omega)
              rwa [Tr.bit_eq, Tr.bit_eq] at this
            · rw [Nat.testBit_lt_two_pow (Nat.lt_of_lt_of_le (show off < 2 ^ dep by omega) (Nat.pow_le_pow_right (by omega) (show dep ≤ m + k by omega))),
                Nat.testBit_lt_two_pow (Nat.lt_of_lt_of_le (show j < 2 ^ dep by omega) (Nat.pow_le_pow_right (by omega) (show dep ≤ m + k by omega)))]
          have e1 := Nat.div_add_mod off (2 ^ k)
          have e2 := Nat.div_add_mod j (2 ^ k)
          have e3 : j % 2 ^ k < 2 ^ k := Nat.mod_lt _ (Nat.two_pow_pos k)
          rw [hq] at e1
          rw [← h1]
          omega
      · refine ⟨dep, d, _, rfl, hn, fun j hj => ?_⟩
        rw [cget_setFrom _ _ _ _ _ _ (by rw [length_cellsFrom]; omega) (by omega), length_cellsFrom]
        split
        · rename_i h
          rw [getD_cellsFrom _ _ _ _ _ _ _ (by omega)]
          simp [Vec.get]
        · rfl
end Go.Ab
