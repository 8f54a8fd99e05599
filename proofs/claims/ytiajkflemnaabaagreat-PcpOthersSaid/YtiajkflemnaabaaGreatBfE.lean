/-
  A search of a row of known numbers for a number that is not known, but lies among them: a call known from elsewhere; calls with arguments.
  Conditions: those that each lemma names.
-/
import Derived.Test.YtiajkflemnaabaaGreatBfD
noncomputable section
namespace Go.Ab
variable [Val]

/-- A call that answers a value and leaves memory as it was, but for new blocks. -/
theorem quiet_val {P : Program} {G : Nat} {f : FuncId} {args' : Array Value} {w : World} {c : Frame} {cs : List Frame} {φ : Phi} {h : H} {v : AV} {v' : Value}
    (hc : Calls P f args' w fun e w' => e = .returned v' ∧ w.grownBy w' none) (hr : HR G φ h w) (hv : VR φ v v') :
    EndR P G (lone (Frame.enter P f args' .normal) (c :: cs) w) c cs φ h w h (.ret v) := by
  obtain ⟨e, w', fr, ⟨rfl, hg⟩, hco, hf, hl⟩ := hc (c :: cs)
  obtain ⟨h1, h2⟩ := hr.grown hg
  exact ⟨φ, _, w', hv, h1, h2, Steps.trans hco (Steps.one (step_leave_returned hl))⟩

def isI64 : AV → Bool
  | .int .i64 _ => true
  | _ => false
def intVal : AV → Int
  | .int _ n => n
  | _ => 0
/-- Is each number from l to u among these? -/
def allIn (cs : List AV) (l u : Int) : Bool := cs.all isI64 && (List.range (u - l + 1).toNat).all fun i => cs.any fun c => decide (intVal c = l + i)

def knIn (f : Nat) : Known := fun g args h => bif Nat.beq g f then
  match args with
  | [.slice id off len _ _ _, .sym .i64 l u _] => match h.get id with
    | some (.cells n dep d t) => bif Nat.ble len 1000 && (Nat.ble (off + len) n && allIn (cellsFrom dep d t off len) l u) then some (.ret (.bool true), h) else none
    | _ => none
  | _ => none
  else none

omit [Val] in
theorem cellsFrom_len (dep : Nat) (d : AV) (t : Tr AV) : ∀ (k o : Nat), (cellsFrom dep d t o k).length = k := by
  intro k
  induction k with
  | zero => intro o; rfl
  | succ k ih => intro o; simp [cellsFrom, ih]
omit [Val] in
theorem cellsFrom_at (dep : Nat) (d : AV) (t : Tr AV) : ∀ (k o j : Nat) (h : j < (cellsFrom dep d t o k).length), (cellsFrom dep d t o k)[j] = cget dep d t (o + j) := by
  intro k
  induction k with
  | zero => intro o j h; simp [cellsFrom] at h
  | succ k ih =>
    intro o j h
    cases j with
    | zero => rfl
    | succ j => simp only [cellsFrom, List.getElem_cons_succ]; rw [ih (o + 1) j]; congr 1; omega

theorem knIn_sim {P : Program} {f : Nat} (hc : ∀ (b o n c : Nat) (v : Int) (w : World) (F : Nat → Int), n ≤ 1000 → (∀ j, j < n → w.cell? ⟨b, o + j, none⟩ = some (.int .i64 (F j))) → (∃ j, j < n ∧ F j = v) →
    Calls P f #[.slice (some ⟨b, o, none⟩) n c, .int .i64 v] w fun e w' => e = .returned (.bool true) ∧ w.grownBy w' none) : KnownSim P (knIn f) := by
  intro g args h h' r hk hex φ w args' c cs hr ha
  unfold knIn at hk
  cases hg : Nat.beq g f with
  | false => rw [hg] at hk; simp at hk
  | true =>
    rw [hg] at hk
    obtain rfl := Nat.eq_of_beq_eq_true hg
    simp only [cond_true] at hk
    split at hk
    · rename_i id off len cap ex esz l u e
      split at hk
      · rename_i n dep d t hobj
        cases hb : (Nat.ble len 1000 && (Nat.ble (off + len) n && allIn (cellsFrom dep d t off len) l u)) with
        | false => rw [hb] at hk; simp at hk
        | true =>
          rw [hb] at hk
          simp only [cond_true, Option.some.injEq, Prod.mk.injEq] at hk
          obtain ⟨rfl, rfl⟩ := hk
          simp only [Bool.and_eq_true] at hb
          obtain ⟨b1, b2, b3⟩ := hb
          have b1 := Nat.le_of_ble_eq_true b1
          have b2 := Nat.le_of_ble_eq_true b2
          have hs := ha.size
          have h0 := ha.get 0 (by simp)
          have h1 := ha.get 1 (by simp)
          simp only [List.getD_cons_zero, List.getD_cons_succ] at h0 h1
          obtain ⟨b, base, cs', o, cc, hφ, ho, hlc, _, _, _, _, e0⟩ := h0.slice_inv
          obtain ⟨v, e1, _, _, hl, hu⟩ := h1.sym_inv
          have ea : args' = #[.slice (some ⟨b, o, none⟩) len cc, .int .i64 v] := by
            apply Array.ext
            · simpa using hs
            · intro i hi hi'
              have hi2 : i < 2 := by simpa using hi'
              rw [Array.getD_eq_getD_getElem?] at e0 e1
              match i, hi2 with
              | 0, _ => rw [Array.getElem?_eq_getElem hi] at e0; simpa using e0
              | 1, _ => rw [Array.getElem?_eq_getElem hi] at e1; simpa using e1
          rw [ea]
          unfold allIn at b3
          simp only [Bool.and_eq_true, List.all_eq_true, List.any_eq_true, decide_eq_true_eq] at b3
          obtain ⟨b3, b4⟩ := b3
          obtain ⟨_, hle, cells, ty, fz, hblk, hcs, _, hv, _⟩ := obj_cells hr hobj hφ
          have at_ : ∀ j, j < len → ∃ m, cget dep d t (off + j) = .int .i64 m := by
            intro j hj
            have hj' : j < (cellsFrom dep d t off len).length := by rw [cellsFrom_len]; exact hj
            have := b3 _ (List.getElem_mem hj')
            rw [cellsFrom_at] at this
            unfold isI64 at this
            split at this
            · rename_i m heq; exact ⟨m, heq⟩
            · simp at this
          have hlen : 0 < len := by
            obtain ⟨x, hx, _⟩ := b4 0 (by rw [List.mem_range]; omega)
            have := List.length_pos_of_mem hx
            rwa [cellsFrom_len] at this
          have ho' : o = base + off := by
            rcases ho with ho | ho
            · exact ho
            · omega
          refine quiet_val (hc b o len cc v w (fun j => intVal (cget dep d t (off + j))) b1 (fun j hj => ?_) ?_) hr (.bool true)
          · obtain ⟨m, hm⟩ := at_ j hj
            have := hv (off + j) (by omega)
            rw [hm] at this
            rw [cell_of hblk, getElem?_of_lt (by omega), show o + j = base + (off + j) by omega, this.int_inv, hm]
            rfl
          · obtain ⟨x, hx, hxv⟩ := b4 (v - l).toNat (by rw [List.mem_range]; omega)
            obtain ⟨j, hj, rfl⟩ := List.mem_iff_getElem.1 hx
            rw [cellsFrom_at] at hxv
            rw [cellsFrom_len] at hj
            exact ⟨j, hj, by rw [hxv]; omega⟩
      · simp at hk
    · simp at hk

/-- What is asked of a kernel's run of a call with arguments. -/
def yieldsTrueA (P : Program) (kn : Known) (fuel n : Nat) (f : FuncId) (args : List AV) : Bool :=
  match bodyA P (fns P kn fuel n).cl (fns P kn fuel n).rn (fns P kn fuel n).dc fuel f args .normal ⟨P.globals.size, .e⟩ with
  | some (.ret (.bool true), _, _) => true
  | _ => false

open Go.RowKit in
theorem below_of_args {P : Program} {kn : Known} (hkn : KnownSim P kn) {fuel n : Nat} {f : FuncId} {args : List AV} (hG : P.globals.size ≤ 2 ^ HD) (h : yieldsTrueA P kn fuel n f args = true) {w : World}
    (hw : P.globals.size ≤ w.heap.size) {args' : Array Value} (ha : LR (phi0 P.globals.size) args args') :
    Calls P f args' w fun e w' => e = .returned (.bool true) ∧ Below w.heap.size w w' := by
  unfold yieldsTrueA at h
  split at h
  · rename_i u h' hrun
    refine (calls_any hkn hrun (hr0 hG hw) ha).mono fun e w' h => ?_
    obtain ⟨φ', v', rfl, hv, _, hp⟩ := h
    exact ⟨by rw [hv.bool_inv], ⟨hp.os, hp.tape, hp.out, hp.size, fun b hb => (hp.keep b hb own0).1⟩⟩
  · simp at h
end Go.Ab
