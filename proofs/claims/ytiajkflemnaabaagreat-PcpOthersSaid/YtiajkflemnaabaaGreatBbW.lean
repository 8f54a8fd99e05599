/-
  Operations that may change their place: what they look at, and what they leave alone.
  Conditions: those that each lemma names.
-/
import Derived.Test.YtiajkflemnaabaaGreatBbV
import Derived.Test.YtiajkflemnaabaaGreatBbR
namespace Go.Ab
variable [Val]
section
variable {P : Program}

omit [Val] in
theorem pairsA_congr {ρ ρ₂ : Operand → AV} {parts : Array (Nat × Operand)} (h : ∀ x ∈ (parts.toList.map (·.2)).toArray.toList, ρ x = ρ₂ x) : pairsA ρ parts = pairsA ρ₂ parts := by
  unfold pairsA
  apply List.map_congr_left
  intro p hp
  rw [h p.2 (by simp; exact ⟨p.1, by simpa using hp⟩)]

omit [Val] in
theorem args_congr {ρ ρ₂ : Operand → AV} {a : Array Operand} (h : ∀ x ∈ a.toList, ρ x = ρ₂ x) : a.toList.map ρ = a.toList.map ρ₂ := List.map_congr_left h

omit [Val] in
theorem opt_congr {ρ ρ₂ : Operand → AV} {a : Option Operand} (h : ∀ x ∈ a.toArray.toList, ρ x = ρ₂ x) : a.map ρ = a.map ρ₂ := by
  cases a with
  | none => rfl
  | some x => rw [Option.map_some, Option.map_some, h x (by simp)]

omit [Val] in
theorem resolveA_congr {ρ ρ₂ : Operand → AV} {c : Call} (h : ∀ x ∈ c.operands.toList, ρ x = ρ₂ x) : resolveA ρ c = resolveA ρ₂ c := by
  unfold resolveA
  cases hc : c.callee with
  | value f =>
    have e : c.operands = #[f] ++ c.args := by simp [Call.operands, hc]
    rw [e] at h
    dsimp only
    rw [h f (by simp), args_congr (a := c.args) (fun x hx => h x (by simp at hx ⊢; exact .inr hx))]
  | builtin b => rfl
  | invoke _ _ => rfl

omit [Val] in
theorem builtinA_congr {ρ ρ₂ : Operand → AV} {b : Builtin} {c : Call} {h : H} (hc : c.callee = .builtin b) (ha : ∀ x ∈ c.operands.toList, ρ x = ρ₂ x) : builtinA P ρ b c h = builtinA P ρ₂ b c h := by
  have e : c.operands = c.args := by simp [Call.operands, hc]
  rw [e] at ha
  unfold builtinA
  rw [args_congr ha]

omit [Val] in
theorem opR_congr {ρ ρ₂ : Operand → AV} {o : Oper} (h : ∀ x ∈ o.op.operands.toList, ρ x = ρ₂ x) (hp : H) : opR P ρ o hp = opR P ρ₂ o hp := by
  obtain ⟨dst, op, type, pos, after, guard⟩ := o
  unfold opR
  cases op <;> dsimp only [Op.operands] at h ⊢
  case build t ps => rw [pairsA_congr h]
  case buildSlice t n ps => rw [pairsA_congr h]
  case makeFunc f a c =>
    rw [args_congr (a := a) (fun x hx => h x (by simp at hx ⊢; exact .inl hx)), args_congr (a := c) (fun x hx => h x (by simp at hx ⊢; exact .inr hx))]
  case makeMap t r =>
    cases r with
    | none => rfl
    | some x => dsimp only; rw [h x (by simp)]
  case slice t x l hi m =>
    rw [h x (by simp), opt_congr (a := l) (fun y hy => h y (by simp at hy ⊢; exact .inr (.inl hy))), opt_congr (a := hi) (fun y hy => h y (by simp at hy ⊢; exact .inr (.inr (.inl hy)))),
      opt_congr (a := m) (fun y hy => h y (by simp at hy ⊢; exact .inr (.inr (.inr hy))))]
  case call c =>
    cases hc : c.callee with
    | builtin b => exact builtinA_congr hc h
    | value f => dsimp only; rw [resolveA_congr h]
    | invoke _ _ => rfl
  case defer c =>
    cases hc : c.callee with
    | builtin b => rfl
    | value f => dsimp only; rw [resolveA_congr h]
    | invoke _ _ => rfl
  case pick c a b => rw [h c (by simp), h a (by simp), h b (by simp)]
  case store t a v => rw [h a (by simp), h v (by simp)]
  case binOp t x a v y => rw [h a (by simp), h v (by simp)]
  case makeSlice t a v => rw [h a (by simp), h v (by simp)]
  case indexAddr t a v => rw [h a (by simp), h v (by simp)]
  case index t a v => rw [h a (by simp), h v (by simp)]
  case lookup t a v _ => rw [h a (by simp), h v (by simp)]
  case mapEntry t a v => rw [h a (by simp), h v (by simp)]
  case mapUpdate t a v y => rw [h a (by simp), h v (by simp), h y (by simp)]
  case insert t a v y => rw [h a (by simp), h v (by simp), h y (by simp)]
  case entryStore t a v y => rw [h a (by simp), h v (by simp), h y (by simp)]
  all_goals first | rfl | (rw [h _ (by simp)])

omit [Val] in
theorem valH_any {v : Option AV} {h : H} {a : AV} {h' : H} (hv : valH v h = some (.val a h')) (h₂ : H) : h' = h ∧ valH v h₂ = some (.val a h₂) := by
  obtain ⟨b, rfl, e⟩ := valH_inv hv
  simp only [AR.val.injEq] at e
  obtain ⟨rfl, rfl⟩ := e
  exact ⟨rfl, rfl⟩

omit [Val] in
/-- What neither reads, nor lays anything, nor is in the chain comes to the same over any memory. -/
theorem pure_any {ρ : Operand → AV} {o : Oper} (h1 : isChain o = false) (h2 : isLate o = false) (h3 : isRead o = false) {h h' : H} {v : AV} (ho : opR P ρ o h = some (.val v h')) (h₂ : H) :
    h' = h ∧ opR P ρ o h₂ = some (.val v h₂) := by
  obtain ⟨dst, op, type, pos, after, guard⟩ := o
  unfold opR at ho ⊢
  cases op <;> simp only [isLate, isRead, Bool.true_eq_false] at h2 h3 <;> dsimp only at ho ⊢
  case move x => simp only [Option.some.injEq, AR.val.injEq] at ho; obtain ⟨rfl, rfl⟩ := ho; exact ⟨rfl, rfl⟩
  case assign x => simp only [Option.some.injEq, AR.val.injEq] at ho; obtain ⟨rfl, rfl⟩ := ho; exact ⟨rfl, rfl⟩
  case pick c a b =>
    split at ho
    · simp only [Option.some.injEq, AR.val.injEq] at ho; obtain ⟨rfl, rfl⟩ := ho; exact ⟨rfl, rfl⟩
    · simp at ho
  case build t ps => exact valH_any ho h₂
  case nilCheck x =>
    split at ho
    · simp [nilDeref] at ho
    · simp [nilDeref] at ho
    · simp [nilDeref] at ho
    · simp at ho
    · simp at ho
    · simp only [Option.some.injEq, AR.val.injEq] at ho; obtain ⟨rfl, rfl⟩ := ho; exact ⟨rfl, rfl⟩
  case binOp => exact valH_any ho h₂
  case unOp => exact valH_any ho h₂
  case sliceToArrayPointer t x =>
    split at ho
    · split at ho
      · rename_i hle
        simp only [Option.some.injEq, AR.val.injEq] at ho; obtain ⟨rfl, rfl⟩ := ho
        exact ⟨rfl, by simp only [if_pos hle]⟩
      · simp at ho
    · simp at ho
  case makeInterface t x =>
    split at ho
    · simp at ho
    · simp at ho
    · simp only [Option.some.injEq, AR.val.injEq] at ho; obtain ⟨rfl, rfl⟩ := ho; exact ⟨rfl, rfl⟩
    · simp at ho
  case makeFunc f a c =>
    split at ho
    · simp only [Option.some.injEq, AR.val.injEq] at ho; obtain ⟨rfl, rfl⟩ := ho; exact ⟨rfl, rfl⟩
    · simp at ho
  case fieldAddr s x f =>
    split at ho
    · simp only [Option.some.injEq, AR.val.injEq] at ho; obtain ⟨rfl, rfl⟩ := ho; exact ⟨rfl, rfl⟩
    · simp at ho
  case field s x f =>
    split at ho
    · exact valH_any ho h₂
    · simp at ho
  case indexAddr t x i =>
    unfold indexAddrA at ho ⊢
    split at ho
    · split at ho
      · split at ho
        · split at ho
          · rename_i hc
            simp only [Option.some.injEq, AR.val.injEq] at ho; obtain ⟨rfl, rfl⟩ := ho
            exact ⟨rfl, by simp only [if_pos hc]⟩
          · simp at ho
        · simp at ho
      · split at ho
        · split at ho
          · rename_i hc
            simp only [Option.some.injEq, AR.val.injEq] at ho; obtain ⟨rfl, rfl⟩ := ho
            exact ⟨rfl, by simp only [if_pos hc]⟩
          · simp at ho
        · simp at ho
      · simp at ho
    · simp at ho
  case index => exact valH_any ho h₂
  case typeAssert => exact valH_any ho h₂
  case extract x i =>
    split at ho
    · rename_i l _
      cases hl : l[i]? with
      | none => rw [hl] at ho; simp at ho
      | some u =>
        rw [hl] at ho
        simp only [Option.map_some, Option.some.injEq, AR.val.injEq] at ho; obtain ⟨rfl, rfl⟩ := ho
        exact ⟨rfl, by simp only [Option.map_some]⟩
    · simp at ho
  all_goals first | (simp at ho; done) | (simp [isChain] at h1; done)

omit [Val] in
theorem valH_same {v : Option AV} {h : H} {a : AV} {h' : H} (hv : valH v h = some (.val a h')) : h' = h := (valH_any hv h).1

omit [Val] in
theorem new_nx {h h' : H} {o : AObj} {id : Nat} (hn : h.new o = some (id, h')) : h'.nx = h.nx + 1 := (H.new_spec hn).2.2.1

omit [Val] in
/-- What need not wait, and lays nothing, leaves memory alone. -/
theorem same_heap {ρ : Operand → AV} {o : Oper} (h1 : isChain o = false) (h2 : isLate o = false) {h h' : H} {v : AV} (ho : opR P ρ o h = some (.val v h')) (hnx : h'.nx = h.nx) : h' = h := by
  cases h3 : isRead o with
  | false => exact (pure_any h1 h2 h3 ho h).1
  | true =>
    obtain ⟨dst, op, type, pos, after, guard⟩ := o
    unfold opR at ho
    cases op <;> simp only [isRead, Bool.false_eq_true] at h3 <;> dsimp only at ho
    case load t a =>
      split at ho
      · exact valH_same ho
      · simp at ho
    case lookup => exact valH_same ho
    case slice => exact valH_same ho
    case convert s d x =>
      obtain ⟨a, h2, ha, e⟩ := val2_inv ho
      simp only [AR.val.injEq] at e
      obtain ⟨rfl, rfl⟩ := e
      unfold convertA at ha
      split at ha
      · simp only [Option.some.injEq, Prod.mk.injEq] at ha; exact ha.2.symm
      · rw [Option.map_eq_some_iff] at ha
        obtain ⟨p, _, e⟩ := ha
        simp only [Prod.mk.injEq] at e
        exact e.2.symm
      · simp only [Option.some.injEq, Prod.mk.injEq] at ha; exact ha.2.symm
      · split at ha
        · rw [Option.map_eq_some_iff] at ha
          obtain ⟨p, hal, e⟩ := ha
          simp only [Prod.mk.injEq] at e
          have := new_nx (show h.new _ = some (p.1, p.2) from hal)
          rw [e.2] at this
          omega
        · simp at ha
      · split at ha
        · split at ha
          · simp only [Option.some.injEq, Prod.mk.injEq] at ha; exact ha.2.symm
          · simp at ha
        · simp at ha
      · split at ha
        · simp only [Option.some.injEq, Prod.mk.injEq] at ha; exact ha.2.symm
        · simp at ha
      · split at ha
        · split at ha
          · rw [Option.map_eq_some_iff] at ha
            obtain ⟨p, hal, e⟩ := ha
            simp only [Prod.mk.injEq] at e
            exact e.2.symm
          · simp at ha
        · simp at ha
      · simp at ha
    case call c =>
      obtain ⟨callee, args, ts⟩ := c
      cases callee with
      | value f => simp [isChain] at h1
      | invoke _ _ => simp at ho
      | builtin b =>
        dsimp only at ho
        unfold builtinA at ho
        dsimp only at ho
        cases b <;> simp only [isChain, Bool.true_eq_false] at h1
        all_goals (repeat' (split at ho))
        all_goals first
          | exact valH_same ho
          | (simp only [Option.some.injEq, AR.val.injEq] at ho; exact ho.2.symm)
          | (simp at ho; done)
          | (simp at *; done)
end
end Go.Ab
