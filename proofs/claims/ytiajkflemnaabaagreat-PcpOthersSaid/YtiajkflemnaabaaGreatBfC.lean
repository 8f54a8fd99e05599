/-
  Calls that are known from one run over a small memory: they answer as the model does.
  Conditions: those that each lemma names.
-/
import Derived.Test.YtiajkflemnaabaaGreatBfB
namespace Go.Ab
variable [Val]

omit [Val] in
theorem numL_mem : ∀ {l : List (Nat × AObj)} {n i a : Nat}, (i, a) ∈ numL l n → n ≤ a ∧ a < n + l.length ∧ ∃ o, (i, o) ∈ l := by
  intro l
  induction l with
  | nil => intro n i a h; simp [numL] at h
  | cons x l ih =>
    obtain ⟨j, b⟩ := x
    intro n i a h
    simp only [numL, List.mem_cons, Prod.mk.injEq] at h
    rcases h with ⟨rfl, rfl⟩ | h
    · exact ⟨Nat.le_refl _, by simp, b, by simp⟩
    · obtain ⟨h1, h2, o, ho⟩ := ih h
      exact ⟨by omega, by simp only [List.length_cons]; omega, o, List.mem_cons_of_mem _ ho⟩

omit [Val] in
theorem addL_nx (ρ : Nat → Option Nat) : ∀ (l : List (Nat × AObj)) (h : H), (addL ρ l h).nx = h.nx + l.length := by
  intro l
  induction l with
  | nil => intro h; rfl
  | cons x l ih => intro h; obtain ⟨j, b⟩ := x; simp only [addL]; rw [ih]; simp only [List.length_cons]; omega

omit [Val] in
theorem addL_get (ρ : Nat → Option Nat) : ∀ (l : List (Nat × AObj)) (h : H), h.nx + l.length ≤ 2 ^ HD → ∀ a, a < 2 ^ HD →
    (a < h.nx → (addL ρ l h).get a = h.get a) ∧ (h.nx + l.length ≤ a → (addL ρ l h).get a = h.get a) ∧
    (h.nx ≤ a → a < h.nx + l.length → ∃ x, x ∈ l ∧ (x.1, a) ∈ numL l h.nx ∧ (addL ρ l h).get a = some (renO ρ 8 x.2)) := by
  intro l
  induction l with
  | nil => intro h _ a _; exact ⟨fun _ => rfl, fun _ => rfl, fun h1 h2 => by simp at h2; omega⟩
  | cons x l ih =>
    obtain ⟨j, b⟩ := x
    intro h hle a ha
    simp only [List.length_cons] at hle
    have hset : ∀ c, c < 2 ^ HD → (⟨h.nx + 1, h.t.set (renO ρ 8 b) HD h.nx⟩ : H).get c = if h.nx = c then some (renO ρ 8 b) else h.get c :=
      fun c hc => Tr.get_set_lt _ h.t (by omega) hc
    obtain ⟨i1, i2, i3⟩ := ih ⟨h.nx + 1, h.t.set (renO ρ 8 b) HD h.nx⟩ (by show h.nx + 1 + l.length ≤ _; omega) a ha
    simp only [addL, List.length_cons]
    dsimp only at i1 i2 i3
    refine ⟨fun hlt => ?_, fun hge => ?_, fun hge hlt => ?_⟩
    · rw [i1 (by omega), hset a ha, if_neg (by omega)]
    · rw [i2 (by omega), hset a ha, if_neg (by omega)]
    · rcases Nat.eq_or_lt_of_le hge with e | hgt
      · refine ⟨(j, b), List.mem_cons_self, ?_, ?_⟩
        · simp [numL, e]
        · rw [i1 (by omega), hset a ha, if_pos e]
      · obtain ⟨x, hx, hm, hg⟩ := i3 (by omega) (by omega)
        exact ⟨x, List.mem_cons_of_mem _ hx, by simp only [numL]; exact List.mem_cons_of_mem _ hm, hg⟩

omit [Val] in
theorem setL_nx (ρ : Nat → Option Nat) : ∀ (l : List (Nat × AObj)) (h : H), (setL ρ l h).nx = h.nx := by
  intro l
  induction l with
  | nil => intro h; rfl
  | cons x l ih => intro h; obtain ⟨i, o⟩ := x; simp only [setL]; rw [ih]; rfl

omit [Val] in
theorem setL_get (ρ : Nat → Option Nat) : ∀ (l : List (Nat × AObj)) (h : H), (∀ x ∈ l, ∃ b, ρ x.1 = some b ∧ b < 2 ^ HD) → ∀ a, a < 2 ^ HD →
    ((∀ x ∈ l, ρ x.1 ≠ some a) → (setL ρ l h).get a = h.get a) ∧ ((∃ x, x ∈ l ∧ ρ x.1 = some a) → ∃ x, x ∈ l ∧ ρ x.1 = some a ∧ (setL ρ l h).get a = some (renO ρ 8 x.2)) := by
  intro l
  induction l with
  | nil => intro h _ a _; exact ⟨fun _ => rfl, fun ⟨x, hx, _⟩ => absurd hx (by simp)⟩
  | cons x l ih =>
    obtain ⟨i, o⟩ := x
    intro h hl a ha
    obtain ⟨b, eb, hb⟩ := hl (i, o) List.mem_cons_self
    obtain ⟨i1, i2⟩ := ih (h.set ((ρ i).getD 0) (renO ρ 8 o)) (fun x hx => hl x (List.mem_cons_of_mem _ hx)) a ha
    have eb' : ρ i = some b := eb
    have hset : (h.set ((ρ i).getD 0) (renO ρ 8 o)).get a = if b = a then some (renO ρ 8 o) else h.get a := by
      rw [eb']; exact H.get_set (renO ρ 8 o) hb ha
    simp only [setL]
    refine ⟨fun hn => ?_, fun hx => ?_⟩
    · rw [i1 fun x hx => hn x (List.mem_cons_of_mem _ hx), hset, if_neg]
      rintro rfl
      exact hn (i, o) List.mem_cons_self eb'
    · by_cases hm : ∃ x, x ∈ l ∧ ρ x.1 = some a
      · obtain ⟨y, hy, e1, e2⟩ := i2 hm
        exact ⟨y, List.mem_cons_of_mem _ hy, e1, e2⟩
      · obtain ⟨y, hy, ey⟩ := hx
        rw [List.mem_cons] at hy
        rcases hy with rfl | hy
        · refine ⟨(i, o), List.mem_cons_self, ey, ?_⟩
          rw [i1 fun x hx e => hm ⟨x, hx, e⟩, hset, if_pos (Option.some.inj (eb'.symm.trans ey))]
        · exact absurd ⟨y, hy, ey⟩ hm

omit [Val] in
theorem layL_keep : ∀ {l : List (Nat × AObj)} {t : Tr AObj} {i : Nat} {o : AObj}, i < 2 ^ HD → (∀ x ∈ l, x.1 < 2 ^ HD) → t.get HD i = some o → ∃ o', (layL l t).get HD i = some o' := by
  intro l
  induction l with
  | nil => intro t i o _ _ h; exact ⟨o, h⟩
  | cons x l ih =>
    obtain ⟨j, b⟩ := x
    intro t i o hi hl h
    by_cases e : j = i
    · exact ih hi (fun x hx => hl x (List.mem_cons_of_mem _ hx)) (t := t.set b HD j) (o := b) (by rw [Tr.get_set_lt b t (hl _ List.mem_cons_self) hi, if_pos e])
    · exact ih hi (fun x hx => hl x (List.mem_cons_of_mem _ hx)) (t := t.set b HD j) (o := o) (by rw [Tr.get_set_lt b t (hl _ List.mem_cons_self) hi, if_neg e]; exact h)

omit [Val] in
theorem layL_some : ∀ {l : List (Nat × AObj)} {t : Tr AObj} {x : Nat × AObj}, (∀ x ∈ l, x.1 < 2 ^ HD) → x ∈ l → ∃ o', (layL l t).get HD x.1 = some o' := by
  intro l
  induction l with
  | nil => intro t x _ hx; simp at hx
  | cons y l ih =>
    obtain ⟨j, b⟩ := y
    intro t x hl hx
    rw [List.mem_cons] at hx
    rcases hx with rfl | hx
    · exact layL_keep (hl _ List.mem_cons_self) (fun x hx => hl x (List.mem_cons_of_mem _ hx)) (t := t.set b HD j) (o := b) (by rw [Tr.get_set_lt b t (hl _ List.mem_cons_self) (hl _ List.mem_cons_self), if_pos rfl])
    · exact ih (fun x hx => hl x (List.mem_cons_of_mem _ hx)) hx

omit [Val] in
theorem layL_has {l : List (Nat × AObj)} {t : Tr AObj} {x : Nat × AObj} (hl : ∀ x ∈ l, x.1 < 2 ^ HD) (hx : x ∈ l) (ht : ∀ i, t.get HD i = none := by intro i; exact Tr.get_e _ _) : ∃ o, (x.1, o) ∈ l ∧ (layL l t).get HD x.1 = some o := by
  obtain ⟨o, ho⟩ := layL_some (t := t) hl hx
  rcases layL_get (hl x hx) hl ho with h | h
  · exact ⟨o, h, ho⟩
  · rw [ht] at h; simp at h

omit [Val] in
theorem inL_iff {l : List (Nat × AObj)} {i : Nat} : inL l i = true ↔ ∃ x, x ∈ l ∧ x.1 = i := by
  unfold inL
  rw [List.any_eq_true]
  constructor
  · rintro ⟨x, hx, h⟩; exact ⟨x, hx, Nat.eq_of_beq_eq_true h⟩
  · rintro ⟨x, hx, rfl⟩; exact ⟨x, hx, by simp⟩

section
variable {P : Program} {kn : Known} {e : Ent} {fuel n : Nat}

omit [Val] in
theorem ble_le {a b : Nat} (h : Nat.ble a b = true) : a ≤ b := Nat.le_of_ble_eq_true h
omit [Val] in
theorem blt_lt {a b : Nat} (h : Nat.blt a b = true) : a < b := Nat.le_of_ble_eq_true h

structure Ent.Good (P : Program) (kn : Known) (e : Ent) (fuel n : Nat) : Prop where
  keys : ∀ x ∈ e.objs, P.globals.size ≤ x.1 ∧ x.1 < e.nx
  G : P.globals.size ≤ e.nx
  nx : e.nx ≤ 2 ^ HD
  news : ∀ x ∈ e.news, e.nx ≤ x.1
  run : ∃ v u h', e.ran P kn fuel n = some (.ret v, u, h') ∧ Ren some v e.ret ∧ (∀ x ∈ e.objs, inL e.outs x.1 = false → ∃ o, h'.get x.1 = some o ∧ ORen some o x.2) ∧
    (∀ x ∈ e.news, ∃ o, h'.get x.1 = some o ∧ ORen some o x.2) ∧ (∀ x ∈ e.outs, ∃ o, h'.get x.1 = some o ∧ DRen some o x.2) ∧
    ∀ x ∈ e.outs, (∃ y, y ∈ e.objs ∧ y.1 = x.1) ∧ ∀ y ∈ e.objs, y.1 = x.1 → diffO y.2 x.2 = true

omit [Val] in
theorem Ent.good (h : e.ok P kn P.globals.size fuel n = true) : e.Good P kn fuel n := by
  unfold Ent.ok at h
  simp only [Bool.and_eq_true, List.all_eq_true] at h
  obtain ⟨h1, h2, h3, h4, h5⟩ := h
  split at h5
  · rename_i v u h' hrun
    simp only [Bool.and_eq_true, List.all_eq_true] at h5
    obtain ⟨k1, k2, k3, k4, k5⟩ := h5
    refine ⟨fun x hx => ⟨ble_le (h1 x hx).1, blt_lt (h1 x hx).2⟩, ble_le h2, ble_le h3, fun x hx => ble_le (h4 x hx), v, u, h', hrun, renB_ok 8 _ _ k1, fun x hx ho => ?_, fun x hx => ?_, fun x hx => ?_, fun x hx => ?_⟩
    · have := k2 x hx
      rw [ho, Bool.false_or] at this
      split at this
      · rename_i o ho; exact ⟨o, ho, objB_ok this⟩
      · simp at this
    · have := k3 x hx
      split at this
      · rename_i o ho; exact ⟨o, ho, objB_ok this⟩
      · simp at this
    · have := k4 x hx
      split at this
      · rename_i o ho; exact ⟨o, ho, dobjB_ok this⟩
      · simp at this
    · obtain ⟨m1, m2⟩ := k5 x hx
      refine ⟨inL_iff.mp m1, fun y hy e => ?_⟩
      have := m2 y hy
      rw [e] at this
      simpa using this
  · simp at h5

omit [Val] in
theorem Ent.heap_get (gd : e.Good P kn fuel n) {i : Nat} {o : AObj} (hi : i < 2 ^ HD) (h : e.heap.get i = some o) : (i, o) ∈ e.objs := by
  rcases layL_get (l := e.objs) (t := .e) hi (fun x hx => Nat.lt_of_lt_of_le (gd.keys x hx).2 gd.nx) h with h | h
  · exact h
  · rw [Tr.get_e] at h; simp at h

omit [Val] in
theorem Ent.fits (gd : e.Good P kn fuel n) {l : List (Nat × Nat)} {args : List AV} {h : H} (hf : e.fitsB P.globals.size l args h = true) (hG : P.globals.size ≤ h.nx) :
    Fits P.globals.size (lookG P.globals.size l) e.heap h ∧ listB (renB (lookG P.globals.size l) 8) e.args args = true := by
  unfold Ent.fitsB at hf
  simp only [Bool.and_eq_true, List.all_eq_true] at hf
  obtain ⟨h1, h2, h3, h4⟩ := hf
  have hm : ∀ i a, (i, a) ∈ l → P.globals.size ≤ i ∧ i < e.nx ∧ P.globals.size ≤ a ∧ a < h.nx := by
    intro i a hi
    obtain ⟨k1, k2, k3, k4⟩ := h1 _ hi
    exact ⟨ble_le k1, blt_lt k2, ble_le k3, blt_lt k4⟩
  refine ⟨⟨fun g hg => ?_, fun i j a hi hj => ?_, fun i a hi => ?_, gd.nx, fun i hi hge => ?_, fun i o₀ hi hg => ?_⟩, h4⟩
  · unfold lookG
    have : Nat.blt g P.globals.size = true := by unfold Nat.blt; exact Nat.ble_eq_true_of_le hg
    rw [this]; rfl
  · rcases lookG_mem hi with ⟨hi, rfl⟩ | ⟨hi, mi⟩
    · rcases lookG_mem hj with ⟨_, rfl⟩ | ⟨_, mj⟩
      · rfl
      · have := (hm _ _ mj).2.2.1; omega
    · rcases lookG_mem hj with ⟨hj, rfl⟩ | ⟨_, mj⟩
      · have := (hm _ _ mi).2.2.1; omega
      · exact apartB_ok h2 i j a mi mj
  · rcases lookG_mem hi with ⟨hi, rfl⟩ | ⟨_, mi⟩
    · exact ⟨Nat.lt_of_lt_of_le hi gd.G, Nat.lt_of_lt_of_le hi hG⟩
    · exact ⟨(hm _ _ mi).2.1, (hm _ _ mi).2.2.2⟩
  · cases hg : e.heap.get i with
    | none => rfl
    | some o =>
      have := (gd.keys _ (Ent.heap_get gd hi hg)).2
      exact absurd hge (Nat.not_le.mpr this)
  · have hmem := Ent.heap_get gd (Nat.lt_of_lt_of_le hi gd.nx) hg
    have := h3 _ hmem
    split at this
    · rename_i a ha
      split at this
      · rename_i o ho
        exact ⟨a, o, ha, ho, objB_ok this⟩
      · simp at this
    · simp at this

theorem Ent.serve_sim (hkn : KnownSim P kn) (gd : e.Good P kn fuel n) {args : List AV} {h h' : H} {r : AEnd} (hs : e.serve P.globals.size args h = some (r, h'))
    {φ : Phi} {w : World} {args' : Array Value} {c : Frame} {cs : List Frame} (hex : ∃ fn, P.funcs[e.f]? = some fn ∧ fn.body.isSome = true) (hr : HR P.globals.size φ h w) (ha : LR φ args args') :
    EndR P P.globals.size (lone (Frame.enter P e.f args' .normal) (c :: cs) w) c cs φ h w h' r := by
  unfold Ent.serve at hs
  split at hs
  · simp at hs
  · rename_i l _
    cases hf : Ent.fitsB P.globals.size e l args h with
    | false => rw [hf] at hs; simp at hs
    | true =>
      rw [hf] at hs
      simp only [cond_true] at hs
      generalize hc : (Nat.ble (h.nx + e.news.length) (2 ^ HD) && (apartB (numL e.news h.nx ++ l) && ((e.news.all fun x => objB (lookG P.globals.size (numL e.news h.nx ++ l)) 8 x.2 (renO (lookG P.globals.size (numL e.news h.nx ++ l)) 8 x.2)) &&
        ((e.outs.all fun x => dobjB (lookG P.globals.size (numL e.news h.nx ++ l)) 8 x.2 (renO (lookG P.globals.size (numL e.news h.nx ++ l)) 8 x.2)) &&
        renB (lookG P.globals.size (numL e.news h.nx ++ l)) 8 e.ret (renF (lookG P.globals.size (numL e.news h.nx ++ l)) 8 e.ret))))) = cnd at hs
      cases cnd with
      | false => simp at hs
      | true =>
        simp only [cond_true, Option.some.injEq, Prod.mk.injEq] at hs
        obtain ⟨rfl, rfl⟩ := hs
        simp only [Bool.and_eq_true, List.all_eq_true] at hc
        obtain ⟨c1, c2, c3, c5, c4⟩ := hc
        have c1 := ble_le c1
        have hG : P.globals.size ≤ h.nx := by
          rcases Nat.eq_zero_or_pos P.globals.size with z | z
          · omega
          · obtain ⟨_, hcs⟩ := hr.glob (P.globals.size - 1) (by omega)
            have := (hr.dom _ _ hcs).1
            omega
        obtain ⟨ft, hargs⟩ := Ent.fits gd hf hG
        obtain ⟨v, u, h₀', hrun, rv, robj, rnew, rout, rdif⟩ := gd.run
        have hm : ∀ i a, (i, a) ∈ l → P.globals.size ≤ i ∧ i < e.nx ∧ P.globals.size ≤ a ∧ a < h.nx := by
          intro i a hi
          unfold Ent.fitsB at hf
          simp only [Bool.and_eq_true, List.all_eq_true] at hf
          obtain ⟨k1, k2, k3, k4⟩ := hf.1 _ hi
          exact ⟨ble_le k1, blt_lt k2, ble_le k3, blt_lt k4⟩
        -- the run over the small memory
        have hcs : CallSim P P.globals.size fun f args h => (bodyA P (fns P kn fuel n).cl (fns P kn fuel n).rn (fns P kn fuel n).dc fuel f args .normal h).map fun (e, _, h) => (e, h) := by
          obtain ⟨s1, s2, s3⟩ := all_sim hkn fuel n
          exact body_callSim s1 s2 (draw_sim s1 s2) s3
        have hla : LR (phiOf (lookG P.globals.size l) φ) e.args args' := by
          obtain ⟨a1, a2⟩ := listB_ok (R := Ren (lookG P.globals.size l)) (renB_ok 8) hargs
          exact ⟨ha.size.trans a1.symm, fun i hi => (a2 i hi).back (fun _ _ k => phiOf_some k) (ha.get i (a1 ▸ hi))⟩
        have hend := hcs e.f e.args e.heap h₀' (.ret v) (by unfold Ent.ran at hrun; dsimp only; rw [hrun]; rfl) hex (phiOf (lookG P.globals.size l) φ) w args' c cs (ft.hr hr) hla
        obtain ⟨φ₀', v', w', hv, hr', hp, hst⟩ := hend
        have hobj : ∀ x ∈ e.objs, ∃ a, lookG P.globals.size l x.1 = some a := by
          intro x hx
          unfold Ent.fitsB at hf
          simp only [Bool.and_eq_true, List.all_eq_true] at hf
          have := hf.2.2.1 x hx
          split at this
          · rename_i a ha; exact ⟨a, ha⟩
          · simp at this
        have hly : Lays (lookG P.globals.size l) (lookG P.globals.size (numL e.news h.nx ++ l)) (inL e.outs) e.heap h₀' h (setL (lookG P.globals.size (numL e.news h.nx ++ l)) e.outs (addL (lookG P.globals.size (numL e.news h.nx ++ l)) e.news h)) := by
          have hnx := addL_nx (lookG P.globals.size (numL e.news h.nx ++ l)) e.news h
          have hget := addL_get (lookG P.globals.size (numL e.news h.nx ++ l)) e.news h c1
          have hinj : ∀ i j a, lookG P.globals.size (numL e.news h.nx ++ l) i = some a → lookG P.globals.size (numL e.news h.nx ++ l) j = some a → i = j := by
            have hv : ∀ i a, (i, a) ∈ numL e.news h.nx ++ l → P.globals.size ≤ a := by
              intro i a hi
              rw [List.mem_append] at hi
              rcases hi with hi | hi
              · exact Nat.le_trans hG (numL_mem hi).1
              · exact (hm i a hi).2.2.1
            intro i j a hi hj
            rcases lookG_mem hi with ⟨hi, rfl⟩ | ⟨hi, mi⟩
            · rcases lookG_mem hj with ⟨_, rfl⟩ | ⟨_, mj⟩
              · rfl
              · have := hv _ _ mj; omega
            · rcases lookG_mem hj with ⟨hj, rfl⟩ | ⟨_, mj⟩
              · have := hv _ _ mi; omega
              · exact apartB_ok c2 i j a mi mj
          have hnum : ∀ i a, (i, a) ∈ numL e.news h.nx → lookG P.globals.size (numL e.news h.nx ++ l) i = some a := by
            intro i a hi
            obtain ⟨k1, k2, o, ho⟩ := numL_mem hi
            have hge : P.globals.size ≤ i := Nat.le_trans gd.G (gd.news _ ho)
            have hb : Nat.blt i P.globals.size = false := by
              cases hb : Nat.blt i P.globals.size with
              | false => rfl
              | true => have := blt_lt hb; omega
            unfold lookG
            rw [hb]
            simp only [cond_false]
            have key : ∀ (L : List (Nat × Nat)), apartB L = true → (i, a) ∈ L → lookL L i = some a := by
              intro L
              induction L with
              | nil => intro _ hi; simp at hi
              | cons x L ih =>
                obtain ⟨k, b⟩ := x
                intro hap hi
                simp only [apartB, Bool.and_eq_true, List.all_eq_true] at hap
                rw [List.mem_cons] at hi
                unfold lookL
                rcases hi with hi | hi
                · obtain ⟨rfl, rfl⟩ := Prod.mk.inj hi
                  simp
                · have := (hap.1 _ hi)
                  simp only [Bool.not_eq_true'] at this
                  rw [this.1]
                  exact ih hap.2 hi
            exact key _ c2 (List.mem_append_left _ hi)
          have hle' : ∀ i a, lookG P.globals.size l i = some a → lookG P.globals.size (numL e.news h.nx ++ l) i = some a := by
            intro i a hi
            · rcases lookG_mem hi with ⟨hi', rfl⟩ | ⟨hi', mi⟩
              · unfold lookG
                have hb : Nat.blt a P.globals.size = true := by unfold Nat.blt; exact Nat.ble_eq_true_of_le hi'
                rw [hb]; rfl
              · have hb : Nat.blt i P.globals.size = false := by
                  cases hb : Nat.blt i P.globals.size with
                  | false => rfl
                  | true => have := blt_lt hb; omega
                have hl : lookL l i = some a := by
                  unfold lookG at hi
                  rw [hb] at hi
                  exact hi
                unfold lookG
                rw [hb]
                simp only [cond_false]
                have key : ∀ (L : List (Nat × AObj)) (m : Nat), (∀ x ∈ L, e.nx ≤ x.1) → lookL (numL L m ++ l) i = some a := by
                  intro L
                  induction L with
                  | nil => intro m _; exact hl
                  | cons x L ih =>
                    obtain ⟨k, b⟩ := x
                    intro m hL
                    have hk : e.nx ≤ k := hL _ List.mem_cons_self
                    have hne : Nat.beq i k = false := by
                      cases hb : Nat.beq i k with
                      | false => rfl
                      | true => have := Nat.eq_of_beq_eq_true hb; have := (hm _ _ mi).2.1; omega
                    simp only [numL, List.cons_append]
                    unfold lookL
                    rw [hne]
                    exact ih (m + 1) fun x hx => hL x (List.mem_cons_of_mem _ hx)
                exact key e.news h.nx gd.news
          have hnx' := setL_nx (lookG P.globals.size (numL e.news h.nx ++ l)) e.outs (addL (lookG P.globals.size (numL e.news h.nx ++ l)) e.news h)
          have houtk : ∀ x ∈ e.outs, ∃ b, lookG P.globals.size l x.1 = some b ∧ b < h.nx := by
            intro x hx
            obtain ⟨⟨y, hy, ey⟩, _⟩ := rdif x hx
            obtain ⟨b, hb⟩ := hobj y hy
            rw [ey] at hb
            exact ⟨b, hb, (ft.lt _ _ hb).2⟩
          have hsl := setL_get (lookG P.globals.size (numL e.news h.nx ++ l)) e.outs (addL (lookG P.globals.size (numL e.news h.nx ++ l)) e.news h) (fun x hx => by
            obtain ⟨b, hb, hlt⟩ := houtk x hx
            exact ⟨b, hle' _ _ hb, by omega⟩)
          have hfar : ∀ a, a < 2 ^ HD → h.nx ≤ a → (setL (lookG P.globals.size (numL e.news h.nx ++ l)) e.outs (addL (lookG P.globals.size (numL e.news h.nx ++ l)) e.news h)).get a = (addL (lookG P.globals.size (numL e.news h.nx ++ l)) e.news h).get a := by
            intro a ha hge
            refine (hsl a ha).1 fun x hx ex => ?_
            obtain ⟨b, hb, hlt⟩ := houtk x hx
            have := Option.some.inj ((hle' _ _ hb).symm.trans ex)
            omega
          refine ⟨by rw [hnx', hnx]; omega, by rw [hnx', hnx]; exact c1, fun a ha hk => ?_, fun i a hi hch => ?_, fun a ha hge => ?_, fun a o hge hlt hg => ?_, hle', hinj, fun i a hi hn => ?_, fun i o₀ hi hg hch => ?_⟩
          · rw [(hsl a (by omega)).1 fun x hx ex => ?_]
            · exact (hget a (by omega)).1 ha
            · obtain ⟨b, hb, hlt⟩ := houtk x hx
              have e1 := Option.some.inj ((hle' _ _ hb).symm.trans ex)
              subst e1
              have := hk x.1 hb
              rw [inL_iff.mpr ⟨x, hx, rfl⟩] at this
              simp at this
          · obtain ⟨x, hx, rfl⟩ := inL_iff.mp hch
            have ha : a < h.nx := (ft.lt _ _ hi).2
            obtain ⟨y, hy, ey, gy⟩ := (hsl a (by omega)).2 ⟨x, hx, hle' _ _ hi⟩
            have exy : y.1 = x.1 := hinj _ _ a ey (hle' _ _ hi)
            obtain ⟨⟨z, hz, ez⟩, hdif⟩ := rdif y hy
            obtain ⟨o₀, hm, hg₀⟩ := layL_has (t := .e) (fun q hq => Nat.lt_of_lt_of_le (gd.keys q hq).2 gd.nx) hz
            rw [ez] at hm hg₀
            obtain ⟨o₀', hg₀', hd⟩ := rout y hy
            rw [← exy]
            refine ⟨o₀, o₀', _, hg₀, hg₀', diffO_ok (hdif _ hm rfl) hd, gy, ?_⟩
            rcases hd with hd | ⟨rfl, hd⟩
            · rcases dobjB_ok (c5 y hy) with h2 | ⟨h2, _⟩
              · exact .inl (hd.comp h2)
              · rw [h2] at hd; cases hd
            · rcases dobjB_ok (c5 y hy) with h2 | ⟨_, h2⟩
              · rw [hd] at h2; cases h2
              · exact .inr ⟨rfl, h2⟩
          · rw [hnx', hnx] at hge
            rw [hfar a ha (by omega), (hget a ha).2.1 hge]
            exact hr.lt a ha (by omega)
          · rw [hnx', hnx] at hlt
            obtain ⟨x, hx, hxm, hxg⟩ := (hget a (by omega)).2.2 hge hlt
            rw [hfar a (by omega) hge, hxg] at hg
            obtain rfl := Option.some.inj hg
            obtain ⟨o₀, ho₀, ro⟩ := rnew x hx
            exact ⟨x.1, o₀, hnum _ _ hxm, ho₀, ro.comp (objB_ok (c3 x hx))⟩
          · rcases lookG_mem hi with ⟨hi', rfl⟩ | ⟨hi', mi⟩
            · rw [ft.glob a hi'] at hn; simp at hn
            · rw [List.mem_append] at mi
              rcases mi with mi | mi
              · obtain ⟨k1, k2, o, ho⟩ := numL_mem mi
                exact ⟨k1, by rw [hnx', hnx]; exact k2, gd.news _ ho⟩
              · exfalso
                have hb : Nat.blt i P.globals.size = false := by
                  cases hb : Nat.blt i P.globals.size with
                  | false => rfl
                  | true => have := blt_lt hb; omega
                have hl : lookL l i = none := by
                  unfold lookG at hn
                  rw [hb] at hn
                  exact hn
                have key : ∀ (L : List (Nat × Nat)), (i, a) ∈ L → lookL L i ≠ none := by
                  intro L
                  induction L with
                  | nil => intro hi; simp at hi
                  | cons x L ih =>
                    obtain ⟨k, b⟩ := x
                    intro hi
                    unfold lookL
                    rw [List.mem_cons] at hi
                    cases hb : Nat.beq i k with
                    | true => simp
                    | false =>
                      simp only [cond_false]
                      rcases hi with hi | hi
                      · obtain ⟨rfl, rfl⟩ := Prod.mk.inj hi; simp at hb
                      · exact ih hi
                exact key l mi hl
          · obtain ⟨o, ho, ro⟩ := robj _ (Ent.heap_get gd (Nat.lt_of_lt_of_le hi gd.nx) hg) hch
            exact ⟨o, ho, ro⟩
        obtain ⟨r1, r2, r3⟩ := hly.back ft hr hr' hp
        exact ⟨_, v', w', (rv.comp (renB_ok 8 _ _ c4)).to r3 hv, r1, r2, hst⟩

/-- Each entry was run over calls that were known before it. -/
inductive AllGood (P : Program) : List Ent → Prop
  | nil : AllGood P []
  | cons {e : Ent} {l m : List Ent} {fuel n : Nat} (h : AllGood P l) (hm : AllGood P m) (he : e.ok P (knOf P.globals.size m) P.globals.size fuel n = true) : AllGood P (e :: l)

omit [Val] in
theorem AllGood.one {e : Ent} {m : List Ent} {fuel n : Nat} (hm : AllGood P m) (he : e.ok P (knOf P.globals.size m) P.globals.size fuel n = true) : AllGood P [e] := .cons .nil hm he
omit [Val] in
theorem AllGood.app {e : Ent} {l : List Ent} (he : AllGood P [e]) (hl : AllGood P l) : AllGood P (e :: l) := by
  cases he with
  | cons _ hm h => exact .cons hl hm h

theorem knOf_sim {l : List Ent} (h : AllGood P l) : KnownSim P (knOf P.globals.size l) := by
  induction h with
  | nil => intro f args h h' r hk; simp [knOf] at hk
  | @cons e l m fuel n _ _ he ih ihm =>
    intro f args h h' r hk hex φ w args' c cs hr ha
    unfold knOf at hk
    cases hb : Nat.beq e.f f with
    | false => rw [hb] at hk; exact ih f args h h' r hk hex φ w args' c cs hr ha
    | true =>
      rw [hb] at hk
      obtain rfl := Nat.eq_of_beq_eq_true hb
      simp only [cond_true] at hk
      split at hk
      · rename_i q hq
        obtain rfl := Option.some.inj hk
        exact Ent.serve_sim ihm (Ent.good he) hq hex hr ha
      · exact ih e.f args h h' r hk hex φ w args' c cs hr ha
end
end Go.Ab
namespace Go.Ab
/-- A call without arguments that is known to yield true. -/
theorem Ent.yields {P : Program} {kn : Known} {e : Ent} {fuel n : Nat} (gd : e.Good P kn fuel n) (ha : e.args = []) (ho : e.objs = []) (hx : e.nx = P.globals.size) (hr : e.ret = .bool true) :
    yieldsTrue P kn fuel n e.f = true := by
  obtain ⟨v, u, h', hrun, rv, _⟩ := gd.run
  rw [hr] at rv
  cases rv
  unfold Ent.ran Ent.heap at hrun
  rw [ha, ho, hx] at hrun
  unfold yieldsTrue
  rw [show (layL [] Tr.e : Tr AObj) = .e from rfl] at hrun
  rw [hrun]
end Go.Ab
