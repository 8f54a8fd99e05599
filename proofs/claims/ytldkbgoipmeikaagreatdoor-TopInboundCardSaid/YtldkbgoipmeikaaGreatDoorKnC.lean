/-
  A stable sort of at most one element changes nothing: a call known from elsewhere.
  Conditions: the length is at most one.
-/
import Derived.Test.YtldkbgoipmeikaaGreatDoorKnA
import Derived.Lib.ReflectliteSlice
import Derived.WalkKit
import Derived.ProofKit
import Derived.OpenShut
open Go Go.Ab Go.ChangeShapes Go.WideShapes Go.ChangeAt Go.RowKit Go.Lib
namespace Go.Proofs.YtldkbgoipmeikaaGreatDoor
set_option linter.unusedVariables false

theorem grown0 (w : World) : w.grownBy w none := ⟨rfl, rfl, rfl, Nat.le_refl _, fun _ _ _ => rfl⟩
theorem grown_trans {a b c : World} (h : a.grownBy b none) (h' : b.grownBy c none) : a.grownBy c none :=
  ⟨h'.os.trans h.os, h'.tape.trans h.tape, h'.output.trans h.output, Nat.le_trans h.size h'.size, fun k hk _ => (h'.block k (Nat.lt_of_lt_of_le hk h.size) (by simp)).trans (h.block k hk (by simp))⟩

theorem ins_c (w : World) (l s : Value) (n : Nat) (hn : n ≤ 1) (hl : l.oneCell' = true) (hs : s.oneCell' = true) : Calls Tryz.prog 258 #[.agg #[l, s], .int .i64 0, .int .i64 n] w fun e w' => e = .returned (.tuple #[]) ∧ w.grownBy w' none := by
  have hn' : ¬ (1 : Int) < n := by omega
  go_enter Tryz.func258, Tryz.ntmps258
  go_wp2
  go_loopw [6] (fun i wr => i = .int .i64 1 ∧ w.grownBy wr none) (fun i _ => 0)
  case atStart => exact ⟨rfl, World.grownBy_alloc w _ none⟩
  case round =>
    obtain ⟨rfl, hg⟩ := hrel
    go_wp2
    go_end0
    exact ⟨rfl, hg⟩

theorem stable_c (w : World) (l s : Value) (n : Nat) (hn : n ≤ 1) (hl : l.oneCell' = true) (hs : s.oneCell' = true) : Calls Tryz.prog 133 #[.agg #[l, s], .int .i64 n] w fun e w' => e = .returned (.tuple #[]) ∧ w.grownBy w' none := by
  have hn' : ¬ (20 : Int) ≤ n := by omega
  have hn2 : ¬ (20 : Int) < n := by omega
  go_enter Tryz.func133, Tryz.ntmps133
  go_wp2
  refine wp_loop_rounds 1 ?_
  rw [rounds_succ]
  go_wp2_with (go_at_call 258; refine (ins_c _ _ _ n hn hl hs).mono ?_; rintro e w1 ⟨rfl, hg⟩)
  refine wp_loop_rounds 1 ?_
  rw [rounds_succ]
  go_wp2
  all_goals first
    | (exfalso; omega)
    | (go_end0; exact ⟨rfl, grown_trans (World.grownBy_alloc w _ none) hg⟩)

noncomputable def siT : TypeInfo := (Tryz.prog.info? 86).get (by kernel_rfl)
noncomputable def siE : TypeInfo := (Tryz.prog.info? 150).get (by kernel_rfl)

set_option maxHeartbeats 1000000 in
set_option maxRecDepth 100000 in
theorem slice_n (p : Option Addr) (n c g : Nat) (la lb : Array Value) (w : World) (hn : n ≤ 1) (f : Nat)
    (hs : ∀ w, (Extern.ReflectliteSwapper.swapper "internal/reflectlite" (Extern.ReflectliteValue.valueError "Swapper") #[.iface 86 (.slice p n c)]).run Tryz.prog w = .ok (.func (.func f) #[] #[]) w) :
    Calls Tryz.prog 72 #[.iface 86 (.slice p n c), .func (.func g) la lb] w fun e w' => e = .returned (.tuple #[]) ∧ w.grownBy w' none := by
  have hv := run_valueOf_slice (P := Tryz.prog) 86 150 siT (by kernel_rfl) (by kernel_rfl) p n c w
  have hl := fun a w ha => run_valueLen_slice (P := Tryz.prog) 86 150 siT (by kernel_rfl) (by kernel_rfl) (by kernel_rfl) a p n c w ha
  simp only [typeHandle] at hv hl
  have hG : Tryz.prog.globals.size = 6 := by decide +kernel
  simp only [hG] at hl
  clear hG
  go_enter Tryz.func72, Tryz.ntmps72
  go_wp2
  rw [run_callFunc_extern Tryz.func131 (by kernel_rfl) (by kernel_rfl) (by kernel_rfl) (e := fun args => Extern.ReflectliteValue.unpack (args.getD 0 (.tuple #[]))) (by kernel_rfl),
    show Sem.run Tryz.prog ((fun args : Array Value => Extern.ReflectliteValue.unpack (args.getD 0 (.tuple #[]))) #[.iface 86 (.slice p n c)]) w = _ from hv]
  simp only [Result.andThen]
  rw [Oper.upon_value]
  go_wp2
  rw [run_callFunc_extern Tryz.func132 (by kernel_rfl) (by kernel_rfl) (by kernel_rfl) (e := Extern.ReflectliteSwapper.swapper "internal/reflectlite" (Extern.ReflectliteValue.valueError "Swapper")) (by kernel_rfl), hs]
  simp only [Result.andThen]
  rw [Oper.upon_value]
  go_wp2
  rw [run_callFunc_extern Tryz.func134 (by kernel_rfl) (by kernel_rfl) (by kernel_rfl) (e := Extern.ReflectliteValue.method (Extern.ReflectliteValue.valueError "reflectlite.Value.Len" 0) Extern.ReflectliteValue.len) (by kernel_rfl),
    hl _ _ (by simp)]
  simp only [Result.andThen]
  rw [Oper.upon_value]
  go_wp2_with (go_at_call 133; refine (stable_c _ _ _ n hn rfl rfl).mono ?_; rintro e w' ⟨rfl, hg⟩)
  go_end0
  exact ⟨rfl, grown_trans (grown_trans (World.grownBy_alloc w _ none) (World.grownBy_alloc _ _ none)) hg⟩

theorem slice_c (p : Option Addr) (n c g : Nat) (la lb : Array Value) (w : World) (hn : n ≤ 1) :
    Calls Tryz.prog 72 #[.iface 86 (.slice p n c), .func (.func g) la lb] w fun e w' => e = .returned (.tuple #[]) ∧ w.grownBy w' none := by
  have h01 : n = 0 ∨ n = 1 := by omega
  rcases h01 with rfl | rfl
  · refine slice_n p 0 c g la lb w hn 249 fun w => ?_
    have h := run_swapper_slice (P := Tryz.prog) 86 150 siT siE (by kernel_rfl) (by kernel_rfl) (by kernel_rfl) 25 (fun _ => by kernel_rfl) p 0 c 249 (by kernel_rfl) w
    rw [if_pos (Nat.le_of_ble_eq_true (by kernel_rfl))] at h
    exact h
  · refine slice_n p 1 c g la lb w hn 250 fun w => ?_
    have h := run_swapper_slice (P := Tryz.prog) 86 150 siT siE (by kernel_rfl) (by kernel_rfl) (by kernel_rfl) 25 (fun _ => by kernel_rfl) p 1 c 250 (by kernel_rfl) w
    rw [if_pos (Nat.le_of_ble_eq_true (by kernel_rfl))] at h
    exact h

def Inv (_ : Val) : Prop := True
theorem keeps : Keeps Inv := keeps_true
theorem kbSim : ∀ V : Val, Inv V → @KnownSim V Tryz.prog kb := fun V _ => @knTiny_sim V _ _ _ slice_c
end Go.Proofs.YtldkbgoipmeikaaGreatDoor
