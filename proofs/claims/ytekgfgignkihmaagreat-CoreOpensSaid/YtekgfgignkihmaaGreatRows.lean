/-
  No cell of these rows narrows 'for every input' (looked for: loops, veiled, ifaces, maps, wideKeys, modest, calm, conditions, laid).
  DERIVED. THE GIVEN ROWS OF THIS SEAT. 3 by the template 'for every input the law returns true; each argument reads behind the call as it read before'; 0 by the template 'total and deterministic' (their statements: YtekgfgignkihmaaGreatTotals.lean).
  GIVEN WITH THE SEED: the statements are not yours to turn. If you find one false, say at which input.
  Laid BY PROGRAM, IN A SANDBOX (cutbox-rows.mjs): the forced cells as the released guide's own fill.sh prints them over the translation 788d08119af569c8… (all of the seat's roots in one cut). By AI agents, Wed Nov 11 2026. No macro, syntax, notation, axiom, sorry.
-/
import Derived.Test.YtekgfgignkihmaaGreatChecked
import GoSem.Claim
import GoSem.ClaimJoined
import GoSem.ClaimMapViews
import Derived.JoinedTies
import Derived.KernelRfl
namespace Go.Proofs.YtekgfgignkihmaaGreat
/- THE CELL 'sum', in the pinned program and in every row, IS THE sha256 OF THE DUMP (.gsa) THAT YtekgfgignkihmaaGreatProg.lean LOADS. Nothing in Lean hashes anything: it is a label: what it is worth is what the hold of that sum in a sandbox is worth. -/
noncomputable def Tryz.pinned : Pinned := { name := "ytekgfgignkihmaagreat", sum := "788d08119af569c8ced4c63033bc17d9d63d6507b3f44d0b352d885c3df5f7ce", checked := Tryz.checked }
namespace Rows
def none {H : Type} : Left H := { results := [], args := [] }

/-- 'bailiwicklaw26.CoreLeaves': WHATEVER THE INPUT: true; the input reads as it did. -/
def coreLeavesSpec : ChangeSpec := { name := "coreLeaves", fn := fun _ => fun
  | [d1, d2, d3] => { results := [.lit (.bool true)], args := [d1, d2, d3] }
  | _ => none }
def coreLeavesRow : OpenClaim := { program := "ytekgfgignkihmaagreat", sum := "788d08119af569c8ced4c63033bc17d9d63d6507b3f44d0b352d885c3df5f7ce", func := "bailiwick/bailiwicklaw26.CoreLeaves", spec := "coreLeaves", inPlace := ["slices.overlaps[int]"], unfollowed := true, recurses := true, plainKeys := false, apart := false }
def CoreLeavesSaid : Prop := coreLeavesRow.holds Tryz.pinned (OpenSpec.ofChange coreLeavesSpec)

/-- ITS FALSE NEIGHBOUR: 'it returns false'. Refute it at one input. -/
def coreLeavesWrong : ChangeSpec := { name := "coreLeaves", fn := fun _ => fun
  | [d1, d2, d3] => { results := [.lit (.bool false)], args := [d1, d2, d3] }
  | _ => none }
def CoreLeavesWrongFalsely : Prop := coreLeavesRow.holds Tryz.pinned (OpenSpec.ofChange coreLeavesWrong)

/-- 'bailiwicklaw26.CoreOpens': WHATEVER THE INPUT: true; the input reads as it did. -/
def coreOpensSpec : ChangeSpec := { name := "coreOpens", fn := fun _ => fun
  | [d1, d2, d3] => { results := [.lit (.bool true)], args := [d1, d2, d3] }
  | _ => none }
def coreOpensRow : OpenClaim := { program := "ytekgfgignkihmaagreat", sum := "788d08119af569c8ced4c63033bc17d9d63d6507b3f44d0b352d885c3df5f7ce", func := "bailiwick/bailiwicklaw26.CoreOpens", spec := "coreOpens", inPlace := ["slices.overlaps[int]"], unfollowed := true, recurses := true, plainKeys := false, apart := false }
def CoreOpensSaid : Prop := coreOpensRow.holds Tryz.pinned (OpenSpec.ofChange coreOpensSpec)

/-- ITS FALSE NEIGHBOUR: 'it returns false'. Refute it at one input. -/
def coreOpensWrong : ChangeSpec := { name := "coreOpens", fn := fun _ => fun
  | [d1, d2, d3] => { results := [.lit (.bool false)], args := [d1, d2, d3] }
  | _ => none }
def CoreOpensWrongFalsely : Prop := coreOpensRow.holds Tryz.pinned (OpenSpec.ofChange coreOpensWrong)

/-- 'bailiwicklaw26.CoreEnds': WHATEVER THE INPUT: true; the input reads as it did. -/
def coreEndsSpec : ChangeSpec := { name := "coreEnds", fn := fun _ => fun
  | [d1, d2, d3] => { results := [.lit (.bool true)], args := [d1, d2, d3] }
  | _ => none }
def coreEndsRow : OpenClaim := { program := "ytekgfgignkihmaagreat", sum := "788d08119af569c8ced4c63033bc17d9d63d6507b3f44d0b352d885c3df5f7ce", func := "bailiwick/bailiwicklaw26.CoreEnds", spec := "coreEnds", inPlace := ["slices.overlaps[int]"], unfollowed := true, recurses := true, plainKeys := false, apart := false }
def CoreEndsSaid : Prop := coreEndsRow.holds Tryz.pinned (OpenSpec.ofChange coreEndsSpec)

/-- ITS FALSE NEIGHBOUR: 'it returns false'. Refute it at one input. -/
def coreEndsWrong : ChangeSpec := { name := "coreEnds", fn := fun _ => fun
  | [d1, d2, d3] => { results := [.lit (.bool false)], args := [d1, d2, d3] }
  | _ => none }
def CoreEndsWrongFalsely : Prop := coreEndsRow.holds Tryz.pinned (OpenSpec.ofChange coreEndsWrong)

/- THE SECOND FORM. 'bulk': how many values and letters a reading holds, each counted each time it is reached (what is shared counts as often as it is met; a slice's spare places count too). A statement '..UptoSaid' is the law's where the arguments, and the package variables that the reading takes, are together of bulk at most 1048576: NARROWER than '..Said'. Prove '..Said' where nothing that the law and all that it calls make is longer than what came in: it says more and counts as full. Else prove '..UptoSaid'. A law counts once. -/
mutual
def uptoBulk {H : Type} : DataW H → Nat
  | .lit (.string bytes) => bytes.length + 1
  | .lit _ => 1
  | .nil => 1
  | .ptr d => uptoBulk d + 1
  | .slice elems spare => uptoBulkAll elems + uptoBulkAll spare + 1
  | .agg parts => uptoBulkAll parts + 1
  | .iface _ d => uptoBulk d + 1
  | .map entries => uptoBulkEntries entries + 1
  | .held _ => 1
def uptoBulkAll {H : Type} : List (DataW H) → Nat
  | [] => 0
  | d :: r => uptoBulk d + uptoBulkAll r
def uptoBulkEntries {H : Type} : List (Lit × DataW H) → Nat
  | [] => 0
  | x :: r => uptoBulkEntry x + uptoBulkEntries r
def uptoBulkEntry {H : Type} : Lit × DataW H → Nat
  | (.string bytes, d) => bytes.length + uptoBulk d + 1
  | (_, d) => uptoBulk d + 1
 end
def uptoSmall : (H : Type) → List (DataW H) → Bool := fun _ ds => decide (uptoBulkAll ds ≤ 1048576)
def OpenSpec.upto (s : _root_.Go.ChangeSpec) : _root_.Go.OpenSpec := { _root_.Go.OpenSpec.ofChange s with cond := some uptoSmall }

/-- 'bailiwicklaw26.CoreLeaves', WHERE WHAT IT READS IS OF BULK AT MOST 1048576: true; the input reads as it did. -/
def coreLeavesUptoRow : OpenClaim := { program := "ytekgfgignkihmaagreat", sum := "788d08119af569c8ced4c63033bc17d9d63d6507b3f44d0b352d885c3df5f7ce", func := "bailiwick/bailiwicklaw26.CoreLeaves", spec := "coreLeaves", inPlace := ["slices.overlaps[int]"], unfollowed := true, recurses := true, plainKeys := false, apart := false, narrowed := true }
def CoreLeavesUptoSaid : Prop := coreLeavesUptoRow.holds Tryz.pinned (OpenSpec.upto coreLeavesSpec)

/-- 'bailiwicklaw26.CoreOpens', WHERE WHAT IT READS IS OF BULK AT MOST 1048576: true; the input reads as it did. -/
def coreOpensUptoRow : OpenClaim := { program := "ytekgfgignkihmaagreat", sum := "788d08119af569c8ced4c63033bc17d9d63d6507b3f44d0b352d885c3df5f7ce", func := "bailiwick/bailiwicklaw26.CoreOpens", spec := "coreOpens", inPlace := ["slices.overlaps[int]"], unfollowed := true, recurses := true, plainKeys := false, apart := false, narrowed := true }
def CoreOpensUptoSaid : Prop := coreOpensUptoRow.holds Tryz.pinned (OpenSpec.upto coreOpensSpec)

/-- 'bailiwicklaw26.CoreEnds', WHERE WHAT IT READS IS OF BULK AT MOST 1048576: true; the input reads as it did. -/
def coreEndsUptoRow : OpenClaim := { program := "ytekgfgignkihmaagreat", sum := "788d08119af569c8ced4c63033bc17d9d63d6507b3f44d0b352d885c3df5f7ce", func := "bailiwick/bailiwicklaw26.CoreEnds", spec := "coreEnds", inPlace := ["slices.overlaps[int]"], unfollowed := true, recurses := true, plainKeys := false, apart := false, narrowed := true }
def CoreEndsUptoSaid : Prop := coreEndsUptoRow.holds Tryz.pinned (OpenSpec.upto coreEndsSpec)

end Rows
end Go.Proofs.YtekgfgignkihmaaGreat
