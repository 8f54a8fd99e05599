/-
  No cell of these rows narrows 'for every input' (looked for: loops, veiled, ifaces, maps, wideKeys, modest, calm, conditions, laid).
  DERIVED. THE GIVEN ROWS OF THIS SEAT. 4 by the template 'for every input the law returns true; each argument reads behind the call as it read before'; 0 by the template 'total and deterministic' (their statements: YtbdpjpldnimojaaGreatTotals.lean).
  GIVEN WITH THE SEED: the statements are not yours to turn. If you find one false, say at which input.
  Laid BY PROGRAM, IN A SANDBOX (cutbox-rows.mjs): the forced cells as the released guide's own fill.sh prints them over the translation aaf3c4cab24f0389… (all of the seat's roots in one cut). By AI agents, Wed Nov 11 2026. No macro, syntax, notation, axiom, sorry.
-/
import Derived.Test.YtbdpjpldnimojaaGreatChecked
import GoSem.Claim
import GoSem.ClaimJoined
import GoSem.ClaimMapViews
import Derived.JoinedTies
import Derived.KernelRfl
namespace Go.Proofs.YtbdpjpldnimojaaGreat
/- THE CELL 'sum', in the pinned program and in every row, IS THE sha256 OF THE DUMP (.gsa) THAT YtbdpjpldnimojaaGreatProg.lean LOADS. Nothing in Lean hashes anything: it is a label: what it is worth is what the hold of that sum in a sandbox is worth. -/
noncomputable def Tryz.pinned : Pinned := { name := "ytbdpjpldnimojaagreat", sum := "aaf3c4cab24f0389994841e84e482302dd1109bd9e77d091926e8e548bb1d8da", checked := Tryz.checked }
namespace Rows
def none {H : Type} : Left H := { results := [], args := [] }

/-- 'bailiwicklaw28.PcpWaits': WHATEVER THE INPUT: true; the input reads as it did. -/
def pcpWaitsSpec : ChangeSpec := { name := "pcpWaits", fn := fun _ => fun
  | [d] => { results := [.lit (.bool true)], args := [d] }
  | _ => none }
def pcpWaitsRow : OpenClaim := { program := "ytbdpjpldnimojaagreat", sum := "aaf3c4cab24f0389994841e84e482302dd1109bd9e77d091926e8e548bb1d8da", func := "bailiwick/bailiwicklaw28.PcpWaits", spec := "pcpWaits", inPlace := ["slices.overlaps[int]"], unfollowed := true, recurses := true, plainKeys := false, apart := false }
def PcpWaitsSaid : Prop := pcpWaitsRow.holds Tryz.pinned (OpenSpec.ofChange pcpWaitsSpec)

/-- ITS FALSE NEIGHBOUR: 'it returns false'. Refute it at one input. -/
def pcpWaitsWrong : ChangeSpec := { name := "pcpWaits", fn := fun _ => fun
  | [d] => { results := [.lit (.bool false)], args := [d] }
  | _ => none }
def PcpWaitsWrongFalsely : Prop := pcpWaitsRow.holds Tryz.pinned (OpenSpec.ofChange pcpWaitsWrong)

/-- 'bailiwicklaw28.PcpKnown': WHATEVER THE INPUT: true; the input reads as it did. -/
def pcpKnownSpec : ChangeSpec := { name := "pcpKnown", fn := fun _ => fun
  | [] => { results := [.lit (.bool true)], args := [] }
  | _ => none }
def pcpKnownRow : OpenClaim := { program := "ytbdpjpldnimojaagreat", sum := "aaf3c4cab24f0389994841e84e482302dd1109bd9e77d091926e8e548bb1d8da", func := "bailiwick/bailiwicklaw28.PcpKnown", spec := "pcpKnown", inPlace := ["slices.overlaps[int]"], unfollowed := true, recurses := true, plainKeys := false, apart := false }
def PcpKnownSaid : Prop := pcpKnownRow.holds Tryz.pinned (OpenSpec.ofChange pcpKnownSpec)

/-- ITS FALSE NEIGHBOUR: 'it returns false'. Refute it at one input. -/
def pcpKnownWrong : ChangeSpec := { name := "pcpKnown", fn := fun _ => fun
  | [] => { results := [.lit (.bool false)], args := [] }
  | _ => none }
def PcpKnownWrongFalsely : Prop := pcpKnownRow.holds Tryz.pinned (OpenSpec.ofChange pcpKnownWrong)

/-- 'bailiwicklaw28.PcpLosts': WHATEVER THE INPUT: true; the input reads as it did. -/
def pcpLostsSpec : ChangeSpec := { name := "pcpLosts", fn := fun _ => fun
  | [d1, d2, d3] => { results := [.lit (.bool true)], args := [d1, d2, d3] }
  | _ => none }
def pcpLostsRow : OpenClaim := { program := "ytbdpjpldnimojaagreat", sum := "aaf3c4cab24f0389994841e84e482302dd1109bd9e77d091926e8e548bb1d8da", func := "bailiwick/bailiwicklaw28.PcpLosts", spec := "pcpLosts", inPlace := ["slices.overlaps[int]"], unfollowed := true, recurses := true, plainKeys := false, apart := false }
def PcpLostsSaid : Prop := pcpLostsRow.holds Tryz.pinned (OpenSpec.ofChange pcpLostsSpec)

/-- ITS FALSE NEIGHBOUR: 'it returns false'. Refute it at one input. -/
def pcpLostsWrong : ChangeSpec := { name := "pcpLosts", fn := fun _ => fun
  | [d1, d2, d3] => { results := [.lit (.bool false)], args := [d1, d2, d3] }
  | _ => none }
def PcpLostsWrongFalsely : Prop := pcpLostsRow.holds Tryz.pinned (OpenSpec.ofChange pcpLostsWrong)

/-- 'bailiwicklaw28.PcpEpochs': WHATEVER THE INPUT: true; the input reads as it did. -/
def pcpEpochsSpec : ChangeSpec := { name := "pcpEpochs", fn := fun _ => fun
  | [d1, d2, d3] => { results := [.lit (.bool true)], args := [d1, d2, d3] }
  | _ => none }
def pcpEpochsRow : OpenClaim := { program := "ytbdpjpldnimojaagreat", sum := "aaf3c4cab24f0389994841e84e482302dd1109bd9e77d091926e8e548bb1d8da", func := "bailiwick/bailiwicklaw28.PcpEpochs", spec := "pcpEpochs", inPlace := ["slices.overlaps[int]"], unfollowed := true, recurses := true, plainKeys := false, apart := false }
def PcpEpochsSaid : Prop := pcpEpochsRow.holds Tryz.pinned (OpenSpec.ofChange pcpEpochsSpec)

/-- ITS FALSE NEIGHBOUR: 'it returns false'. Refute it at one input. -/
def pcpEpochsWrong : ChangeSpec := { name := "pcpEpochs", fn := fun _ => fun
  | [d1, d2, d3] => { results := [.lit (.bool false)], args := [d1, d2, d3] }
  | _ => none }
def PcpEpochsWrongFalsely : Prop := pcpEpochsRow.holds Tryz.pinned (OpenSpec.ofChange pcpEpochsWrong)

/- THE SECOND FORM. 'bulk': how many values and letters a reading holds, each counted each time it is reached (what is shared counts as often as it is met; a slice's spare places count too). A statement '..UptoSaid' is the law's where the arguments, and the package variables that the reading takes, are together of bulk at most 1048576: NARROWER than '..Said'. Prove '..Said' where nothing that the law and all that it calls make is longer than what came in: it says more and counts as full. Else prove '..UptoSaid'. A law counts once. -/
mutual
def uptoBulk {H : Type} : DataW H → Nat
  | .lit (.string bytes) => bytes.length + 1
  | .lit _ => 1
  | .nil => 1
  | .ptr d => uptoBulk d + 1
  | .slice elems spare => uptoBulkAll elems + uptoBulkAll spare + 1
  | .agg parts => uptoBulkAll parts + 1
  | .iface _ d => uptoBulk d + 1
  | .map entries => uptoBulkEntries entries + 1
  | .held _ => 1
def uptoBulkAll {H : Type} : List (DataW H) → Nat
  | [] => 0
  | d :: r => uptoBulk d + uptoBulkAll r
def uptoBulkEntries {H : Type} : List (Lit × DataW H) → Nat
  | [] => 0
  | x :: r => uptoBulkEntry x + uptoBulkEntries r
def uptoBulkEntry {H : Type} : Lit × DataW H → Nat
  | (.string bytes, d) => bytes.length + uptoBulk d + 1
  | (_, d) => uptoBulk d + 1
 end
def uptoSmall : (H : Type) → List (DataW H) → Bool := fun _ ds => decide (uptoBulkAll ds ≤ 1048576)
def OpenSpec.upto (s : _root_.Go.ChangeSpec) : _root_.Go.OpenSpec := { _root_.Go.OpenSpec.ofChange s with cond := some uptoSmall }

/-- 'bailiwicklaw28.PcpWaits', WHERE WHAT IT READS IS OF BULK AT MOST 1048576: true; the input reads as it did. -/
def pcpWaitsUptoRow : OpenClaim := { program := "ytbdpjpldnimojaagreat", sum := "aaf3c4cab24f0389994841e84e482302dd1109bd9e77d091926e8e548bb1d8da", func := "bailiwick/bailiwicklaw28.PcpWaits", spec := "pcpWaits", inPlace := ["slices.overlaps[int]"], unfollowed := true, recurses := true, plainKeys := false, apart := false, narrowed := true }
def PcpWaitsUptoSaid : Prop := pcpWaitsUptoRow.holds Tryz.pinned (OpenSpec.upto pcpWaitsSpec)

/-- 'bailiwicklaw28.PcpKnown', WHERE WHAT IT READS IS OF BULK AT MOST 1048576: true; the input reads as it did. -/
def pcpKnownUptoRow : OpenClaim := { program := "ytbdpjpldnimojaagreat", sum := "aaf3c4cab24f0389994841e84e482302dd1109bd9e77d091926e8e548bb1d8da", func := "bailiwick/bailiwicklaw28.PcpKnown", spec := "pcpKnown", inPlace := ["slices.overlaps[int]"], unfollowed := true, recurses := true, plainKeys := false, apart := false, narrowed := true }
def PcpKnownUptoSaid : Prop := pcpKnownUptoRow.holds Tryz.pinned (OpenSpec.upto pcpKnownSpec)

/-- 'bailiwicklaw28.PcpLosts', WHERE WHAT IT READS IS OF BULK AT MOST 1048576: true; the input reads as it did. -/
def pcpLostsUptoRow : OpenClaim := { program := "ytbdpjpldnimojaagreat", sum := "aaf3c4cab24f0389994841e84e482302dd1109bd9e77d091926e8e548bb1d8da", func := "bailiwick/bailiwicklaw28.PcpLosts", spec := "pcpLosts", inPlace := ["slices.overlaps[int]"], unfollowed := true, recurses := true, plainKeys := false, apart := false, narrowed := true }
def PcpLostsUptoSaid : Prop := pcpLostsUptoRow.holds Tryz.pinned (OpenSpec.upto pcpLostsSpec)

/-- 'bailiwicklaw28.PcpEpochs', WHERE WHAT IT READS IS OF BULK AT MOST 1048576: true; the input reads as it did. -/
def pcpEpochsUptoRow : OpenClaim := { program := "ytbdpjpldnimojaagreat", sum := "aaf3c4cab24f0389994841e84e482302dd1109bd9e77d091926e8e548bb1d8da", func := "bailiwick/bailiwicklaw28.PcpEpochs", spec := "pcpEpochs", inPlace := ["slices.overlaps[int]"], unfollowed := true, recurses := true, plainKeys := false, apart := false, narrowed := true }
def PcpEpochsUptoSaid : Prop := pcpEpochsUptoRow.holds Tryz.pinned (OpenSpec.upto pcpEpochsSpec)

end Rows
end Go.Proofs.YtbdpjpldnimojaaGreat
