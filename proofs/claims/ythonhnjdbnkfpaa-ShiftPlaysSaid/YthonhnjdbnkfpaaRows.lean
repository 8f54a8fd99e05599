/-
  No cell of these rows narrows 'for every input' (looked for: loops, veiled, ifaces, maps, wideKeys, modest, calm, conditions, laid).
  DERIVED. THE GIVEN ROWS OF THIS SEAT. 5 by the template 'for every input the law returns true; each argument reads behind the call as it read before'; 0 by the template 'total and deterministic' (their statements: YthonhnjdbnkfpaaTotals.lean).
  GIVEN WITH THE SEED: the statements are not yours to turn. If you find one false, say at which input.
  Laid BY PROGRAM, IN A SANDBOX (cutbox-rows.mjs): the forced cells as the released guide's own fill.sh prints them over the translation 26052d69c03a1230… (all of the seat's roots in one cut). By AI agents, Wed Nov 11 2026. No macro, syntax, notation, axiom, sorry.
-/
import Derived.Test.YthonhnjdbnkfpaaChecked
import GoSem.Claim
import GoSem.ClaimJoined
import GoSem.ClaimMapViews
import Derived.JoinedTies
import Derived.KernelRfl
namespace Go.Proofs.Ythonhnjdbnkfpaa
/- THE CELL 'sum', in the pinned program and in every row, IS THE sha256 OF THE DUMP (.gsa) THAT YthonhnjdbnkfpaaProg.lean LOADS. Nothing in Lean hashes anything: it is a label: what it is worth is what the hold of that sum in a sandbox is worth. -/
noncomputable def Try.pinned : Pinned := { name := "ythonhnjdbnkfpaa", sum := "26052d69c03a12305e7b5a7abbd559639fc20c4ba6f0b0b3089bed43eaae92f4", checked := Try.checked }
namespace Rows
def none {H : Type} : Left H := { results := [], args := [] }

/-- 'bailiwicklaw24.ShiftKnown': WHATEVER THE INPUT: true; the input reads as it did. -/
def shiftKnownSpec : ChangeSpec := { name := "shiftKnown", fn := fun _ => fun
  | [] => { results := [.lit (.bool true)], args := [] }
  | _ => none }
def shiftKnownRow : OpenClaim := { program := "ythonhnjdbnkfpaa", sum := "26052d69c03a12305e7b5a7abbd559639fc20c4ba6f0b0b3089bed43eaae92f4", func := "bailiwick/bailiwicklaw24.ShiftKnown", spec := "shiftKnown", unfollowed := true, recurses := true, apart := false }
def ShiftKnownSaid : Prop := shiftKnownRow.holds Try.pinned (OpenSpec.ofChange shiftKnownSpec)

/-- ITS FALSE NEIGHBOUR: 'it returns false'. Refute it at one input. -/
def shiftKnownWrong : ChangeSpec := { name := "shiftKnown", fn := fun _ => fun
  | [] => { results := [.lit (.bool false)], args := [] }
  | _ => none }
def ShiftKnownWrongFalsely : Prop := shiftKnownRow.holds Try.pinned (OpenSpec.ofChange shiftKnownWrong)

/-- 'bailiwicklaw24.ShiftBack': WHATEVER THE INPUT: true; the input reads as it did. -/
def shiftBackSpec : ChangeSpec := { name := "shiftBack", fn := fun _ => fun
  | [d1, d2, d3] => { results := [.lit (.bool true)], args := [d1, d2, d3] }
  | _ => none }
def shiftBackRow : OpenClaim := { program := "ythonhnjdbnkfpaa", sum := "26052d69c03a12305e7b5a7abbd559639fc20c4ba6f0b0b3089bed43eaae92f4", func := "bailiwick/bailiwicklaw24.ShiftBack", spec := "shiftBack", unfollowed := true, recurses := true, apart := false }
def ShiftBackSaid : Prop := shiftBackRow.holds Try.pinned (OpenSpec.ofChange shiftBackSpec)

/-- ITS FALSE NEIGHBOUR: 'it returns false'. Refute it at one input. -/
def shiftBackWrong : ChangeSpec := { name := "shiftBack", fn := fun _ => fun
  | [d1, d2, d3] => { results := [.lit (.bool false)], args := [d1, d2, d3] }
  | _ => none }
def ShiftBackWrongFalsely : Prop := shiftBackRow.holds Try.pinned (OpenSpec.ofChange shiftBackWrong)

/-- 'bailiwicklaw24.ShiftOut': WHATEVER THE INPUT: true; the input reads as it did. -/
def shiftOutSpec : ChangeSpec := { name := "shiftOut", fn := fun _ => fun
  | [d1, d2, d3] => { results := [.lit (.bool true)], args := [d1, d2, d3] }
  | _ => none }
def shiftOutRow : OpenClaim := { program := "ythonhnjdbnkfpaa", sum := "26052d69c03a12305e7b5a7abbd559639fc20c4ba6f0b0b3089bed43eaae92f4", func := "bailiwick/bailiwicklaw24.ShiftOut", spec := "shiftOut", unfollowed := true, recurses := true, apart := false }
def ShiftOutSaid : Prop := shiftOutRow.holds Try.pinned (OpenSpec.ofChange shiftOutSpec)

/-- ITS FALSE NEIGHBOUR: 'it returns false'. Refute it at one input. -/
def shiftOutWrong : ChangeSpec := { name := "shiftOut", fn := fun _ => fun
  | [d1, d2, d3] => { results := [.lit (.bool false)], args := [d1, d2, d3] }
  | _ => none }
def ShiftOutWrongFalsely : Prop := shiftOutRow.holds Try.pinned (OpenSpec.ofChange shiftOutWrong)

/-- 'bailiwicklaw24.ShiftSums': WHATEVER THE INPUT: true; the input reads as it did. -/
def shiftSumsSpec : ChangeSpec := { name := "shiftSums", fn := fun _ => fun
  | [d1, d2, d3] => { results := [.lit (.bool true)], args := [d1, d2, d3] }
  | _ => none }
def shiftSumsRow : OpenClaim := { program := "ythonhnjdbnkfpaa", sum := "26052d69c03a12305e7b5a7abbd559639fc20c4ba6f0b0b3089bed43eaae92f4", func := "bailiwick/bailiwicklaw24.ShiftSums", spec := "shiftSums", unfollowed := true, recurses := true, apart := false }
def ShiftSumsSaid : Prop := shiftSumsRow.holds Try.pinned (OpenSpec.ofChange shiftSumsSpec)

/-- ITS FALSE NEIGHBOUR: 'it returns false'. Refute it at one input. -/
def shiftSumsWrong : ChangeSpec := { name := "shiftSums", fn := fun _ => fun
  | [d1, d2, d3] => { results := [.lit (.bool false)], args := [d1, d2, d3] }
  | _ => none }
def ShiftSumsWrongFalsely : Prop := shiftSumsRow.holds Try.pinned (OpenSpec.ofChange shiftSumsWrong)

/-- 'bailiwicklaw24.ShiftPlays': WHATEVER THE INPUT: true; the input reads as it did. -/
def shiftPlaysSpec : ChangeSpec := { name := "shiftPlays", fn := fun _ => fun
  | [d] => { results := [.lit (.bool true)], args := [d] }
  | _ => none }
def shiftPlaysRow : OpenClaim := { program := "ythonhnjdbnkfpaa", sum := "26052d69c03a12305e7b5a7abbd559639fc20c4ba6f0b0b3089bed43eaae92f4", func := "bailiwick/bailiwicklaw24.ShiftPlays", spec := "shiftPlays", unfollowed := true, recurses := true, apart := false }
def ShiftPlaysSaid : Prop := shiftPlaysRow.holds Try.pinned (OpenSpec.ofChange shiftPlaysSpec)

/-- ITS FALSE NEIGHBOUR: 'it returns false'. Refute it at one input. -/
def shiftPlaysWrong : ChangeSpec := { name := "shiftPlays", fn := fun _ => fun
  | [d] => { results := [.lit (.bool false)], args := [d] }
  | _ => none }
def ShiftPlaysWrongFalsely : Prop := shiftPlaysRow.holds Try.pinned (OpenSpec.ofChange shiftPlaysWrong)

/- THE SECOND FORM. 'bulk': how many values and letters a reading holds, each counted each time it is reached (what is shared counts as often as it is met; a slice's spare places count too). A statement '..UptoSaid' is the law's where the arguments, and the package variables that the reading takes, are together of bulk at most 1048576: NARROWER than '..Said'. Prove '..Said' where nothing that the law and all that it calls make is longer than what came in: it says more and counts as full. Else prove '..UptoSaid'. A law counts once. -/
mutual
def uptoBulk {H : Type} : DataW H → Nat
  | .lit (.string bytes) => bytes.length + 1
  | .lit _ => 1
  | .nil => 1
  | .ptr d => uptoBulk d + 1
  | .slice elems spare => uptoBulkAll elems + uptoBulkAll spare + 1
  | .agg parts => uptoBulkAll parts + 1
  | .iface _ d => uptoBulk d + 1
  | .map entries => uptoBulkEntries entries + 1
  | .held _ => 1
def uptoBulkAll {H : Type} : List (DataW H) → Nat
  | [] => 0
  | d :: r => uptoBulk d + uptoBulkAll r
def uptoBulkEntries {H : Type} : List (Lit × DataW H) → Nat
  | [] => 0
  | x :: r => uptoBulkEntry x + uptoBulkEntries r
def uptoBulkEntry {H : Type} : Lit × DataW H → Nat
  | (.string bytes, d) => bytes.length + uptoBulk d + 1
  | (_, d) => uptoBulk d + 1
 end
def uptoSmall : (H : Type) → List (DataW H) → Bool := fun _ ds => decide (uptoBulkAll ds ≤ 1048576)
def OpenSpec.upto (s : _root_.Go.ChangeSpec) : _root_.Go.OpenSpec := { _root_.Go.OpenSpec.ofChange s with cond := some uptoSmall }

/-- 'bailiwicklaw24.ShiftKnown', WHERE WHAT IT READS IS OF BULK AT MOST 1048576: true; the input reads as it did. -/
def shiftKnownUptoRow : OpenClaim := { program := "ythonhnjdbnkfpaa", sum := "26052d69c03a12305e7b5a7abbd559639fc20c4ba6f0b0b3089bed43eaae92f4", func := "bailiwick/bailiwicklaw24.ShiftKnown", spec := "shiftKnown", unfollowed := true, recurses := true, apart := false, narrowed := true }
def ShiftKnownUptoSaid : Prop := shiftKnownUptoRow.holds Try.pinned (OpenSpec.upto shiftKnownSpec)

/-- 'bailiwicklaw24.ShiftBack', WHERE WHAT IT READS IS OF BULK AT MOST 1048576: true; the input reads as it did. -/
def shiftBackUptoRow : OpenClaim := { program := "ythonhnjdbnkfpaa", sum := "26052d69c03a12305e7b5a7abbd559639fc20c4ba6f0b0b3089bed43eaae92f4", func := "bailiwick/bailiwicklaw24.ShiftBack", spec := "shiftBack", unfollowed := true, recurses := true, apart := false, narrowed := true }
def ShiftBackUptoSaid : Prop := shiftBackUptoRow.holds Try.pinned (OpenSpec.upto shiftBackSpec)

/-- 'bailiwicklaw24.ShiftOut', WHERE WHAT IT READS IS OF BULK AT MOST 1048576: true; the input reads as it did. -/
def shiftOutUptoRow : OpenClaim := { program := "ythonhnjdbnkfpaa", sum := "26052d69c03a12305e7b5a7abbd559639fc20c4ba6f0b0b3089bed43eaae92f4", func := "bailiwick/bailiwicklaw24.ShiftOut", spec := "shiftOut", unfollowed := true, recurses := true, apart := false, narrowed := true }
def ShiftOutUptoSaid : Prop := shiftOutUptoRow.holds Try.pinned (OpenSpec.upto shiftOutSpec)

/-- 'bailiwicklaw24.ShiftSums', WHERE WHAT IT READS IS OF BULK AT MOST 1048576: true; the input reads as it did. -/
def shiftSumsUptoRow : OpenClaim := { program := "ythonhnjdbnkfpaa", sum := "26052d69c03a12305e7b5a7abbd559639fc20c4ba6f0b0b3089bed43eaae92f4", func := "bailiwick/bailiwicklaw24.ShiftSums", spec := "shiftSums", unfollowed := true, recurses := true, apart := false, narrowed := true }
def ShiftSumsUptoSaid : Prop := shiftSumsUptoRow.holds Try.pinned (OpenSpec.upto shiftSumsSpec)

/-- 'bailiwicklaw24.ShiftPlays', WHERE WHAT IT READS IS OF BULK AT MOST 1048576: true; the input reads as it did. -/
def shiftPlaysUptoRow : OpenClaim := { program := "ythonhnjdbnkfpaa", sum := "26052d69c03a12305e7b5a7abbd559639fc20c4ba6f0b0b3089bed43eaae92f4", func := "bailiwick/bailiwicklaw24.ShiftPlays", spec := "shiftPlays", unfollowed := true, recurses := true, apart := false, narrowed := true }
def ShiftPlaysUptoSaid : Prop := shiftPlaysUptoRow.holds Try.pinned (OpenSpec.upto shiftPlaysSpec)

end Rows
end Go.Proofs.Ythonhnjdbnkfpaa
