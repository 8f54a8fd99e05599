/-
  Calls that are known by a run each over a small memory, whatever the numbers are that it does not tell.
  Conditions: none.
-/
import Derived.Test.YtfipecdimnjckaaGreatKnY00
open Go Go.Ab
namespace Go.Proofs.YtfipecdimnjckaaGreat
theorem ok51 : e51.ok Tryz.prog (knOf 0 [e50, e48]) 0 1000 60 = true := by decide +kernel
theorem ok52 : e52.ok Tryz.prog (knOf 0 [e51]) 0 1000 60 = true := by decide +kernel
theorem ok53 : e53.ok Tryz.prog (knOf 0 [e52, e12, e48]) 0 1000 60 = true := by decide +kernel
theorem ok54 : e54.ok Tryz.prog (knOf 0 []) 0 1000 60 = true := by decide +kernel
theorem ok55 : e55.ok Tryz.prog (knOf 0 [e54]) 0 1000 60 = true := by decide +kernel
theorem ok56 : e56.ok Tryz.prog (knOf 0 [e55, e54, e30]) 0 1000 60 = true := by decide +kernel
theorem ok57 : e57.ok Tryz.prog (knOf 0 [e56, e54]) 0 1000 60 = true := by decide +kernel
theorem ok58 : e58.ok Tryz.prog (knOf 0 [e57]) 0 1000 60 = true := by decide +kernel
theorem ok59 : e59.ok Tryz.prog (knOf 0 [e58, e12, e54]) 0 1000 60 = true := by decide +kernel
theorem ok60 : e60.ok Tryz.prog (knOf 0 []) 0 1000 60 = true := by decide +kernel
theorem ok61 : e61.ok Tryz.prog (knOf 0 [e60]) 0 1000 60 = true := by decide +kernel
theorem ok62 : e62.ok Tryz.prog (knOf 0 [e61, e60, e30]) 0 1000 60 = true := by decide +kernel
theorem ok63 : e63.ok Tryz.prog (knOf 0 [e62, e60]) 0 1000 60 = true := by decide +kernel
theorem ok64 : e64.ok Tryz.prog (knOf 0 [e63]) 0 1000 60 = true := by decide +kernel
theorem ok65 : e65.ok Tryz.prog (knOf 0 [e64, e12, e60]) 0 1000 60 = true := by decide +kernel
theorem ok66 : e66.ok Tryz.prog (knOf 0 []) 0 1000 60 = true := by decide +kernel
theorem ok67 : e67.ok Tryz.prog (knOf 0 [e66]) 0 1000 60 = true := by decide +kernel
theorem ok68 : e68.ok Tryz.prog (knOf 0 [e67, e66, e30]) 0 1000 60 = true := by decide +kernel
theorem ok69 : e69.ok Tryz.prog (knOf 0 [e68, e66]) 0 1000 60 = true := by decide +kernel
theorem ok70 : e70.ok Tryz.prog (knOf 0 [e69]) 0 1000 60 = true := by decide +kernel
theorem ok71 : e71.ok Tryz.prog (knOf 0 [e70, e12, e66]) 0 1000 60 = true := by decide +kernel
theorem ok72 : e72.ok Tryz.prog (knOf 0 []) 0 1000 60 = true := by decide +kernel
theorem ok73 : e73.ok Tryz.prog (knOf 0 [e72]) 0 1000 60 = true := by decide +kernel
end Go.Proofs.YtfipecdimnjckaaGreat
