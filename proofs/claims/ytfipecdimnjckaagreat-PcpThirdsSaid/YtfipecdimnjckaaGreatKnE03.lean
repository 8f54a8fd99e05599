/-
  Calls that are known by a run each over a small memory, whatever the numbers are that it does not tell.
  Conditions: none.
-/
import Derived.Test.YtfipecdimnjckaaGreatKnY00
open Go Go.Ab
namespace Go.Proofs.YtfipecdimnjckaaGreat
theorem ok74 : e74.ok Tryz.prog (knOf 0 [e73, e72, e30]) 0 1000 60 = true := by decide +kernel
theorem ok75 : e75.ok Tryz.prog (knOf 0 [e74, e72]) 0 1000 60 = true := by decide +kernel
theorem ok76 : e76.ok Tryz.prog (knOf 0 [e75]) 0 1000 60 = true := by decide +kernel
theorem ok77 : e77.ok Tryz.prog (knOf 0 [e76, e12, e72]) 0 1000 60 = true := by decide +kernel
theorem ok78 : e78.ok Tryz.prog (knOf 0 []) 0 1000 60 = true := by decide +kernel
theorem ok79 : e79.ok Tryz.prog (knOf 0 [e78, e1]) 0 1000 60 = true := by decide +kernel
theorem ok80 : e80.ok Tryz.prog (knOf 0 [e78]) 0 1000 60 = true := by decide +kernel
theorem ok81 : e81.ok Tryz.prog (knOf 0 [e80, e78, e30]) 0 1000 60 = true := by decide +kernel
theorem ok82 : e82.ok Tryz.prog (knOf 0 [e81, e78]) 0 1000 60 = true := by decide +kernel
theorem ok83 : e83.ok Tryz.prog (knOf 0 [e82]) 0 1000 60 = true := by decide +kernel
theorem ok84 : e84.ok Tryz.prog (knOf 0 [e83, e12, e78]) 0 1000 60 = true := by decide +kernel
theorem ok85 : e85.ok Tryz.prog (knOf 0 []) 0 1000 60 = true := by decide +kernel
theorem ok86 : e86.ok Tryz.prog (knOf 0 [e85, e1]) 0 1000 60 = true := by decide +kernel
theorem ok87 : e87.ok Tryz.prog (knOf 0 [e85]) 0 1000 60 = true := by decide +kernel
theorem ok88 : e88.ok Tryz.prog (knOf 0 [e87, e85, e30]) 0 1000 60 = true := by decide +kernel
theorem ok89 : e89.ok Tryz.prog (knOf 0 [e88, e85]) 0 1000 60 = true := by decide +kernel
theorem ok90 : e90.ok Tryz.prog (knOf 0 [e89]) 0 1000 60 = true := by decide +kernel
theorem ok91 : e91.ok Tryz.prog (knOf 0 [e90, e12, e85]) 0 1000 60 = true := by decide +kernel
theorem ok92 : e92.ok Tryz.prog (knOf 0 []) 0 1000 60 = true := by decide +kernel
theorem ok93 : e93.ok Tryz.prog (knOf 0 [e92, e1]) 0 1000 60 = true := by decide +kernel
theorem ok94 : e94.ok Tryz.prog (knOf 0 [e92]) 0 1000 60 = true := by decide +kernel
theorem ok95 : e95.ok Tryz.prog (knOf 0 [e94, e92, e30]) 0 1000 60 = true := by decide +kernel
end Go.Proofs.YtfipecdimnjckaaGreat
