/-
  The law's runs, by classes of its arguments.
  Conditions: none.
-/
import Derived.Test.YtfipecdimnjckaaGreatKnW
open Go Go.Ab
namespace Go.Proofs.YtfipecdimnjckaaGreat
theorem ran31 : yieldsTrueA Tryz.prog (knOf 0 [e59, e1, e54, e2000000]) 1000 60 3 a25 tb31 = true := by decide +kernel
theorem ran32 : yieldsTrueA Tryz.prog (knOf 0 [e12, e1, e60, e2000000]) 1000 60 3 a26 tb32 = true := by decide +kernel
theorem ran33 : yieldsTrueA Tryz.prog (knOf 0 [e65, e1, e60, e2000000]) 1000 60 3 a26 tb33 = true := by decide +kernel
theorem ran34 : yieldsTrueA Tryz.prog (knOf 0 [e12, e1, e60, e2000000]) 1000 60 3 a27 tb34 = true := by decide +kernel
theorem ran35 : yieldsTrueA Tryz.prog (knOf 0 [e65, e1, e60, e2000000]) 1000 60 3 a27 tb35 = true := by decide +kernel
theorem ran36 : yieldsTrueA Tryz.prog (knOf 0 [e12, e1, e66, e2000000]) 1000 60 3 a28 tb36 = true := by decide +kernel
theorem ran37 : yieldsTrueA Tryz.prog (knOf 0 [e71, e1, e66, e2000000]) 1000 60 3 a28 tb37 = true := by decide +kernel
theorem ran38 : yieldsTrueA Tryz.prog (knOf 0 [e12, e1, e66, e2000000]) 1000 60 3 a29 tb38 = true := by decide +kernel
theorem ran39 : yieldsTrueA Tryz.prog (knOf 0 [e71, e1, e66, e2000000]) 1000 60 3 a29 tb39 = true := by decide +kernel
theorem ran40 : yieldsTrueA Tryz.prog (knOf 0 [e12, e1, e72, e2000000]) 1000 60 3 a30 tb40 = true := by decide +kernel
theorem ran41 : yieldsTrueA Tryz.prog (knOf 0 [e77, e1, e72, e2000000]) 1000 60 3 a30 tb41 = true := by decide +kernel
theorem ran42 : yieldsTrueA Tryz.prog (knOf 0 [e12, e1, e72, e2000000]) 1000 60 3 a31 tb42 = true := by decide +kernel
theorem ran43 : yieldsTrueA Tryz.prog (knOf 0 [e77, e1, e72, e2000000]) 1000 60 3 a31 tb43 = true := by decide +kernel
end Go.Proofs.YtfipecdimnjckaaGreat
