/-
  The law's runs, by classes of its arguments.
  Conditions: none.
-/
import Derived.Test.YtfipecdimnjckaaGreatKnW
open Go Go.Ab
namespace Go.Proofs.YtfipecdimnjckaaGreat
theorem ran44 : yieldsTrueA Tryz.prog (knOf 0 [e78, e12, e79, e2000000]) 1000 60 3 a32 tb44 = true := by decide +kernel
theorem ran45 : yieldsTrueA Tryz.prog (knOf 0 [e84, e79, e2000000]) 1000 60 3 a32 tb45 = true := by decide +kernel
theorem ran46 : yieldsTrueA Tryz.prog (knOf 0 [e78, e12, e79, e2000000]) 1000 60 3 a33 tb46 = true := by decide +kernel
theorem ran47 : yieldsTrueA Tryz.prog (knOf 0 [e84, e79, e2000000]) 1000 60 3 a33 tb47 = true := by decide +kernel
theorem ran48 : yieldsTrueA Tryz.prog (knOf 0 [e85, e12, e86, e2000000]) 1000 60 3 a34 tb48 = true := by decide +kernel
theorem ran49 : yieldsTrueA Tryz.prog (knOf 0 [e91, e86, e2000000]) 1000 60 3 a34 tb49 = true := by decide +kernel
theorem ran50 : yieldsTrueA Tryz.prog (knOf 0 [e85, e12, e86, e2000000]) 1000 60 3 a35 tb50 = true := by decide +kernel
theorem ran51 : yieldsTrueA Tryz.prog (knOf 0 [e91, e86, e2000000]) 1000 60 3 a35 tb51 = true := by decide +kernel
theorem ran52 : yieldsTrueA Tryz.prog (knOf 0 [e92, e12, e93, e2000000]) 1000 60 3 a36 tb52 = true := by decide +kernel
theorem ran53 : yieldsTrueA Tryz.prog (knOf 0 [e98, e93, e2000000]) 1000 60 3 a36 tb53 = true := by decide +kernel
theorem ran54 : yieldsTrueA Tryz.prog (knOf 0 [e92, e12, e93, e2000000]) 1000 60 3 a37 tb54 = true := by decide +kernel
theorem ran55 : yieldsTrueA Tryz.prog (knOf 0 [e98, e93, e2000000]) 1000 60 3 a37 tb55 = true := by decide +kernel
theorem ran56 : yieldsTrueA Tryz.prog (knOf 0 [e99, e12, e100, e2000000]) 1000 60 3 a38 tb56 = true := by decide +kernel
theorem ran57 : yieldsTrueA Tryz.prog (knOf 0 [e106, e100, e2000000]) 1000 60 3 a38 tb57 = true := by decide +kernel
theorem ran58 : yieldsTrueA Tryz.prog (knOf 0 [e99, e12, e100, e2000000]) 1000 60 3 a39 tb58 = true := by decide +kernel
theorem ran59 : yieldsTrueA Tryz.prog (knOf 0 [e106, e100, e2000000]) 1000 60 3 a39 tb59 = true := by decide +kernel
end Go.Proofs.YtfipecdimnjckaaGreat
