/-
  The law's runs, by classes of its arguments.
  Conditions: none.
-/
import Derived.Test.YtfipecdimnjckaaGreatLvW
open Go Go.Ab
namespace Go.Proofs.YtfipecdimnjckaaGreat
theorem ran23 : yieldsTrueA Tryz.prog (knWith kb 0 [e88, e89, e66, e34, e86, e67, e2000000]) 1000 60 4 a11 tb23 = true := by decide +kernel
theorem ran24 : yieldsTrueA Tryz.prog (knWith kb 0 [e98, e96, e90, e15, e95, e91, e2000000]) 1000 60 4 a12 tb24 = true := by decide +kernel
theorem ran25 : yieldsTrueA Tryz.prog (knWith kb 0 [e98, e99, e90, e15, e95, e91, e2000000]) 1000 60 4 a12 tb25 = true := by decide +kernel
theorem ran26 : yieldsTrueA Tryz.prog (knWith kb 0 [e98, e100, e90, e15, e95, e91, e2000000]) 1000 60 4 a13 tb26 = true := by decide +kernel
theorem ran27 : yieldsTrueA Tryz.prog (knWith kb 0 [e98, e99, e90, e15, e95, e91, e2000000]) 1000 60 4 a13 tb27 = true := by decide +kernel
theorem ran28 : yieldsTrueA Tryz.prog (knWith kb 0 [e105, e90, e27, e104, e91, e2000000]) 1000 60 4 a14 tb28 = true := by decide +kernel
theorem ran29 : yieldsTrueA Tryz.prog (knWith kb 0 [e105, e106, e90, e27, e104, e91, e2000000]) 1000 60 4 a14 tb29 = true := by decide +kernel
theorem ran30 : yieldsTrueA Tryz.prog (knWith kb 0 [e112, e111, e90, e34, e110, e91, e2000000]) 1000 60 4 a15 tb30 = true := by decide +kernel
theorem ran31 : yieldsTrueA Tryz.prog (knWith kb 0 [e112, e113, e90, e34, e110, e91, e2000000]) 1000 60 4 a15 tb31 = true := by decide +kernel
theorem ran32 : yieldsTrueA Tryz.prog (knWith kb 0 [e123, e121, e120, e115, e2000000]) 1000 60 4 a16 tb32 = true := by decide +kernel
theorem ran33 : yieldsTrueA Tryz.prog (knWith kb 0 [e123, e124, e120, e115, e2000000]) 1000 60 4 a16 tb33 = true := by decide +kernel
theorem ran34 : yieldsTrueA Tryz.prog (knWith kb 0 [e123, e125, e120, e115, e2000000]) 1000 60 4 a17 tb34 = true := by decide +kernel
theorem ran35 : yieldsTrueA Tryz.prog (knWith kb 0 [e123, e124, e120, e115, e2000000]) 1000 60 4 a17 tb35 = true := by decide +kernel
theorem ran36 : yieldsTrueA Tryz.prog (knWith kb 0 [e131, e114, e130, e115, e2000000]) 1000 60 4 a18 tb36 = true := by decide +kernel
theorem ran37 : yieldsTrueA Tryz.prog (knWith kb 0 [e131, e132, e130, e115, e2000000]) 1000 60 4 a18 tb37 = true := by decide +kernel
theorem ran38 : yieldsTrueA Tryz.prog (knWith kb 0 [e139, e138, e137, e115, e2000000]) 1000 60 4 a19 tb38 = true := by decide +kernel
theorem ran39 : yieldsTrueA Tryz.prog (knWith kb 0 [e139, e140, e137, e115, e2000000]) 1000 60 4 a19 tb39 = true := by decide +kernel
theorem ran40 : yieldsTrueA Tryz.prog (knWith kb 0 [e150, e148, e147, e142, e2000000]) 1000 60 4 a20 tb40 = true := by decide +kernel
theorem ran41 : yieldsTrueA Tryz.prog (knWith kb 0 [e150, e151, e147, e142, e2000000]) 1000 60 4 a20 tb41 = true := by decide +kernel
theorem ran42 : yieldsTrueA Tryz.prog (knWith kb 0 [e150, e152, e147, e142, e2000000]) 1000 60 4 a21 tb42 = true := by decide +kernel
theorem ran43 : yieldsTrueA Tryz.prog (knWith kb 0 [e150, e151, e147, e142, e2000000]) 1000 60 4 a21 tb43 = true := by decide +kernel
theorem ran44 : yieldsTrueA Tryz.prog (knWith kb 0 [e158, e141, e157, e142, e2000000]) 1000 60 4 a22 tb44 = true := by decide +kernel
theorem ran45 : yieldsTrueA Tryz.prog (knWith kb 0 [e158, e159, e157, e142, e2000000]) 1000 60 4 a22 tb45 = true := by decide +kernel
theorem ran46 : yieldsTrueA Tryz.prog (knWith kb 0 [e166, e165, e164, e142, e2000000]) 1000 60 4 a23 tb46 = true := by decide +kernel
theorem ran47 : yieldsTrueA Tryz.prog (knWith kb 0 [e166, e167, e164, e142, e2000000]) 1000 60 4 a23 tb47 = true := by decide +kernel
theorem ran48 : yieldsTrueA Tryz.prog (knWith kb 0 [e177, e175, e174, e169, e2000000]) 1000 60 4 a24 tb48 = true := by decide +kernel
theorem ran49 : yieldsTrueA Tryz.prog (knWith kb 0 [e177, e178, e174, e169, e2000000]) 1000 60 4 a24 tb49 = true := by decide +kernel
end Go.Proofs.YtfipecdimnjckaaGreat
