/-
  The law's runs, by classes of its arguments.
  Conditions: none.
-/
import Derived.Test.YtfipecdimnjckaaGreatLvW
open Go Go.Ab
namespace Go.Proofs.YtfipecdimnjckaaGreat
theorem ran79 : yieldsTrueA Tryz.prog (knWith kb 0 [e274, e275, e272, e250, e2000000]) 1000 60 4 a39 tb79 = true := by decide +kernel
theorem ran80 : yieldsTrueA Tryz.prog (knWith kb 0 [e286, e284, e283, e277, e2000000]) 1000 60 4 a40 tb80 = true := by decide +kernel
theorem ran81 : yieldsTrueA Tryz.prog (knWith kb 0 [e286, e287, e283, e277, e2000000]) 1000 60 4 a40 tb81 = true := by decide +kernel
theorem ran82 : yieldsTrueA Tryz.prog (knWith kb 0 [e286, e288, e283, e277, e2000000]) 1000 60 4 a41 tb82 = true := by decide +kernel
theorem ran83 : yieldsTrueA Tryz.prog (knWith kb 0 [e286, e287, e283, e277, e2000000]) 1000 60 4 a41 tb83 = true := by decide +kernel
theorem ran84 : yieldsTrueA Tryz.prog (knWith kb 0 [e294, e276, e293, e277, e2000000]) 1000 60 4 a42 tb84 = true := by decide +kernel
theorem ran85 : yieldsTrueA Tryz.prog (knWith kb 0 [e294, e295, e293, e277, e2000000]) 1000 60 4 a42 tb85 = true := by decide +kernel
theorem ran86 : yieldsTrueA Tryz.prog (knWith kb 0 [e302, e301, e300, e277, e2000000]) 1000 60 4 a43 tb86 = true := by decide +kernel
theorem ran87 : yieldsTrueA Tryz.prog (knWith kb 0 [e302, e303, e300, e277, e2000000]) 1000 60 4 a43 tb87 = true := by decide +kernel
theorem ran88 : yieldsTrueA Tryz.prog (knWith kb 0 [e314, e312, e311, e305, e2000000]) 1000 60 4 a44 tb88 = true := by decide +kernel
theorem ran89 : yieldsTrueA Tryz.prog (knWith kb 0 [e314, e315, e311, e305, e2000000]) 1000 60 4 a44 tb89 = true := by decide +kernel
theorem ran90 : yieldsTrueA Tryz.prog (knWith kb 0 [e314, e316, e311, e305, e2000000]) 1000 60 4 a45 tb90 = true := by decide +kernel
theorem ran91 : yieldsTrueA Tryz.prog (knWith kb 0 [e314, e315, e311, e305, e2000000]) 1000 60 4 a45 tb91 = true := by decide +kernel
theorem ran92 : yieldsTrueA Tryz.prog (knWith kb 0 [e322, e304, e321, e305, e2000000]) 1000 60 4 a46 tb92 = true := by decide +kernel
theorem ran93 : yieldsTrueA Tryz.prog (knWith kb 0 [e322, e323, e321, e305, e2000000]) 1000 60 4 a46 tb93 = true := by decide +kernel
theorem ran94 : yieldsTrueA Tryz.prog (knWith kb 0 [e330, e329, e328, e305, e2000000]) 1000 60 4 a47 tb94 = true := by decide +kernel
theorem ran95 : yieldsTrueA Tryz.prog (knWith kb 0 [e330, e331, e328, e305, e2000000]) 1000 60 4 a47 tb95 = true := by decide +kernel
end Go.Proofs.YtfipecdimnjckaaGreat
