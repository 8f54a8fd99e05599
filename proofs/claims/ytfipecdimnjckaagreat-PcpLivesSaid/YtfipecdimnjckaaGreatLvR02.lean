/-
  The law's runs, by classes of its arguments.
  Conditions: none.
-/
import Derived.Test.YtfipecdimnjckaaGreatLvW
open Go Go.Ab
namespace Go.Proofs.YtfipecdimnjckaaGreat
theorem ran50 : yieldsTrueA Tryz.prog (knWith kb 0 [e177, e179, e174, e169, e2000000]) 1000 60 4 a25 tb50 = true := by decide +kernel
theorem ran51 : yieldsTrueA Tryz.prog (knWith kb 0 [e177, e178, e174, e169, e2000000]) 1000 60 4 a25 tb51 = true := by decide +kernel
theorem ran52 : yieldsTrueA Tryz.prog (knWith kb 0 [e185, e168, e184, e169, e2000000]) 1000 60 4 a26 tb52 = true := by decide +kernel
theorem ran53 : yieldsTrueA Tryz.prog (knWith kb 0 [e185, e186, e184, e169, e2000000]) 1000 60 4 a26 tb53 = true := by decide +kernel
theorem ran54 : yieldsTrueA Tryz.prog (knWith kb 0 [e193, e192, e191, e169, e2000000]) 1000 60 4 a27 tb54 = true := by decide +kernel
theorem ran55 : yieldsTrueA Tryz.prog (knWith kb 0 [e193, e194, e191, e169, e2000000]) 1000 60 4 a27 tb55 = true := by decide +kernel
theorem ran56 : yieldsTrueA Tryz.prog (knWith kb 0 [e204, e202, e201, e196, e2000000]) 1000 60 4 a28 tb56 = true := by decide +kernel
theorem ran57 : yieldsTrueA Tryz.prog (knWith kb 0 [e204, e205, e201, e196, e2000000]) 1000 60 4 a28 tb57 = true := by decide +kernel
theorem ran58 : yieldsTrueA Tryz.prog (knWith kb 0 [e204, e206, e201, e196, e2000000]) 1000 60 4 a29 tb58 = true := by decide +kernel
theorem ran59 : yieldsTrueA Tryz.prog (knWith kb 0 [e204, e205, e201, e196, e2000000]) 1000 60 4 a29 tb59 = true := by decide +kernel
theorem ran60 : yieldsTrueA Tryz.prog (knWith kb 0 [e212, e195, e211, e196, e2000000]) 1000 60 4 a30 tb60 = true := by decide +kernel
theorem ran61 : yieldsTrueA Tryz.prog (knWith kb 0 [e212, e213, e211, e196, e2000000]) 1000 60 4 a30 tb61 = true := by decide +kernel
theorem ran62 : yieldsTrueA Tryz.prog (knWith kb 0 [e220, e219, e218, e196, e2000000]) 1000 60 4 a31 tb62 = true := by decide +kernel
theorem ran63 : yieldsTrueA Tryz.prog (knWith kb 0 [e220, e221, e218, e196, e2000000]) 1000 60 4 a31 tb63 = true := by decide +kernel
theorem ran64 : yieldsTrueA Tryz.prog (knWith kb 0 [e231, e229, e228, e223, e2000000]) 1000 60 4 a32 tb64 = true := by decide +kernel
theorem ran65 : yieldsTrueA Tryz.prog (knWith kb 0 [e231, e232, e228, e223, e2000000]) 1000 60 4 a32 tb65 = true := by decide +kernel
theorem ran66 : yieldsTrueA Tryz.prog (knWith kb 0 [e231, e233, e228, e223, e2000000]) 1000 60 4 a33 tb66 = true := by decide +kernel
theorem ran67 : yieldsTrueA Tryz.prog (knWith kb 0 [e231, e232, e228, e223, e2000000]) 1000 60 4 a33 tb67 = true := by decide +kernel
theorem ran68 : yieldsTrueA Tryz.prog (knWith kb 0 [e239, e222, e238, e223, e2000000]) 1000 60 4 a34 tb68 = true := by decide +kernel
theorem ran69 : yieldsTrueA Tryz.prog (knWith kb 0 [e239, e240, e238, e223, e2000000]) 1000 60 4 a34 tb69 = true := by decide +kernel
theorem ran70 : yieldsTrueA Tryz.prog (knWith kb 0 [e247, e246, e245, e223, e2000000]) 1000 60 4 a35 tb70 = true := by decide +kernel
theorem ran71 : yieldsTrueA Tryz.prog (knWith kb 0 [e247, e248, e245, e223, e2000000]) 1000 60 4 a35 tb71 = true := by decide +kernel
theorem ran72 : yieldsTrueA Tryz.prog (knWith kb 0 [e258, e256, e255, e250, e2000000]) 1000 60 4 a36 tb72 = true := by decide +kernel
theorem ran73 : yieldsTrueA Tryz.prog (knWith kb 0 [e258, e259, e255, e250, e2000000]) 1000 60 4 a36 tb73 = true := by decide +kernel
theorem ran74 : yieldsTrueA Tryz.prog (knWith kb 0 [e258, e260, e255, e250, e2000000]) 1000 60 4 a37 tb74 = true := by decide +kernel
theorem ran75 : yieldsTrueA Tryz.prog (knWith kb 0 [e258, e259, e255, e250, e2000000]) 1000 60 4 a37 tb75 = true := by decide +kernel
theorem ran76 : yieldsTrueA Tryz.prog (knWith kb 0 [e266, e249, e265, e250, e2000000]) 1000 60 4 a38 tb76 = true := by decide +kernel
theorem ran77 : yieldsTrueA Tryz.prog (knWith kb 0 [e266, e267, e265, e250, e2000000]) 1000 60 4 a38 tb77 = true := by decide +kernel
theorem ran78 : yieldsTrueA Tryz.prog (knWith kb 0 [e274, e273, e272, e250, e2000000]) 1000 60 4 a39 tb78 = true := by decide +kernel
end Go.Proofs.YtfipecdimnjckaaGreat
