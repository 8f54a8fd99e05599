/-
  The law's certificates, by classes of its arguments: they are good.
  Conditions: none.
-/
import Derived.Test.YtldkbgoipmeikaaGreatDoorKnY01
open Go Go.Ab
namespace Go.Proofs.YtldkbgoipmeikaaGreatDoor
theorem l3_0_5 : chkL Tryz.prog (knWith kb 6 [e28, e48, e49, e50, e51, e59, e60, e61, e62, e78, e79, e80, e81, e88, e90, e95, e100, e108, e111, e114, e119, e121, e123, e126, e128, e130, e131, e135, e213, e214, e217, e218, e219, e221, e223, e226, e229, e230, e232, e234, e236, e237, e239]) 1000 60 3 2 [] T3_0 k3_0_5 t3_0_5 = true := by decide +kernel
theorem l3_0_6 : chkL Tryz.prog (knWith kb 6 [e28, e48, e49, e50, e51, e59, e60, e61, e62, e78, e79, e80, e81, e88, e90, e95, e100, e108, e111, e114, e119, e121, e123, e126, e128, e130, e131, e135, e213, e214, e217, e218, e219, e221, e223, e226, e229, e230, e232, e234, e236, e237, e239]) 1000 60 3 2 [] T3_0 k3_0_6 t3_0_6 = true := by decide +kernel
theorem l3_0_7 : chkL Tryz.prog (knWith kb 6 [e28, e48, e49, e50, e51, e59, e60, e61, e62, e78, e79, e80, e81, e88, e90, e95, e100, e108, e111, e114, e119, e121, e123, e126, e128, e130, e131, e135, e213, e214, e217, e218, e219, e221, e223, e226, e229, e230, e232, e234, e236, e237, e239]) 1000 60 3 2 [] T3_0 k3_0_7 t3_0_7 = true := by decide +kernel
theorem l3_0_8 : chkL Tryz.prog (knWith kb 6 [e28, e48, e49, e50, e51, e59, e60, e61, e62, e78, e79, e80, e81, e88, e90, e95, e100, e108, e111, e114, e119, e121, e123, e126, e128, e130, e131, e135, e213, e214, e217, e218, e219, e221, e223, e226, e229, e230, e232, e234, e236, e237, e239]) 1000 60 3 2 [] T3_0 k3_0_8 t3_0_8 = true := by decide +kernel
theorem l4_0_0 : chkL Tryz.prog (knWith kb 6 [e48, e49, e50, e51, e59, e60, e61, e62, e78, e79, e80, e81, e240, e255, e256, e259, e260, e261, e262, e263, e264, e266, e268, e270, e271, e273, e275, e277, e279, e280, e281, e282, e284, e285, e287, e288, e289, e291, e292, e293, e294, e296, e297]) 1000 60 3 2 [] T4_0 k4_0_0 t4_0_0 = true := by decide +kernel
theorem l4_0_1 : chkL Tryz.prog (knWith kb 6 [e48, e49, e50, e51, e59, e60, e61, e62, e78, e79, e80, e81, e240, e255, e256, e259, e260, e261, e262, e263, e264, e266, e268, e270, e271, e273, e275, e277, e279, e280, e281, e282, e284, e285, e287, e288, e289, e291, e292, e293, e294, e296, e297]) 1000 60 3 2 [] T4_0 k4_0_1 t4_0_1 = true := by decide +kernel
theorem l4_0_2 : chkL Tryz.prog (knWith kb 6 [e48, e49, e50, e51, e59, e60, e61, e62, e78, e79, e80, e81, e240, e255, e256, e259, e260, e261, e262, e263, e264, e266, e268, e270, e271, e273, e275, e277, e279, e280, e281, e282, e284, e285, e287, e288, e289, e291, e292, e293, e294, e296, e297]) 1000 60 3 2 [] T4_0 k4_0_2 t4_0_2 = true := by decide +kernel
theorem l4_0_3 : chkL Tryz.prog (knWith kb 6 [e48, e49, e50, e51, e59, e60, e61, e62, e78, e79, e80, e81, e240, e255, e256, e259, e260, e261, e262, e263, e264, e266, e268, e270, e271, e273, e275, e277, e279, e280, e281, e282, e284, e285, e287, e288, e289, e291, e292, e293, e294, e296, e297]) 1000 60 3 2 [] T4_0 k4_0_3 t4_0_3 = true := by decide +kernel
end Go.Proofs.YtldkbgoipmeikaaGreatDoor
