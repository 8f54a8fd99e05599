/-
  The law's certificates, by classes of its arguments: they are good.
  Conditions: none.
-/
import Derived.Test.YtldkbgoipmeikaaGreatDoorKnY01
open Go Go.Ab
namespace Go.Proofs.YtldkbgoipmeikaaGreatDoor
theorem l4_0_4 : chkL Tryz.prog (knWith kb 6 [e48, e49, e50, e51, e59, e60, e61, e62, e78, e79, e80, e81, e240, e255, e256, e259, e260, e261, e262, e263, e264, e266, e268, e270, e271, e273, e275, e277, e279, e280, e281, e282, e284, e285, e287, e288, e289, e291, e292, e293, e294, e296, e297]) 1000 60 3 2 [] T4_0 k4_0_4 t4_0_4 = true := by decide +kernel
theorem l4_0_5 : chkL Tryz.prog (knWith kb 6 [e48, e49, e50, e51, e59, e60, e61, e62, e78, e79, e80, e81, e240, e255, e256, e259, e260, e261, e262, e263, e264, e266, e268, e270, e271, e273, e275, e277, e279, e280, e281, e282, e284, e285, e287, e288, e289, e291, e292, e293, e294, e296, e297]) 1000 60 3 2 [] T4_0 k4_0_5 t4_0_5 = true := by decide +kernel
theorem l4_0_6 : chkL Tryz.prog (knWith kb 6 [e48, e49, e50, e51, e59, e60, e61, e62, e78, e79, e80, e81, e240, e255, e256, e259, e260, e261, e262, e263, e264, e266, e268, e270, e271, e273, e275, e277, e279, e280, e281, e282, e284, e285, e287, e288, e289, e291, e292, e293, e294, e296, e297]) 1000 60 3 2 [] T4_0 k4_0_6 t4_0_6 = true := by decide +kernel
theorem l4_0_7 : chkL Tryz.prog (knWith kb 6 [e48, e49, e50, e51, e59, e60, e61, e62, e78, e79, e80, e81, e240, e255, e256, e259, e260, e261, e262, e263, e264, e266, e268, e270, e271, e273, e275, e277, e279, e280, e281, e282, e284, e285, e287, e288, e289, e291, e292, e293, e294, e296, e297]) 1000 60 3 2 [] T4_0 k4_0_7 t4_0_7 = true := by decide +kernel
theorem l4_0_8 : chkL Tryz.prog (knWith kb 6 [e48, e49, e50, e51, e59, e60, e61, e62, e78, e79, e80, e81, e240, e255, e256, e259, e260, e261, e262, e263, e264, e266, e268, e270, e271, e273, e275, e277, e279, e280, e281, e282, e284, e285, e287, e288, e289, e291, e292, e293, e294, e296, e297]) 1000 60 3 2 [] T4_0 k4_0_8 t4_0_8 = true := by decide +kernel
theorem l5_0_0 : chkL Tryz.prog (knWith kb 6 [e48, e49, e50, e51, e59, e60, e61, e62, e78, e79, e80, e81, e240, e259, e260, e262, e266, e270, e273, e277, e281, e282, e284, e287, e289, e291, e292, e296, e306, e307, e310, e311, e312, e314, e316, e319, e322, e323, e325, e327, e329, e330, e332]) 1000 60 3 2 [] T5_0 k5_0_0 t5_0_0 = true := by decide +kernel
theorem l5_0_1 : chkL Tryz.prog (knWith kb 6 [e48, e49, e50, e51, e59, e60, e61, e62, e78, e79, e80, e81, e240, e259, e260, e262, e266, e270, e273, e277, e281, e282, e284, e287, e289, e291, e292, e296, e306, e307, e310, e311, e312, e314, e316, e319, e322, e323, e325, e327, e329, e330, e332]) 1000 60 3 2 [] T5_0 k5_0_1 t5_0_1 = true := by decide +kernel
theorem l5_0_2 : chkL Tryz.prog (knWith kb 6 [e48, e49, e50, e51, e59, e60, e61, e62, e78, e79, e80, e81, e240, e259, e260, e262, e266, e270, e273, e277, e281, e282, e284, e287, e289, e291, e292, e296, e306, e307, e310, e311, e312, e314, e316, e319, e322, e323, e325, e327, e329, e330, e332]) 1000 60 3 2 [] T5_0 k5_0_2 t5_0_2 = true := by decide +kernel
end Go.Proofs.YtldkbgoipmeikaaGreatDoor
