/-
  The law's certificates, by classes of its arguments: they are good.
  Conditions: none.
-/
import Derived.Test.YtldkbgoipmeikaaGreatDoorKnY01
open Go Go.Ab
namespace Go.Proofs.YtldkbgoipmeikaaGreatDoor
theorem l6_0_2 : chkL Tryz.prog (knWith kb 6 [e48, e49, e50, e51, e59, e60, e61, e62, e78, e79, e80, e81, e240, e259, e260, e262, e266, e270, e273, e277, e281, e282, e284, e287, e289, e291, e292, e296, e341, e342, e345, e346, e347, e349, e351, e354, e357, e358, e360, e362, e364, e365, e367]) 1000 60 3 2 [] T6_0 k6_0_2 t6_0_2 = true := by decide +kernel
theorem l6_0_3 : chkL Tryz.prog (knWith kb 6 [e48, e49, e50, e51, e59, e60, e61, e62, e78, e79, e80, e81, e240, e259, e260, e262, e266, e270, e273, e277, e281, e282, e284, e287, e289, e291, e292, e296, e341, e342, e345, e346, e347, e349, e351, e354, e357, e358, e360, e362, e364, e365, e367]) 1000 60 3 2 [] T6_0 k6_0_3 t6_0_3 = true := by decide +kernel
theorem l6_0_4 : chkL Tryz.prog (knWith kb 6 [e48, e49, e50, e51, e59, e60, e61, e62, e78, e79, e80, e81, e240, e259, e260, e262, e266, e270, e273, e277, e281, e282, e284, e287, e289, e291, e292, e296, e341, e342, e345, e346, e347, e349, e351, e354, e357, e358, e360, e362, e364, e365, e367]) 1000 60 3 2 [] T6_0 k6_0_4 t6_0_4 = true := by decide +kernel
theorem l6_0_5 : chkL Tryz.prog (knWith kb 6 [e48, e49, e50, e51, e59, e60, e61, e62, e78, e79, e80, e81, e240, e259, e260, e262, e266, e270, e273, e277, e281, e282, e284, e287, e289, e291, e292, e296, e341, e342, e345, e346, e347, e349, e351, e354, e357, e358, e360, e362, e364, e365, e367]) 1000 60 3 2 [] T6_0 k6_0_5 t6_0_5 = true := by decide +kernel
theorem l6_0_6 : chkL Tryz.prog (knWith kb 6 [e48, e49, e50, e51, e59, e60, e61, e62, e78, e79, e80, e81, e240, e259, e260, e262, e266, e270, e273, e277, e281, e282, e284, e287, e289, e291, e292, e296, e341, e342, e345, e346, e347, e349, e351, e354, e357, e358, e360, e362, e364, e365, e367]) 1000 60 3 2 [] T6_0 k6_0_6 t6_0_6 = true := by decide +kernel
theorem l6_0_7 : chkL Tryz.prog (knWith kb 6 [e48, e49, e50, e51, e59, e60, e61, e62, e78, e79, e80, e81, e240, e259, e260, e262, e266, e270, e273, e277, e281, e282, e284, e287, e289, e291, e292, e296, e341, e342, e345, e346, e347, e349, e351, e354, e357, e358, e360, e362, e364, e365, e367]) 1000 60 3 2 [] T6_0 k6_0_7 t6_0_7 = true := by decide +kernel
theorem l6_0_8 : chkL Tryz.prog (knWith kb 6 [e48, e49, e50, e51, e59, e60, e61, e62, e78, e79, e80, e81, e240, e259, e260, e262, e266, e270, e273, e277, e281, e282, e284, e287, e289, e291, e292, e296, e341, e342, e345, e346, e347, e349, e351, e354, e357, e358, e360, e362, e364, e365, e367]) 1000 60 3 2 [] T6_0 k6_0_8 t6_0_8 = true := by decide +kernel
theorem l7_0_0 : chkL Tryz.prog (knWith kb 6 [e48, e49, e50, e51, e59, e60, e61, e62, e78, e79, e80, e81, e240, e259, e260, e262, e266, e270, e273, e277, e281, e282, e284, e287, e289, e291, e292, e296, e376, e377, e380, e381, e382, e384, e386, e389, e392, e393, e395, e397, e399, e400, e402]) 1000 60 3 2 [] T7_0 k7_0_0 t7_0_0 = true := by decide +kernel
end Go.Proofs.YtldkbgoipmeikaaGreatDoor
