/-
  The law's certificates, by classes of its arguments: they are good.
  Conditions: none.
-/
import Derived.Test.YtldkbgoipmeikaaGreatDoorKnY01
open Go Go.Ab
namespace Go.Proofs.YtldkbgoipmeikaaGreatDoor
theorem l7_0_8 : chkL Tryz.prog (knWith kb 6 [e48, e49, e50, e51, e59, e60, e61, e62, e78, e79, e80, e81, e240, e259, e260, e262, e266, e270, e273, e277, e281, e282, e284, e287, e289, e291, e292, e296, e376, e377, e380, e381, e382, e384, e386, e389, e392, e393, e395, e397, e399, e400, e402]) 1000 60 3 2 [] T7_0 k7_0_8 t7_0_8 = true := by decide +kernel
theorem l8_0_0 : chkL Tryz.prog (knWith kb 6 [e48, e49, e50, e51, e59, e60, e61, e62, e78, e79, e80, e81, e403, e418, e419, e422, e423, e424, e425, e426, e427, e429, e431, e433, e434, e436, e438, e440, e442, e443, e444, e445, e447, e448, e450, e451, e452, e454, e455, e456, e457, e459, e460]) 1000 60 3 2 [] T8_0 k8_0_0 t8_0_0 = true := by decide +kernel
theorem l8_0_1 : chkL Tryz.prog (knWith kb 6 [e48, e49, e50, e51, e59, e60, e61, e62, e78, e79, e80, e81, e403, e418, e419, e422, e423, e424, e425, e426, e427, e429, e431, e433, e434, e436, e438, e440, e442, e443, e444, e445, e447, e448, e450, e451, e452, e454, e455, e456, e457, e459, e460]) 1000 60 3 2 [] T8_0 k8_0_1 t8_0_1 = true := by decide +kernel
theorem l8_0_2 : chkL Tryz.prog (knWith kb 6 [e48, e49, e50, e51, e59, e60, e61, e62, e78, e79, e80, e81, e403, e418, e419, e422, e423, e424, e425, e426, e427, e429, e431, e433, e434, e436, e438, e440, e442, e443, e444, e445, e447, e448, e450, e451, e452, e454, e455, e456, e457, e459, e460]) 1000 60 3 2 [] T8_0 k8_0_2 t8_0_2 = true := by decide +kernel
theorem l8_0_3 : chkL Tryz.prog (knWith kb 6 [e48, e49, e50, e51, e59, e60, e61, e62, e78, e79, e80, e81, e403, e418, e419, e422, e423, e424, e425, e426, e427, e429, e431, e433, e434, e436, e438, e440, e442, e443, e444, e445, e447, e448, e450, e451, e452, e454, e455, e456, e457, e459, e460]) 1000 60 3 2 [] T8_0 k8_0_3 t8_0_3 = true := by decide +kernel
theorem l8_0_4 : chkL Tryz.prog (knWith kb 6 [e48, e49, e50, e51, e59, e60, e61, e62, e78, e79, e80, e81, e403, e418, e419, e422, e423, e424, e425, e426, e427, e429, e431, e433, e434, e436, e438, e440, e442, e443, e444, e445, e447, e448, e450, e451, e452, e454, e455, e456, e457, e459, e460]) 1000 60 3 2 [] T8_0 k8_0_4 t8_0_4 = true := by decide +kernel
theorem l8_0_5 : chkL Tryz.prog (knWith kb 6 [e48, e49, e50, e51, e59, e60, e61, e62, e78, e79, e80, e81, e403, e418, e419, e422, e423, e424, e425, e426, e427, e429, e431, e433, e434, e436, e438, e440, e442, e443, e444, e445, e447, e448, e450, e451, e452, e454, e455, e456, e457, e459, e460]) 1000 60 3 2 [] T8_0 k8_0_5 t8_0_5 = true := by decide +kernel
end Go.Proofs.YtldkbgoipmeikaaGreatDoor
