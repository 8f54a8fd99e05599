/-
  The law's certificates, by classes of its arguments: they are good.
  Conditions: none.
-/
import Derived.Test.YtldkbgoipmeikaaGreatDoorKnY01
open Go Go.Ab
namespace Go.Proofs.YtldkbgoipmeikaaGreatDoor
theorem l8_0_6 : chkL Tryz.prog (knWith kb 6 [e48, e49, e50, e51, e59, e60, e61, e62, e78, e79, e80, e81, e403, e418, e419, e422, e423, e424, e425, e426, e427, e429, e431, e433, e434, e436, e438, e440, e442, e443, e444, e445, e447, e448, e450, e451, e452, e454, e455, e456, e457, e459, e460]) 1000 60 3 2 [] T8_0 k8_0_6 t8_0_6 = true := by decide +kernel
theorem l8_0_7 : chkL Tryz.prog (knWith kb 6 [e48, e49, e50, e51, e59, e60, e61, e62, e78, e79, e80, e81, e403, e418, e419, e422, e423, e424, e425, e426, e427, e429, e431, e433, e434, e436, e438, e440, e442, e443, e444, e445, e447, e448, e450, e451, e452, e454, e455, e456, e457, e459, e460]) 1000 60 3 2 [] T8_0 k8_0_7 t8_0_7 = true := by decide +kernel
theorem l8_0_8 : chkL Tryz.prog (knWith kb 6 [e48, e49, e50, e51, e59, e60, e61, e62, e78, e79, e80, e81, e403, e418, e419, e422, e423, e424, e425, e426, e427, e429, e431, e433, e434, e436, e438, e440, e442, e443, e444, e445, e447, e448, e450, e451, e452, e454, e455, e456, e457, e459, e460]) 1000 60 3 2 [] T8_0 k8_0_8 t8_0_8 = true := by decide +kernel
theorem l9_0_0 : chkL Tryz.prog (knWith kb 6 [e48, e49, e50, e51, e59, e60, e61, e62, e78, e79, e80, e81, e403, e422, e423, e425, e429, e433, e436, e440, e444, e445, e447, e450, e452, e454, e455, e459, e469, e470, e473, e474, e475, e477, e479, e482, e485, e486, e488, e490, e492, e493, e495]) 1000 60 3 2 [] T9_0 k9_0_0 t9_0_0 = true := by decide +kernel
theorem l9_0_1 : chkL Tryz.prog (knWith kb 6 [e48, e49, e50, e51, e59, e60, e61, e62, e78, e79, e80, e81, e403, e422, e423, e425, e429, e433, e436, e440, e444, e445, e447, e450, e452, e454, e455, e459, e469, e470, e473, e474, e475, e477, e479, e482, e485, e486, e488, e490, e492, e493, e495]) 1000 60 3 2 [] T9_0 k9_0_1 t9_0_1 = true := by decide +kernel
theorem l9_0_2 : chkL Tryz.prog (knWith kb 6 [e48, e49, e50, e51, e59, e60, e61, e62, e78, e79, e80, e81, e403, e422, e423, e425, e429, e433, e436, e440, e444, e445, e447, e450, e452, e454, e455, e459, e469, e470, e473, e474, e475, e477, e479, e482, e485, e486, e488, e490, e492, e493, e495]) 1000 60 3 2 [] T9_0 k9_0_2 t9_0_2 = true := by decide +kernel
theorem l9_0_3 : chkL Tryz.prog (knWith kb 6 [e48, e49, e50, e51, e59, e60, e61, e62, e78, e79, e80, e81, e403, e422, e423, e425, e429, e433, e436, e440, e444, e445, e447, e450, e452, e454, e455, e459, e469, e470, e473, e474, e475, e477, e479, e482, e485, e486, e488, e490, e492, e493, e495]) 1000 60 3 2 [] T9_0 k9_0_3 t9_0_3 = true := by decide +kernel
theorem l9_0_4 : chkL Tryz.prog (knWith kb 6 [e48, e49, e50, e51, e59, e60, e61, e62, e78, e79, e80, e81, e403, e422, e423, e425, e429, e433, e436, e440, e444, e445, e447, e450, e452, e454, e455, e459, e469, e470, e473, e474, e475, e477, e479, e482, e485, e486, e488, e490, e492, e493, e495]) 1000 60 3 2 [] T9_0 k9_0_4 t9_0_4 = true := by decide +kernel
end Go.Proofs.YtldkbgoipmeikaaGreatDoor
