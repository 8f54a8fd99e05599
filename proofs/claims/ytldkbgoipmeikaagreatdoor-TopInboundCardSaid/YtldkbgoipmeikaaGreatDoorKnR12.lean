/-
  The law's certificates, by classes of its arguments: they are good.
  Conditions: none.
-/
import Derived.Test.YtldkbgoipmeikaaGreatDoorKnY01
open Go Go.Ab
namespace Go.Proofs.YtldkbgoipmeikaaGreatDoor
theorem l10_0_4 : chkL Tryz.prog (knWith kb 6 [e48, e49, e50, e51, e59, e60, e61, e62, e78, e79, e80, e81, e403, e422, e423, e425, e429, e433, e436, e440, e444, e445, e447, e450, e452, e454, e455, e459, e504, e505, e508, e509, e510, e512, e514, e517, e520, e521, e523, e525, e527, e528, e530]) 1000 60 3 2 [] T10_0 k10_0_4 t10_0_4 = true := by decide +kernel
theorem l10_0_5 : chkL Tryz.prog (knWith kb 6 [e48, e49, e50, e51, e59, e60, e61, e62, e78, e79, e80, e81, e403, e422, e423, e425, e429, e433, e436, e440, e444, e445, e447, e450, e452, e454, e455, e459, e504, e505, e508, e509, e510, e512, e514, e517, e520, e521, e523, e525, e527, e528, e530]) 1000 60 3 2 [] T10_0 k10_0_5 t10_0_5 = true := by decide +kernel
theorem l10_0_6 : chkL Tryz.prog (knWith kb 6 [e48, e49, e50, e51, e59, e60, e61, e62, e78, e79, e80, e81, e403, e422, e423, e425, e429, e433, e436, e440, e444, e445, e447, e450, e452, e454, e455, e459, e504, e505, e508, e509, e510, e512, e514, e517, e520, e521, e523, e525, e527, e528, e530]) 1000 60 3 2 [] T10_0 k10_0_6 t10_0_6 = true := by decide +kernel
theorem l10_0_7 : chkL Tryz.prog (knWith kb 6 [e48, e49, e50, e51, e59, e60, e61, e62, e78, e79, e80, e81, e403, e422, e423, e425, e429, e433, e436, e440, e444, e445, e447, e450, e452, e454, e455, e459, e504, e505, e508, e509, e510, e512, e514, e517, e520, e521, e523, e525, e527, e528, e530]) 1000 60 3 2 [] T10_0 k10_0_7 t10_0_7 = true := by decide +kernel
theorem l10_0_8 : chkL Tryz.prog (knWith kb 6 [e48, e49, e50, e51, e59, e60, e61, e62, e78, e79, e80, e81, e403, e422, e423, e425, e429, e433, e436, e440, e444, e445, e447, e450, e452, e454, e455, e459, e504, e505, e508, e509, e510, e512, e514, e517, e520, e521, e523, e525, e527, e528, e530]) 1000 60 3 2 [] T10_0 k10_0_8 t10_0_8 = true := by decide +kernel
theorem l11_0_0 : chkL Tryz.prog (knWith kb 6 [e48, e49, e50, e51, e59, e60, e61, e62, e78, e79, e80, e81, e403, e422, e423, e425, e429, e433, e436, e440, e444, e445, e447, e450, e452, e454, e455, e459, e539, e540, e543, e544, e545, e547, e549, e552, e555, e556, e558, e560, e562, e563, e565]) 1000 60 3 2 [] T11_0 k11_0_0 t11_0_0 = true := by decide +kernel
theorem l11_0_1 : chkL Tryz.prog (knWith kb 6 [e48, e49, e50, e51, e59, e60, e61, e62, e78, e79, e80, e81, e403, e422, e423, e425, e429, e433, e436, e440, e444, e445, e447, e450, e452, e454, e455, e459, e539, e540, e543, e544, e545, e547, e549, e552, e555, e556, e558, e560, e562, e563, e565]) 1000 60 3 2 [] T11_0 k11_0_1 t11_0_1 = true := by decide +kernel
theorem l11_0_2 : chkL Tryz.prog (knWith kb 6 [e48, e49, e50, e51, e59, e60, e61, e62, e78, e79, e80, e81, e403, e422, e423, e425, e429, e433, e436, e440, e444, e445, e447, e450, e452, e454, e455, e459, e539, e540, e543, e544, e545, e547, e549, e552, e555, e556, e558, e560, e562, e563, e565]) 1000 60 3 2 [] T11_0 k11_0_2 t11_0_2 = true := by decide +kernel
end Go.Proofs.YtldkbgoipmeikaaGreatDoor
