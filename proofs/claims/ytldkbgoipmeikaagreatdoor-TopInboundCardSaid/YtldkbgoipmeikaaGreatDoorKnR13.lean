/-
  The law's certificates, by classes of its arguments: they are good.
  Conditions: none.
-/
import Derived.Test.YtldkbgoipmeikaaGreatDoorKnY01
open Go Go.Ab
namespace Go.Proofs.YtldkbgoipmeikaaGreatDoor
theorem l11_0_3 : chkL Tryz.prog (knWith kb 6 [e48, e49, e50, e51, e59, e60, e61, e62, e78, e79, e80, e81, e403, e422, e423, e425, e429, e433, e436, e440, e444, e445, e447, e450, e452, e454, e455, e459, e539, e540, e543, e544, e545, e547, e549, e552, e555, e556, e558, e560, e562, e563, e565]) 1000 60 3 2 [] T11_0 k11_0_3 t11_0_3 = true := by decide +kernel
theorem l11_0_4 : chkL Tryz.prog (knWith kb 6 [e48, e49, e50, e51, e59, e60, e61, e62, e78, e79, e80, e81, e403, e422, e423, e425, e429, e433, e436, e440, e444, e445, e447, e450, e452, e454, e455, e459, e539, e540, e543, e544, e545, e547, e549, e552, e555, e556, e558, e560, e562, e563, e565]) 1000 60 3 2 [] T11_0 k11_0_4 t11_0_4 = true := by decide +kernel
theorem l11_0_5 : chkL Tryz.prog (knWith kb 6 [e48, e49, e50, e51, e59, e60, e61, e62, e78, e79, e80, e81, e403, e422, e423, e425, e429, e433, e436, e440, e444, e445, e447, e450, e452, e454, e455, e459, e539, e540, e543, e544, e545, e547, e549, e552, e555, e556, e558, e560, e562, e563, e565]) 1000 60 3 2 [] T11_0 k11_0_5 t11_0_5 = true := by decide +kernel
theorem l11_0_6 : chkL Tryz.prog (knWith kb 6 [e48, e49, e50, e51, e59, e60, e61, e62, e78, e79, e80, e81, e403, e422, e423, e425, e429, e433, e436, e440, e444, e445, e447, e450, e452, e454, e455, e459, e539, e540, e543, e544, e545, e547, e549, e552, e555, e556, e558, e560, e562, e563, e565]) 1000 60 3 2 [] T11_0 k11_0_6 t11_0_6 = true := by decide +kernel
theorem l11_0_7 : chkL Tryz.prog (knWith kb 6 [e48, e49, e50, e51, e59, e60, e61, e62, e78, e79, e80, e81, e403, e422, e423, e425, e429, e433, e436, e440, e444, e445, e447, e450, e452, e454, e455, e459, e539, e540, e543, e544, e545, e547, e549, e552, e555, e556, e558, e560, e562, e563, e565]) 1000 60 3 2 [] T11_0 k11_0_7 t11_0_7 = true := by decide +kernel
theorem l11_0_8 : chkL Tryz.prog (knWith kb 6 [e48, e49, e50, e51, e59, e60, e61, e62, e78, e79, e80, e81, e403, e422, e423, e425, e429, e433, e436, e440, e444, e445, e447, e450, e452, e454, e455, e459, e539, e540, e543, e544, e545, e547, e549, e552, e555, e556, e558, e560, e562, e563, e565]) 1000 60 3 2 [] T11_0 k11_0_8 t11_0_8 = true := by decide +kernel
theorem s0 : chkAt Tryz.prog (knWith kb 6 [e28, e29, e30, e31, e46, e47, e48, e49, e50, e51, e57, e70, e73, e2000000]) 1000 60 3 2 T0 [] (.const 0) k0 [.code []] (enterS Tryz.prog 3 a0 (hIn 6 false [])) = true := by decide +kernel
theorem s1 : chkAt Tryz.prog (knWith kb 6 [e28, e29, e30, e31, e48, e49, e50, e51, e57, e70, e140, e141, e143, e2000000]) 1000 60 3 2 T1 [] (.const 0) k1 [.code []] (enterS Tryz.prog 3 a1 (hIn 6 false [])) = true := by decide +kernel
end Go.Proofs.YtldkbgoipmeikaaGreatDoor
