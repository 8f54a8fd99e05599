/-
  The law's certificates, by classes of its arguments: they are good.
  Conditions: none.
-/
import Derived.Test.YtldkbgoipmeikaaGreatDoorKnY01
open Go Go.Ab
namespace Go.Proofs.YtldkbgoipmeikaaGreatDoor
theorem l0_0_8 : chkL Tryz.prog (knWith kb 6 [e28, e48, e49, e50, e51, e59, e60, e61, e62, e74, e75, e78, e79, e80, e81, e88, e90, e93, e95, e96, e97, e100, e104, e106, e108, e111, e112, e114, e116, e117, e119, e121, e123, e124, e126, e127, e128, e130, e131, e132, e133, e135, e136]) 1000 60 3 2 [] T0_0 k0_0_8 t0_0_8 = true := by decide +kernel
theorem l1_0_0 : chkL Tryz.prog (knWith kb 6 [e28, e48, e49, e50, e51, e59, e60, e61, e62, e78, e79, e80, e81, e88, e90, e95, e100, e108, e111, e114, e119, e121, e123, e126, e128, e130, e131, e135, e144, e145, e148, e149, e150, e152, e154, e157, e160, e161, e163, e165, e167, e168, e170]) 1000 60 3 2 [] T1_0 k1_0_0 t1_0_0 = true := by decide +kernel
theorem l1_0_1 : chkL Tryz.prog (knWith kb 6 [e28, e48, e49, e50, e51, e59, e60, e61, e62, e78, e79, e80, e81, e88, e90, e95, e100, e108, e111, e114, e119, e121, e123, e126, e128, e130, e131, e135, e144, e145, e148, e149, e150, e152, e154, e157, e160, e161, e163, e165, e167, e168, e170]) 1000 60 3 2 [] T1_0 k1_0_1 t1_0_1 = true := by decide +kernel
theorem l1_0_2 : chkL Tryz.prog (knWith kb 6 [e28, e48, e49, e50, e51, e59, e60, e61, e62, e78, e79, e80, e81, e88, e90, e95, e100, e108, e111, e114, e119, e121, e123, e126, e128, e130, e131, e135, e144, e145, e148, e149, e150, e152, e154, e157, e160, e161, e163, e165, e167, e168, e170]) 1000 60 3 2 [] T1_0 k1_0_2 t1_0_2 = true := by decide +kernel
theorem l1_0_3 : chkL Tryz.prog (knWith kb 6 [e28, e48, e49, e50, e51, e59, e60, e61, e62, e78, e79, e80, e81, e88, e90, e95, e100, e108, e111, e114, e119, e121, e123, e126, e128, e130, e131, e135, e144, e145, e148, e149, e150, e152, e154, e157, e160, e161, e163, e165, e167, e168, e170]) 1000 60 3 2 [] T1_0 k1_0_3 t1_0_3 = true := by decide +kernel
theorem l1_0_4 : chkL Tryz.prog (knWith kb 6 [e28, e48, e49, e50, e51, e59, e60, e61, e62, e78, e79, e80, e81, e88, e90, e95, e100, e108, e111, e114, e119, e121, e123, e126, e128, e130, e131, e135, e144, e145, e148, e149, e150, e152, e154, e157, e160, e161, e163, e165, e167, e168, e170]) 1000 60 3 2 [] T1_0 k1_0_4 t1_0_4 = true := by decide +kernel
theorem l1_0_5 : chkL Tryz.prog (knWith kb 6 [e28, e48, e49, e50, e51, e59, e60, e61, e62, e78, e79, e80, e81, e88, e90, e95, e100, e108, e111, e114, e119, e121, e123, e126, e128, e130, e131, e135, e144, e145, e148, e149, e150, e152, e154, e157, e160, e161, e163, e165, e167, e168, e170]) 1000 60 3 2 [] T1_0 k1_0_5 t1_0_5 = true := by decide +kernel
theorem l1_0_6 : chkL Tryz.prog (knWith kb 6 [e28, e48, e49, e50, e51, e59, e60, e61, e62, e78, e79, e80, e81, e88, e90, e95, e100, e108, e111, e114, e119, e121, e123, e126, e128, e130, e131, e135, e144, e145, e148, e149, e150, e152, e154, e157, e160, e161, e163, e165, e167, e168, e170]) 1000 60 3 2 [] T1_0 k1_0_6 t1_0_6 = true := by decide +kernel
end Go.Proofs.YtldkbgoipmeikaaGreatDoor
