/-
  The law's certificates, by classes of its arguments: they are good.
  Conditions: none.
-/
import Derived.Test.YtldkbgoipmeikaaGreatDoorKnY01
open Go Go.Ab
namespace Go.Proofs.YtldkbgoipmeikaaGreatDoor
theorem l1_0_7 : chkL Tryz.prog (knWith kb 6 [e28, e48, e49, e50, e51, e59, e60, e61, e62, e78, e79, e80, e81, e88, e90, e95, e100, e108, e111, e114, e119, e121, e123, e126, e128, e130, e131, e135, e144, e145, e148, e149, e150, e152, e154, e157, e160, e161, e163, e165, e167, e168, e170]) 1000 60 3 2 [] T1_0 k1_0_7 t1_0_7 = true := by decide +kernel
theorem l1_0_8 : chkL Tryz.prog (knWith kb 6 [e28, e48, e49, e50, e51, e59, e60, e61, e62, e78, e79, e80, e81, e88, e90, e95, e100, e108, e111, e114, e119, e121, e123, e126, e128, e130, e131, e135, e144, e145, e148, e149, e150, e152, e154, e157, e160, e161, e163, e165, e167, e168, e170]) 1000 60 3 2 [] T1_0 k1_0_8 t1_0_8 = true := by decide +kernel
theorem l2_0_0 : chkL Tryz.prog (knWith kb 6 [e28, e48, e49, e50, e51, e59, e60, e61, e62, e78, e79, e80, e81, e88, e90, e95, e100, e108, e111, e114, e119, e121, e123, e126, e128, e130, e131, e135, e178, e179, e182, e183, e184, e186, e188, e191, e194, e195, e197, e199, e201, e203, e204]) 1000 60 3 2 [] T2_0 k2_0_0 t2_0_0 = true := by decide +kernel
theorem l2_0_1 : chkL Tryz.prog (knWith kb 6 [e28, e48, e49, e50, e51, e59, e60, e61, e62, e78, e79, e80, e81, e88, e90, e95, e100, e108, e111, e114, e119, e121, e123, e126, e128, e130, e131, e135, e178, e179, e182, e183, e184, e186, e188, e191, e194, e195, e197, e199, e201, e203, e204]) 1000 60 3 2 [] T2_0 k2_0_1 t2_0_1 = true := by decide +kernel
theorem l2_0_2 : chkL Tryz.prog (knWith kb 6 [e28, e48, e49, e50, e51, e59, e60, e61, e62, e78, e79, e80, e81, e88, e90, e95, e100, e108, e111, e114, e119, e121, e123, e126, e128, e130, e131, e135, e178, e179, e182, e183, e184, e186, e188, e191, e194, e195, e197, e199, e201, e203, e204]) 1000 60 3 2 [] T2_0 k2_0_2 t2_0_2 = true := by decide +kernel
theorem l2_0_3 : chkL Tryz.prog (knWith kb 6 [e28, e48, e49, e50, e51, e59, e60, e61, e62, e78, e79, e80, e81, e88, e90, e95, e100, e108, e111, e114, e119, e121, e123, e126, e128, e130, e131, e135, e178, e179, e182, e183, e184, e186, e188, e191, e194, e195, e197, e199, e201, e203, e204]) 1000 60 3 2 [] T2_0 k2_0_3 t2_0_3 = true := by decide +kernel
theorem l2_0_4 : chkL Tryz.prog (knWith kb 6 [e28, e48, e49, e50, e51, e59, e60, e61, e62, e78, e79, e80, e81, e88, e90, e95, e100, e108, e111, e114, e119, e121, e123, e126, e128, e130, e131, e135, e178, e179, e182, e183, e184, e186, e188, e191, e194, e195, e197, e199, e201, e203, e204]) 1000 60 3 2 [] T2_0 k2_0_4 t2_0_4 = true := by decide +kernel
theorem l2_0_5 : chkL Tryz.prog (knWith kb 6 [e28, e48, e49, e50, e51, e59, e60, e61, e62, e78, e79, e80, e81, e88, e90, e95, e100, e108, e111, e114, e119, e121, e123, e126, e128, e130, e131, e135, e178, e179, e182, e183, e184, e186, e188, e191, e194, e195, e197, e199, e201, e203, e204]) 1000 60 3 2 [] T2_0 k2_0_5 t2_0_5 = true := by decide +kernel
end Go.Proofs.YtldkbgoipmeikaaGreatDoor
