/-
  The law's certificates, by classes of its arguments: they are good.
  Conditions: none.
-/
import Derived.Test.YtldkbgoipmeikaaGreatDoorKnY01
open Go Go.Ab
namespace Go.Proofs.YtldkbgoipmeikaaGreatDoor
theorem l2_0_6 : chkL Tryz.prog (knWith kb 6 [e28, e48, e49, e50, e51, e59, e60, e61, e62, e78, e79, e80, e81, e88, e90, e95, e100, e108, e111, e114, e119, e121, e123, e126, e128, e130, e131, e135, e178, e179, e182, e183, e184, e186, e188, e191, e194, e195, e197, e199, e201, e203, e204]) 1000 60 3 2 [] T2_0 k2_0_6 t2_0_6 = true := by decide +kernel
theorem l2_0_7 : chkL Tryz.prog (knWith kb 6 [e28, e48, e49, e50, e51, e59, e60, e61, e62, e78, e79, e80, e81, e88, e90, e95, e100, e108, e111, e114, e119, e121, e123, e126, e128, e130, e131, e135, e178, e179, e182, e183, e184, e186, e188, e191, e194, e195, e197, e199, e201, e203, e204]) 1000 60 3 2 [] T2_0 k2_0_7 t2_0_7 = true := by decide +kernel
theorem l2_0_8 : chkL Tryz.prog (knWith kb 6 [e28, e48, e49, e50, e51, e59, e60, e61, e62, e78, e79, e80, e81, e88, e90, e95, e100, e108, e111, e114, e119, e121, e123, e126, e128, e130, e131, e135, e178, e179, e182, e183, e184, e186, e188, e191, e194, e195, e197, e199, e201, e203, e204]) 1000 60 3 2 [] T2_0 k2_0_8 t2_0_8 = true := by decide +kernel
theorem l3_0_0 : chkL Tryz.prog (knWith kb 6 [e28, e48, e49, e50, e51, e59, e60, e61, e62, e78, e79, e80, e81, e88, e90, e95, e100, e108, e111, e114, e119, e121, e123, e126, e128, e130, e131, e135, e213, e214, e217, e218, e219, e221, e223, e226, e229, e230, e232, e234, e236, e237, e239]) 1000 60 3 2 [] T3_0 k3_0_0 t3_0_0 = true := by decide +kernel
theorem l3_0_1 : chkL Tryz.prog (knWith kb 6 [e28, e48, e49, e50, e51, e59, e60, e61, e62, e78, e79, e80, e81, e88, e90, e95, e100, e108, e111, e114, e119, e121, e123, e126, e128, e130, e131, e135, e213, e214, e217, e218, e219, e221, e223, e226, e229, e230, e232, e234, e236, e237, e239]) 1000 60 3 2 [] T3_0 k3_0_1 t3_0_1 = true := by decide +kernel
theorem l3_0_2 : chkL Tryz.prog (knWith kb 6 [e28, e48, e49, e50, e51, e59, e60, e61, e62, e78, e79, e80, e81, e88, e90, e95, e100, e108, e111, e114, e119, e121, e123, e126, e128, e130, e131, e135, e213, e214, e217, e218, e219, e221, e223, e226, e229, e230, e232, e234, e236, e237, e239]) 1000 60 3 2 [] T3_0 k3_0_2 t3_0_2 = true := by decide +kernel
theorem l3_0_3 : chkL Tryz.prog (knWith kb 6 [e28, e48, e49, e50, e51, e59, e60, e61, e62, e78, e79, e80, e81, e88, e90, e95, e100, e108, e111, e114, e119, e121, e123, e126, e128, e130, e131, e135, e213, e214, e217, e218, e219, e221, e223, e226, e229, e230, e232, e234, e236, e237, e239]) 1000 60 3 2 [] T3_0 k3_0_3 t3_0_3 = true := by decide +kernel
theorem l3_0_4 : chkL Tryz.prog (knWith kb 6 [e28, e48, e49, e50, e51, e59, e60, e61, e62, e78, e79, e80, e81, e88, e90, e95, e100, e108, e111, e114, e119, e121, e123, e126, e128, e130, e131, e135, e213, e214, e217, e218, e219, e221, e223, e226, e229, e230, e232, e234, e236, e237, e239]) 1000 60 3 2 [] T3_0 k3_0_4 t3_0_4 = true := by decide +kernel
end Go.Proofs.YtldkbgoipmeikaaGreatDoor
