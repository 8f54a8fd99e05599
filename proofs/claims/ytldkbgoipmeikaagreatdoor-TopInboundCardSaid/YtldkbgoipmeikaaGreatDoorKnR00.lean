/-
  The law's certificates, by classes of its arguments: they are good.
  Conditions: none.
-/
import Derived.Test.YtldkbgoipmeikaaGreatDoorKnY01
open Go Go.Ab
namespace Go.Proofs.YtldkbgoipmeikaaGreatDoor
theorem l0_0_0 : chkL Tryz.prog (knWith kb 6 [e28, e48, e49, e50, e51, e59, e60, e61, e62, e74, e75, e78, e79, e80, e81, e88, e90, e93, e95, e96, e97, e100, e104, e106, e108, e111, e112, e114, e116, e117, e119, e121, e123, e124, e126, e127, e128, e130, e131, e132, e133, e135, e136]) 1000 60 3 2 [] T0_0 k0_0_0 t0_0_0 = true := by decide +kernel
theorem l0_0_1 : chkL Tryz.prog (knWith kb 6 [e28, e48, e49, e50, e51, e59, e60, e61, e62, e74, e75, e78, e79, e80, e81, e88, e90, e93, e95, e96, e97, e100, e104, e106, e108, e111, e112, e114, e116, e117, e119, e121, e123, e124, e126, e127, e128, e130, e131, e132, e133, e135, e136]) 1000 60 3 2 [] T0_0 k0_0_1 t0_0_1 = true := by decide +kernel
theorem l0_0_2 : chkL Tryz.prog (knWith kb 6 [e28, e48, e49, e50, e51, e59, e60, e61, e62, e74, e75, e78, e79, e80, e81, e88, e90, e93, e95, e96, e97, e100, e104, e106, e108, e111, e112, e114, e116, e117, e119, e121, e123, e124, e126, e127, e128, e130, e131, e132, e133, e135, e136]) 1000 60 3 2 [] T0_0 k0_0_2 t0_0_2 = true := by decide +kernel
theorem l0_0_3 : chkL Tryz.prog (knWith kb 6 [e28, e48, e49, e50, e51, e59, e60, e61, e62, e74, e75, e78, e79, e80, e81, e88, e90, e93, e95, e96, e97, e100, e104, e106, e108, e111, e112, e114, e116, e117, e119, e121, e123, e124, e126, e127, e128, e130, e131, e132, e133, e135, e136]) 1000 60 3 2 [] T0_0 k0_0_3 t0_0_3 = true := by decide +kernel
theorem l0_0_4 : chkL Tryz.prog (knWith kb 6 [e28, e48, e49, e50, e51, e59, e60, e61, e62, e74, e75, e78, e79, e80, e81, e88, e90, e93, e95, e96, e97, e100, e104, e106, e108, e111, e112, e114, e116, e117, e119, e121, e123, e124, e126, e127, e128, e130, e131, e132, e133, e135, e136]) 1000 60 3 2 [] T0_0 k0_0_4 t0_0_4 = true := by decide +kernel
theorem l0_0_5 : chkL Tryz.prog (knWith kb 6 [e28, e48, e49, e50, e51, e59, e60, e61, e62, e74, e75, e78, e79, e80, e81, e88, e90, e93, e95, e96, e97, e100, e104, e106, e108, e111, e112, e114, e116, e117, e119, e121, e123, e124, e126, e127, e128, e130, e131, e132, e133, e135, e136]) 1000 60 3 2 [] T0_0 k0_0_5 t0_0_5 = true := by decide +kernel
theorem l0_0_6 : chkL Tryz.prog (knWith kb 6 [e28, e48, e49, e50, e51, e59, e60, e61, e62, e74, e75, e78, e79, e80, e81, e88, e90, e93, e95, e96, e97, e100, e104, e106, e108, e111, e112, e114, e116, e117, e119, e121, e123, e124, e126, e127, e128, e130, e131, e132, e133, e135, e136]) 1000 60 3 2 [] T0_0 k0_0_6 t0_0_6 = true := by decide +kernel
theorem l0_0_7 : chkL Tryz.prog (knWith kb 6 [e28, e48, e49, e50, e51, e59, e60, e61, e62, e74, e75, e78, e79, e80, e81, e88, e90, e93, e95, e96, e97, e100, e104, e106, e108, e111, e112, e114, e116, e117, e119, e121, e123, e124, e126, e127, e128, e130, e131, e132, e133, e135, e136]) 1000 60 3 2 [] T0_0 k0_0_7 t0_0_7 = true := by decide +kernel
end Go.Proofs.YtldkbgoipmeikaaGreatDoor
