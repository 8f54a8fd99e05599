/-
  Calls that are known by a run each over a small memory, whatever the numbers are that it does not tell.
  Conditions: none.
-/
import Derived.Test.YtldkbgoipmeikaaGreatDoorKnY00
open Go Go.Ab
namespace Go.Proofs.YtldkbgoipmeikaaGreatDoor
theorem ok342 : e342.ok Tryz.prog (knWith kb 6 [e61, e62, e63, e64, e65, e66, e67, e240]) 6 1000 60 = true := by decide +kernel
theorem ok345 : e345.ok Tryz.prog (knWith kb 6 [e92]) 6 1000 60 = true := by decide +kernel
theorem ok346 : e346.ok Tryz.prog (knWith kb 6 [e76, e240]) 6 1000 60 = true := by decide +kernel
theorem ok347 : e347.ok Tryz.prog (knWith kb 6 [e80, e81, e82, e83, e84, e85, e86, e240]) 6 1000 60 = true := by decide +kernel
theorem ok349 : e349.ok Tryz.prog (knWith kb 6 [e92]) 6 1000 60 = true := by decide +kernel
theorem ok351 : e351.ok Tryz.prog (knWith kb 6 [e98, e240]) 6 1000 60 = true := by decide +kernel
theorem ok354 : e354.ok Tryz.prog (knWith kb 6 [e98, e240]) 6 1000 60 = true := by decide +kernel
theorem ok357 : e357.ok Tryz.prog (knWith kb 6 [e98, e240]) 6 1000 60 = true := by decide +kernel
theorem ok358 : e358.ok Tryz.prog (knWith kb 6 [e101, e240, e267, e349]) 6 1000 60 = true := by decide +kernel
theorem ok360 : e360.ok Tryz.prog (knWith kb 6 [e76, e240]) 6 1000 60 = true := by decide +kernel
theorem ok362 : e362.ok Tryz.prog (knWith kb 6 [e76, e240]) 6 1000 60 = true := by decide +kernel
theorem ok364 : e364.ok Tryz.prog (knWith kb 6 [e92]) 6 1000 60 = true := by decide +kernel
theorem ok365 : e365.ok Tryz.prog (knWith kb 6 [e240]) 6 1000 60 = true := by decide +kernel
theorem ok367 : e367.ok Tryz.prog (knWith kb 6 [e240]) 6 1000 60 = true := by decide +kernel
theorem ok368 : e368.ok Tryz.prog (knWith kb 6 [e29, e240]) 6 1000 60 = true := by decide +kernel
theorem ok369 : e369.ok Tryz.prog (knWith kb 6 [e35, e240, e242]) 6 1000 60 = true := by decide +kernel
theorem ok370 : e370.ok Tryz.prog (knWith kb 6 [e240, e369]) 6 1000 60 = true := by decide +kernel
theorem ok371 : e371.ok Tryz.prog (knWith kb 6 [e32, e33, e40, e41, e42, e43, e44, e245, e370]) 6 1000 60 = true := by decide +kernel
theorem ok372 : e372.ok Tryz.prog (knWith kb 6 [e32, e33, e240, e371]) 6 1000 60 = true := by decide +kernel
theorem ok373 : e373.ok Tryz.prog (knWith kb 6 [e240]) 6 1000 60 = true := by decide +kernel
theorem ok375 : e375.ok Tryz.prog (knWith kb 6 [e72]) 6 1000 60 = true := by decide +kernel
theorem ok376 : e376.ok Tryz.prog (knWith kb 6 [e240]) 6 1000 60 = true := by decide +kernel
theorem ok377 : e377.ok Tryz.prog (knWith kb 6 [e61, e62, e63, e64, e65, e66, e67, e240]) 6 1000 60 = true := by decide +kernel
theorem ok380 : e380.ok Tryz.prog (knWith kb 6 [e92]) 6 1000 60 = true := by decide +kernel
theorem ok381 : e381.ok Tryz.prog (knWith kb 6 [e76, e240]) 6 1000 60 = true := by decide +kernel
theorem ok382 : e382.ok Tryz.prog (knWith kb 6 [e80, e81, e82, e83, e84, e85, e86, e240]) 6 1000 60 = true := by decide +kernel
theorem ok384 : e384.ok Tryz.prog (knWith kb 6 [e92]) 6 1000 60 = true := by decide +kernel
theorem ok386 : e386.ok Tryz.prog (knWith kb 6 [e98, e240]) 6 1000 60 = true := by decide +kernel
theorem ok389 : e389.ok Tryz.prog (knWith kb 6 [e98, e240]) 6 1000 60 = true := by decide +kernel
theorem ok392 : e392.ok Tryz.prog (knWith kb 6 [e98, e240]) 6 1000 60 = true := by decide +kernel
theorem ok393 : e393.ok Tryz.prog (knWith kb 6 [e101, e240, e267, e384]) 6 1000 60 = true := by decide +kernel
theorem ok395 : e395.ok Tryz.prog (knWith kb 6 [e76, e240]) 6 1000 60 = true := by decide +kernel
theorem ok397 : e397.ok Tryz.prog (knWith kb 6 [e76, e240]) 6 1000 60 = true := by decide +kernel
theorem ok399 : e399.ok Tryz.prog (knWith kb 6 [e92]) 6 1000 60 = true := by decide +kernel
theorem ok400 : e400.ok Tryz.prog (knWith kb 6 [e240]) 6 1000 60 = true := by decide +kernel
theorem ok402 : e402.ok Tryz.prog (knWith kb 6 [e240]) 6 1000 60 = true := by decide +kernel
end Go.Proofs.YtldkbgoipmeikaaGreatDoor
