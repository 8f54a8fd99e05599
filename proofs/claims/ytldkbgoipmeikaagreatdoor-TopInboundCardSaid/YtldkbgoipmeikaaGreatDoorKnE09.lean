/-
  Calls that are known by a run each over a small memory, whatever the numbers are that it does not tell.
  Conditions: none.
-/
import Derived.Test.YtldkbgoipmeikaaGreatDoorKnY00
open Go Go.Ab
namespace Go.Proofs.YtldkbgoipmeikaaGreatDoor
theorem ok454 : e454.ok Tryz.prog (knWith kb 6 [e80, e81, e403]) 6 1000 60 = true := by decide +kernel
theorem ok455 : e455.ok Tryz.prog (knWith kb 6 [e403]) 6 1000 60 = true := by decide +kernel
theorem ok456 : e456.ok Tryz.prog (knWith kb 6 [e92]) 6 1000 60 = true := by decide +kernel
theorem ok457 : e457.ok Tryz.prog (knWith kb 6 [e403]) 6 1000 60 = true := by decide +kernel
theorem ok459 : e459.ok Tryz.prog (knWith kb 6 [e50, e51, e52, e53, e54, e55, e56]) 6 1000 60 = true := by decide +kernel
theorem ok460 : e460.ok Tryz.prog (knWith kb 6 [e403]) 6 1000 60 = true := by decide +kernel
theorem ok461 : e461.ok Tryz.prog (knWith kb 6 [e29, e403]) 6 1000 60 = true := by decide +kernel
theorem ok462 : e462.ok Tryz.prog (knWith kb 6 [e35, e403, e405]) 6 1000 60 = true := by decide +kernel
theorem ok463 : e463.ok Tryz.prog (knWith kb 6 [e403, e462]) 6 1000 60 = true := by decide +kernel
theorem ok464 : e464.ok Tryz.prog (knWith kb 6 [e32, e33, e40, e41, e42, e43, e44, e408, e463]) 6 1000 60 = true := by decide +kernel
theorem ok465 : e465.ok Tryz.prog (knWith kb 6 [e32, e33, e403, e464]) 6 1000 60 = true := by decide +kernel
theorem ok466 : e466.ok Tryz.prog (knWith kb 6 [e403]) 6 1000 60 = true := by decide +kernel
theorem ok468 : e468.ok Tryz.prog (knWith kb 6 [e72]) 6 1000 60 = true := by decide +kernel
theorem ok469 : e469.ok Tryz.prog (knWith kb 6 [e403]) 6 1000 60 = true := by decide +kernel
theorem ok470 : e470.ok Tryz.prog (knWith kb 6 [e61, e62, e63, e64, e65, e66, e67, e403]) 6 1000 60 = true := by decide +kernel
theorem ok473 : e473.ok Tryz.prog (knWith kb 6 [e92]) 6 1000 60 = true := by decide +kernel
theorem ok474 : e474.ok Tryz.prog (knWith kb 6 [e76, e403]) 6 1000 60 = true := by decide +kernel
theorem ok475 : e475.ok Tryz.prog (knWith kb 6 [e80, e81, e82, e83, e84, e85, e86, e403]) 6 1000 60 = true := by decide +kernel
theorem ok477 : e477.ok Tryz.prog (knWith kb 6 [e92]) 6 1000 60 = true := by decide +kernel
theorem ok479 : e479.ok Tryz.prog (knWith kb 6 [e98, e403]) 6 1000 60 = true := by decide +kernel
theorem ok482 : e482.ok Tryz.prog (knWith kb 6 [e98, e403]) 6 1000 60 = true := by decide +kernel
theorem ok485 : e485.ok Tryz.prog (knWith kb 6 [e98, e403]) 6 1000 60 = true := by decide +kernel
theorem ok486 : e486.ok Tryz.prog (knWith kb 6 [e101, e403, e430, e477]) 6 1000 60 = true := by decide +kernel
theorem ok488 : e488.ok Tryz.prog (knWith kb 6 [e76, e403]) 6 1000 60 = true := by decide +kernel
theorem ok490 : e490.ok Tryz.prog (knWith kb 6 [e76, e403]) 6 1000 60 = true := by decide +kernel
theorem ok492 : e492.ok Tryz.prog (knWith kb 6 [e92]) 6 1000 60 = true := by decide +kernel
theorem ok493 : e493.ok Tryz.prog (knWith kb 6 [e403]) 6 1000 60 = true := by decide +kernel
theorem ok495 : e495.ok Tryz.prog (knWith kb 6 [e403]) 6 1000 60 = true := by decide +kernel
theorem ok496 : e496.ok Tryz.prog (knWith kb 6 [e29, e403]) 6 1000 60 = true := by decide +kernel
theorem ok497 : e497.ok Tryz.prog (knWith kb 6 [e35, e403, e405]) 6 1000 60 = true := by decide +kernel
theorem ok498 : e498.ok Tryz.prog (knWith kb 6 [e403, e497]) 6 1000 60 = true := by decide +kernel
theorem ok499 : e499.ok Tryz.prog (knWith kb 6 [e32, e33, e40, e41, e42, e43, e44, e408, e498]) 6 1000 60 = true := by decide +kernel
theorem ok500 : e500.ok Tryz.prog (knWith kb 6 [e32, e33, e403, e499]) 6 1000 60 = true := by decide +kernel
theorem ok501 : e501.ok Tryz.prog (knWith kb 6 [e403]) 6 1000 60 = true := by decide +kernel
theorem ok503 : e503.ok Tryz.prog (knWith kb 6 [e72]) 6 1000 60 = true := by decide +kernel
theorem ok504 : e504.ok Tryz.prog (knWith kb 6 [e403]) 6 1000 60 = true := by decide +kernel
end Go.Proofs.YtldkbgoipmeikaaGreatDoor
