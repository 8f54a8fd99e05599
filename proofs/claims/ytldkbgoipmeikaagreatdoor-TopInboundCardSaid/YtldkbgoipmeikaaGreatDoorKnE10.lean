/-
  Calls that are known by a run each over a small memory, whatever the numbers are that it does not tell.
  Conditions: none.
-/
import Derived.Test.YtldkbgoipmeikaaGreatDoorKnY00
open Go Go.Ab
namespace Go.Proofs.YtldkbgoipmeikaaGreatDoor
theorem ok505 : e505.ok Tryz.prog (knWith kb 6 [e61, e62, e63, e64, e65, e66, e67, e403]) 6 1000 60 = true := by decide +kernel
theorem ok508 : e508.ok Tryz.prog (knWith kb 6 [e92]) 6 1000 60 = true := by decide +kernel
theorem ok509 : e509.ok Tryz.prog (knWith kb 6 [e76, e403]) 6 1000 60 = true := by decide +kernel
theorem ok510 : e510.ok Tryz.prog (knWith kb 6 [e80, e81, e82, e83, e84, e85, e86, e403]) 6 1000 60 = true := by decide +kernel
theorem ok512 : e512.ok Tryz.prog (knWith kb 6 [e92]) 6 1000 60 = true := by decide +kernel
theorem ok514 : e514.ok Tryz.prog (knWith kb 6 [e98, e403]) 6 1000 60 = true := by decide +kernel
theorem ok517 : e517.ok Tryz.prog (knWith kb 6 [e98, e403]) 6 1000 60 = true := by decide +kernel
theorem ok520 : e520.ok Tryz.prog (knWith kb 6 [e98, e403]) 6 1000 60 = true := by decide +kernel
theorem ok521 : e521.ok Tryz.prog (knWith kb 6 [e101, e403, e430, e512]) 6 1000 60 = true := by decide +kernel
theorem ok523 : e523.ok Tryz.prog (knWith kb 6 [e76, e403]) 6 1000 60 = true := by decide +kernel
theorem ok525 : e525.ok Tryz.prog (knWith kb 6 [e76, e403]) 6 1000 60 = true := by decide +kernel
theorem ok527 : e527.ok Tryz.prog (knWith kb 6 [e92]) 6 1000 60 = true := by decide +kernel
theorem ok528 : e528.ok Tryz.prog (knWith kb 6 [e403]) 6 1000 60 = true := by decide +kernel
theorem ok530 : e530.ok Tryz.prog (knWith kb 6 [e403]) 6 1000 60 = true := by decide +kernel
theorem ok531 : e531.ok Tryz.prog (knWith kb 6 [e29, e403]) 6 1000 60 = true := by decide +kernel
theorem ok532 : e532.ok Tryz.prog (knWith kb 6 [e35, e403, e405]) 6 1000 60 = true := by decide +kernel
theorem ok533 : e533.ok Tryz.prog (knWith kb 6 [e403, e532]) 6 1000 60 = true := by decide +kernel
theorem ok534 : e534.ok Tryz.prog (knWith kb 6 [e32, e33, e40, e41, e42, e43, e44, e408, e533]) 6 1000 60 = true := by decide +kernel
theorem ok535 : e535.ok Tryz.prog (knWith kb 6 [e32, e33, e403, e534]) 6 1000 60 = true := by decide +kernel
theorem ok536 : e536.ok Tryz.prog (knWith kb 6 [e403]) 6 1000 60 = true := by decide +kernel
theorem ok538 : e538.ok Tryz.prog (knWith kb 6 [e72]) 6 1000 60 = true := by decide +kernel
theorem ok539 : e539.ok Tryz.prog (knWith kb 6 [e403]) 6 1000 60 = true := by decide +kernel
theorem ok540 : e540.ok Tryz.prog (knWith kb 6 [e61, e62, e63, e64, e65, e66, e67, e403]) 6 1000 60 = true := by decide +kernel
theorem ok543 : e543.ok Tryz.prog (knWith kb 6 [e92]) 6 1000 60 = true := by decide +kernel
theorem ok544 : e544.ok Tryz.prog (knWith kb 6 [e76, e403]) 6 1000 60 = true := by decide +kernel
theorem ok545 : e545.ok Tryz.prog (knWith kb 6 [e80, e81, e82, e83, e84, e85, e86, e403]) 6 1000 60 = true := by decide +kernel
theorem ok547 : e547.ok Tryz.prog (knWith kb 6 [e92]) 6 1000 60 = true := by decide +kernel
theorem ok549 : e549.ok Tryz.prog (knWith kb 6 [e98, e403]) 6 1000 60 = true := by decide +kernel
theorem ok552 : e552.ok Tryz.prog (knWith kb 6 [e98, e403]) 6 1000 60 = true := by decide +kernel
theorem ok555 : e555.ok Tryz.prog (knWith kb 6 [e98, e403]) 6 1000 60 = true := by decide +kernel
theorem ok556 : e556.ok Tryz.prog (knWith kb 6 [e101, e403, e430, e547]) 6 1000 60 = true := by decide +kernel
theorem ok558 : e558.ok Tryz.prog (knWith kb 6 [e76, e403]) 6 1000 60 = true := by decide +kernel
theorem ok560 : e560.ok Tryz.prog (knWith kb 6 [e76, e403]) 6 1000 60 = true := by decide +kernel
end Go.Proofs.YtldkbgoipmeikaaGreatDoor
