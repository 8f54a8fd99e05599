/-
  Calls that are known by a run each over a small memory, whatever the numbers are that it does not tell.
  Conditions: none.
-/
import Derived.Test.YtldkbgoipmeikaaGreatDoorKnY00
open Go Go.Ab
namespace Go.Proofs.YtldkbgoipmeikaaGreatDoor
theorem ok403 : e403.ok Tryz.prog (knWith kb 6 []) 6 1000 60 = true := by decide +kernel
theorem ok404 : e404.ok Tryz.prog (knWith kb 6 [e29, e403]) 6 1000 60 = true := by decide +kernel
theorem ok405 : e405.ok Tryz.prog (knWith kb 6 [e403]) 6 1000 60 = true := by decide +kernel
theorem ok406 : e406.ok Tryz.prog (knWith kb 6 [e35, e403, e405]) 6 1000 60 = true := by decide +kernel
theorem ok407 : e407.ok Tryz.prog (knWith kb 6 [e403, e406]) 6 1000 60 = true := by decide +kernel
theorem ok408 : e408.ok Tryz.prog (knWith kb 6 [e403]) 6 1000 60 = true := by decide +kernel
theorem ok409 : e409.ok Tryz.prog (knWith kb 6 [e32, e33, e40, e41, e42, e43, e44, e407, e408]) 6 1000 60 = true := by decide +kernel
theorem ok410 : e410.ok Tryz.prog (knWith kb 6 [e32, e33, e403, e409]) 6 1000 60 = true := by decide +kernel
theorem ok411 : e411.ok Tryz.prog (knWith kb 6 [e403]) 6 1000 60 = true := by decide +kernel
theorem ok412 : e412.ok Tryz.prog (knWith kb 6 [e50, e51, e52, e53, e54, e55, e56]) 6 1000 60 = true := by decide +kernel
theorem ok416 : e416.ok Tryz.prog (knWith kb 6 [e403]) 6 1000 60 = true := by decide +kernel
theorem ok417 : e417.ok Tryz.prog (knWith kb 6 [e72]) 6 1000 60 = true := by decide +kernel
theorem ok418 : e418.ok Tryz.prog (knWith kb 6 [e403]) 6 1000 60 = true := by decide +kernel
theorem ok419 : e419.ok Tryz.prog (knWith kb 6 [e61, e62, e63, e64, e65, e66, e67, e403]) 6 1000 60 = true := by decide +kernel
theorem ok422 : e422.ok Tryz.prog (knWith kb 6 [e80, e81, e403]) 6 1000 60 = true := by decide +kernel
theorem ok423 : e423.ok Tryz.prog (knWith kb 6 [e89, e403]) 6 1000 60 = true := by decide +kernel
theorem ok424 : e424.ok Tryz.prog (knWith kb 6 [e92]) 6 1000 60 = true := by decide +kernel
theorem ok425 : e425.ok Tryz.prog (knWith kb 6 [e94, e403]) 6 1000 60 = true := by decide +kernel
theorem ok426 : e426.ok Tryz.prog (knWith kb 6 [e76, e403]) 6 1000 60 = true := by decide +kernel
theorem ok427 : e427.ok Tryz.prog (knWith kb 6 [e80, e81, e82, e83, e84, e85, e86, e403]) 6 1000 60 = true := by decide +kernel
theorem ok429 : e429.ok Tryz.prog (knWith kb 6 [e50, e51, e52, e53, e54, e55, e56]) 6 1000 60 = true := by decide +kernel
theorem ok430 : e430.ok Tryz.prog (knWith kb 6 [e102, e403]) 6 1000 60 = true := by decide +kernel
theorem ok431 : e431.ok Tryz.prog (knWith kb 6 [e92]) 6 1000 60 = true := by decide +kernel
theorem ok433 : e433.ok Tryz.prog (knWith kb 6 [e110, e403]) 6 1000 60 = true := by decide +kernel
theorem ok434 : e434.ok Tryz.prog (knWith kb 6 [e98, e403]) 6 1000 60 = true := by decide +kernel
theorem ok436 : e436.ok Tryz.prog (knWith kb 6 [e61, e62, e63, e64, e65, e66, e67]) 6 1000 60 = true := by decide +kernel
theorem ok438 : e438.ok Tryz.prog (knWith kb 6 [e98, e403]) 6 1000 60 = true := by decide +kernel
theorem ok440 : e440.ok Tryz.prog (knWith kb 6 [e80, e81, e82, e83, e84, e85, e86]) 6 1000 60 = true := by decide +kernel
theorem ok442 : e442.ok Tryz.prog (knWith kb 6 [e98, e403]) 6 1000 60 = true := by decide +kernel
theorem ok443 : e443.ok Tryz.prog (knWith kb 6 [e101, e403, e430, e431]) 6 1000 60 = true := by decide +kernel
theorem ok444 : e444.ok Tryz.prog (knWith kb 6 [e118, e403]) 6 1000 60 = true := by decide +kernel
theorem ok445 : e445.ok Tryz.prog (knWith kb 6 [e120, e403]) 6 1000 60 = true := by decide +kernel
theorem ok447 : e447.ok Tryz.prog (knWith kb 6 [e50, e51, e52, e53, e54, e55, e56]) 6 1000 60 = true := by decide +kernel
theorem ok448 : e448.ok Tryz.prog (knWith kb 6 [e76, e403]) 6 1000 60 = true := by decide +kernel
theorem ok450 : e450.ok Tryz.prog (knWith kb 6 [e61, e62, e63, e64, e65, e66, e67]) 6 1000 60 = true := by decide +kernel
theorem ok451 : e451.ok Tryz.prog (knWith kb 6 [e76, e403]) 6 1000 60 = true := by decide +kernel
theorem ok452 : e452.ok Tryz.prog (knWith kb 6 [e61, e62, e403]) 6 1000 60 = true := by decide +kernel
end Go.Proofs.YtldkbgoipmeikaaGreatDoor
