/-
  Calls that are known by a run each over a small memory, whatever the numbers are that it does not tell.
  Conditions: none.
-/
import Derived.Test.YtfdgbmkpmjkccaaGreatDoorKnY01
open Go Go.Ab
namespace Go.Proofs.YtfdgbmkpmjkccaaGreatDoor
theorem j495:Ok e495 [e340]:=by decide +kernel
theorem j496:Ok e496 [e340,e494,e495]:=by decide +kernel
theorem j497:Ok e497 [e61,e64,e66,e67,e70,e71,e104,e110,e496]:=by decide +kernel
theorem j498:Ok e498 [e104,e340,e497]:=by decide +kernel
theorem j499:Ok e499 [e340]:=by decide +kernel
theorem j500:Ok e500 [e81,e84,e85,e88,e115,e116,e119,e120,e499]:=by decide +kernel
theorem j501:Ok e501 [e340]:=by decide +kernel
theorem j502:Ok e502 [e53,e340,e501]:=by decide +kernel
theorem j503:Ok e503 [e340,e502]:=by decide +kernel
theorem j504:Ok e504 [e340]:=by decide +kernel
theorem j505:Ok e505 [e340,e503,e504]:=by decide +kernel
theorem j506:Ok e506 [e340]:=by decide +kernel
theorem j507:Ok e507 [e81,e84,e85,e88,e116,e119,e120,e131,e506]:=by decide +kernel
theorem j508:Ok e508 [e340]:=by decide +kernel
theorem j509:Ok e509 [e12,e340,e508]:=by decide +kernel
theorem j510:Ok e510 [e340,e509]:=by decide +kernel
theorem j511:Ok e511 [e41,e44,e45,e136,e141,e410,e510]:=by decide +kernel
theorem j512:Ok e512 [e53,e340,e483]:=by decide +kernel
theorem j513:Ok e513 [e340,e512]:=by decide +kernel
theorem j514:Ok e514 [e340]:=by decide +kernel
theorem j515:Ok e515 [e340,e513,e514]:=by decide +kernel
theorem j516:Ok e516 [e51,e60,e61,e64,e148,e149,e152,e153,e515]:=by decide +kernel
theorem j517:Ok e517 [e51,e340,e516]:=by decide +kernel
theorem j518:Ok e518 [e340]:=by decide +kernel
theorem j519:Ok e519 [e85,e88,e90,e91,e94,e95,e163,e165,e518]:=by decide +kernel
theorem j520:Ok e520 [e340]:=by decide +kernel
theorem j521:Ok e521 [e53,e340,e520]:=by decide +kernel
theorem j522:Ok e522 [e340,e521]:=by decide +kernel
theorem j523:Ok e523 [e340]:=by decide +kernel
theorem j524:Ok e524 [e340,e522,e523]:=by decide +kernel
theorem j525:Ok e525 [e61,e64,e104,e110,e148,e149,e152,e153,e524]:=by decide +kernel
theorem j526:Ok e526 [e104,e340,e525]:=by decide +kernel
theorem j527:Ok e527 [e340]:=by decide +kernel
theorem j528:Ok e528 [e85,e88,e115,e116,e119,e120,e163,e165,e527]:=by decide +kernel
end Go.Proofs.YtfdgbmkpmjkccaaGreatDoor
