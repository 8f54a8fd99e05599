/-
  Calls that are known by a run each over a small memory, whatever the numbers are that it does not tell.
  Conditions: none.
-/
import Derived.Test.YtfdgbmkpmjkccaaGreatDoorKnY01
open Go Go.Ab
namespace Go.Proofs.YtfdgbmkpmjkccaaGreatDoor
theorem j563:Ok e563 [e0,e2,e340]:=by decide +kernel
theorem j564:Ok e564 [e340]:=by decide +kernel
theorem j565:Ok e565 [e12,e340,e564]:=by decide +kernel
theorem j566:Ok e566 [e340,e565]:=by decide +kernel
theorem j567:Ok e567 [e34,e40,e41,e44,e45,e345,e566]:=by decide +kernel
theorem j568:Ok e568 [e340]:=by decide +kernel
theorem j569:Ok e569 [e53,e340,e568]:=by decide +kernel
theorem j570:Ok e570 [e340,e569]:=by decide +kernel
theorem j573:Ok e573 [e51,e60,e61,e64,e66,e67,e70,e71,e340,e570]:=by decide +kernel
theorem j574:Ok e574 [e81,e84,e85,e88,e90,e91,e94,e95,e490]:=by decide +kernel
theorem j575:Ok e575 [e340]:=by decide +kernel
theorem j576:Ok e576 [e53,e340,e575]:=by decide +kernel
theorem j577:Ok e577 [e340,e576]:=by decide +kernel
theorem j578:Ok e578 [e340,e495,e577]:=by decide +kernel
theorem j579:Ok e579 [e61,e64,e66,e67,e70,e71,e104,e110,e578]:=by decide +kernel
theorem j580:Ok e580 [e104,e340,e579]:=by decide +kernel
theorem j581:Ok e581 [e81,e84,e85,e88,e115,e116,e119,e120,e499]:=by decide +kernel
theorem j582:Ok e582 [e340]:=by decide +kernel
theorem j583:Ok e583 [e53,e340,e582]:=by decide +kernel
theorem j584:Ok e584 [e340,e583]:=by decide +kernel
theorem j585:Ok e585 [e340,e504,e584]:=by decide +kernel
theorem j586:Ok e586 [e81,e84,e85,e88,e116,e119,e120,e131,e506]:=by decide +kernel
theorem j587:Ok e587 [e340]:=by decide +kernel
theorem j588:Ok e588 [e12,e340,e587]:=by decide +kernel
theorem j589:Ok e589 [e340,e588]:=by decide +kernel
theorem j590:Ok e590 [e41,e44,e45,e136,e141,e410,e589]:=by decide +kernel
theorem j591:Ok e591 [e53,e340,e568]:=by decide +kernel
theorem j592:Ok e592 [e340,e591]:=by decide +kernel
theorem j593:Ok e593 [e340,e514,e592]:=by decide +kernel
theorem j594:Ok e594 [e51,e60,e61,e64,e148,e149,e152,e153,e593]:=by decide +kernel
theorem j595:Ok e595 [e51,e340,e594]:=by decide +kernel
end Go.Proofs.YtfdgbmkpmjkccaaGreatDoor
