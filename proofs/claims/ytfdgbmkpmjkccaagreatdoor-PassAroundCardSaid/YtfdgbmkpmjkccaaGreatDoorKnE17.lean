/-
  Calls that are known by a run each over a small memory, whatever the numbers are that it does not tell.
  Conditions: none.
-/
import Derived.Test.YtfdgbmkpmjkccaaGreatDoorKnY01
open Go Go.Ab
namespace Go.Proofs.YtfdgbmkpmjkccaaGreatDoor
theorem j596:Ok e596 [e85,e88,e90,e91,e94,e95,e163,e165,e518]:=by decide +kernel
theorem j597:Ok e597 [e340]:=by decide +kernel
theorem j598:Ok e598 [e53,e340,e597]:=by decide +kernel
theorem j599:Ok e599 [e340,e598]:=by decide +kernel
theorem j600:Ok e600 [e340,e523,e599]:=by decide +kernel
theorem j601:Ok e601 [e61,e64,e104,e110,e148,e149,e152,e153,e600]:=by decide +kernel
theorem j602:Ok e602 [e104,e340,e601]:=by decide +kernel
theorem j603:Ok e603 [e340]:=by decide +kernel
theorem j604:Ok e604 [e53,e340,e603]:=by decide +kernel
theorem j605:Ok e605 [e340,e604]:=by decide +kernel
theorem j606:Ok e606 [e340,e532,e605]:=by decide +kernel
theorem j607:Ok e607 [e340]:=by decide +kernel
theorem j608:Ok e608 [e12,e340,e607]:=by decide +kernel
theorem j609:Ok e609 [e340,e608]:=by decide +kernel
theorem j610:Ok e610 [e53,e340,e568]:=by decide +kernel
theorem j611:Ok e611 [e340,e610]:=by decide +kernel
theorem j612:Ok e612 [e340,e541,e611]:=by decide +kernel
theorem j613:Ok e613 [e51,e60,e61,e64,e149,e152,e153,e192,e612]:=by decide +kernel
theorem j614:Ok e614 [e51,e340,e613]:=by decide +kernel
theorem j615:Ok e615 [e85,e88,e90,e91,e94,e95,e163,e196,e545]:=by decide +kernel
theorem j616:Ok e616 [e340]:=by decide +kernel
theorem j617:Ok e617 [e53,e340,e616]:=by decide +kernel
theorem j618:Ok e618 [e340,e617]:=by decide +kernel
theorem j619:Ok e619 [e340,e550,e618]:=by decide +kernel
theorem j620:Ok e620 [e61,e64,e104,e110,e149,e152,e153,e192,e619]:=by decide +kernel
theorem j621:Ok e621 [e104,e340,e620]:=by decide +kernel
theorem j622:Ok e622 [e340]:=by decide +kernel
theorem j623:Ok e623 [e53,e340,e622]:=by decide +kernel
theorem j624:Ok e624 [e340,e623]:=by decide +kernel
theorem j625:Ok e625 [e340,e559,e624]:=by decide +kernel
theorem j626:Ok e626 [e0,e2,e340]:=by decide +kernel
theorem j627:Ok e627 [e340]:=by decide +kernel
end Go.Proofs.YtfdgbmkpmjkccaaGreatDoor
