/-
  Calls that are known by a run each over a small memory, whatever the numbers are that it does not tell.
  Conditions: none.
-/
import Derived.Test.YtfdgbmkpmjkccaaGreatDoorKnY01
open Go Go.Ab
namespace Go.Proofs.YtfdgbmkpmjkccaaGreatDoor
theorem j628:Ok e628 [e12,e340,e627]:=by decide +kernel
theorem j629:Ok e629 [e340,e628]:=by decide +kernel
theorem j630:Ok e630 [e34,e40,e41,e44,e45,e345,e629]:=by decide +kernel
theorem j631:Ok e631 [e340]:=by decide +kernel
theorem j632:Ok e632 [e53,e340,e631]:=by decide +kernel
theorem j633:Ok e633 [e340,e632]:=by decide +kernel
theorem j636:Ok e636 [e51,e60,e61,e64,e66,e67,e70,e71,e340,e633]:=by decide +kernel
theorem j637:Ok e637 [e81,e84,e85,e88,e90,e91,e94,e95,e490]:=by decide +kernel
theorem j638:Ok e638 [e340]:=by decide +kernel
theorem j639:Ok e639 [e53,e340,e638]:=by decide +kernel
theorem j640:Ok e640 [e340,e639]:=by decide +kernel
theorem j641:Ok e641 [e340,e495,e640]:=by decide +kernel
theorem j642:Ok e642 [e61,e64,e66,e67,e70,e71,e104,e110,e641]:=by decide +kernel
theorem j643:Ok e643 [e104,e340,e642]:=by decide +kernel
theorem j644:Ok e644 [e81,e84,e85,e88,e115,e116,e119,e120,e499]:=by decide +kernel
theorem j645:Ok e645 [e340]:=by decide +kernel
theorem j646:Ok e646 [e53,e340,e645]:=by decide +kernel
theorem j647:Ok e647 [e340,e646]:=by decide +kernel
theorem j648:Ok e648 [e340,e504,e647]:=by decide +kernel
theorem j649:Ok e649 [e81,e84,e85,e88,e116,e119,e120,e131,e506]:=by decide +kernel
theorem j650:Ok e650 [e340]:=by decide +kernel
theorem j651:Ok e651 [e12,e340,e650]:=by decide +kernel
theorem j652:Ok e652 [e340,e651]:=by decide +kernel
theorem j653:Ok e653 [e41,e44,e45,e136,e141,e410,e652]:=by decide +kernel
theorem j654:Ok e654 [e53,e340,e631]:=by decide +kernel
theorem j655:Ok e655 [e340,e654]:=by decide +kernel
theorem j656:Ok e656 [e340,e514,e655]:=by decide +kernel
theorem j657:Ok e657 [e51,e60,e61,e64,e148,e149,e152,e153,e656]:=by decide +kernel
theorem j658:Ok e658 [e51,e340,e657]:=by decide +kernel
end Go.Proofs.YtfdgbmkpmjkccaaGreatDoor
