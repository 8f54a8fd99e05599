/-
  Calls that are known by a run each over a small memory, whatever the numbers are that it does not tell.
  Conditions: none.
-/
import Derived.Test.YtfdgbmkpmjkccaaGreatDoorKnY01
open Go Go.Ab
namespace Go.Proofs.YtfdgbmkpmjkccaaGreatDoor
theorem j692:Ok e692 [e12,e689,e691]:=by decide +kernel
theorem j693:Ok e693 [e689,e692]:=by decide +kernel
theorem j694:Ok e694 [e689]:=by decide +kernel
theorem j695:Ok e695 [e34,e40,e41,e44,e45,e693,e694]:=by decide +kernel
theorem j696:Ok e696 [e34,e689,e695]:=by decide +kernel
theorem j697:Ok e697 [e348,e689,e691]:=by decide +kernel
theorem j698:Ok e698 [e689,e697]:=by decide +kernel
theorem j702:Ok e702 [e51,e354,e355,e358,e360,e361,e364,e365,e689,e698]:=by decide +kernel
theorem j703:Ok e703 [e689]:=by decide +kernel
theorem j704:Ok e704 [e91,e94,e95,e375,e378,e379,e382,e384,e703]:=by decide +kernel
theorem j705:Ok e705 [e689]:=by decide +kernel
theorem j706:Ok e706 [e348,e689,e705]:=by decide +kernel
theorem j707:Ok e707 [e689,e706]:=by decide +kernel
theorem j708:Ok e708 [e689]:=by decide +kernel
theorem j709:Ok e709 [e689,e707,e708]:=by decide +kernel
theorem j710:Ok e710 [e104,e355,e358,e360,e361,e364,e365,e391,e709]:=by decide +kernel
theorem j711:Ok e711 [e104,e689,e710]:=by decide +kernel
theorem j712:Ok e712 [e689]:=by decide +kernel
theorem j713:Ok e713 [e116,e119,e120,e375,e378,e379,e382,e396,e712]:=by decide +kernel
theorem j714:Ok e714 [e689]:=by decide +kernel
theorem j715:Ok e715 [e348,e689,e714]:=by decide +kernel
theorem j716:Ok e716 [e689,e715]:=by decide +kernel
theorem j717:Ok e717 [e689]:=by decide +kernel
theorem j718:Ok e718 [e689,e716,e717]:=by decide +kernel
theorem j719:Ok e719 [e689]:=by decide +kernel
theorem j720:Ok e720 [e116,e119,e120,e375,e378,e379,e382,e405,e719]:=by decide +kernel
theorem j721:Ok e721 [e689]:=by decide +kernel
theorem j722:Ok e722 [e12,e689,e721]:=by decide +kernel
theorem j723:Ok e723 [e689,e722]:=by decide +kernel
theorem j724:Ok e724 [e689]:=by decide +kernel
theorem j725:Ok e725 [e41,e44,e45,e136,e141,e723,e724]:=by decide +kernel
theorem j726:Ok e726 [e136,e689,e725]:=by decide +kernel
end Go.Proofs.YtfdgbmkpmjkccaaGreatDoor
