/-
  Calls that are known by a run each over a small memory, whatever the numbers are that it does not tell.
  Conditions: none.
-/
import Derived.Test.YtfdgbmkpmjkccaaGreatDoorKnY01
open Go Go.Ab
namespace Go.Proofs.YtfdgbmkpmjkccaaGreatDoor
theorem j659:Ok e659 [e85,e88,e90,e91,e94,e95,e163,e165,e518]:=by decide +kernel
theorem j660:Ok e660 [e340]:=by decide +kernel
theorem j661:Ok e661 [e53,e340,e660]:=by decide +kernel
theorem j662:Ok e662 [e340,e661]:=by decide +kernel
theorem j663:Ok e663 [e340,e523,e662]:=by decide +kernel
theorem j664:Ok e664 [e61,e64,e104,e110,e148,e149,e152,e153,e663]:=by decide +kernel
theorem j665:Ok e665 [e104,e340,e664]:=by decide +kernel
theorem j666:Ok e666 [e340]:=by decide +kernel
theorem j667:Ok e667 [e53,e340,e666]:=by decide +kernel
theorem j668:Ok e668 [e340,e667]:=by decide +kernel
theorem j669:Ok e669 [e340,e532,e668]:=by decide +kernel
theorem j670:Ok e670 [e340]:=by decide +kernel
theorem j671:Ok e671 [e12,e340,e670]:=by decide +kernel
theorem j672:Ok e672 [e340,e671]:=by decide +kernel
theorem j673:Ok e673 [e53,e340,e631]:=by decide +kernel
theorem j674:Ok e674 [e340,e673]:=by decide +kernel
theorem j675:Ok e675 [e340,e541,e674]:=by decide +kernel
theorem j676:Ok e676 [e51,e60,e61,e64,e149,e152,e153,e192,e675]:=by decide +kernel
theorem j677:Ok e677 [e51,e340,e676]:=by decide +kernel
theorem j678:Ok e678 [e85,e88,e90,e91,e94,e95,e163,e196,e545]:=by decide +kernel
theorem j679:Ok e679 [e340]:=by decide +kernel
theorem j680:Ok e680 [e53,e340,e679]:=by decide +kernel
theorem j681:Ok e681 [e340,e680]:=by decide +kernel
theorem j682:Ok e682 [e340,e550,e681]:=by decide +kernel
theorem j683:Ok e683 [e61,e64,e104,e110,e149,e152,e153,e192,e682]:=by decide +kernel
theorem j684:Ok e684 [e104,e340,e683]:=by decide +kernel
theorem j685:Ok e685 [e340]:=by decide +kernel
theorem j686:Ok e686 [e53,e340,e685]:=by decide +kernel
theorem j687:Ok e687 [e340,e686]:=by decide +kernel
theorem j688:Ok e688 [e340,e559,e687]:=by decide +kernel
theorem j689:Ok e689 []:=by decide +kernel
theorem j690:Ok e690 [e0,e2,e689]:=by decide +kernel
theorem j691:Ok e691 [e689]:=by decide +kernel
end Go.Proofs.YtfdgbmkpmjkccaaGreatDoor
