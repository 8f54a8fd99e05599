/-
  Calls that are known by a run each over a small memory, whatever the numbers are that it does not tell.
  Conditions: none.
-/
import Derived.Test.YtfdgbmkpmjkccaaGreatDoorKnY01
open Go Go.Ab
namespace Go.Proofs.YtfdgbmkpmjkccaaGreatDoor
theorem j761:Ok e761 [e348,e689,e705]:=by decide +kernel
theorem j762:Ok e762 [e689,e761]:=by decide +kernel
theorem j763:Ok e763 [e689]:=by decide +kernel
theorem j764:Ok e764 [e689,e762,e763]:=by decide +kernel
theorem j765:Ok e765 [e104,e355,e358,e391,e418,e421,e422,e458,e764]:=by decide +kernel
theorem j766:Ok e766 [e104,e689,e765]:=by decide +kernel
theorem j767:Ok e767 [e689]:=by decide +kernel
theorem j768:Ok e768 [e116,e119,e120,e379,e382,e396,e432,e462,e767]:=by decide +kernel
theorem j769:Ok e769 [e348,e689,e714]:=by decide +kernel
theorem j770:Ok e770 [e689,e769]:=by decide +kernel
theorem j771:Ok e771 [e689]:=by decide +kernel
theorem j772:Ok e772 [e689,e770,e771]:=by decide +kernel
theorem j773:Ok e773 [e689]:=by decide +kernel
theorem j774:Ok e774 [e116,e119,e120,e379,e382,e405,e432,e462,e773]:=by decide +kernel
theorem j775:Ok e775 [e0,e2,e689]:=by decide +kernel
theorem j776:Ok e776 [e689]:=by decide +kernel
theorem j777:Ok e777 [e12,e689,e776]:=by decide +kernel
theorem j778:Ok e778 [e689,e777]:=by decide +kernel
theorem j779:Ok e779 [e34,e40,e41,e44,e45,e694,e778]:=by decide +kernel
theorem j780:Ok e780 [e34,e689,e779]:=by decide +kernel
theorem j781:Ok e781 [e689]:=by decide +kernel
theorem j782:Ok e782 [e53,e689,e781]:=by decide +kernel
theorem j783:Ok e783 [e689,e782]:=by decide +kernel
theorem j787:Ok e787 [e51,e60,e61,e64,e66,e67,e70,e71,e689,e783]:=by decide +kernel
theorem j788:Ok e788 [e689]:=by decide +kernel
theorem j789:Ok e789 [e81,e84,e85,e88,e90,e91,e94,e95,e788]:=by decide +kernel
theorem j790:Ok e790 [e689]:=by decide +kernel
theorem j791:Ok e791 [e53,e689,e790]:=by decide +kernel
theorem j792:Ok e792 [e689,e791]:=by decide +kernel
theorem j793:Ok e793 [e689]:=by decide +kernel
theorem j794:Ok e794 [e689,e792,e793]:=by decide +kernel
theorem j795:Ok e795 [e61,e64,e66,e67,e70,e71,e104,e110,e794]:=by decide +kernel
end Go.Proofs.YtfdgbmkpmjkccaaGreatDoor
