/-
  Calls that are known by a run each over a small memory, whatever the numbers are that it does not tell.
  Conditions: none.
-/
import Derived.Test.YtfdgbmkpmjkccaaGreatDoorKnY01
open Go Go.Ab
namespace Go.Proofs.YtfdgbmkpmjkccaaGreatDoor
theorem j727:Ok e727 [e348,e689,e691]:=by decide +kernel
theorem j728:Ok e728 [e689,e727]:=by decide +kernel
theorem j729:Ok e729 [e689]:=by decide +kernel
theorem j730:Ok e730 [e689,e728,e729]:=by decide +kernel
theorem j731:Ok e731 [e51,e354,e355,e358,e417,e418,e421,e422,e730]:=by decide +kernel
theorem j732:Ok e732 [e51,e689,e731]:=by decide +kernel
theorem j733:Ok e733 [e689]:=by decide +kernel
theorem j734:Ok e734 [e91,e94,e95,e379,e382,e384,e432,e434,e733]:=by decide +kernel
theorem j735:Ok e735 [e348,e689,e705]:=by decide +kernel
theorem j736:Ok e736 [e689,e735]:=by decide +kernel
theorem j737:Ok e737 [e689]:=by decide +kernel
theorem j738:Ok e738 [e689,e736,e737]:=by decide +kernel
theorem j739:Ok e739 [e104,e355,e358,e391,e417,e418,e421,e422,e738]:=by decide +kernel
theorem j740:Ok e740 [e104,e689,e739]:=by decide +kernel
theorem j741:Ok e741 [e689]:=by decide +kernel
theorem j742:Ok e742 [e116,e119,e120,e379,e382,e396,e432,e434,e741]:=by decide +kernel
theorem j743:Ok e743 [e348,e689,e714]:=by decide +kernel
theorem j744:Ok e744 [e689,e743]:=by decide +kernel
theorem j745:Ok e745 [e689]:=by decide +kernel
theorem j746:Ok e746 [e689,e744,e745]:=by decide +kernel
theorem j747:Ok e747 [e689]:=by decide +kernel
theorem j748:Ok e748 [e116,e119,e120,e379,e382,e405,e432,e434,e747]:=by decide +kernel
theorem j749:Ok e749 [e689]:=by decide +kernel
theorem j750:Ok e750 [e12,e689,e749]:=by decide +kernel
theorem j751:Ok e751 [e689,e750]:=by decide +kernel
theorem j752:Ok e752 [e689]:=by decide +kernel
theorem j753:Ok e753 [e348,e689,e691]:=by decide +kernel
theorem j754:Ok e754 [e689,e753]:=by decide +kernel
theorem j755:Ok e755 [e689]:=by decide +kernel
theorem j756:Ok e756 [e689,e754,e755]:=by decide +kernel
theorem j757:Ok e757 [e51,e354,e355,e358,e418,e421,e422,e458,e756]:=by decide +kernel
theorem j758:Ok e758 [e51,e689,e757]:=by decide +kernel
theorem j759:Ok e759 [e689]:=by decide +kernel
theorem j760:Ok e760 [e91,e94,e95,e379,e382,e384,e432,e462,e759]:=by decide +kernel
end Go.Proofs.YtfdgbmkpmjkccaaGreatDoor
