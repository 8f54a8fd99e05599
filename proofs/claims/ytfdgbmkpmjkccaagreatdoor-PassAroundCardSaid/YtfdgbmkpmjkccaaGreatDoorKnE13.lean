/-
  Calls that are known by a run each over a small memory, whatever the numbers are that it does not tell.
  Conditions: none.
-/
import Derived.Test.YtfdgbmkpmjkccaaGreatDoorKnY01
open Go Go.Ab
namespace Go.Proofs.YtfdgbmkpmjkccaaGreatDoor
theorem j459:Ok e459 [e51,e354,e355,e358,e418,e421,e422,e457,e458]:=by decide +kernel
theorem j460:Ok e460 [e51,e340,e459]:=by decide +kernel
theorem j461:Ok e461 [e340]:=by decide +kernel
theorem j462:Ok e462 [e377]:=by decide +kernel
theorem j463:Ok e463 [e91,e94,e95,e379,e382,e384,e432,e461,e462]:=by decide +kernel
theorem j464:Ok e464 [e340,e348,e386]:=by decide +kernel
theorem j465:Ok e465 [e340,e464]:=by decide +kernel
theorem j466:Ok e466 [e340]:=by decide +kernel
theorem j467:Ok e467 [e340,e465,e466]:=by decide +kernel
theorem j468:Ok e468 [e104,e355,e358,e391,e418,e421,e422,e458,e467]:=by decide +kernel
theorem j469:Ok e469 [e104,e340,e468]:=by decide +kernel
theorem j470:Ok e470 [e340]:=by decide +kernel
theorem j471:Ok e471 [e116,e119,e120,e379,e382,e396,e432,e462,e470]:=by decide +kernel
theorem j472:Ok e472 [e340,e348,e398]:=by decide +kernel
theorem j473:Ok e473 [e340,e472]:=by decide +kernel
theorem j474:Ok e474 [e340]:=by decide +kernel
theorem j475:Ok e475 [e340,e473,e474]:=by decide +kernel
theorem j476:Ok e476 [e340]:=by decide +kernel
theorem j477:Ok e477 [e116,e119,e120,e379,e382,e405,e432,e462,e476]:=by decide +kernel
theorem j478:Ok e478 [e0,e2,e340]:=by decide +kernel
theorem j479:Ok e479 [e340]:=by decide +kernel
theorem j480:Ok e480 [e12,e340,e479]:=by decide +kernel
theorem j481:Ok e481 [e340,e480]:=by decide +kernel
theorem j482:Ok e482 [e34,e40,e41,e44,e45,e345,e481]:=by decide +kernel
theorem j483:Ok e483 [e340]:=by decide +kernel
theorem j484:Ok e484 [e53,e340,e483]:=by decide +kernel
theorem j485:Ok e485 [e340,e484]:=by decide +kernel
theorem j489:Ok e489 [e51,e60,e61,e64,e66,e67,e70,e71,e340,e485]:=by decide +kernel
theorem j490:Ok e490 [e340]:=by decide +kernel
theorem j491:Ok e491 [e81,e84,e85,e88,e90,e91,e94,e95,e490]:=by decide +kernel
theorem j492:Ok e492 [e340]:=by decide +kernel
theorem j493:Ok e493 [e53,e340,e492]:=by decide +kernel
theorem j494:Ok e494 [e340,e493]:=by decide +kernel
end Go.Proofs.YtfdgbmkpmjkccaaGreatDoor
