/-
  Calls that are known by a run each over a small memory, whatever the numbers are that it does not tell.
  Conditions: none.
-/
import Derived.Test.YtfdgbmkpmjkccaaGreatDoorKnY01
open Go Go.Ab
namespace Go.Proofs.YtfdgbmkpmjkccaaGreatDoor
theorem j529:Ok e529 [e340]:=by decide +kernel
theorem j530:Ok e530 [e53,e340,e529]:=by decide +kernel
theorem j531:Ok e531 [e340,e530]:=by decide +kernel
theorem j532:Ok e532 [e340]:=by decide +kernel
theorem j533:Ok e533 [e340,e531,e532]:=by decide +kernel
theorem j534:Ok e534 [e340]:=by decide +kernel
theorem j535:Ok e535 [e85,e88,e116,e119,e120,e131,e163,e165,e534]:=by decide +kernel
theorem j536:Ok e536 [e340]:=by decide +kernel
theorem j537:Ok e537 [e12,e340,e536]:=by decide +kernel
theorem j538:Ok e538 [e340,e537]:=by decide +kernel
theorem j539:Ok e539 [e53,e340,e483]:=by decide +kernel
theorem j540:Ok e540 [e340,e539]:=by decide +kernel
theorem j541:Ok e541 [e340]:=by decide +kernel
theorem j542:Ok e542 [e340,e540,e541]:=by decide +kernel
theorem j543:Ok e543 [e51,e60,e61,e64,e149,e152,e153,e192,e542]:=by decide +kernel
theorem j544:Ok e544 [e51,e340,e543]:=by decide +kernel
theorem j545:Ok e545 [e340]:=by decide +kernel
theorem j546:Ok e546 [e85,e88,e90,e91,e94,e95,e163,e196,e545]:=by decide +kernel
theorem j547:Ok e547 [e340]:=by decide +kernel
theorem j548:Ok e548 [e53,e340,e547]:=by decide +kernel
theorem j549:Ok e549 [e340,e548]:=by decide +kernel
theorem j550:Ok e550 [e340]:=by decide +kernel
theorem j551:Ok e551 [e340,e549,e550]:=by decide +kernel
theorem j552:Ok e552 [e61,e64,e104,e110,e149,e152,e153,e192,e551]:=by decide +kernel
theorem j553:Ok e553 [e104,e340,e552]:=by decide +kernel
theorem j554:Ok e554 [e340]:=by decide +kernel
theorem j555:Ok e555 [e85,e88,e115,e116,e119,e120,e163,e196,e554]:=by decide +kernel
theorem j556:Ok e556 [e340]:=by decide +kernel
theorem j557:Ok e557 [e53,e340,e556]:=by decide +kernel
theorem j558:Ok e558 [e340,e557]:=by decide +kernel
theorem j559:Ok e559 [e340]:=by decide +kernel
theorem j560:Ok e560 [e340,e558,e559]:=by decide +kernel
theorem j561:Ok e561 [e340]:=by decide +kernel
theorem j562:Ok e562 [e85,e88,e116,e119,e120,e131,e163,e196,e561]:=by decide +kernel
end Go.Proofs.YtfdgbmkpmjkccaaGreatDoor
