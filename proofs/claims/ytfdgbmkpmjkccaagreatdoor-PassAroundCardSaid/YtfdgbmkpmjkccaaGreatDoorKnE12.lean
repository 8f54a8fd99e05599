/-
  Calls that are known by a run each over a small memory, whatever the numbers are that it does not tell.
  Conditions: none.
-/
import Derived.Test.YtfdgbmkpmjkccaaGreatDoorKnY01
open Go Go.Ab
namespace Go.Proofs.YtfdgbmkpmjkccaaGreatDoor
theorem j421:Ok e421 [e419,e420]:=by decide +kernel
theorem j422:Ok e422 []:=by decide +kernel
theorem j423:Ok e423 [e51,e354,e355,e358,e415,e417,e418,e421,e422]:=by decide +kernel
theorem j424:Ok e424 [e51,e340,e423]:=by decide +kernel
theorem j425:Ok e425 []:=by decide +kernel
theorem j426:Ok e426 [e420,e425]:=by decide +kernel
theorem j428:OkF e428 [] (.go 131 (.split ⟨true, (.sub (.const 65535) (.add (.rem (.add (.add (.var 0 0 65535) (.var 1 0 65535)) (.const 104858)) 65535) (.const 1))), (.const 0), true⟩ (.go 9 (.ren [(37, 37)])) (.go 9 (.ren [(37, 37)])))):=by decide +kernel
theorem j429:Ok e429 []:=by decide +kernel
theorem j430:Ok e430 []:=by decide +kernel
theorem j431:Ok e431 []:=by decide +kernel
theorem j432:Ok e432 [e430,e431]:=by decide +kernel
theorem j433:Ok e433 [e340]:=by decide +kernel
theorem j434:Ok e434 [e377]:=by decide +kernel
theorem j435:Ok e435 [e91,e94,e95,e379,e382,e384,e432,e433,e434]:=by decide +kernel
theorem j436:Ok e436 [e340,e348,e386]:=by decide +kernel
theorem j437:Ok e437 [e340,e436]:=by decide +kernel
theorem j438:Ok e438 [e340]:=by decide +kernel
theorem j439:Ok e439 [e340,e437,e438]:=by decide +kernel
theorem j440:Ok e440 [e104,e355,e358,e391,e417,e418,e421,e422,e439]:=by decide +kernel
theorem j441:Ok e441 [e104,e340,e440]:=by decide +kernel
theorem j442:Ok e442 [e340]:=by decide +kernel
theorem j443:Ok e443 [e116,e119,e120,e379,e382,e396,e432,e434,e442]:=by decide +kernel
theorem j444:Ok e444 [e340,e348,e398]:=by decide +kernel
theorem j445:Ok e445 [e340,e444]:=by decide +kernel
theorem j446:Ok e446 [e340]:=by decide +kernel
theorem j447:Ok e447 [e340,e445,e446]:=by decide +kernel
theorem j448:Ok e448 [e340]:=by decide +kernel
theorem j449:Ok e449 [e116,e119,e120,e379,e382,e405,e432,e434,e448]:=by decide +kernel
theorem j450:Ok e450 [e340]:=by decide +kernel
theorem j451:Ok e451 [e12,e340,e450]:=by decide +kernel
theorem j452:Ok e452 [e340,e451]:=by decide +kernel
theorem j453:Ok e453 [e340]:=by decide +kernel
theorem j454:Ok e454 [e340,e342,e348]:=by decide +kernel
theorem j455:Ok e455 [e340,e454]:=by decide +kernel
theorem j456:Ok e456 [e340]:=by decide +kernel
theorem j457:Ok e457 [e340,e455,e456]:=by decide +kernel
theorem j458:OkF e458 [e416] (.go 21 (.split ⟨true, (.sub (.const 65535) (.add (.rem (.add (.add (.add (.var 1 0 255) (.mul (.const 256) (.var 2 0 255))) (.var 3 0 255)) (.const 71321)) 65535) (.const 1))), (.const 0), true⟩ (.go 5 (.ren [])) (.go 5 (.ren [])))):=by decide +kernel
end Go.Proofs.YtfdgbmkpmjkccaaGreatDoor
