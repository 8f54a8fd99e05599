/-
  Calls that are known by a run each over a small memory, whatever the numbers are that it does not tell.
  Conditions: none.
-/
import Derived.Test.YtfdgbmkpmjkccaaGreatDoorKnY01
open Go Go.Ab
namespace Go.Proofs.YtfdgbmkpmjkccaaGreatDoor
theorem j383:Ok e383 []:=by decide +kernel
theorem j384:Ok e384 [e383]:=by decide +kernel
theorem j385:Ok e385 [e91,e94,e95,e375,e376,e378,e379,e382,e384]:=by decide +kernel
theorem j386:Ok e386 [e340]:=by decide +kernel
theorem j387:Ok e387 [e340,e348,e386]:=by decide +kernel
theorem j388:Ok e388 [e340,e387]:=by decide +kernel
theorem j389:Ok e389 [e340]:=by decide +kernel
theorem j390:Ok e390 [e340,e388,e389]:=by decide +kernel
theorem j391:Ok e391 [e353]:=by decide +kernel
theorem j392:Ok e392 [e104,e355,e358,e360,e361,e364,e365,e390,e391]:=by decide +kernel
theorem j393:Ok e393 [e104,e340,e392]:=by decide +kernel
theorem j394:Ok e394 [e340]:=by decide +kernel
theorem j395:Ok e395 []:=by decide +kernel
theorem j396:OkF e396 [e395] (.go 21 (.split ⟨true, (.sub (.const 65535) (.add (.rem (.add (.add (.add (.var 1 0 255) (.mul (.const 256) (.var 2 0 255))) (.var 3 0 255)) (.const 105882)) 65535) (.const 1))), (.const 0), true⟩ (.go 5 (.ren [])) (.go 5 (.ren [])))):=by decide +kernel
theorem j397:Ok e397 [e116,e119,e120,e375,e378,e379,e382,e394,e396]:=by decide +kernel
theorem j398:Ok e398 [e340]:=by decide +kernel
theorem j399:Ok e399 [e340,e348,e398]:=by decide +kernel
theorem j400:Ok e400 [e340,e399]:=by decide +kernel
theorem j401:Ok e401 [e340]:=by decide +kernel
theorem j402:Ok e402 [e340,e400,e401]:=by decide +kernel
theorem j403:Ok e403 [e353]:=by decide +kernel
theorem j404:Ok e404 [e340]:=by decide +kernel
theorem j405:OkF e405 [e395] (.go 21 (.split ⟨true, (.sub (.const 65535) (.add (.rem (.add (.add (.add (.var 1 0 255) (.mul (.const 256) (.var 2 0 255))) (.var 3 0 255)) (.const 105882)) 65535) (.const 1))), (.const 0), true⟩ (.go 5 (.ren [])) (.go 5 (.ren [])))):=by decide +kernel
theorem j406:Ok e406 [e116,e119,e120,e375,e378,e379,e382,e404,e405]:=by decide +kernel
theorem j407:Ok e407 [e340]:=by decide +kernel
theorem j408:Ok e408 [e12,e340,e407]:=by decide +kernel
theorem j409:Ok e409 [e340,e408]:=by decide +kernel
theorem j410:Ok e410 [e340]:=by decide +kernel
theorem j411:Ok e411 [e41,e44,e45,e136,e141,e409,e410]:=by decide +kernel
theorem j412:Ok e412 [e340,e342,e348]:=by decide +kernel
theorem j413:Ok e413 [e340,e412]:=by decide +kernel
theorem j414:Ok e414 [e340]:=by decide +kernel
theorem j415:Ok e415 [e340,e413,e414]:=by decide +kernel
theorem j416:Ok e416 []:=by decide +kernel
theorem j417:OkF e417 [e416] (.go 21 (.split ⟨true, (.sub (.const 65535) (.add (.rem (.add (.add (.add (.var 1 0 255) (.mul (.const 256) (.var 2 0 255))) (.var 3 0 255)) (.const 71321)) 65535) (.const 1))), (.const 0), true⟩ (.go 5 (.ren [])) (.go 5 (.ren [])))):=by decide +kernel
theorem j418:Ok e418 []:=by decide +kernel
theorem j419:Ok e419 []:=by decide +kernel
theorem j420:Ok e420 []:=by decide +kernel
end Go.Proofs.YtfdgbmkpmjkccaaGreatDoor
