/-
  Calls that are known by a run each over a small memory, whatever the numbers are that it does not tell.
  Conditions: none.
-/
import Derived.Test.YtfdgbmkpmjkccaaGreatDoorKnY01
open Go Go.Ab
namespace Go.Proofs.YtfdgbmkpmjkccaaGreatDoor
theorem j341:Ok e341 [e0,e2,e340]:=by decide +kernel
theorem j342:Ok e342 [e340]:=by decide +kernel
theorem j343:Ok e343 [e12,e340,e342]:=by decide +kernel
theorem j344:Ok e344 [e340,e343]:=by decide +kernel
theorem j345:Ok e345 [e340]:=by decide +kernel
theorem j346:Ok e346 [e34,e40,e41,e44,e45,e344,e345]:=by decide +kernel
theorem j347:Ok e347 []:=by decide +kernel
theorem j348:Ok e348 [e347]:=by decide +kernel
theorem j349:Ok e349 [e340,e342,e348]:=by decide +kernel
theorem j350:Ok e350 [e340,e349]:=by decide +kernel
theorem j353:Ok e353 []:=by decide +kernel
theorem j354:Ok e354 [e353]:=by decide +kernel
theorem j355:Ok e355 []:=by decide +kernel
theorem j356:Ok e356 []:=by decide +kernel
theorem j357:Ok e357 []:=by decide +kernel
theorem j358:Ok e358 [e356,e357]:=by decide +kernel
theorem j359:Ok e359 []:=by decide +kernel
theorem j360:Ok e360 [e359]:=by decide +kernel
theorem j361:Ok e361 []:=by decide +kernel
theorem j362:Ok e362 []:=by decide +kernel
theorem j363:Ok e363 []:=by decide +kernel
theorem j364:Ok e364 [e362,e363]:=by decide +kernel
theorem j365:Ok e365 []:=by decide +kernel
theorem j367:Ok e367 [e51,e340,e350,e354,e355,e358,e360,e361,e364,e365]:=by decide +kernel
theorem j368:Ok e368 []:=by decide +kernel
theorem j369:Ok e369 [e363,e368]:=by decide +kernel
theorem j370:Ok e370 []:=by decide +kernel
theorem j371:Ok e371 []:=by decide +kernel
theorem j372:Ok e372 [e370,e371]:=by decide +kernel
theorem j373:Ok e373 []:=by decide +kernel
theorem j374:Ok e374 []:=by decide +kernel
theorem j375:Ok e375 [e373,e374]:=by decide +kernel
theorem j376:Ok e376 [e340]:=by decide +kernel
theorem j377:Ok e377 []:=by decide +kernel
theorem j378:Ok e378 [e377]:=by decide +kernel
theorem j379:Ok e379 []:=by decide +kernel
theorem j380:Ok e380 []:=by decide +kernel
theorem j381:Ok e381 []:=by decide +kernel
theorem j382:Ok e382 [e380,e381]:=by decide +kernel
end Go.Proofs.YtfdgbmkpmjkccaaGreatDoor
