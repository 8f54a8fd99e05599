/-
  Calls that are known by a run each over a small memory, whatever the numbers are that it does not tell.
  Conditions: none.
-/
import Derived.Test.YtfdgbmkpmjkccaaGreatDoorKnY01
open Go Go.Ab
namespace Go.Proofs.YtfdgbmkpmjkccaaGreatDoor
theorem j307:Ok e307 [e28,e145,e306]:=by decide +kernel
theorem j308:Ok e308 [e51,e60,e61,e64,e148,e149,e152,e153,e307]:=by decide +kernel
theorem j309:Ok e309 [e28,e51,e308]:=by decide +kernel
theorem j310:Ok e310 [e85,e88,e90,e91,e94,e95,e163,e164,e165]:=by decide +kernel
theorem j311:Ok e311 [e28]:=by decide +kernel
theorem j312:Ok e312 [e28,e53,e311]:=by decide +kernel
theorem j313:Ok e313 [e28,e312]:=by decide +kernel
theorem j314:Ok e314 [e28,e170,e313]:=by decide +kernel
theorem j315:Ok e315 [e61,e64,e104,e110,e148,e149,e152,e153,e314]:=by decide +kernel
theorem j316:Ok e316 [e28,e104,e315]:=by decide +kernel
theorem j317:Ok e317 [e28]:=by decide +kernel
theorem j318:Ok e318 [e28,e53,e317]:=by decide +kernel
theorem j319:Ok e319 [e28,e318]:=by decide +kernel
theorem j320:Ok e320 [e28,e179,e319]:=by decide +kernel
theorem j321:Ok e321 [e28]:=by decide +kernel
theorem j322:Ok e322 [e12,e28,e321]:=by decide +kernel
theorem j323:Ok e323 [e28,e322]:=by decide +kernel
theorem j324:Ok e324 [e28,e53,e282]:=by decide +kernel
theorem j325:Ok e325 [e28,e324]:=by decide +kernel
theorem j326:Ok e326 [e28,e190,e325]:=by decide +kernel
theorem j327:Ok e327 [e51,e60,e61,e64,e149,e152,e153,e192,e326]:=by decide +kernel
theorem j328:Ok e328 [e28,e51,e327]:=by decide +kernel
theorem j329:Ok e329 [e85,e88,e90,e91,e94,e95,e163,e195,e196]:=by decide +kernel
theorem j330:Ok e330 [e28]:=by decide +kernel
theorem j331:Ok e331 [e28,e53,e330]:=by decide +kernel
theorem j332:Ok e332 [e28,e331]:=by decide +kernel
theorem j333:Ok e333 [e28,e201,e332]:=by decide +kernel
theorem j334:Ok e334 [e61,e64,e104,e110,e149,e152,e153,e192,e333]:=by decide +kernel
theorem j335:Ok e335 [e28,e104,e334]:=by decide +kernel
theorem j336:Ok e336 [e28]:=by decide +kernel
theorem j337:Ok e337 [e28,e53,e336]:=by decide +kernel
theorem j338:Ok e338 [e28,e337]:=by decide +kernel
theorem j339:Ok e339 [e28,e210,e338]:=by decide +kernel
theorem j340:Ok e340 []:=by decide +kernel
end Go.Proofs.YtfdgbmkpmjkccaaGreatDoor
