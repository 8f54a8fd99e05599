/-
  Calls that are known by a run each over a small memory, whatever the numbers are that it does not tell.
  Conditions: none.
-/
import Derived.Test.YtfdgbmkpmjkccaaGreatDoorKnY01
open Go Go.Ab
namespace Go.Proofs.YtfdgbmkpmjkccaaGreatDoor
theorem j274:Ok e274 [e28,e53,e273]:=by decide +kernel
theorem j275:Ok e275 [e28,e274]:=by decide +kernel
theorem j276:Ok e276 [e28,e210,e275]:=by decide +kernel
theorem j277:Ok e277 [e0,e2,e28]:=by decide +kernel
theorem j278:Ok e278 [e28]:=by decide +kernel
theorem j279:Ok e279 [e12,e28,e278]:=by decide +kernel
theorem j280:Ok e280 [e28,e279]:=by decide +kernel
theorem j281:Ok e281 [e34,e38,e40,e41,e44,e45,e280]:=by decide +kernel
theorem j282:Ok e282 [e28]:=by decide +kernel
theorem j283:Ok e283 [e28,e53,e282]:=by decide +kernel
theorem j284:Ok e284 [e28,e283]:=by decide +kernel
theorem j287:Ok e287 [e28,e51,e60,e61,e64,e66,e67,e70,e71,e284]:=by decide +kernel
theorem j288:Ok e288 [e81,e82,e84,e85,e88,e90,e91,e94,e95]:=by decide +kernel
theorem j289:Ok e289 [e28]:=by decide +kernel
theorem j290:Ok e290 [e28,e53,e289]:=by decide +kernel
theorem j291:Ok e291 [e28,e290]:=by decide +kernel
theorem j292:Ok e292 [e28,e108,e291]:=by decide +kernel
theorem j293:Ok e293 [e61,e64,e66,e67,e70,e71,e104,e110,e292]:=by decide +kernel
theorem j294:Ok e294 [e28,e104,e293]:=by decide +kernel
theorem j295:Ok e295 [e81,e84,e85,e88,e113,e115,e116,e119,e120]:=by decide +kernel
theorem j296:Ok e296 [e28]:=by decide +kernel
theorem j297:Ok e297 [e28,e53,e296]:=by decide +kernel
theorem j298:Ok e298 [e28,e297]:=by decide +kernel
theorem j299:Ok e299 [e28,e127,e298]:=by decide +kernel
theorem j300:Ok e300 [e81,e84,e85,e88,e116,e119,e120,e130,e131]:=by decide +kernel
theorem j301:Ok e301 [e28]:=by decide +kernel
theorem j302:Ok e302 [e12,e28,e301]:=by decide +kernel
theorem j303:Ok e303 [e28,e302]:=by decide +kernel
theorem j304:Ok e304 [e41,e44,e45,e136,e140,e141,e303]:=by decide +kernel
theorem j305:Ok e305 [e28,e53,e282]:=by decide +kernel
theorem j306:Ok e306 [e28,e305]:=by decide +kernel
end Go.Proofs.YtfdgbmkpmjkccaaGreatDoor
