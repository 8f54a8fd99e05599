/-
  Calls that are known by a run each over a small memory, whatever the numbers are that it does not tell.
  Conditions: none.
-/
import Derived.Test.YtfdgbmkpmjkccaaGreatDoorKnY01
open Go Go.Ab
namespace Go.Proofs.YtfdgbmkpmjkccaaGreatDoor
theorem j206:Ok e206 [e85,e88,e115,e116,e119,e120,e163,e196,e205]:=by decide +kernel
theorem j207:Ok e207 [e28]:=by decide +kernel
theorem j208:Ok e208 [e28,e53,e207]:=by decide +kernel
theorem j209:Ok e209 [e28,e208]:=by decide +kernel
theorem j210:Ok e210 [e28]:=by decide +kernel
theorem j211:Ok e211 [e28,e209,e210]:=by decide +kernel
theorem j212:Ok e212 [e28]:=by decide +kernel
theorem j213:Ok e213 [e85,e88,e116,e119,e120,e131,e163,e196,e212]:=by decide +kernel
theorem j214:Ok e214 [e0,e2,e28]:=by decide +kernel
theorem j215:Ok e215 [e28]:=by decide +kernel
theorem j216:Ok e216 [e12,e28,e215]:=by decide +kernel
theorem j217:Ok e217 [e28,e216]:=by decide +kernel
theorem j218:Ok e218 [e34,e38,e40,e41,e44,e45,e217]:=by decide +kernel
theorem j219:Ok e219 [e28]:=by decide +kernel
theorem j220:Ok e220 [e28,e53,e219]:=by decide +kernel
theorem j221:Ok e221 [e28,e220]:=by decide +kernel
theorem j224:Ok e224 [e28,e51,e60,e61,e64,e66,e67,e70,e71,e221]:=by decide +kernel
theorem j225:Ok e225 [e81,e82,e84,e85,e88,e90,e91,e94,e95]:=by decide +kernel
theorem j226:Ok e226 [e28]:=by decide +kernel
theorem j227:Ok e227 [e28,e53,e226]:=by decide +kernel
theorem j228:Ok e228 [e28,e227]:=by decide +kernel
theorem j229:Ok e229 [e28,e108,e228]:=by decide +kernel
theorem j230:Ok e230 [e61,e64,e66,e67,e70,e71,e104,e110,e229]:=by decide +kernel
theorem j231:Ok e231 [e28,e104,e230]:=by decide +kernel
theorem j232:Ok e232 [e81,e84,e85,e88,e113,e115,e116,e119,e120]:=by decide +kernel
theorem j233:Ok e233 [e28]:=by decide +kernel
theorem j234:Ok e234 [e28,e53,e233]:=by decide +kernel
theorem j235:Ok e235 [e28,e234]:=by decide +kernel
theorem j236:Ok e236 [e28,e127,e235]:=by decide +kernel
theorem j237:Ok e237 [e81,e84,e85,e88,e116,e119,e120,e130,e131]:=by decide +kernel
theorem j238:Ok e238 [e28]:=by decide +kernel
theorem j239:Ok e239 [e12,e28,e238]:=by decide +kernel
end Go.Proofs.YtfdgbmkpmjkccaaGreatDoor
