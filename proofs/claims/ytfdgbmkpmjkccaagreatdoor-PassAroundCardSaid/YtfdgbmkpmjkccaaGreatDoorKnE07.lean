/-
  Calls that are known by a run each over a small memory, whatever the numbers are that it does not tell.
  Conditions: none.
-/
import Derived.Test.YtfdgbmkpmjkccaaGreatDoorKnY01
open Go Go.Ab
namespace Go.Proofs.YtfdgbmkpmjkccaaGreatDoor
theorem j240:Ok e240 [e28,e239]:=by decide +kernel
theorem j241:Ok e241 [e41,e44,e45,e136,e140,e141,e240]:=by decide +kernel
theorem j242:Ok e242 [e28,e53,e219]:=by decide +kernel
theorem j243:Ok e243 [e28,e242]:=by decide +kernel
theorem j244:Ok e244 [e28,e145,e243]:=by decide +kernel
theorem j245:Ok e245 [e51,e60,e61,e64,e148,e149,e152,e153,e244]:=by decide +kernel
theorem j246:Ok e246 [e28,e51,e245]:=by decide +kernel
theorem j247:Ok e247 [e85,e88,e90,e91,e94,e95,e163,e164,e165]:=by decide +kernel
theorem j248:Ok e248 [e28]:=by decide +kernel
theorem j249:Ok e249 [e28,e53,e248]:=by decide +kernel
theorem j250:Ok e250 [e28,e249]:=by decide +kernel
theorem j251:Ok e251 [e28,e170,e250]:=by decide +kernel
theorem j252:Ok e252 [e61,e64,e104,e110,e148,e149,e152,e153,e251]:=by decide +kernel
theorem j253:Ok e253 [e28,e104,e252]:=by decide +kernel
theorem j254:Ok e254 [e28]:=by decide +kernel
theorem j255:Ok e255 [e28,e53,e254]:=by decide +kernel
theorem j256:Ok e256 [e28,e255]:=by decide +kernel
theorem j257:Ok e257 [e28,e179,e256]:=by decide +kernel
theorem j258:Ok e258 [e28]:=by decide +kernel
theorem j259:Ok e259 [e12,e28,e258]:=by decide +kernel
theorem j260:Ok e260 [e28,e259]:=by decide +kernel
theorem j261:Ok e261 [e28,e53,e219]:=by decide +kernel
theorem j262:Ok e262 [e28,e261]:=by decide +kernel
theorem j263:Ok e263 [e28,e190,e262]:=by decide +kernel
theorem j264:Ok e264 [e51,e60,e61,e64,e149,e152,e153,e192,e263]:=by decide +kernel
theorem j265:Ok e265 [e28,e51,e264]:=by decide +kernel
theorem j266:Ok e266 [e85,e88,e90,e91,e94,e95,e163,e195,e196]:=by decide +kernel
theorem j267:Ok e267 [e28]:=by decide +kernel
theorem j268:Ok e268 [e28,e53,e267]:=by decide +kernel
theorem j269:Ok e269 [e28,e268]:=by decide +kernel
theorem j270:Ok e270 [e28,e201,e269]:=by decide +kernel
theorem j271:Ok e271 [e61,e64,e104,e110,e149,e152,e153,e192,e270]:=by decide +kernel
theorem j272:Ok e272 [e28,e104,e271]:=by decide +kernel
theorem j273:Ok e273 [e28]:=by decide +kernel
end Go.Proofs.YtfdgbmkpmjkccaaGreatDoor
