/-
  The law's certificates, by classes of its arguments: they are good.
  Conditions: none.
-/
import Derived.Test.YtfdgbmkpmjkccaaGreatDoorKnY02
open Go Go.Ab
namespace Go.Proofs.YtfdgbmkpmjkccaaGreatDoor
theorem s0:Ck [e2000000] [] k0 a0 i0:=by decide +kernel
theorem s1:Ck [e2000000] [] k1 a1 i1:=by decide +kernel
theorem s2:Ck [e2000000] [] k2 a2 i1:=by decide +kernel
theorem s3:Ck [e2000000] [] k3 a3 i3:=by decide +kernel
theorem s4:Ck [e2000000] [] k4 a4 i4:=by decide +kernel
theorem s5:Ck [e2000000] [] k5 a5 i4:=by decide +kernel
theorem s6:Ck [e2000000] [] k6 a6 i3:=by decide +kernel
theorem s7:Ck [e2000000] [] k7 a7 i4:=by decide +kernel
theorem s8:Ck [e2000000] [] k8 a8 i4:=by decide +kernel
theorem s9:Ck [e28,e29,e30,e31,e34,e46,e47,e48,e73,e75,e78,e81,e96,e98,e2000000] [] k9 a9 i0:=by decide +kernel
theorem s10:Ck [e28,e29,e30,e31,e34,e46,e75,e78,e81,e100,e101,e112,e121,e123,e2000000] [] k10 a10 i10:=by decide +kernel
theorem s11:Ck [e28,e29,e30,e31,e34,e46,e61,e64,e66,e67,e70,e71,e75,e78,e81,e100,e101,e104,e123,e128,e129,e132,e2000000] [] k11 a11 i10:=by decide +kernel
theorem s12:Ck [e28,e29,e30,e48,e98,e100,e133,e136,e142,e155,e157,e159,e160,e163,e166,e2000000] [] k12 a12 i3:=by decide +kernel
theorem s13:Ck [e28,e29,e30,e100,e101,e123,e133,e136,e142,e157,e159,e160,e163,e173,e175,e2000000] [] k13 a13 i13:=by decide +kernel
theorem s14:Ck [e28,e29,e30,e61,e64,e100,e101,e104,e123,e129,e133,e136,e142,e148,e149,e152,e153,e157,e159,e160,e163,e180,e182,e2000000] [] k14 a14 i13:=by decide +kernel
theorem s15:Ck [e28,e29,e30,e41,e44,e45,e48,e98,e100,e133,e136,e157,e159,e160,e163,e185,e186,e187,e194,e197,e2000000] [] k15 a15 i3:=by decide +kernel
theorem s16:Ck [e28,e29,e30,e41,e44,e45,e100,e101,e123,e133,e136,e157,e159,e160,e163,e185,e186,e187,e204,e206,e2000000] [] k16 a16 i13:=by decide +kernel
theorem s17:Ck [e28,e29,e30,e41,e44,e45,e61,e64,e100,e101,e104,e123,e129,e133,e136,e149,e152,e153,e157,e159,e160,e163,e185,e186,e187,e192,e211,e213,e2000000] [] k17 a17 i13:=by decide +kernel
theorem s18:Ck [e28,e30,e31,e34,e48,e75,e78,e81,e98,e100,e214,e218,e224,e225,e2000000] [] k18 a18 i0:=by decide +kernel
theorem s19:Ck [e28,e30,e31,e34,e75,e78,e81,e100,e101,e123,e214,e218,e231,e232,e2000000] [] k19 a19 i10:=by decide +kernel
theorem s20:Ck [e28,e30,e31,e34,e61,e64,e66,e67,e70,e71,e75,e78,e81,e100,e101,e104,e123,e129,e214,e218,e236,e237,e2000000] [] k20 a20 i10:=by decide +kernel
end Go.Proofs.YtfdgbmkpmjkccaaGreatDoor
