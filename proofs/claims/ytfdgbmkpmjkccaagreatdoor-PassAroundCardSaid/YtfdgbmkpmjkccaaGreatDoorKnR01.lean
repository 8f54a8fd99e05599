/-
  The law's certificates, by classes of its arguments: they are good.
  Conditions: none.
-/
import Derived.Test.YtfdgbmkpmjkccaaGreatDoorKnY02
open Go Go.Ab
namespace Go.Proofs.YtfdgbmkpmjkccaaGreatDoor
theorem s21:Ck [e28,e30,e48,e98,e100,e133,e136,e157,e159,e160,e163,e214,e241,e246,e247,e2000000] [] k21 a21 i3:=by decide +kernel
theorem s22:Ck [e28,e30,e100,e101,e123,e133,e136,e157,e159,e160,e163,e175,e214,e241,e253,e2000000] [] k22 a22 i13:=by decide +kernel
theorem s23:Ck [e28,e30,e61,e64,e100,e101,e104,e123,e129,e133,e136,e148,e149,e152,e153,e157,e159,e160,e163,e182,e214,e241,e257,e2000000] [] k23 a23 i13:=by decide +kernel
theorem s24:Ck [e28,e30,e41,e44,e45,e48,e98,e100,e133,e136,e157,e159,e160,e163,e186,e187,e214,e260,e265,e266,e2000000] [] k24 a24 i3:=by decide +kernel
theorem s25:Ck [e28,e30,e41,e44,e45,e100,e101,e123,e133,e136,e157,e159,e160,e163,e186,e187,e206,e214,e260,e272,e2000000] [] k25 a25 i13:=by decide +kernel
theorem s26:Ck [e28,e30,e41,e44,e45,e61,e64,e100,e101,e104,e123,e129,e133,e136,e149,e152,e153,e157,e159,e160,e163,e186,e187,e192,e213,e214,e260,e276,e2000000] [] k26 a26 i13:=by decide +kernel
theorem s27:Ck [e28,e30,e31,e34,e48,e75,e78,e81,e98,e100,e277,e281,e287,e288,e2000000] [] k27 a27 i0:=by decide +kernel
theorem s28:Ck [e28,e30,e31,e34,e75,e78,e81,e100,e101,e123,e277,e281,e294,e295,e2000000] [] k28 a28 i10:=by decide +kernel
theorem s29:Ck [e28,e30,e31,e34,e61,e64,e66,e67,e70,e71,e75,e78,e81,e100,e101,e104,e123,e129,e277,e281,e299,e300,e2000000] [] k29 a29 i10:=by decide +kernel
theorem s30:Ck [e28,e30,e48,e98,e100,e133,e136,e157,e159,e160,e163,e277,e304,e309,e310,e2000000] [] k30 a30 i3:=by decide +kernel
theorem s31:Ck [e28,e30,e100,e101,e123,e133,e136,e157,e159,e160,e163,e175,e277,e304,e316,e2000000] [] k31 a31 i13:=by decide +kernel
theorem s32:Ck [e28,e30,e61,e64,e100,e101,e104,e123,e129,e133,e136,e148,e149,e152,e153,e157,e159,e160,e163,e182,e277,e304,e320,e2000000] [] k32 a32 i13:=by decide +kernel
theorem s33:Ck [e28,e30,e41,e44,e45,e48,e98,e100,e133,e136,e157,e159,e160,e163,e186,e187,e277,e323,e328,e329,e2000000] [] k33 a33 i3:=by decide +kernel
end Go.Proofs.YtfdgbmkpmjkccaaGreatDoor
