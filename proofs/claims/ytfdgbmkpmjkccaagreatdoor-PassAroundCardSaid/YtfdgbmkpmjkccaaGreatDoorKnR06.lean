/-
  The law's certificates, by classes of its arguments: they are good.
  Conditions: none.
-/
import Derived.Test.YtfdgbmkpmjkccaaGreatDoorKnY02
open Go Go.Ab
namespace Go.Proofs.YtfdgbmkpmjkccaaGreatDoor
theorem s85:Ck [e30,e100,e101,e123,e133,e157,e159,e160,e163,e689,e775,e810,e825,e827,e2000000] [] k85 a85 i13:=by decide +kernel
theorem s86:Ck [e30,e61,e64,e100,e101,e104,e123,e129,e133,e148,e149,e152,e153,e157,e159,e160,e163,e689,e775,e810,e832,e834,e2000000] [] k86 a86 i13:=by decide +kernel
theorem s87:Ck [e30,e41,e44,e45,e48,e98,e100,e133,e136,e157,e159,e160,e163,e187,e689,e752,e775,e837,e843,e845,e2000000] [] k87 a87 i3:=by decide +kernel
theorem s88:Ck [e30,e41,e44,e45,e100,e101,e123,e133,e136,e157,e159,e160,e163,e187,e689,e752,e775,e837,e852,e854,e2000000] [] k88 a88 i13:=by decide +kernel
theorem s89:Ck [e30,e41,e44,e45,e61,e64,e100,e101,e104,e123,e129,e133,e136,e149,e152,e153,e157,e159,e160,e163,e187,e192,e689,e752,e775,e837,e859,e861,e2000000] [] k89 a89 i13:=by decide +kernel
theorem s90:Ck [e30,e31,e48,e75,e78,e81,e98,e100,e689,e862,e868,e874,e875,e2000000] [] k90 a90 i0:=by decide +kernel
theorem s91:Ck [e30,e31,e75,e78,e81,e100,e101,e123,e689,e862,e868,e881,e882,e2000000] [] k91 a91 i10:=by decide +kernel
theorem s92:Ck [e30,e31,e61,e64,e66,e67,e70,e71,e75,e78,e81,e100,e101,e104,e123,e129,e689,e862,e868,e886,e887,e2000000] [] k92 a92 i10:=by decide +kernel
theorem s93:Ck [e30,e48,e98,e100,e133,e157,e159,e160,e163,e689,e862,e892,e897,e898,e2000000] [] k93 a93 i3:=by decide +kernel
theorem s94:Ck [e30,e100,e101,e123,e133,e157,e159,e160,e163,e689,e827,e862,e892,e904,e2000000] [] k94 a94 i13:=by decide +kernel
theorem s95:Ck [e30,e61,e64,e100,e101,e104,e123,e129,e133,e148,e149,e152,e153,e157,e159,e160,e163,e689,e834,e862,e892,e908,e2000000] [] k95 a95 i13:=by decide +kernel
theorem s96:Ck [e30,e41,e44,e45,e48,e98,e100,e133,e136,e157,e159,e160,e163,e187,e689,e752,e862,e911,e916,e917,e2000000] [] k96 a96 i3:=by decide +kernel
theorem s97:Ck [e30,e41,e44,e45,e100,e101,e123,e133,e136,e157,e159,e160,e163,e187,e689,e752,e854,e862,e911,e923,e2000000] [] k97 a97 i13:=by decide +kernel
end Go.Proofs.YtfdgbmkpmjkccaaGreatDoor
