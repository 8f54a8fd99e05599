/-
  The law's certificates, by classes of its arguments: they are good.
  Conditions: none.
-/
import Derived.Test.YtfdgbmkpmjkccaaGreatDoorKnY02
open Go Go.Ab
namespace Go.Proofs.YtfdgbmkpmjkccaaGreatDoor
theorem s98:Ck [e30,e41,e44,e45,e61,e64,e100,e101,e104,e123,e129,e133,e136,e149,e152,e153,e157,e159,e160,e163,e187,e192,e689,e752,e861,e862,e911,e927,e2000000] [] k98 a98 i13:=by decide +kernel
theorem s99:Ck [e30,e31,e48,e75,e78,e81,e98,e100,e689,e928,e934,e941,e942,e2000000] [] k99 a99 i0:=by decide +kernel
theorem s100:Ck [e30,e31,e75,e78,e81,e100,e101,e123,e689,e928,e934,e948,e949,e2000000] [] k100 a100 i10:=by decide +kernel
theorem s101:Ck [e30,e31,e61,e64,e66,e67,e70,e71,e75,e78,e81,e100,e101,e104,e123,e129,e689,e928,e934,e953,e954,e2000000] [] k101 a101 i10:=by decide +kernel
theorem s102:Ck [e30,e48,e98,e100,e133,e157,e159,e160,e163,e689,e928,e959,e964,e965,e2000000] [] k102 a102 i3:=by decide +kernel
theorem s103:Ck [e30,e100,e101,e123,e133,e157,e159,e160,e163,e689,e827,e928,e959,e971,e2000000] [] k103 a103 i13:=by decide +kernel
theorem s104:Ck [e30,e61,e64,e100,e101,e104,e123,e129,e133,e148,e149,e152,e153,e157,e159,e160,e163,e689,e834,e928,e959,e975,e2000000] [] k104 a104 i13:=by decide +kernel
theorem s105:Ck [e30,e41,e44,e45,e48,e98,e100,e133,e136,e157,e159,e160,e163,e187,e689,e752,e928,e978,e983,e984,e2000000] [] k105 a105 i3:=by decide +kernel
theorem s106:Ck [e30,e41,e44,e45,e100,e101,e123,e133,e136,e157,e159,e160,e163,e187,e689,e752,e854,e928,e978,e990,e2000000] [] k106 a106 i13:=by decide +kernel
theorem s107:Ck [e30,e41,e44,e45,e61,e64,e100,e101,e104,e123,e129,e133,e136,e149,e152,e153,e157,e159,e160,e163,e187,e192,e689,e752,e861,e928,e978,e994,e2000000] [] k107 a107 i13:=by decide +kernel
end Go.Proofs.YtfdgbmkpmjkccaaGreatDoor
