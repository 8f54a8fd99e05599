/-
  The law's certificates, by classes of its arguments: they are good.
  Conditions: none.
-/
import Derived.Test.YtfdgbmkpmjkccaaGreatDoorKnY02
open Go Go.Ab
namespace Go.Proofs.YtfdgbmkpmjkccaaGreatDoor
theorem s59:Ck [e30,e61,e64,e100,e101,e104,e123,e129,e133,e136,e148,e149,e152,e153,e157,e159,e160,e163,e340,e535,e563,e590,e606,e2000000] [] k59 a59 i13:=by decide +kernel
theorem s60:Ck [e30,e41,e44,e45,e48,e98,e100,e133,e136,e157,e159,e160,e163,e187,e340,e453,e563,e609,e614,e615,e2000000] [] k60 a60 i3:=by decide +kernel
theorem s61:Ck [e30,e41,e44,e45,e100,e101,e123,e133,e136,e157,e159,e160,e163,e187,e340,e453,e555,e563,e609,e621,e2000000] [] k61 a61 i13:=by decide +kernel
theorem s62:Ck [e30,e41,e44,e45,e61,e64,e100,e101,e104,e123,e129,e133,e136,e149,e152,e153,e157,e159,e160,e163,e187,e192,e340,e453,e562,e563,e609,e625,e2000000] [] k62 a62 i13:=by decide +kernel
theorem s63:Ck [e30,e31,e34,e48,e75,e78,e81,e98,e100,e340,e626,e630,e636,e637,e2000000] [] k63 a63 i0:=by decide +kernel
theorem s64:Ck [e30,e31,e34,e75,e78,e81,e100,e101,e123,e340,e626,e630,e643,e644,e2000000] [] k64 a64 i10:=by decide +kernel
theorem s65:Ck [e30,e31,e34,e61,e64,e66,e67,e70,e71,e75,e78,e81,e100,e101,e104,e123,e129,e340,e626,e630,e648,e649,e2000000] [] k65 a65 i10:=by decide +kernel
theorem s66:Ck [e30,e48,e98,e100,e133,e136,e157,e159,e160,e163,e340,e626,e653,e658,e659,e2000000] [] k66 a66 i3:=by decide +kernel
theorem s67:Ck [e30,e100,e101,e123,e133,e136,e157,e159,e160,e163,e340,e528,e626,e653,e665,e2000000] [] k67 a67 i13:=by decide +kernel
theorem s68:Ck [e30,e61,e64,e100,e101,e104,e123,e129,e133,e136,e148,e149,e152,e153,e157,e159,e160,e163,e340,e535,e626,e653,e669,e2000000] [] k68 a68 i13:=by decide +kernel
theorem s69:Ck [e30,e41,e44,e45,e48,e98,e100,e133,e136,e157,e159,e160,e163,e187,e340,e453,e626,e672,e677,e678,e2000000] [] k69 a69 i3:=by decide +kernel
theorem s70:Ck [e30,e41,e44,e45,e100,e101,e123,e133,e136,e157,e159,e160,e163,e187,e340,e453,e555,e626,e672,e684,e2000000] [] k70 a70 i13:=by decide +kernel
end Go.Proofs.YtfdgbmkpmjkccaaGreatDoor
