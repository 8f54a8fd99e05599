/-
  The law's certificates, by classes of its arguments: they are good.
  Conditions: none.
-/
import Derived.Test.YtfdgbmkpmjkccaaGreatDoorKnY02
open Go Go.Ab
namespace Go.Proofs.YtfdgbmkpmjkccaaGreatDoor
theorem s46:Ck [e30,e31,e34,e75,e78,e81,e100,e101,e123,e340,e478,e482,e498,e500,e2000000] [] k46 a46 i10:=by decide +kernel
theorem s47:Ck [e30,e31,e34,e61,e64,e66,e67,e70,e71,e75,e78,e81,e100,e101,e104,e123,e129,e340,e478,e482,e505,e507,e2000000] [] k47 a47 i10:=by decide +kernel
theorem s48:Ck [e30,e48,e98,e100,e133,e136,e157,e159,e160,e163,e340,e478,e511,e517,e519,e2000000] [] k48 a48 i3:=by decide +kernel
theorem s49:Ck [e30,e100,e101,e123,e133,e136,e157,e159,e160,e163,e340,e478,e511,e526,e528,e2000000] [] k49 a49 i13:=by decide +kernel
theorem s50:Ck [e30,e61,e64,e100,e101,e104,e123,e129,e133,e136,e148,e149,e152,e153,e157,e159,e160,e163,e340,e478,e511,e533,e535,e2000000] [] k50 a50 i13:=by decide +kernel
theorem s51:Ck [e30,e41,e44,e45,e48,e98,e100,e133,e136,e157,e159,e160,e163,e187,e340,e453,e478,e538,e544,e546,e2000000] [] k51 a51 i3:=by decide +kernel
theorem s52:Ck [e30,e41,e44,e45,e100,e101,e123,e133,e136,e157,e159,e160,e163,e187,e340,e453,e478,e538,e553,e555,e2000000] [] k52 a52 i13:=by decide +kernel
theorem s53:Ck [e30,e41,e44,e45,e61,e64,e100,e101,e104,e123,e129,e133,e136,e149,e152,e153,e157,e159,e160,e163,e187,e192,e340,e453,e478,e538,e560,e562,e2000000] [] k53 a53 i13:=by decide +kernel
theorem s54:Ck [e30,e31,e34,e48,e75,e78,e81,e98,e100,e340,e563,e567,e573,e574,e2000000] [] k54 a54 i0:=by decide +kernel
theorem s55:Ck [e30,e31,e34,e75,e78,e81,e100,e101,e123,e340,e563,e567,e580,e581,e2000000] [] k55 a55 i10:=by decide +kernel
theorem s56:Ck [e30,e31,e34,e61,e64,e66,e67,e70,e71,e75,e78,e81,e100,e101,e104,e123,e129,e340,e563,e567,e585,e586,e2000000] [] k56 a56 i10:=by decide +kernel
theorem s57:Ck [e30,e48,e98,e100,e133,e136,e157,e159,e160,e163,e340,e563,e590,e595,e596,e2000000] [] k57 a57 i3:=by decide +kernel
theorem s58:Ck [e30,e100,e101,e123,e133,e136,e157,e159,e160,e163,e340,e528,e563,e590,e602,e2000000] [] k58 a58 i13:=by decide +kernel
end Go.Proofs.YtfdgbmkpmjkccaaGreatDoor
