/-
  The law's certificates, by classes of its arguments: they are good.
  Conditions: none.
-/
import Derived.Test.YtfdgbmkpmjkccaaGreatDoorKnY02
open Go Go.Ab
namespace Go.Proofs.YtfdgbmkpmjkccaaGreatDoor
theorem s71:Ck [e30,e41,e44,e45,e61,e64,e100,e101,e104,e123,e129,e133,e136,e149,e152,e153,e157,e159,e160,e163,e187,e192,e340,e453,e562,e626,e672,e688,e2000000] [] k71 a71 i13:=by decide +kernel
theorem s72:Ck [e30,e31,e48,e98,e100,e369,e372,e375,e689,e690,e696,e702,e704,e2000000] [] k72 a72 i0:=by decide +kernel
theorem s73:Ck [e30,e31,e100,e101,e123,e369,e372,e375,e689,e690,e696,e711,e713,e2000000] [] k73 a73 i1:=by decide +kernel
theorem s74:Ck [e30,e31,e100,e101,e104,e123,e355,e358,e360,e361,e364,e365,e369,e372,e375,e403,e689,e690,e696,e718,e720,e2000000] [] k74 a74 i1:=by decide +kernel
theorem s75:Ck [e30,e48,e98,e100,e133,e426,e428,e429,e432,e689,e690,e726,e732,e734,e2000000] [] k75 a75 i3:=by decide +kernel
theorem s76:Ck [e30,e100,e101,e123,e133,e426,e428,e429,e432,e689,e690,e726,e740,e742,e2000000] [] k76 a76 i4:=by decide +kernel
theorem s77:Ck [e30,e100,e101,e104,e123,e133,e355,e358,e403,e417,e418,e421,e422,e426,e428,e429,e432,e689,e690,e726,e746,e748,e2000000] [] k77 a77 i4:=by decide +kernel
theorem s78:Ck [e30,e41,e44,e45,e48,e98,e100,e133,e136,e187,e426,e428,e429,e432,e689,e690,e751,e752,e758,e760,e2000000] [] k78 a78 i3:=by decide +kernel
theorem s79:Ck [e30,e41,e44,e45,e100,e101,e123,e133,e136,e187,e426,e428,e429,e432,e689,e690,e751,e752,e766,e768,e2000000] [] k79 a79 i4:=by decide +kernel
theorem s80:Ck [e30,e41,e44,e45,e100,e101,e104,e123,e133,e136,e187,e355,e358,e403,e418,e421,e422,e426,e428,e429,e432,e458,e689,e690,e751,e752,e772,e774,e2000000] [] k80 a80 i4:=by decide +kernel
theorem s81:Ck [e30,e31,e48,e75,e78,e81,e98,e100,e689,e775,e780,e787,e789,e2000000] [] k81 a81 i0:=by decide +kernel
theorem s82:Ck [e30,e31,e75,e78,e81,e100,e101,e123,e689,e775,e780,e796,e798,e2000000] [] k82 a82 i10:=by decide +kernel
theorem s83:Ck [e30,e31,e61,e64,e66,e67,e70,e71,e75,e78,e81,e100,e101,e104,e123,e129,e689,e775,e780,e803,e805,e2000000] [] k83 a83 i10:=by decide +kernel
theorem s84:Ck [e30,e48,e98,e100,e133,e157,e159,e160,e163,e689,e775,e810,e816,e818,e2000000] [] k84 a84 i3:=by decide +kernel
end Go.Proofs.YtfdgbmkpmjkccaaGreatDoor
