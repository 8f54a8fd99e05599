/-
  The law's certificates, by classes of its arguments: they are good.
  Conditions: none.
-/
import Derived.Test.YtfdgbmkpmjkccaaGreatDoorKnY02
open Go Go.Ab
namespace Go.Proofs.YtfdgbmkpmjkccaaGreatDoor
theorem s34:Ck [e28,e30,e41,e44,e45,e100,e101,e123,e133,e136,e157,e159,e160,e163,e186,e187,e206,e277,e323,e335,e2000000] [] k34 a34 i13:=by decide +kernel
theorem s35:Ck [e28,e30,e41,e44,e45,e61,e64,e100,e101,e104,e123,e129,e133,e136,e149,e152,e153,e157,e159,e160,e163,e186,e187,e192,e213,e277,e323,e339,e2000000] [] k35 a35 i13:=by decide +kernel
theorem s36:Ck [e30,e31,e34,e48,e98,e100,e340,e341,e346,e367,e369,e372,e375,e385,e2000000] [] k36 a36 i0:=by decide +kernel
theorem s37:Ck [e30,e31,e34,e100,e101,e123,e340,e341,e346,e369,e372,e375,e393,e397,e2000000] [] k37 a37 i1:=by decide +kernel
theorem s38:Ck [e30,e31,e34,e100,e101,e104,e123,e340,e341,e346,e355,e358,e360,e361,e364,e365,e369,e372,e375,e402,e403,e406,e2000000] [] k38 a38 i1:=by decide +kernel
theorem s39:Ck [e30,e48,e98,e100,e133,e136,e340,e341,e411,e424,e426,e428,e429,e432,e435,e2000000] [] k39 a39 i3:=by decide +kernel
theorem s40:Ck [e30,e100,e101,e123,e133,e136,e340,e341,e411,e426,e428,e429,e432,e441,e443,e2000000] [] k40 a40 i4:=by decide +kernel
theorem s41:Ck [e30,e100,e101,e104,e123,e133,e136,e340,e341,e355,e358,e403,e411,e417,e418,e421,e422,e426,e428,e429,e432,e447,e449,e2000000] [] k41 a41 i4:=by decide +kernel
theorem s42:Ck [e30,e41,e44,e45,e48,e98,e100,e133,e136,e187,e340,e341,e426,e428,e429,e432,e452,e453,e460,e463,e2000000] [] k42 a42 i3:=by decide +kernel
theorem s43:Ck [e30,e41,e44,e45,e100,e101,e123,e133,e136,e187,e340,e341,e426,e428,e429,e432,e452,e453,e469,e471,e2000000] [] k43 a43 i4:=by decide +kernel
theorem s44:Ck [e30,e41,e44,e45,e100,e101,e104,e123,e133,e136,e187,e340,e341,e355,e358,e403,e418,e421,e422,e426,e428,e429,e432,e452,e453,e458,e475,e477,e2000000] [] k44 a44 i4:=by decide +kernel
theorem s45:Ck [e30,e31,e34,e48,e75,e78,e81,e98,e100,e340,e478,e482,e489,e491,e2000000] [] k45 a45 i0:=by decide +kernel
end Go.Proofs.YtfdgbmkpmjkccaaGreatDoor
