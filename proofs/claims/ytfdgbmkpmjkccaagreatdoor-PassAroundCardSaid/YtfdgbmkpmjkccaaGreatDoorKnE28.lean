/-
  Calls that are known by a run each over a small memory, whatever the numbers are that it does not tell.
  Conditions: none.
-/
import Derived.Test.YtfdgbmkpmjkccaaGreatDoorKnY01
open Go Go.Ab
namespace Go.Proofs.YtfdgbmkpmjkccaaGreatDoor
theorem j966:Ok e966 [e689]:=by decide +kernel
theorem j967:Ok e967 [e53,e689,e935,e966]:=by decide +kernel
theorem j968:Ok e968 [e689,e967]:=by decide +kernel
theorem j969:Ok e969 [e689,e822,e968]:=by decide +kernel
theorem j970:Ok e970 [e61,e64,e104,e110,e148,e149,e152,e153,e969]:=by decide +kernel
theorem j971:Ok e971 [e104,e689,e970]:=by decide +kernel
theorem j972:Ok e972 [e689]:=by decide +kernel
theorem j973:Ok e973 [e53,e689,e935,e972]:=by decide +kernel
theorem j974:Ok e974 [e689,e973]:=by decide +kernel
theorem j975:Ok e975 [e689,e831,e974]:=by decide +kernel
theorem j976:Ok e976 [e689]:=by decide +kernel
theorem j977:Ok e977 [e12,e689,e929,e976]:=by decide +kernel
theorem j978:Ok e978 [e689,e977]:=by decide +kernel
theorem j979:Ok e979 [e53,e689,e935,e936]:=by decide +kernel
theorem j980:Ok e980 [e689,e979]:=by decide +kernel
theorem j981:Ok e981 [e689,e840,e980]:=by decide +kernel
theorem j982:Ok e982 [e51,e60,e61,e64,e149,e152,e153,e192,e981]:=by decide +kernel
theorem j983:Ok e983 [e51,e689,e982]:=by decide +kernel
theorem j984:Ok e984 [e85,e88,e90,e91,e94,e95,e163,e196,e844]:=by decide +kernel
theorem j985:Ok e985 [e689]:=by decide +kernel
theorem j986:Ok e986 [e53,e689,e935,e985]:=by decide +kernel
theorem j987:Ok e987 [e689,e986]:=by decide +kernel
theorem j988:Ok e988 [e689,e849,e987]:=by decide +kernel
theorem j989:Ok e989 [e61,e64,e104,e110,e149,e152,e153,e192,e988]:=by decide +kernel
theorem j990:Ok e990 [e104,e689,e989]:=by decide +kernel
theorem j991:Ok e991 [e689]:=by decide +kernel
theorem j992:Ok e992 [e53,e689,e935,e991]:=by decide +kernel
theorem j993:Ok e993 [e689,e992]:=by decide +kernel
theorem j994:Ok e994 [e689,e858,e993]:=by decide +kernel
end Go.Proofs.YtfdgbmkpmjkccaaGreatDoor
