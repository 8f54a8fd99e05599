/-
  Calls that are known by a run each over a small memory, whatever the numbers are that it does not tell.
  Conditions: none.
-/
import Derived.Test.YtfdgbmkpmjkccaaGreatDoorKnY01
open Go Go.Ab
namespace Go.Proofs.YtfdgbmkpmjkccaaGreatDoor
theorem j931:Ok e931 [e12,e689,e929,e930]:=by decide +kernel
theorem j932:Ok e932 [e689,e931]:=by decide +kernel
theorem j933:Ok e933 [e34,e40,e41,e44,e45,e694,e932]:=by decide +kernel
theorem j934:Ok e934 [e34,e689,e933]:=by decide +kernel
theorem j935:Ok e935 []:=by decide +kernel
theorem j936:Ok e936 [e689]:=by decide +kernel
theorem j937:Ok e937 [e53,e689,e935,e936]:=by decide +kernel
theorem j938:Ok e938 [e689,e937]:=by decide +kernel
theorem j941:Ok e941 [e51,e60,e61,e64,e66,e67,e70,e71,e689,e938]:=by decide +kernel
theorem j942:Ok e942 [e81,e84,e85,e88,e90,e91,e94,e95,e788]:=by decide +kernel
theorem j943:Ok e943 [e689]:=by decide +kernel
theorem j944:Ok e944 [e53,e689,e935,e943]:=by decide +kernel
theorem j945:Ok e945 [e689,e944]:=by decide +kernel
theorem j946:Ok e946 [e689,e793,e945]:=by decide +kernel
theorem j947:Ok e947 [e61,e64,e66,e67,e70,e71,e104,e110,e946]:=by decide +kernel
theorem j948:Ok e948 [e104,e689,e947]:=by decide +kernel
theorem j949:Ok e949 [e81,e84,e85,e88,e115,e116,e119,e120,e797]:=by decide +kernel
theorem j950:Ok e950 [e689]:=by decide +kernel
theorem j951:Ok e951 [e53,e689,e935,e950]:=by decide +kernel
theorem j952:Ok e952 [e689,e951]:=by decide +kernel
theorem j953:Ok e953 [e689,e802,e952]:=by decide +kernel
theorem j954:Ok e954 [e81,e84,e85,e88,e116,e119,e120,e131,e804]:=by decide +kernel
theorem j955:Ok e955 [e689]:=by decide +kernel
theorem j956:Ok e956 [e12,e689,e929,e955]:=by decide +kernel
theorem j957:Ok e957 [e689,e956]:=by decide +kernel
theorem j958:Ok e958 [e41,e44,e45,e136,e141,e724,e957]:=by decide +kernel
theorem j959:Ok e959 [e136,e689,e958]:=by decide +kernel
theorem j960:Ok e960 [e53,e689,e935,e936]:=by decide +kernel
theorem j961:Ok e961 [e689,e960]:=by decide +kernel
theorem j962:Ok e962 [e689,e813,e961]:=by decide +kernel
theorem j963:Ok e963 [e51,e60,e61,e64,e148,e149,e152,e153,e962]:=by decide +kernel
theorem j964:Ok e964 [e51,e689,e963]:=by decide +kernel
theorem j965:Ok e965 [e85,e88,e90,e91,e94,e95,e163,e165,e817]:=by decide +kernel
end Go.Proofs.YtfdgbmkpmjkccaaGreatDoor
