/-
  Calls that are known by a run each over a small memory, whatever the numbers are that it does not tell.
  Conditions: none.
-/
import Derived.Test.YtfdgbmkpmjkccaaGreatDoorKnY01
open Go Go.Ab
namespace Go.Proofs.YtfdgbmkpmjkccaaGreatDoor
theorem j865:Ok e865 [e12,e689,e863,e864]:=by decide +kernel
theorem j866:Ok e866 [e689,e865]:=by decide +kernel
theorem j867:Ok e867 [e34,e40,e41,e44,e45,e694,e866]:=by decide +kernel
theorem j868:Ok e868 [e34,e689,e867]:=by decide +kernel
theorem j869:Ok e869 [e689]:=by decide +kernel
theorem j870:Ok e870 [e53,e689,e869]:=by decide +kernel
theorem j871:Ok e871 [e689,e870]:=by decide +kernel
theorem j874:Ok e874 [e51,e60,e61,e64,e66,e67,e70,e71,e689,e871]:=by decide +kernel
theorem j875:Ok e875 [e81,e84,e85,e88,e90,e91,e94,e95,e788]:=by decide +kernel
theorem j876:Ok e876 [e689]:=by decide +kernel
theorem j877:Ok e877 [e53,e689,e876]:=by decide +kernel
theorem j878:Ok e878 [e689,e877]:=by decide +kernel
theorem j879:Ok e879 [e689,e793,e878]:=by decide +kernel
theorem j880:Ok e880 [e61,e64,e66,e67,e70,e71,e104,e110,e879]:=by decide +kernel
theorem j881:Ok e881 [e104,e689,e880]:=by decide +kernel
theorem j882:Ok e882 [e81,e84,e85,e88,e115,e116,e119,e120,e797]:=by decide +kernel
theorem j883:Ok e883 [e689]:=by decide +kernel
theorem j884:Ok e884 [e53,e689,e883]:=by decide +kernel
theorem j885:Ok e885 [e689,e884]:=by decide +kernel
theorem j886:Ok e886 [e689,e802,e885]:=by decide +kernel
theorem j887:Ok e887 [e81,e84,e85,e88,e116,e119,e120,e131,e804]:=by decide +kernel
theorem j888:Ok e888 [e689]:=by decide +kernel
theorem j889:Ok e889 [e12,e689,e863,e888]:=by decide +kernel
theorem j890:Ok e890 [e689,e889]:=by decide +kernel
theorem j891:Ok e891 [e41,e44,e45,e136,e141,e724,e890]:=by decide +kernel
theorem j892:Ok e892 [e136,e689,e891]:=by decide +kernel
theorem j893:Ok e893 [e53,e689,e869]:=by decide +kernel
theorem j894:Ok e894 [e689,e893]:=by decide +kernel
theorem j895:Ok e895 [e689,e813,e894]:=by decide +kernel
theorem j896:Ok e896 [e51,e60,e61,e64,e148,e149,e152,e153,e895]:=by decide +kernel
theorem j897:Ok e897 [e51,e689,e896]:=by decide +kernel
end Go.Proofs.YtfdgbmkpmjkccaaGreatDoor
