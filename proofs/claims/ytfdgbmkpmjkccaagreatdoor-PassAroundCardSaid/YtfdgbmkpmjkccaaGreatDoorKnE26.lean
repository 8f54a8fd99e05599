/-
  Calls that are known by a run each over a small memory, whatever the numbers are that it does not tell.
  Conditions: none.
-/
import Derived.Test.YtfdgbmkpmjkccaaGreatDoorKnY01
open Go Go.Ab
namespace Go.Proofs.YtfdgbmkpmjkccaaGreatDoor
theorem j898:Ok e898 [e85,e88,e90,e91,e94,e95,e163,e165,e817]:=by decide +kernel
theorem j899:Ok e899 [e689]:=by decide +kernel
theorem j900:Ok e900 [e53,e689,e899]:=by decide +kernel
theorem j901:Ok e901 [e689,e900]:=by decide +kernel
theorem j902:Ok e902 [e689,e822,e901]:=by decide +kernel
theorem j903:Ok e903 [e61,e64,e104,e110,e148,e149,e152,e153,e902]:=by decide +kernel
theorem j904:Ok e904 [e104,e689,e903]:=by decide +kernel
theorem j905:Ok e905 [e689]:=by decide +kernel
theorem j906:Ok e906 [e53,e689,e905]:=by decide +kernel
theorem j907:Ok e907 [e689,e906]:=by decide +kernel
theorem j908:Ok e908 [e689,e831,e907]:=by decide +kernel
theorem j909:Ok e909 [e689]:=by decide +kernel
theorem j910:Ok e910 [e12,e689,e863,e909]:=by decide +kernel
theorem j911:Ok e911 [e689,e910]:=by decide +kernel
theorem j912:Ok e912 [e53,e689,e869]:=by decide +kernel
theorem j913:Ok e913 [e689,e912]:=by decide +kernel
theorem j914:Ok e914 [e689,e840,e913]:=by decide +kernel
theorem j915:Ok e915 [e51,e60,e61,e64,e149,e152,e153,e192,e914]:=by decide +kernel
theorem j916:Ok e916 [e51,e689,e915]:=by decide +kernel
theorem j917:Ok e917 [e85,e88,e90,e91,e94,e95,e163,e196,e844]:=by decide +kernel
theorem j918:Ok e918 [e689]:=by decide +kernel
theorem j919:Ok e919 [e53,e689,e918]:=by decide +kernel
theorem j920:Ok e920 [e689,e919]:=by decide +kernel
theorem j921:Ok e921 [e689,e849,e920]:=by decide +kernel
theorem j922:Ok e922 [e61,e64,e104,e110,e149,e152,e153,e192,e921]:=by decide +kernel
theorem j923:Ok e923 [e104,e689,e922]:=by decide +kernel
theorem j924:Ok e924 [e689]:=by decide +kernel
theorem j925:Ok e925 [e53,e689,e924]:=by decide +kernel
theorem j926:Ok e926 [e689,e925]:=by decide +kernel
theorem j927:Ok e927 [e689,e858,e926]:=by decide +kernel
theorem j928:Ok e928 [e0,e2,e689]:=by decide +kernel
theorem j929:Ok e929 []:=by decide +kernel
theorem j930:Ok e930 [e689]:=by decide +kernel
end Go.Proofs.YtfdgbmkpmjkccaaGreatDoor
