/-
  Calls that are known by a run each over a small memory, whatever the numbers are that it does not tell.
  Conditions: none.
-/
import Derived.Test.YtfdgbmkpmjkccaaGreatDoorKnY01
open Go Go.Ab
namespace Go.Proofs.YtfdgbmkpmjkccaaGreatDoor
theorem j796:Ok e796 [e104,e689,e795]:=by decide +kernel
theorem j797:Ok e797 [e689]:=by decide +kernel
theorem j798:Ok e798 [e81,e84,e85,e88,e115,e116,e119,e120,e797]:=by decide +kernel
theorem j799:Ok e799 [e689]:=by decide +kernel
theorem j800:Ok e800 [e53,e689,e799]:=by decide +kernel
theorem j801:Ok e801 [e689,e800]:=by decide +kernel
theorem j802:Ok e802 [e689]:=by decide +kernel
theorem j803:Ok e803 [e689,e801,e802]:=by decide +kernel
theorem j804:Ok e804 [e689]:=by decide +kernel
theorem j805:Ok e805 [e81,e84,e85,e88,e116,e119,e120,e131,e804]:=by decide +kernel
theorem j806:Ok e806 [e689]:=by decide +kernel
theorem j807:Ok e807 [e12,e689,e806]:=by decide +kernel
theorem j808:Ok e808 [e689,e807]:=by decide +kernel
theorem j809:Ok e809 [e41,e44,e45,e136,e141,e724,e808]:=by decide +kernel
theorem j810:Ok e810 [e136,e689,e809]:=by decide +kernel
theorem j811:Ok e811 [e53,e689,e781]:=by decide +kernel
theorem j812:Ok e812 [e689,e811]:=by decide +kernel
theorem j813:Ok e813 [e689]:=by decide +kernel
theorem j814:Ok e814 [e689,e812,e813]:=by decide +kernel
theorem j815:Ok e815 [e51,e60,e61,e64,e148,e149,e152,e153,e814]:=by decide +kernel
theorem j816:Ok e816 [e51,e689,e815]:=by decide +kernel
theorem j817:Ok e817 [e689]:=by decide +kernel
theorem j818:Ok e818 [e85,e88,e90,e91,e94,e95,e163,e165,e817]:=by decide +kernel
theorem j819:Ok e819 [e689]:=by decide +kernel
theorem j820:Ok e820 [e53,e689,e819]:=by decide +kernel
theorem j821:Ok e821 [e689,e820]:=by decide +kernel
theorem j822:Ok e822 [e689]:=by decide +kernel
theorem j823:Ok e823 [e689,e821,e822]:=by decide +kernel
theorem j824:Ok e824 [e61,e64,e104,e110,e148,e149,e152,e153,e823]:=by decide +kernel
theorem j825:Ok e825 [e104,e689,e824]:=by decide +kernel
theorem j826:Ok e826 [e689]:=by decide +kernel
theorem j827:Ok e827 [e85,e88,e115,e116,e119,e120,e163,e165,e826]:=by decide +kernel
theorem j828:Ok e828 [e689]:=by decide +kernel
theorem j829:Ok e829 [e53,e689,e828]:=by decide +kernel
end Go.Proofs.YtfdgbmkpmjkccaaGreatDoor
