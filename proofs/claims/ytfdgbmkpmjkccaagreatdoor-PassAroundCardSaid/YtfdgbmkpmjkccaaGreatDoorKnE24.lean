/-
  Calls that are known by a run each over a small memory, whatever the numbers are that it does not tell.
  Conditions: none.
-/
import Derived.Test.YtfdgbmkpmjkccaaGreatDoorKnY01
open Go Go.Ab
namespace Go.Proofs.YtfdgbmkpmjkccaaGreatDoor
theorem j830:Ok e830 [e689,e829]:=by decide +kernel
theorem j831:Ok e831 [e689]:=by decide +kernel
theorem j832:Ok e832 [e689,e830,e831]:=by decide +kernel
theorem j833:Ok e833 [e689]:=by decide +kernel
theorem j834:Ok e834 [e85,e88,e116,e119,e120,e131,e163,e165,e833]:=by decide +kernel
theorem j835:Ok e835 [e689]:=by decide +kernel
theorem j836:Ok e836 [e12,e689,e835]:=by decide +kernel
theorem j837:Ok e837 [e689,e836]:=by decide +kernel
theorem j838:Ok e838 [e53,e689,e781]:=by decide +kernel
theorem j839:Ok e839 [e689,e838]:=by decide +kernel
theorem j840:Ok e840 [e689]:=by decide +kernel
theorem j841:Ok e841 [e689,e839,e840]:=by decide +kernel
theorem j842:Ok e842 [e51,e60,e61,e64,e149,e152,e153,e192,e841]:=by decide +kernel
theorem j843:Ok e843 [e51,e689,e842]:=by decide +kernel
theorem j844:Ok e844 [e689]:=by decide +kernel
theorem j845:Ok e845 [e85,e88,e90,e91,e94,e95,e163,e196,e844]:=by decide +kernel
theorem j846:Ok e846 [e689]:=by decide +kernel
theorem j847:Ok e847 [e53,e689,e846]:=by decide +kernel
theorem j848:Ok e848 [e689,e847]:=by decide +kernel
theorem j849:Ok e849 [e689]:=by decide +kernel
theorem j850:Ok e850 [e689,e848,e849]:=by decide +kernel
theorem j851:Ok e851 [e61,e64,e104,e110,e149,e152,e153,e192,e850]:=by decide +kernel
theorem j852:Ok e852 [e104,e689,e851]:=by decide +kernel
theorem j853:Ok e853 [e689]:=by decide +kernel
theorem j854:Ok e854 [e85,e88,e115,e116,e119,e120,e163,e196,e853]:=by decide +kernel
theorem j855:Ok e855 [e689]:=by decide +kernel
theorem j856:Ok e856 [e53,e689,e855]:=by decide +kernel
theorem j857:Ok e857 [e689,e856]:=by decide +kernel
theorem j858:Ok e858 [e689]:=by decide +kernel
theorem j859:Ok e859 [e689,e857,e858]:=by decide +kernel
theorem j860:Ok e860 [e689]:=by decide +kernel
theorem j861:Ok e861 [e85,e88,e116,e119,e120,e131,e163,e196,e860]:=by decide +kernel
theorem j862:Ok e862 [e0,e2,e689]:=by decide +kernel
theorem j863:Ok e863 []:=by decide +kernel
theorem j864:Ok e864 [e689]:=by decide +kernel
end Go.Proofs.YtfdgbmkpmjkccaaGreatDoor
