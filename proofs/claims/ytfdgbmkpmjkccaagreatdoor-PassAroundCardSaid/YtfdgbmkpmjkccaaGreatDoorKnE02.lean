/-
  Calls that are known by a run each over a small memory, whatever the numbers are that it does not tell.
  Conditions: none.
-/
import Derived.Test.YtfdgbmkpmjkccaaGreatDoorKnY01
open Go Go.Ab
namespace Go.Proofs.YtfdgbmkpmjkccaaGreatDoor
theorem j45:Ok e45 []:=by decide +kernel
theorem j46:Ok e46 [e34,e37,e38,e40,e41,e44,e45]:=by decide +kernel
theorem j47:Ok e47 []:=by decide +kernel
theorem j48:Ok e48 []:=by decide +kernel
theorem j49:Ok e49 []:=by decide +kernel
theorem j50:Ok e50 []:=by decide +kernel
theorem j51:Ok e51 [e49,e50]:=by decide +kernel
theorem j52:Ok e52 []:=by decide +kernel
theorem j53:Ok e53 [e52]:=by decide +kernel
theorem j54:Ok e54 [e28]:=by decide +kernel
theorem j55:Ok e55 [e28,e53,e54]:=by decide +kernel
theorem j56:Ok e56 [e28,e55]:=by decide +kernel
theorem j59:Ok e59 []:=by decide +kernel
theorem j60:Ok e60 [e59]:=by decide +kernel
theorem j61:Ok e61 []:=by decide +kernel
theorem j62:Ok e62 []:=by decide +kernel
theorem j63:Ok e63 []:=by decide +kernel
theorem j64:Ok e64 [e62,e63]:=by decide +kernel
theorem j65:Ok e65 []:=by decide +kernel
theorem j66:Ok e66 [e65]:=by decide +kernel
theorem j67:Ok e67 []:=by decide +kernel
theorem j68:Ok e68 []:=by decide +kernel
theorem j69:Ok e69 []:=by decide +kernel
theorem j70:Ok e70 [e68,e69]:=by decide +kernel
theorem j71:Ok e71 []:=by decide +kernel
theorem j73:Ok e73 [e28,e51,e56,e60,e61,e64,e66,e67,e70,e71]:=by decide +kernel
theorem j74:Ok e74 []:=by decide +kernel
theorem j75:Ok e75 [e69,e74]:=by decide +kernel
theorem j76:Ok e76 []:=by decide +kernel
theorem j77:Ok e77 []:=by decide +kernel
theorem j78:Ok e78 [e76,e77]:=by decide +kernel
theorem j79:Ok e79 []:=by decide +kernel
theorem j80:Ok e80 []:=by decide +kernel
theorem j81:Ok e81 [e79,e80]:=by decide +kernel
theorem j82:Ok e82 [e28]:=by decide +kernel
theorem j83:Ok e83 []:=by decide +kernel
theorem j84:Ok e84 [e83]:=by decide +kernel
theorem j85:Ok e85 []:=by decide +kernel
theorem j86:Ok e86 []:=by decide +kernel
theorem j87:Ok e87 []:=by decide +kernel
end Go.Proofs.YtfdgbmkpmjkccaaGreatDoor
