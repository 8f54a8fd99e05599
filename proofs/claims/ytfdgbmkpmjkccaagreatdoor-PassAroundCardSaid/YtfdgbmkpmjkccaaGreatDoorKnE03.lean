/-
  Calls that are known by a run each over a small memory, whatever the numbers are that it does not tell.
  Conditions: none.
-/
import Derived.Test.YtfdgbmkpmjkccaaGreatDoorKnY01
open Go Go.Ab
namespace Go.Proofs.YtfdgbmkpmjkccaaGreatDoor
theorem j88:Ok e88 [e86,e87]:=by decide +kernel
theorem j89:Ok e89 []:=by decide +kernel
theorem j90:Ok e90 [e89]:=by decide +kernel
theorem j91:Ok e91 []:=by decide +kernel
theorem j92:Ok e92 []:=by decide +kernel
theorem j93:Ok e93 []:=by decide +kernel
theorem j94:Ok e94 [e92,e93]:=by decide +kernel
theorem j95:Ok e95 []:=by decide +kernel
theorem j96:Ok e96 [e81,e82,e84,e85,e88,e90,e91,e94,e95]:=by decide +kernel
theorem j97:Ok e97 []:=by decide +kernel
theorem j98:Ok e98 [e93,e97]:=by decide +kernel
theorem j100:OkF e100 [] (.go 109 (.split ⟨true, (.sub (.const 65535) (.add (.rem (.add (.add (.var 0 0 65535) (.var 1 0 65535)) (.const 70297)) 65535) (.const 1))), (.const 0), true⟩ (.go 9 (.ren [(33, 33)])) (.go 9 (.ren [(33, 33)])))):=by decide +kernel
theorem j101:Ok e101 []:=by decide +kernel
theorem j102:Ok e102 []:=by decide +kernel
theorem j103:Ok e103 []:=by decide +kernel
theorem j104:Ok e104 [e102,e103]:=by decide +kernel
theorem j105:Ok e105 [e28]:=by decide +kernel
theorem j106:Ok e106 [e28,e53,e105]:=by decide +kernel
theorem j107:Ok e107 [e28,e106]:=by decide +kernel
theorem j108:Ok e108 [e28]:=by decide +kernel
theorem j109:Ok e109 [e28,e107,e108]:=by decide +kernel
theorem j110:Ok e110 [e59]:=by decide +kernel
theorem j111:Ok e111 [e61,e64,e66,e67,e70,e71,e104,e109,e110]:=by decide +kernel
theorem j112:Ok e112 [e28,e104,e111]:=by decide +kernel
theorem j113:Ok e113 [e28]:=by decide +kernel
theorem j114:Ok e114 []:=by decide +kernel
theorem j115:OkF e115 [e114] (.go 21 (.split ⟨true, (.sub (.const 65535) (.add (.rem (.add (.add (.add (.var 1 0 255) (.mul (.const 256) (.var 2 0 255))) (.var 3 0 255)) (.const 105882)) 65535) (.const 1))), (.const 0), true⟩ (.go 5 (.ren [])) (.go 5 (.ren [])))):=by decide +kernel
theorem j116:Ok e116 []:=by decide +kernel
theorem j117:Ok e117 []:=by decide +kernel
theorem j118:Ok e118 []:=by decide +kernel
theorem j119:Ok e119 [e117,e118]:=by decide +kernel
theorem j120:Ok e120 []:=by decide +kernel
theorem j121:Ok e121 [e81,e84,e85,e88,e113,e115,e116,e119,e120]:=by decide +kernel
theorem j122:Ok e122 []:=by decide +kernel
theorem j123:Ok e123 [e118,e122]:=by decide +kernel
theorem j124:Ok e124 [e28]:=by decide +kernel
theorem j125:Ok e125 [e28,e53,e124]:=by decide +kernel
theorem j126:Ok e126 [e28,e125]:=by decide +kernel
theorem j127:Ok e127 [e28]:=by decide +kernel
theorem j128:Ok e128 [e28,e126,e127]:=by decide +kernel
end Go.Proofs.YtfdgbmkpmjkccaaGreatDoor
