/-
  Calls that are known by a run each over a small memory, whatever the numbers are that it does not tell.
  Conditions: none.
-/
import Derived.Test.YtfdgbmkpmjkccaaGreatDoorKnY01
open Go Go.Ab
namespace Go.Proofs.YtfdgbmkpmjkccaaGreatDoor
theorem j129:Ok e129 [e59]:=by decide +kernel
theorem j130:Ok e130 [e28]:=by decide +kernel
theorem j131:OkF e131 [e114] (.go 21 (.split ⟨true, (.sub (.const 65535) (.add (.rem (.add (.add (.add (.var 1 0 255) (.mul (.const 256) (.var 2 0 255))) (.var 3 0 255)) (.const 105882)) 65535) (.const 1))), (.const 0), true⟩ (.go 5 (.ren [])) (.go 5 (.ren [])))):=by decide +kernel
theorem j132:Ok e132 [e81,e84,e85,e88,e116,e119,e120,e130,e131]:=by decide +kernel
theorem j133:Ok e133 []:=by decide +kernel
theorem j134:Ok e134 []:=by decide +kernel
theorem j135:Ok e135 []:=by decide +kernel
theorem j136:Ok e136 [e134,e135]:=by decide +kernel
theorem j137:Ok e137 [e28]:=by decide +kernel
theorem j138:Ok e138 [e12,e28,e137]:=by decide +kernel
theorem j139:Ok e139 [e28,e138]:=by decide +kernel
theorem j140:Ok e140 [e28]:=by decide +kernel
theorem j141:Ok e141 [e39]:=by decide +kernel
theorem j142:Ok e142 [e41,e44,e45,e136,e139,e140,e141]:=by decide +kernel
theorem j143:Ok e143 [e28,e53,e54]:=by decide +kernel
theorem j144:Ok e144 [e28,e143]:=by decide +kernel
theorem j145:Ok e145 [e28]:=by decide +kernel
theorem j146:Ok e146 [e28,e144,e145]:=by decide +kernel
theorem j147:Ok e147 []:=by decide +kernel
theorem j148:OkF e148 [e147] (.go 21 (.split ⟨true, (.sub (.const 65535) (.add (.rem (.add (.add (.add (.var 1 0 255) (.mul (.const 256) (.var 2 0 255))) (.var 3 0 255)) (.const 71320)) 65535) (.const 1))), (.const 0), true⟩ (.go 5 (.ren [])) (.go 5 (.ren [])))):=by decide +kernel
theorem j149:Ok e149 []:=by decide +kernel
theorem j150:Ok e150 []:=by decide +kernel
theorem j151:Ok e151 []:=by decide +kernel
theorem j152:Ok e152 [e150,e151]:=by decide +kernel
theorem j153:Ok e153 []:=by decide +kernel
theorem j154:Ok e154 [e51,e60,e61,e64,e146,e148,e149,e152,e153]:=by decide +kernel
theorem j155:Ok e155 [e28,e51,e154]:=by decide +kernel
theorem j156:Ok e156 []:=by decide +kernel
theorem j157:Ok e157 [e151,e156]:=by decide +kernel
theorem j159:OkF e159 [] (.go 131 (.split ⟨true, (.sub (.const 65535) (.add (.rem (.add (.add (.var 0 0 65535) (.var 1 0 65535)) (.const 104857)) 65535) (.const 1))), (.const 0), true⟩ (.go 9 (.ren [(37, 37)])) (.go 9 (.ren [(37, 37)])))):=by decide +kernel
theorem j160:Ok e160 []:=by decide +kernel
theorem j161:Ok e161 []:=by decide +kernel
theorem j162:Ok e162 []:=by decide +kernel
theorem j163:Ok e163 [e161,e162]:=by decide +kernel
theorem j164:Ok e164 [e28]:=by decide +kernel
theorem j165:Ok e165 [e83]:=by decide +kernel
theorem j166:Ok e166 [e85,e88,e90,e91,e94,e95,e163,e164,e165]:=by decide +kernel
theorem j167:Ok e167 [e28]:=by decide +kernel
theorem j168:Ok e168 [e28,e53,e167]:=by decide +kernel
end Go.Proofs.YtfdgbmkpmjkccaaGreatDoor
