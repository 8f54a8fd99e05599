/-
  Calls that are known by a run each over a small memory, whatever the numbers are that it does not tell.
  Conditions: none.
-/
import Derived.Test.YtfdgbmkpmjkccaaGreatDoorKnY01
open Go Go.Ab
namespace Go.Proofs.YtfdgbmkpmjkccaaGreatDoor
theorem j169:Ok e169 [e28,e168]:=by decide +kernel
theorem j170:Ok e170 [e28]:=by decide +kernel
theorem j171:Ok e171 [e28,e169,e170]:=by decide +kernel
theorem j172:Ok e172 [e61,e64,e104,e110,e148,e149,e152,e153,e171]:=by decide +kernel
theorem j173:Ok e173 [e28,e104,e172]:=by decide +kernel
theorem j174:Ok e174 [e28]:=by decide +kernel
theorem j175:Ok e175 [e85,e88,e115,e116,e119,e120,e163,e165,e174]:=by decide +kernel
theorem j176:Ok e176 [e28]:=by decide +kernel
theorem j177:Ok e177 [e28,e53,e176]:=by decide +kernel
theorem j178:Ok e178 [e28,e177]:=by decide +kernel
theorem j179:Ok e179 [e28]:=by decide +kernel
theorem j180:Ok e180 [e28,e178,e179]:=by decide +kernel
theorem j181:Ok e181 [e28]:=by decide +kernel
theorem j182:Ok e182 [e85,e88,e116,e119,e120,e131,e163,e165,e181]:=by decide +kernel
theorem j183:Ok e183 [e28]:=by decide +kernel
theorem j184:Ok e184 [e12,e28,e183]:=by decide +kernel
theorem j185:Ok e185 [e28,e184]:=by decide +kernel
theorem j186:Ok e186 [e28]:=by decide +kernel
theorem j187:Ok e187 [e39]:=by decide +kernel
theorem j188:Ok e188 [e28,e53,e54]:=by decide +kernel
theorem j189:Ok e189 [e28,e188]:=by decide +kernel
theorem j190:Ok e190 [e28]:=by decide +kernel
theorem j191:Ok e191 [e28,e189,e190]:=by decide +kernel
theorem j192:OkF e192 [e147] (.go 21 (.split ⟨true, (.sub (.const 65535) (.add (.rem (.add (.add (.add (.var 1 0 255) (.mul (.const 256) (.var 2 0 255))) (.var 3 0 255)) (.const 71320)) 65535) (.const 1))), (.const 0), true⟩ (.go 5 (.ren [])) (.go 5 (.ren [])))):=by decide +kernel
theorem j193:Ok e193 [e51,e60,e61,e64,e149,e152,e153,e191,e192]:=by decide +kernel
theorem j194:Ok e194 [e28,e51,e193]:=by decide +kernel
theorem j195:Ok e195 [e28]:=by decide +kernel
theorem j196:Ok e196 [e83]:=by decide +kernel
theorem j197:Ok e197 [e85,e88,e90,e91,e94,e95,e163,e195,e196]:=by decide +kernel
theorem j198:Ok e198 [e28]:=by decide +kernel
theorem j199:Ok e199 [e28,e53,e198]:=by decide +kernel
theorem j200:Ok e200 [e28,e199]:=by decide +kernel
theorem j201:Ok e201 [e28]:=by decide +kernel
theorem j202:Ok e202 [e28,e200,e201]:=by decide +kernel
theorem j203:Ok e203 [e61,e64,e104,e110,e149,e152,e153,e192,e202]:=by decide +kernel
theorem j204:Ok e204 [e28,e104,e203]:=by decide +kernel
theorem j205:Ok e205 [e28]:=by decide +kernel
end Go.Proofs.YtfdgbmkpmjkccaaGreatDoor
