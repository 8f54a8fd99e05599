/-
  Calls that are known by a run each over a small memory, whatever the numbers are that it does not tell.
  Conditions: none.
-/
import Derived.Test.YtfdgbmkpmjkccaaGreatDoorKnY01
open Go Go.Ab
namespace Go.Proofs.YtfdgbmkpmjkccaaGreatDoor
theorem j1:Ok e1 []:=by decide +kernel
theorem j2:Ok e2 [e1]:=by decide +kernel
theorem j3:Ok e3 []:=by decide +kernel
theorem j4:Ok e4 []:=by decide +kernel
theorem j5:Ok e5 [e0,e2,e3,e4]:=by decide +kernel
theorem j6:Ok e6 []:=by decide +kernel
theorem j7:Ok e7 []:=by decide +kernel
theorem j8:Ok e8 []:=by decide +kernel
theorem j9:Ok e9 []:=by decide +kernel
theorem j10:Ok e10 [e8,e9]:=by decide +kernel
theorem j11:Ok e11 []:=by decide +kernel
theorem j12:Ok e12 [e11]:=by decide +kernel
theorem j13:Ok e13 [e4]:=by decide +kernel
theorem j14:Ok e14 [e4,e12,e13]:=by decide +kernel
theorem j15:Ok e15 [e4,e14]:=by decide +kernel
theorem j16:Ok e16 [e4]:=by decide +kernel
theorem j17:Ok e17 []:=by decide +kernel
theorem j18:Ok e18 [e17]:=by decide +kernel
theorem j19:Ok e19 []:=by decide +kernel
theorem j20:Ok e20 []:=by decide +kernel
theorem j21:Ok e21 []:=by decide +kernel
theorem j22:Ok e22 [e20,e21]:=by decide +kernel
theorem j23:Ok e23 []:=by decide +kernel
theorem j24:Ok e24 [e10,e15,e16,e18,e19,e22,e23]:=by decide +kernel
theorem j25:Ok e25 []:=by decide +kernel
theorem j26:Ok e26 [e21,e25]:=by decide +kernel
theorem j2000000:Ok e2000000 [e3,e4,e5,e6,e7,e10,e24,e26]:=by decide +kernel
theorem j28:Ok e28 []:=by decide +kernel
theorem j29:Ok e29 [e0,e2,e28]:=by decide +kernel
theorem j30:OkF e30 [] (.go 43 (.split ⟨true, (.sub (.const 65535) (.add (.rem (.add (.var 0 0 65535) (.const 6766)) 65535) (.const 1))), (.const 0), true⟩ (.go 9 (.ren [(20, 20)])) (.go 9 (.ren [(20, 20)])))):=by decide +kernel
theorem j31:Ok e31 []:=by decide +kernel
theorem j32:Ok e32 []:=by decide +kernel
theorem j33:Ok e33 []:=by decide +kernel
theorem j34:Ok e34 [e32,e33]:=by decide +kernel
theorem j35:Ok e35 [e28]:=by decide +kernel
theorem j36:Ok e36 [e12,e28,e35]:=by decide +kernel
theorem j37:Ok e37 [e28,e36]:=by decide +kernel
theorem j38:Ok e38 [e28]:=by decide +kernel
theorem j39:Ok e39 []:=by decide +kernel
theorem j40:Ok e40 [e39]:=by decide +kernel
theorem j41:Ok e41 []:=by decide +kernel
theorem j42:Ok e42 []:=by decide +kernel
theorem j43:Ok e43 []:=by decide +kernel
theorem j44:Ok e44 [e42,e43]:=by decide +kernel
end Go.Proofs.YtfdgbmkpmjkccaaGreatDoor
