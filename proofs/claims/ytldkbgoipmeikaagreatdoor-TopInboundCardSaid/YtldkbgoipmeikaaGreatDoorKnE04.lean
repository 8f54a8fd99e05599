/-
  Calls that are known by a run each over a small memory, whatever the numbers are that it does not tell.
  Conditions: none.
-/
import Derived.Test.YtldkbgoipmeikaaGreatDoorKnY00
open Go Go.Ab
namespace Go.Proofs.YtldkbgoipmeikaaGreatDoor
theorem ok172 : e172.ok Tryz.prog (knWith kb 6 [e28, e171]) 6 1000 60 = true := by decide +kernel
theorem ok173 : e173.ok Tryz.prog (knWith kb 6 [e32, e33, e39, e40, e41, e42, e43, e44, e172]) 6 1000 60 = true := by decide +kernel
theorem ok174 : e174.ok Tryz.prog (knWith kb 6 [e28, e32, e33, e173]) 6 1000 60 = true := by decide +kernel
theorem ok175 : e175.ok Tryz.prog (knWith kb 6 [e28]) 6 1000 60 = true := by decide +kernel
theorem ok177 : e177.ok Tryz.prog (knWith kb 6 [e72]) 6 1000 60 = true := by decide +kernel
theorem ok178 : e178.ok Tryz.prog (knWith kb 6 [e28]) 6 1000 60 = true := by decide +kernel
theorem ok179 : e179.ok Tryz.prog (knWith kb 6 [e28, e61, e62, e63, e64, e65, e66, e67]) 6 1000 60 = true := by decide +kernel
theorem ok182 : e182.ok Tryz.prog (knWith kb 6 [e92]) 6 1000 60 = true := by decide +kernel
theorem ok183 : e183.ok Tryz.prog (knWith kb 6 [e28, e76]) 6 1000 60 = true := by decide +kernel
theorem ok184 : e184.ok Tryz.prog (knWith kb 6 [e28, e80, e81, e82, e83, e84, e85, e86]) 6 1000 60 = true := by decide +kernel
theorem ok186 : e186.ok Tryz.prog (knWith kb 6 [e92]) 6 1000 60 = true := by decide +kernel
theorem ok188 : e188.ok Tryz.prog (knWith kb 6 [e28, e98]) 6 1000 60 = true := by decide +kernel
theorem ok191 : e191.ok Tryz.prog (knWith kb 6 [e28, e98]) 6 1000 60 = true := by decide +kernel
theorem ok194 : e194.ok Tryz.prog (knWith kb 6 [e28, e98]) 6 1000 60 = true := by decide +kernel
theorem ok195 : e195.ok Tryz.prog (knWith kb 6 [e28, e101, e103, e186]) 6 1000 60 = true := by decide +kernel
theorem ok197 : e197.ok Tryz.prog (knWith kb 6 [e28, e76]) 6 1000 60 = true := by decide +kernel
theorem ok199 : e199.ok Tryz.prog (knWith kb 6 [e28, e76]) 6 1000 60 = true := by decide +kernel
theorem ok201 : e201.ok Tryz.prog (knWith kb 6 [e28]) 6 1000 60 = true := by decide +kernel
theorem ok203 : e203.ok Tryz.prog (knWith kb 6 [e92]) 6 1000 60 = true := by decide +kernel
theorem ok204 : e204.ok Tryz.prog (knWith kb 6 [e28]) 6 1000 60 = true := by decide +kernel
theorem ok205 : e205.ok Tryz.prog (knWith kb 6 [e28, e29]) 6 1000 60 = true := by decide +kernel
theorem ok206 : e206.ok Tryz.prog (knWith kb 6 [e28, e35, e36]) 6 1000 60 = true := by decide +kernel
theorem ok207 : e207.ok Tryz.prog (knWith kb 6 [e28, e206]) 6 1000 60 = true := by decide +kernel
theorem ok208 : e208.ok Tryz.prog (knWith kb 6 [e32, e33, e39, e40, e41, e42, e43, e44, e207]) 6 1000 60 = true := by decide +kernel
theorem ok209 : e209.ok Tryz.prog (knWith kb 6 [e28, e32, e33, e208]) 6 1000 60 = true := by decide +kernel
theorem ok210 : e210.ok Tryz.prog (knWith kb 6 [e28]) 6 1000 60 = true := by decide +kernel
theorem ok212 : e212.ok Tryz.prog (knWith kb 6 [e72]) 6 1000 60 = true := by decide +kernel
theorem ok213 : e213.ok Tryz.prog (knWith kb 6 [e28]) 6 1000 60 = true := by decide +kernel
theorem ok214 : e214.ok Tryz.prog (knWith kb 6 [e28, e61, e62, e63, e64, e65, e66, e67]) 6 1000 60 = true := by decide +kernel
theorem ok217 : e217.ok Tryz.prog (knWith kb 6 [e92]) 6 1000 60 = true := by decide +kernel
theorem ok218 : e218.ok Tryz.prog (knWith kb 6 [e28, e76]) 6 1000 60 = true := by decide +kernel
theorem ok219 : e219.ok Tryz.prog (knWith kb 6 [e28, e80, e81, e82, e83, e84, e85, e86]) 6 1000 60 = true := by decide +kernel
theorem ok221 : e221.ok Tryz.prog (knWith kb 6 [e92]) 6 1000 60 = true := by decide +kernel
theorem ok223 : e223.ok Tryz.prog (knWith kb 6 [e28, e98]) 6 1000 60 = true := by decide +kernel
theorem ok226 : e226.ok Tryz.prog (knWith kb 6 [e28, e98]) 6 1000 60 = true := by decide +kernel
theorem ok229 : e229.ok Tryz.prog (knWith kb 6 [e28, e98]) 6 1000 60 = true := by decide +kernel
theorem ok230 : e230.ok Tryz.prog (knWith kb 6 [e28, e101, e103, e221]) 6 1000 60 = true := by decide +kernel
theorem ok232 : e232.ok Tryz.prog (knWith kb 6 [e28, e76]) 6 1000 60 = true := by decide +kernel
theorem ok234 : e234.ok Tryz.prog (knWith kb 6 [e28, e76]) 6 1000 60 = true := by decide +kernel
end Go.Proofs.YtldkbgoipmeikaaGreatDoor
