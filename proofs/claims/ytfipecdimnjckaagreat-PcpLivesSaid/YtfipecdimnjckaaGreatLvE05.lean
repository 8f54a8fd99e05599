/-
  Calls that are known by a run each over a small memory, whatever the numbers are that it does not tell.
  Conditions: none.
-/
import Derived.Test.YtfipecdimnjckaaGreatLvY01
open Go Go.Ab
namespace Go.Proofs.YtfipecdimnjckaaGreat
theorem ok193 : e193.ok Tryz.prog (knWith kb 0 [e176, e168]) 0 1000 60 = true := by decide +kernel
theorem ok194 : e194.ok Tryz.prog (knWith kb 0 [e168]) 0 1000 60 = true := by decide +kernel
theorem ok195 : e195.ok Tryz.prog (knWith kb 0 []) 0 1000 60 = true := by decide +kernel
theorem ok196 : e196.ok Tryz.prog (knWith kb 0 [e195, e1, eOpen]) 0 1000 60 = true := by decide +kernel
theorem ok197 : e197.ok Tryz.prog (knWith kb 0 [e195]) 0 1000 60 = true := by decide +kernel
theorem ok198 : e198.ok Tryz.prog (knWith kb 0 [e197, e195, e6]) 0 1000 60 = true := by decide +kernel
theorem ok199 : e199.ok Tryz.prog (knWith kb 0 [e198, e195]) 0 1000 60 = true := by decide +kernel
theorem ok200 : e200.ok Tryz.prog (knWith kb 0 [e199]) 0 1000 60 = true := by decide +kernel
theorem ok201 : e201.ok Tryz.prog (knWith kb 0 [e200, e15, e195]) 0 1000 60 = true := by decide +kernel
theorem ok202 : e202.ok Tryz.prog (knWith kb 0 [e195]) 0 1000 60 = true := by decide +kernel
theorem ok203 : e203.ok Tryz.prog (knWith kb 0 [e22]) 0 1000 60 = true := by decide +kernel
theorem ok204 : e204.ok Tryz.prog (knWith kb 0 [e203, e195]) 0 1000 60 = true := by decide +kernel
theorem ok205 : e205.ok Tryz.prog (knWith kb 0 [e195]) 0 1000 60 = true := by decide +kernel
theorem ok206 : e206.ok Tryz.prog (knWith kb 0 [e195]) 0 1000 60 = true := by decide +kernel
theorem ok207 : e207.ok Tryz.prog (knWith kb 0 [e195]) 0 1000 60 = true := by decide +kernel
theorem ok208 : e208.ok Tryz.prog (knWith kb 0 [e207, e195, e6]) 0 1000 60 = true := by decide +kernel
theorem ok209 : e209.ok Tryz.prog (knWith kb 0 [e208, e195]) 0 1000 60 = true := by decide +kernel
theorem ok210 : e210.ok Tryz.prog (knWith kb 0 [e209]) 0 1000 60 = true := by decide +kernel
theorem ok211 : e211.ok Tryz.prog (knWith kb 0 [e210, e27, e195]) 0 1000 60 = true := by decide +kernel
theorem ok212 : e212.ok Tryz.prog (knWith kb 0 [e203, e195]) 0 1000 60 = true := by decide +kernel
theorem ok213 : e213.ok Tryz.prog (knWith kb 0 [e195]) 0 1000 60 = true := by decide +kernel
theorem ok214 : e214.ok Tryz.prog (knWith kb 0 [e195]) 0 1000 60 = true := by decide +kernel
theorem ok215 : e215.ok Tryz.prog (knWith kb 0 [e214, e195, e6]) 0 1000 60 = true := by decide +kernel
theorem ok216 : e216.ok Tryz.prog (knWith kb 0 [e215, e195]) 0 1000 60 = true := by decide +kernel
theorem ok217 : e217.ok Tryz.prog (knWith kb 0 [e216]) 0 1000 60 = true := by decide +kernel
theorem ok218 : e218.ok Tryz.prog (knWith kb 0 [e217, e34, e195]) 0 1000 60 = true := by decide +kernel
theorem ok219 : e219.ok Tryz.prog (knWith kb 0 [e195]) 0 1000 60 = true := by decide +kernel
theorem ok220 : e220.ok Tryz.prog (knWith kb 0 [e203, e195]) 0 1000 60 = true := by decide +kernel
theorem ok221 : e221.ok Tryz.prog (knWith kb 0 [e195]) 0 1000 60 = true := by decide +kernel
theorem ok222 : e222.ok Tryz.prog (knWith kb 0 []) 0 1000 60 = true := by decide +kernel
theorem ok223 : e223.ok Tryz.prog (knWith kb 0 [e222, e1, eOpen]) 0 1000 60 = true := by decide +kernel
theorem ok224 : e224.ok Tryz.prog (knWith kb 0 [e222]) 0 1000 60 = true := by decide +kernel
theorem ok225 : e225.ok Tryz.prog (knWith kb 0 [e224, e222, e6]) 0 1000 60 = true := by decide +kernel
theorem ok226 : e226.ok Tryz.prog (knWith kb 0 [e225, e222]) 0 1000 60 = true := by decide +kernel
theorem ok227 : e227.ok Tryz.prog (knWith kb 0 [e226]) 0 1000 60 = true := by decide +kernel
theorem ok228 : e228.ok Tryz.prog (knWith kb 0 [e227, e15, e222]) 0 1000 60 = true := by decide +kernel
theorem ok229 : e229.ok Tryz.prog (knWith kb 0 [e222]) 0 1000 60 = true := by decide +kernel
theorem ok230 : e230.ok Tryz.prog (knWith kb 0 [e22]) 0 1000 60 = true := by decide +kernel
end Go.Proofs.YtfipecdimnjckaaGreat
