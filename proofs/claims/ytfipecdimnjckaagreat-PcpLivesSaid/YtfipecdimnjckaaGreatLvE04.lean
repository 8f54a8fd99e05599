/-
  Calls that are known by a run each over a small memory, whatever the numbers are that it does not tell.
  Conditions: none.
-/
import Derived.Test.YtfipecdimnjckaaGreatLvY01
open Go Go.Ab
namespace Go.Proofs.YtfipecdimnjckaaGreat
theorem ok155 : e155.ok Tryz.prog (knWith kb 0 [e154, e141]) 0 1000 60 = true := by decide +kernel
theorem ok156 : e156.ok Tryz.prog (knWith kb 0 [e155]) 0 1000 60 = true := by decide +kernel
theorem ok157 : e157.ok Tryz.prog (knWith kb 0 [e156, e27, e141]) 0 1000 60 = true := by decide +kernel
theorem ok158 : e158.ok Tryz.prog (knWith kb 0 [e149, e141]) 0 1000 60 = true := by decide +kernel
theorem ok159 : e159.ok Tryz.prog (knWith kb 0 [e141]) 0 1000 60 = true := by decide +kernel
theorem ok160 : e160.ok Tryz.prog (knWith kb 0 [e141]) 0 1000 60 = true := by decide +kernel
theorem ok161 : e161.ok Tryz.prog (knWith kb 0 [e160, e141, e6]) 0 1000 60 = true := by decide +kernel
theorem ok162 : e162.ok Tryz.prog (knWith kb 0 [e161, e141]) 0 1000 60 = true := by decide +kernel
theorem ok163 : e163.ok Tryz.prog (knWith kb 0 [e162]) 0 1000 60 = true := by decide +kernel
theorem ok164 : e164.ok Tryz.prog (knWith kb 0 [e163, e34, e141]) 0 1000 60 = true := by decide +kernel
theorem ok165 : e165.ok Tryz.prog (knWith kb 0 [e141]) 0 1000 60 = true := by decide +kernel
theorem ok166 : e166.ok Tryz.prog (knWith kb 0 [e149, e141]) 0 1000 60 = true := by decide +kernel
theorem ok167 : e167.ok Tryz.prog (knWith kb 0 [e141]) 0 1000 60 = true := by decide +kernel
theorem ok168 : e168.ok Tryz.prog (knWith kb 0 []) 0 1000 60 = true := by decide +kernel
theorem ok169 : e169.ok Tryz.prog (knWith kb 0 [e168, e1, eOpen]) 0 1000 60 = true := by decide +kernel
theorem ok170 : e170.ok Tryz.prog (knWith kb 0 [e168]) 0 1000 60 = true := by decide +kernel
theorem ok171 : e171.ok Tryz.prog (knWith kb 0 [e170, e168, e6]) 0 1000 60 = true := by decide +kernel
theorem ok172 : e172.ok Tryz.prog (knWith kb 0 [e171, e168]) 0 1000 60 = true := by decide +kernel
theorem ok173 : e173.ok Tryz.prog (knWith kb 0 [e172]) 0 1000 60 = true := by decide +kernel
theorem ok174 : e174.ok Tryz.prog (knWith kb 0 [e173, e15, e168]) 0 1000 60 = true := by decide +kernel
theorem ok175 : e175.ok Tryz.prog (knWith kb 0 [e168]) 0 1000 60 = true := by decide +kernel
theorem ok176 : e176.ok Tryz.prog (knWith kb 0 [e22]) 0 1000 60 = true := by decide +kernel
theorem ok177 : e177.ok Tryz.prog (knWith kb 0 [e176, e168]) 0 1000 60 = true := by decide +kernel
theorem ok178 : e178.ok Tryz.prog (knWith kb 0 [e168]) 0 1000 60 = true := by decide +kernel
theorem ok179 : e179.ok Tryz.prog (knWith kb 0 [e168]) 0 1000 60 = true := by decide +kernel
theorem ok180 : e180.ok Tryz.prog (knWith kb 0 [e168]) 0 1000 60 = true := by decide +kernel
theorem ok181 : e181.ok Tryz.prog (knWith kb 0 [e180, e168, e6]) 0 1000 60 = true := by decide +kernel
theorem ok182 : e182.ok Tryz.prog (knWith kb 0 [e181, e168]) 0 1000 60 = true := by decide +kernel
theorem ok183 : e183.ok Tryz.prog (knWith kb 0 [e182]) 0 1000 60 = true := by decide +kernel
theorem ok184 : e184.ok Tryz.prog (knWith kb 0 [e183, e27, e168]) 0 1000 60 = true := by decide +kernel
theorem ok185 : e185.ok Tryz.prog (knWith kb 0 [e176, e168]) 0 1000 60 = true := by decide +kernel
theorem ok186 : e186.ok Tryz.prog (knWith kb 0 [e168]) 0 1000 60 = true := by decide +kernel
theorem ok187 : e187.ok Tryz.prog (knWith kb 0 [e168]) 0 1000 60 = true := by decide +kernel
theorem ok188 : e188.ok Tryz.prog (knWith kb 0 [e187, e168, e6]) 0 1000 60 = true := by decide +kernel
theorem ok189 : e189.ok Tryz.prog (knWith kb 0 [e188, e168]) 0 1000 60 = true := by decide +kernel
theorem ok190 : e190.ok Tryz.prog (knWith kb 0 [e189]) 0 1000 60 = true := by decide +kernel
theorem ok191 : e191.ok Tryz.prog (knWith kb 0 [e190, e34, e168]) 0 1000 60 = true := by decide +kernel
theorem ok192 : e192.ok Tryz.prog (knWith kb 0 [e168]) 0 1000 60 = true := by decide +kernel
end Go.Proofs.YtfipecdimnjckaaGreat
