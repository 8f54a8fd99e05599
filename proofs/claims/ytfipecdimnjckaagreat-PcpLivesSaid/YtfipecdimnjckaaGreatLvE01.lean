/-
  Calls that are known by a run each over a small memory, whatever the numbers are that it does not tell.
  Conditions: none.
-/
import Derived.Test.YtfipecdimnjckaaGreatLvY01
open Go Go.Ab
namespace Go.Proofs.YtfipecdimnjckaaGreat
theorem ok39 : e39.ok Tryz.prog (knWith kb 0 [e13]) 0 1000 60 = true := by decide +kernel
theorem ok40 : e40.ok Tryz.prog (knWith kb 0 [e23, e13]) 0 1000 60 = true := by decide +kernel
theorem ok41 : e41.ok Tryz.prog (knWith kb 0 [e13]) 0 1000 60 = true := by decide +kernel
theorem ok42 : e42.ok Tryz.prog (knWith kb 0 []) 0 1000 60 = true := by decide +kernel
theorem ok43 : e43.ok Tryz.prog (knWith kb 0 [e42, e1, eOpen]) 0 1000 60 = true := by decide +kernel
theorem ok44 : e44.ok Tryz.prog (knWith kb 0 [e42]) 0 1000 60 = true := by decide +kernel
theorem ok45 : e45.ok Tryz.prog (knWith kb 0 [e44, e42, e6]) 0 1000 60 = true := by decide +kernel
theorem ok46 : e46.ok Tryz.prog (knWith kb 0 [e45, e42]) 0 1000 60 = true := by decide +kernel
theorem ok47 : e47.ok Tryz.prog (knWith kb 0 [e46]) 0 1000 60 = true := by decide +kernel
theorem ok48 : e48.ok Tryz.prog (knWith kb 0 [e42]) 0 1000 60 = true := by decide +kernel
theorem ok49 : e49.ok Tryz.prog (knWith kb 0 [e22]) 0 1000 60 = true := by decide +kernel
theorem ok50 : e50.ok Tryz.prog (knWith kb 0 [e49, e42]) 0 1000 60 = true := by decide +kernel
theorem ok51 : e51.ok Tryz.prog (knWith kb 0 [e42]) 0 1000 60 = true := by decide +kernel
theorem ok52 : e52.ok Tryz.prog (knWith kb 0 [e42]) 0 1000 60 = true := by decide +kernel
theorem ok53 : e53.ok Tryz.prog (knWith kb 0 [e42]) 0 1000 60 = true := by decide +kernel
theorem ok54 : e54.ok Tryz.prog (knWith kb 0 [e53, e42, e6]) 0 1000 60 = true := by decide +kernel
theorem ok55 : e55.ok Tryz.prog (knWith kb 0 [e54, e42]) 0 1000 60 = true := by decide +kernel
theorem ok56 : e56.ok Tryz.prog (knWith kb 0 [e55]) 0 1000 60 = true := by decide +kernel
theorem ok57 : e57.ok Tryz.prog (knWith kb 0 [e49, e42]) 0 1000 60 = true := by decide +kernel
theorem ok58 : e58.ok Tryz.prog (knWith kb 0 [e42]) 0 1000 60 = true := by decide +kernel
theorem ok59 : e59.ok Tryz.prog (knWith kb 0 [e42]) 0 1000 60 = true := by decide +kernel
theorem ok60 : e60.ok Tryz.prog (knWith kb 0 [e59, e42, e6]) 0 1000 60 = true := by decide +kernel
theorem ok61 : e61.ok Tryz.prog (knWith kb 0 [e60, e42]) 0 1000 60 = true := by decide +kernel
theorem ok62 : e62.ok Tryz.prog (knWith kb 0 [e61]) 0 1000 60 = true := by decide +kernel
theorem ok63 : e63.ok Tryz.prog (knWith kb 0 [e42]) 0 1000 60 = true := by decide +kernel
theorem ok64 : e64.ok Tryz.prog (knWith kb 0 [e49, e42]) 0 1000 60 = true := by decide +kernel
theorem ok65 : e65.ok Tryz.prog (knWith kb 0 [e42]) 0 1000 60 = true := by decide +kernel
theorem ok66 : e66.ok Tryz.prog (knWith kb 0 []) 0 1000 60 = true := by decide +kernel
theorem ok67 : e67.ok Tryz.prog (knWith kb 0 [e66, e1, eOpen]) 0 1000 60 = true := by decide +kernel
theorem ok68 : e68.ok Tryz.prog (knWith kb 0 [e66]) 0 1000 60 = true := by decide +kernel
theorem ok69 : e69.ok Tryz.prog (knWith kb 0 [e68, e66, e6]) 0 1000 60 = true := by decide +kernel
theorem ok70 : e70.ok Tryz.prog (knWith kb 0 [e69, e66]) 0 1000 60 = true := by decide +kernel
theorem ok71 : e71.ok Tryz.prog (knWith kb 0 [e70]) 0 1000 60 = true := by decide +kernel
theorem ok72 : e72.ok Tryz.prog (knWith kb 0 [e66]) 0 1000 60 = true := by decide +kernel
theorem ok73 : e73.ok Tryz.prog (knWith kb 0 [e22]) 0 1000 60 = true := by decide +kernel
theorem ok74 : e74.ok Tryz.prog (knWith kb 0 [e73, e66]) 0 1000 60 = true := by decide +kernel
theorem ok75 : e75.ok Tryz.prog (knWith kb 0 [e66]) 0 1000 60 = true := by decide +kernel
theorem ok76 : e76.ok Tryz.prog (knWith kb 0 [e66]) 0 1000 60 = true := by decide +kernel
theorem ok77 : e77.ok Tryz.prog (knWith kb 0 [e66]) 0 1000 60 = true := by decide +kernel
end Go.Proofs.YtfipecdimnjckaaGreat
