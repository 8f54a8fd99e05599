/-
  The law, for all inputs: its classes are all that there is.
  Conditions: the inputs' kinds.
-/
import Derived.Test.YtfipecdimnjckaaGreatKnE00
import Derived.Test.YtfipecdimnjckaaGreatKnE01
import Derived.Test.YtfipecdimnjckaaGreatKnE02
import Derived.Test.YtfipecdimnjckaaGreatKnE03
import Derived.Test.YtfipecdimnjckaaGreatKnE04
import Derived.Test.YtfipecdimnjckaaGreatKnR00
import Derived.Test.YtfipecdimnjckaaGreatKnR01
import Derived.Test.YtfipecdimnjckaaGreatKnR02
import Derived.Test.YtfipecdimnjckaaGreatKnR03
open Go Go.Ab Go.ChangeShapes Go.WideShapes Go.ChangeAt Go.RowKit
namespace Go.Proofs.YtfipecdimnjckaaGreat
noncomputable section
theorem gd0 : AllGood Tryz.prog [e0] := .one .nil (fuel := 1000) (n := 60) (by rw [g0]; exact ok0)
theorem gd1 : AllGood Tryz.prog [e1] := .one (gd0.app (gdOpen.app .nil)) (fuel := 1000) (n := 60) (by rw [g0]; exact ok1)
theorem gd2 : AllGood Tryz.prog [e2] := .one .nil (fuel := 1000) (n := 60) (by rw [g0]; exact ok2)
theorem gd3 : AllGood Tryz.prog [e3] := .one .nil (fuel := 1000) (n := 60) (by rw [g0]; exact ok3)
theorem gd4 : AllGood Tryz.prog [e4] := .one .nil (fuel := 1000) (n := 60) (by rw [g0]; exact ok4)
theorem gd5 : AllGood Tryz.prog [e5] := .one (gd4.app .nil) (fuel := 1000) (n := 60) (by rw [g0]; exact ok5)
theorem gd6 : AllGood Tryz.prog [e6] := .one (gd2.app .nil) (fuel := 1000) (n := 60) (by rw [g0]; exact ok6)
theorem gd7 : AllGood Tryz.prog [e7] := .one (gd6.app (gd2.app (gd5.app .nil))) (fuel := 1000) (n := 60) (by rw [g0]; exact ok7)
theorem gd8 : AllGood Tryz.prog [e8] := .one (gd7.app (gd2.app .nil)) (fuel := 1000) (n := 60) (by rw [g0]; exact ok8)
theorem gd9 : AllGood Tryz.prog [e9] := .one (gd8.app .nil) (fuel := 1000) (n := 60) (by rw [g0]; exact ok9)
theorem gd2000000 : AllGood Tryz.prog [e2000000] := .one (gd3.app (gd9.app (gd1.app (gd2.app .nil)))) (fuel := 1000) (n := 60) (by rw [g0]; exact ok2000000)
theorem gd11 : AllGood Tryz.prog [e11] := .one .nil (fuel := 1000) (n := 60) (by rw [g0]; exact ok11)
theorem gd12 : AllGood Tryz.prog [e12] := .one .nil (fuel := 1000) (n := 60) (by rw [g0]; exact ok12)
theorem gd13 : AllGood Tryz.prog [e13] := .one .nil (fuel := 1000) (n := 60) (by rw [g0]; exact ok13)
theorem gd14 : AllGood Tryz.prog [e14] := .one .nil (fuel := 1000) (n := 60) (by rw [g0]; exact ok14)
theorem gd15 : AllGood Tryz.prog [e15] := .one .nil (fuel := 1000) (n := 60) (by rw [g0]; exact ok15)
theorem gd16 : AllGood Tryz.prog [e16] := .one .nil (fuel := 1000) (n := 60) (by rw [g0]; exact ok16)
theorem gd17 : AllGood Tryz.prog [e17] := .one .nil (fuel := 1000) (n := 60) (by rw [g0]; exact ok17)
theorem gd18 : AllGood Tryz.prog [e18] := .one .nil (fuel := 1000) (n := 60) (by rw [g0]; exact ok18)
theorem gd19 : AllGood Tryz.prog [e19] := .one .nil (fuel := 1000) (n := 60) (by rw [g0]; exact ok19)
theorem gd20 : AllGood Tryz.prog [e20] := .one .nil (fuel := 1000) (n := 60) (by rw [g0]; exact ok20)
theorem gd21 : AllGood Tryz.prog [e21] := .one (gd20.app (gd1.app .nil)) (fuel := 1000) (n := 60) (by rw [g0]; exact ok21)
theorem gd22 : AllGood Tryz.prog [e22] := .one .nil (fuel := 1000) (n := 60) (by rw [g0]; exact ok22)
theorem gd23 : AllGood Tryz.prog [e23] := .one (gd22.app (gd1.app .nil)) (fuel := 1000) (n := 60) (by rw [g0]; exact ok23)
theorem gd24 : AllGood Tryz.prog [e24] := .one .nil (fuel := 1000) (n := 60) (by rw [g0]; exact ok24)
theorem gd25 : AllGood Tryz.prog [e25] := .one (gd24.app (gd1.app .nil)) (fuel := 1000) (n := 60) (by rw [g0]; exact ok25)
theorem gd26 : AllGood Tryz.prog [e26] := .one .nil (fuel := 1000) (n := 60) (by rw [g0]; exact ok26)
theorem gd27 : AllGood Tryz.prog [e27] := .one (gd26.app (gd1.app .nil)) (fuel := 1000) (n := 60) (by rw [g0]; exact ok27)
theorem gd28 : AllGood Tryz.prog [e28] := .one .nil (fuel := 1000) (n := 60) (by rw [g0]; exact ok28)
theorem gd29 : AllGood Tryz.prog [e29] := .one .nil (fuel := 1000) (n := 60) (by rw [g0]; exact ok29)
theorem gd30 : AllGood Tryz.prog [e30] := .one (gd29.app .nil) (fuel := 1000) (n := 60) (by rw [g0]; exact ok30)
theorem gd31 : AllGood Tryz.prog [e31] := .one (gd28.app .nil) (fuel := 1000) (n := 60) (by rw [g0]; exact ok31)
theorem gd32 : AllGood Tryz.prog [e32] := .one (gd31.app (gd28.app (gd30.app .nil))) (fuel := 1000) (n := 60) (by rw [g0]; exact ok32)
theorem gd33 : AllGood Tryz.prog [e33] := .one (gd32.app (gd28.app .nil)) (fuel := 1000) (n := 60) (by rw [g0]; exact ok33)
theorem gd34 : AllGood Tryz.prog [e34] := .one (gd33.app .nil) (fuel := 1000) (n := 60) (by rw [g0]; exact ok34)
theorem gd35 : AllGood Tryz.prog [e35] := .one (gd34.app (gd12.app (gd28.app .nil))) (fuel := 1000) (n := 60) (by rw [g0]; exact ok35)
theorem gd36 : AllGood Tryz.prog [e36] := .one .nil (fuel := 1000) (n := 60) (by rw [g0]; exact ok36)
theorem gd37 : AllGood Tryz.prog [e37] := .one (gd36.app .nil) (fuel := 1000) (n := 60) (by rw [g0]; exact ok37)
theorem gd38 : AllGood Tryz.prog [e38] := .one (gd37.app (gd36.app (gd30.app .nil))) (fuel := 1000) (n := 60) (by rw [g0]; exact ok38)
theorem gd39 : AllGood Tryz.prog [e39] := .one (gd38.app (gd36.app .nil)) (fuel := 1000) (n := 60) (by rw [g0]; exact ok39)
theorem gd40 : AllGood Tryz.prog [e40] := .one (gd39.app .nil) (fuel := 1000) (n := 60) (by rw [g0]; exact ok40)
theorem gd41 : AllGood Tryz.prog [e41] := .one (gd40.app (gd12.app (gd36.app .nil))) (fuel := 1000) (n := 60) (by rw [g0]; exact ok41)
theorem gd42 : AllGood Tryz.prog [e42] := .one .nil (fuel := 1000) (n := 60) (by rw [g0]; exact ok42)
theorem gd43 : AllGood Tryz.prog [e43] := .one (gd42.app .nil) (fuel := 1000) (n := 60) (by rw [g0]; exact ok43)
theorem gd44 : AllGood Tryz.prog [e44] := .one (gd43.app (gd42.app (gd30.app .nil))) (fuel := 1000) (n := 60) (by rw [g0]; exact ok44)
theorem gd45 : AllGood Tryz.prog [e45] := .one (gd44.app (gd42.app .nil)) (fuel := 1000) (n := 60) (by rw [g0]; exact ok45)
theorem gd46 : AllGood Tryz.prog [e46] := .one (gd45.app .nil) (fuel := 1000) (n := 60) (by rw [g0]; exact ok46)
theorem gd47 : AllGood Tryz.prog [e47] := .one (gd46.app (gd12.app (gd42.app .nil))) (fuel := 1000) (n := 60) (by rw [g0]; exact ok47)
theorem gd48 : AllGood Tryz.prog [e48] := .one .nil (fuel := 1000) (n := 60) (by rw [g0]; exact ok48)
theorem gd49 : AllGood Tryz.prog [e49] := .one (gd48.app .nil) (fuel := 1000) (n := 60) (by rw [g0]; exact ok49)
theorem gd50 : AllGood Tryz.prog [e50] := .one (gd49.app (gd48.app (gd30.app .nil))) (fuel := 1000) (n := 60) (by rw [g0]; exact ok50)
theorem gd51 : AllGood Tryz.prog [e51] := .one (gd50.app (gd48.app .nil)) (fuel := 1000) (n := 60) (by rw [g0]; exact ok51)
theorem gd52 : AllGood Tryz.prog [e52] := .one (gd51.app .nil) (fuel := 1000) (n := 60) (by rw [g0]; exact ok52)
theorem gd53 : AllGood Tryz.prog [e53] := .one (gd52.app (gd12.app (gd48.app .nil))) (fuel := 1000) (n := 60) (by rw [g0]; exact ok53)
theorem gd54 : AllGood Tryz.prog [e54] := .one .nil (fuel := 1000) (n := 60) (by rw [g0]; exact ok54)
theorem gd55 : AllGood Tryz.prog [e55] := .one (gd54.app .nil) (fuel := 1000) (n := 60) (by rw [g0]; exact ok55)
theorem gd56 : AllGood Tryz.prog [e56] := .one (gd55.app (gd54.app (gd30.app .nil))) (fuel := 1000) (n := 60) (by rw [g0]; exact ok56)
theorem gd57 : AllGood Tryz.prog [e57] := .one (gd56.app (gd54.app .nil)) (fuel := 1000) (n := 60) (by rw [g0]; exact ok57)
theorem gd58 : AllGood Tryz.prog [e58] := .one (gd57.app .nil) (fuel := 1000) (n := 60) (by rw [g0]; exact ok58)
theorem gd59 : AllGood Tryz.prog [e59] := .one (gd58.app (gd12.app (gd54.app .nil))) (fuel := 1000) (n := 60) (by rw [g0]; exact ok59)
theorem gd60 : AllGood Tryz.prog [e60] := .one .nil (fuel := 1000) (n := 60) (by rw [g0]; exact ok60)
theorem gd61 : AllGood Tryz.prog [e61] := .one (gd60.app .nil) (fuel := 1000) (n := 60) (by rw [g0]; exact ok61)
theorem gd62 : AllGood Tryz.prog [e62] := .one (gd61.app (gd60.app (gd30.app .nil))) (fuel := 1000) (n := 60) (by rw [g0]; exact ok62)
theorem gd63 : AllGood Tryz.prog [e63] := .one (gd62.app (gd60.app .nil)) (fuel := 1000) (n := 60) (by rw [g0]; exact ok63)
theorem gd64 : AllGood Tryz.prog [e64] := .one (gd63.app .nil) (fuel := 1000) (n := 60) (by rw [g0]; exact ok64)
theorem gd65 : AllGood Tryz.prog [e65] := .one (gd64.app (gd12.app (gd60.app .nil))) (fuel := 1000) (n := 60) (by rw [g0]; exact ok65)
theorem gd66 : AllGood Tryz.prog [e66] := .one .nil (fuel := 1000) (n := 60) (by rw [g0]; exact ok66)
theorem gd67 : AllGood Tryz.prog [e67] := .one (gd66.app .nil) (fuel := 1000) (n := 60) (by rw [g0]; exact ok67)
theorem gd68 : AllGood Tryz.prog [e68] := .one (gd67.app (gd66.app (gd30.app .nil))) (fuel := 1000) (n := 60) (by rw [g0]; exact ok68)
theorem gd69 : AllGood Tryz.prog [e69] := .one (gd68.app (gd66.app .nil)) (fuel := 1000) (n := 60) (by rw [g0]; exact ok69)
theorem gd70 : AllGood Tryz.prog [e70] := .one (gd69.app .nil) (fuel := 1000) (n := 60) (by rw [g0]; exact ok70)
theorem gd71 : AllGood Tryz.prog [e71] := .one (gd70.app (gd12.app (gd66.app .nil))) (fuel := 1000) (n := 60) (by rw [g0]; exact ok71)
theorem gd72 : AllGood Tryz.prog [e72] := .one .nil (fuel := 1000) (n := 60) (by rw [g0]; exact ok72)
theorem gd73 : AllGood Tryz.prog [e73] := .one (gd72.app .nil) (fuel := 1000) (n := 60) (by rw [g0]; exact ok73)
theorem gd74 : AllGood Tryz.prog [e74] := .one (gd73.app (gd72.app (gd30.app .nil))) (fuel := 1000) (n := 60) (by rw [g0]; exact ok74)
theorem gd75 : AllGood Tryz.prog [e75] := .one (gd74.app (gd72.app .nil)) (fuel := 1000) (n := 60) (by rw [g0]; exact ok75)
theorem gd76 : AllGood Tryz.prog [e76] := .one (gd75.app .nil) (fuel := 1000) (n := 60) (by rw [g0]; exact ok76)
theorem gd77 : AllGood Tryz.prog [e77] := .one (gd76.app (gd12.app (gd72.app .nil))) (fuel := 1000) (n := 60) (by rw [g0]; exact ok77)
theorem gd78 : AllGood Tryz.prog [e78] := .one .nil (fuel := 1000) (n := 60) (by rw [g0]; exact ok78)
theorem gd79 : AllGood Tryz.prog [e79] := .one (gd78.app (gd1.app .nil)) (fuel := 1000) (n := 60) (by rw [g0]; exact ok79)
theorem gd80 : AllGood Tryz.prog [e80] := .one (gd78.app .nil) (fuel := 1000) (n := 60) (by rw [g0]; exact ok80)
theorem gd81 : AllGood Tryz.prog [e81] := .one (gd80.app (gd78.app (gd30.app .nil))) (fuel := 1000) (n := 60) (by rw [g0]; exact ok81)
theorem gd82 : AllGood Tryz.prog [e82] := .one (gd81.app (gd78.app .nil)) (fuel := 1000) (n := 60) (by rw [g0]; exact ok82)
theorem gd83 : AllGood Tryz.prog [e83] := .one (gd82.app .nil) (fuel := 1000) (n := 60) (by rw [g0]; exact ok83)
theorem gd84 : AllGood Tryz.prog [e84] := .one (gd83.app (gd12.app (gd78.app .nil))) (fuel := 1000) (n := 60) (by rw [g0]; exact ok84)
theorem gd85 : AllGood Tryz.prog [e85] := .one .nil (fuel := 1000) (n := 60) (by rw [g0]; exact ok85)
theorem gd86 : AllGood Tryz.prog [e86] := .one (gd85.app (gd1.app .nil)) (fuel := 1000) (n := 60) (by rw [g0]; exact ok86)
theorem gd87 : AllGood Tryz.prog [e87] := .one (gd85.app .nil) (fuel := 1000) (n := 60) (by rw [g0]; exact ok87)
theorem gd88 : AllGood Tryz.prog [e88] := .one (gd87.app (gd85.app (gd30.app .nil))) (fuel := 1000) (n := 60) (by rw [g0]; exact ok88)
theorem gd89 : AllGood Tryz.prog [e89] := .one (gd88.app (gd85.app .nil)) (fuel := 1000) (n := 60) (by rw [g0]; exact ok89)
theorem gd90 : AllGood Tryz.prog [e90] := .one (gd89.app .nil) (fuel := 1000) (n := 60) (by rw [g0]; exact ok90)
theorem gd91 : AllGood Tryz.prog [e91] := .one (gd90.app (gd12.app (gd85.app .nil))) (fuel := 1000) (n := 60) (by rw [g0]; exact ok91)
theorem gd92 : AllGood Tryz.prog [e92] := .one .nil (fuel := 1000) (n := 60) (by rw [g0]; exact ok92)
theorem gd93 : AllGood Tryz.prog [e93] := .one (gd92.app (gd1.app .nil)) (fuel := 1000) (n := 60) (by rw [g0]; exact ok93)
theorem gd94 : AllGood Tryz.prog [e94] := .one (gd92.app .nil) (fuel := 1000) (n := 60) (by rw [g0]; exact ok94)
theorem gd95 : AllGood Tryz.prog [e95] := .one (gd94.app (gd92.app (gd30.app .nil))) (fuel := 1000) (n := 60) (by rw [g0]; exact ok95)
theorem gd96 : AllGood Tryz.prog [e96] := .one (gd95.app (gd92.app .nil)) (fuel := 1000) (n := 60) (by rw [g0]; exact ok96)
theorem gd97 : AllGood Tryz.prog [e97] := .one (gd96.app .nil) (fuel := 1000) (n := 60) (by rw [g0]; exact ok97)
theorem gd98 : AllGood Tryz.prog [e98] := .one (gd97.app (gd12.app (gd92.app .nil))) (fuel := 1000) (n := 60) (by rw [g0]; exact ok98)
theorem gd99 : AllGood Tryz.prog [e99] := .one .nil (fuel := 1000) (n := 60) (by rw [g0]; exact ok99)
theorem gd100 : AllGood Tryz.prog [e100] := .one (gd99.app (gd1.app .nil)) (fuel := 1000) (n := 60) (by rw [g0]; exact ok100)
theorem gd101 : AllGood Tryz.prog [e101] := .one .nil (fuel := 1000) (n := 60) (by rw [g0]; exact ok101)
theorem gd102 : AllGood Tryz.prog [e102] := .one (gd99.app .nil) (fuel := 1000) (n := 60) (by rw [g0]; exact ok102)
theorem gd103 : AllGood Tryz.prog [e103] := .one (gd102.app (gd99.app (gd30.app (gd101.app .nil)))) (fuel := 1000) (n := 60) (by rw [g0]; exact ok103)
theorem gd104 : AllGood Tryz.prog [e104] := .one (gd103.app (gd99.app .nil)) (fuel := 1000) (n := 60) (by rw [g0]; exact ok104)
theorem gd105 : AllGood Tryz.prog [e105] := .one (gd104.app .nil) (fuel := 1000) (n := 60) (by rw [g0]; exact ok105)
theorem gd106 : AllGood Tryz.prog [e106] := .one (gd105.app (gd12.app (gd99.app .nil))) (fuel := 1000) (n := 60) (by rw [g0]; exact ok106)
theorem run0 [Val] (hT : ∀ f ∈ tb0, f.holds Val.σ) (w : World) (hG : Tryz.prog.globals.size ≤ w.heap.size) (hro : Ro0 Tryz.prog.globals.size w) {x : Array Value} (ha : LR (phi0 Tryz.prog.globals.size) a0 x) : Calls Tryz.prog 3 x w fun e w' => e = .returned (.bool true) ∧ Below w.heap.size w w' :=
  below_of_args (knOf_sim (gd12.app (gd1.app (gd11.app (gd2000000.app .nil))))) (by rw [g0]; decide) (by rw [g0]; exact ran0) hT hG hro ha
theorem run1 [Val] (hT : ∀ f ∈ tb1, f.holds Val.σ) (w : World) (hG : Tryz.prog.globals.size ≤ w.heap.size) (hro : Ro0 Tryz.prog.globals.size w) {x : Array Value} (ha : LR (phi0 Tryz.prog.globals.size) a1 x) : Calls Tryz.prog 3 x w fun e w' => e = .returned (.bool true) ∧ Below w.heap.size w w' :=
  below_of_args (knOf_sim (gd12.app (gd1.app (gd13.app (gd2000000.app .nil))))) (by rw [g0]; decide) (by rw [g0]; exact ran1) hT hG hro ha
theorem run2 [Val] (hT : ∀ f ∈ tb2, f.holds Val.σ) (w : World) (hG : Tryz.prog.globals.size ≤ w.heap.size) (hro : Ro0 Tryz.prog.globals.size w) {x : Array Value} (ha : LR (phi0 Tryz.prog.globals.size) a2 x) : Calls Tryz.prog 3 x w fun e w' => e = .returned (.bool true) ∧ Below w.heap.size w w' :=
  below_of_args (knOf_sim (gd12.app (gd1.app (gd14.app (gd2000000.app .nil))))) (by rw [g0]; decide) (by rw [g0]; exact ran2) hT hG hro ha
theorem run3 [Val] (hT : ∀ f ∈ tb3, f.holds Val.σ) (w : World) (hG : Tryz.prog.globals.size ≤ w.heap.size) (hro : Ro0 Tryz.prog.globals.size w) {x : Array Value} (ha : LR (phi0 Tryz.prog.globals.size) a3 x) : Calls Tryz.prog 3 x w fun e w' => e = .returned (.bool true) ∧ Below w.heap.size w w' :=
  below_of_args (knOf_sim (gd12.app (gd1.app (gd15.app (gd2000000.app .nil))))) (by rw [g0]; decide) (by rw [g0]; exact ran3) hT hG hro ha
theorem run4 [Val] (hT : ∀ f ∈ tb4, f.holds Val.σ) (w : World) (hG : Tryz.prog.globals.size ≤ w.heap.size) (hro : Ro0 Tryz.prog.globals.size w) {x : Array Value} (ha : LR (phi0 Tryz.prog.globals.size) a4 x) : Calls Tryz.prog 3 x w fun e w' => e = .returned (.bool true) ∧ Below w.heap.size w w' :=
  below_of_args (knOf_sim (gd12.app (gd1.app (gd16.app (gd2000000.app .nil))))) (by rw [g0]; decide) (by rw [g0]; exact ran4) hT hG hro ha
theorem run5 [Val] (hT : ∀ f ∈ tb5, f.holds Val.σ) (w : World) (hG : Tryz.prog.globals.size ≤ w.heap.size) (hro : Ro0 Tryz.prog.globals.size w) {x : Array Value} (ha : LR (phi0 Tryz.prog.globals.size) a5 x) : Calls Tryz.prog 3 x w fun e w' => e = .returned (.bool true) ∧ Below w.heap.size w w' :=
  below_of_args (knOf_sim (gd12.app (gd1.app (gd16.app (gd2000000.app .nil))))) (by rw [g0]; decide) (by rw [g0]; exact ran5) hT hG hro ha
theorem run6 [Val] (hT : ∀ f ∈ tb6, f.holds Val.σ) (w : World) (hG : Tryz.prog.globals.size ≤ w.heap.size) (hro : Ro0 Tryz.prog.globals.size w) {x : Array Value} (ha : LR (phi0 Tryz.prog.globals.size) a6 x) : Calls Tryz.prog 3 x w fun e w' => e = .returned (.bool true) ∧ Below w.heap.size w w' :=
  below_of_args (knOf_sim (gd12.app (gd1.app (gd17.app (gd2000000.app .nil))))) (by rw [g0]; decide) (by rw [g0]; exact ran6) hT hG hro ha
theorem run7 [Val] (hT : ∀ f ∈ tb7, f.holds Val.σ) (w : World) (hG : Tryz.prog.globals.size ≤ w.heap.size) (hro : Ro0 Tryz.prog.globals.size w) {x : Array Value} (ha : LR (phi0 Tryz.prog.globals.size) a7 x) : Calls Tryz.prog 3 x w fun e w' => e = .returned (.bool true) ∧ Below w.heap.size w w' :=
  below_of_args (knOf_sim (gd12.app (gd1.app (gd17.app (gd2000000.app .nil))))) (by rw [g0]; decide) (by rw [g0]; exact ran7) hT hG hro ha
theorem run8 [Val] (hT : ∀ f ∈ tb8, f.holds Val.σ) (w : World) (hG : Tryz.prog.globals.size ≤ w.heap.size) (hro : Ro0 Tryz.prog.globals.size w) {x : Array Value} (ha : LR (phi0 Tryz.prog.globals.size) a8 x) : Calls Tryz.prog 3 x w fun e w' => e = .returned (.bool true) ∧ Below w.heap.size w w' :=
  below_of_args (knOf_sim (gd12.app (gd1.app (gd18.app (gd2000000.app .nil))))) (by rw [g0]; decide) (by rw [g0]; exact ran8) hT hG hro ha
theorem run9 [Val] (hT : ∀ f ∈ tb9, f.holds Val.σ) (w : World) (hG : Tryz.prog.globals.size ≤ w.heap.size) (hro : Ro0 Tryz.prog.globals.size w) {x : Array Value} (ha : LR (phi0 Tryz.prog.globals.size) a9 x) : Calls Tryz.prog 3 x w fun e w' => e = .returned (.bool true) ∧ Below w.heap.size w w' :=
  below_of_args (knOf_sim (gd12.app (gd1.app (gd18.app (gd2000000.app .nil))))) (by rw [g0]; decide) (by rw [g0]; exact ran9) hT hG hro ha
theorem run10 [Val] (hT : ∀ f ∈ tb10, f.holds Val.σ) (w : World) (hG : Tryz.prog.globals.size ≤ w.heap.size) (hro : Ro0 Tryz.prog.globals.size w) {x : Array Value} (ha : LR (phi0 Tryz.prog.globals.size) a10 x) : Calls Tryz.prog 3 x w fun e w' => e = .returned (.bool true) ∧ Below w.heap.size w w' :=
  below_of_args (knOf_sim (gd12.app (gd1.app (gd19.app (gd2000000.app .nil))))) (by rw [g0]; decide) (by rw [g0]; exact ran10) hT hG hro ha
theorem run11 [Val] (hT : ∀ f ∈ tb11, f.holds Val.σ) (w : World) (hG : Tryz.prog.globals.size ≤ w.heap.size) (hro : Ro0 Tryz.prog.globals.size w) {x : Array Value} (ha : LR (phi0 Tryz.prog.globals.size) a11 x) : Calls Tryz.prog 3 x w fun e w' => e = .returned (.bool true) ∧ Below w.heap.size w w' :=
  below_of_args (knOf_sim (gd12.app (gd1.app (gd19.app (gd2000000.app .nil))))) (by rw [g0]; decide) (by rw [g0]; exact ran11) hT hG hro ha
theorem run12 [Val] (hT : ∀ f ∈ tb12, f.holds Val.σ) (w : World) (hG : Tryz.prog.globals.size ≤ w.heap.size) (hro : Ro0 Tryz.prog.globals.size w) {x : Array Value} (ha : LR (phi0 Tryz.prog.globals.size) a12 x) : Calls Tryz.prog 3 x w fun e w' => e = .returned (.bool true) ∧ Below w.heap.size w w' :=
  below_of_args (knOf_sim (gd20.app (gd12.app (gd21.app (gd2000000.app .nil))))) (by rw [g0]; decide) (by rw [g0]; exact ran12) hT hG hro ha
theorem run13 [Val] (hT : ∀ f ∈ tb13, f.holds Val.σ) (w : World) (hG : Tryz.prog.globals.size ≤ w.heap.size) (hro : Ro0 Tryz.prog.globals.size w) {x : Array Value} (ha : LR (phi0 Tryz.prog.globals.size) a13 x) : Calls Tryz.prog 3 x w fun e w' => e = .returned (.bool true) ∧ Below w.heap.size w w' :=
  below_of_args (knOf_sim (gd20.app (gd12.app (gd21.app (gd2000000.app .nil))))) (by rw [g0]; decide) (by rw [g0]; exact ran13) hT hG hro ha
theorem run14 [Val] (hT : ∀ f ∈ tb14, f.holds Val.σ) (w : World) (hG : Tryz.prog.globals.size ≤ w.heap.size) (hro : Ro0 Tryz.prog.globals.size w) {x : Array Value} (ha : LR (phi0 Tryz.prog.globals.size) a14 x) : Calls Tryz.prog 3 x w fun e w' => e = .returned (.bool true) ∧ Below w.heap.size w w' :=
  below_of_args (knOf_sim (gd22.app (gd12.app (gd23.app (gd2000000.app .nil))))) (by rw [g0]; decide) (by rw [g0]; exact ran14) hT hG hro ha
theorem run15 [Val] (hT : ∀ f ∈ tb15, f.holds Val.σ) (w : World) (hG : Tryz.prog.globals.size ≤ w.heap.size) (hro : Ro0 Tryz.prog.globals.size w) {x : Array Value} (ha : LR (phi0 Tryz.prog.globals.size) a15 x) : Calls Tryz.prog 3 x w fun e w' => e = .returned (.bool true) ∧ Below w.heap.size w w' :=
  below_of_args (knOf_sim (gd22.app (gd12.app (gd23.app (gd2000000.app .nil))))) (by rw [g0]; decide) (by rw [g0]; exact ran15) hT hG hro ha
theorem run16 [Val] (hT : ∀ f ∈ tb16, f.holds Val.σ) (w : World) (hG : Tryz.prog.globals.size ≤ w.heap.size) (hro : Ro0 Tryz.prog.globals.size w) {x : Array Value} (ha : LR (phi0 Tryz.prog.globals.size) a16 x) : Calls Tryz.prog 3 x w fun e w' => e = .returned (.bool true) ∧ Below w.heap.size w w' :=
  below_of_args (knOf_sim (gd24.app (gd12.app (gd25.app (gd2000000.app .nil))))) (by rw [g0]; decide) (by rw [g0]; exact ran16) hT hG hro ha
theorem run17 [Val] (hT : ∀ f ∈ tb17, f.holds Val.σ) (w : World) (hG : Tryz.prog.globals.size ≤ w.heap.size) (hro : Ro0 Tryz.prog.globals.size w) {x : Array Value} (ha : LR (phi0 Tryz.prog.globals.size) a17 x) : Calls Tryz.prog 3 x w fun e w' => e = .returned (.bool true) ∧ Below w.heap.size w w' :=
  below_of_args (knOf_sim (gd24.app (gd12.app (gd25.app (gd2000000.app .nil))))) (by rw [g0]; decide) (by rw [g0]; exact ran17) hT hG hro ha
theorem run18 [Val] (hT : ∀ f ∈ tb18, f.holds Val.σ) (w : World) (hG : Tryz.prog.globals.size ≤ w.heap.size) (hro : Ro0 Tryz.prog.globals.size w) {x : Array Value} (ha : LR (phi0 Tryz.prog.globals.size) a18 x) : Calls Tryz.prog 3 x w fun e w' => e = .returned (.bool true) ∧ Below w.heap.size w w' :=
  below_of_args (knOf_sim (gd26.app (gd12.app (gd27.app (gd2000000.app .nil))))) (by rw [g0]; decide) (by rw [g0]; exact ran18) hT hG hro ha
theorem run19 [Val] (hT : ∀ f ∈ tb19, f.holds Val.σ) (w : World) (hG : Tryz.prog.globals.size ≤ w.heap.size) (hro : Ro0 Tryz.prog.globals.size w) {x : Array Value} (ha : LR (phi0 Tryz.prog.globals.size) a19 x) : Calls Tryz.prog 3 x w fun e w' => e = .returned (.bool true) ∧ Below w.heap.size w w' :=
  below_of_args (knOf_sim (gd26.app (gd12.app (gd27.app (gd2000000.app .nil))))) (by rw [g0]; decide) (by rw [g0]; exact ran19) hT hG hro ha
theorem run20 [Val] (hT : ∀ f ∈ tb20, f.holds Val.σ) (w : World) (hG : Tryz.prog.globals.size ≤ w.heap.size) (hro : Ro0 Tryz.prog.globals.size w) {x : Array Value} (ha : LR (phi0 Tryz.prog.globals.size) a20 x) : Calls Tryz.prog 3 x w fun e w' => e = .returned (.bool true) ∧ Below w.heap.size w w' :=
  below_of_args (knOf_sim (gd12.app (gd1.app (gd28.app (gd2000000.app .nil))))) (by rw [g0]; decide) (by rw [g0]; exact ran20) hT hG hro ha
theorem run21 [Val] (hT : ∀ f ∈ tb21, f.holds Val.σ) (w : World) (hG : Tryz.prog.globals.size ≤ w.heap.size) (hro : Ro0 Tryz.prog.globals.size w) {x : Array Value} (ha : LR (phi0 Tryz.prog.globals.size) a20 x) : Calls Tryz.prog 3 x w fun e w' => e = .returned (.bool true) ∧ Below w.heap.size w w' :=
  below_of_args (knOf_sim (gd35.app (gd1.app (gd28.app (gd2000000.app .nil))))) (by rw [g0]; decide) (by rw [g0]; exact ran21) hT hG hro ha
theorem run22 [Val] (hT : ∀ f ∈ tb22, f.holds Val.σ) (w : World) (hG : Tryz.prog.globals.size ≤ w.heap.size) (hro : Ro0 Tryz.prog.globals.size w) {x : Array Value} (ha : LR (phi0 Tryz.prog.globals.size) a21 x) : Calls Tryz.prog 3 x w fun e w' => e = .returned (.bool true) ∧ Below w.heap.size w w' :=
  below_of_args (knOf_sim (gd12.app (gd1.app (gd36.app (gd2000000.app .nil))))) (by rw [g0]; decide) (by rw [g0]; exact ran22) hT hG hro ha
theorem run23 [Val] (hT : ∀ f ∈ tb23, f.holds Val.σ) (w : World) (hG : Tryz.prog.globals.size ≤ w.heap.size) (hro : Ro0 Tryz.prog.globals.size w) {x : Array Value} (ha : LR (phi0 Tryz.prog.globals.size) a21 x) : Calls Tryz.prog 3 x w fun e w' => e = .returned (.bool true) ∧ Below w.heap.size w w' :=
  below_of_args (knOf_sim (gd41.app (gd1.app (gd36.app (gd2000000.app .nil))))) (by rw [g0]; decide) (by rw [g0]; exact ran23) hT hG hro ha
theorem run24 [Val] (hT : ∀ f ∈ tb24, f.holds Val.σ) (w : World) (hG : Tryz.prog.globals.size ≤ w.heap.size) (hro : Ro0 Tryz.prog.globals.size w) {x : Array Value} (ha : LR (phi0 Tryz.prog.globals.size) a22 x) : Calls Tryz.prog 3 x w fun e w' => e = .returned (.bool true) ∧ Below w.heap.size w w' :=
  below_of_args (knOf_sim (gd12.app (gd1.app (gd42.app (gd2000000.app .nil))))) (by rw [g0]; decide) (by rw [g0]; exact ran24) hT hG hro ha
theorem run25 [Val] (hT : ∀ f ∈ tb25, f.holds Val.σ) (w : World) (hG : Tryz.prog.globals.size ≤ w.heap.size) (hro : Ro0 Tryz.prog.globals.size w) {x : Array Value} (ha : LR (phi0 Tryz.prog.globals.size) a22 x) : Calls Tryz.prog 3 x w fun e w' => e = .returned (.bool true) ∧ Below w.heap.size w w' :=
  below_of_args (knOf_sim (gd47.app (gd1.app (gd42.app (gd2000000.app .nil))))) (by rw [g0]; decide) (by rw [g0]; exact ran25) hT hG hro ha
theorem run26 [Val] (hT : ∀ f ∈ tb26, f.holds Val.σ) (w : World) (hG : Tryz.prog.globals.size ≤ w.heap.size) (hro : Ro0 Tryz.prog.globals.size w) {x : Array Value} (ha : LR (phi0 Tryz.prog.globals.size) a23 x) : Calls Tryz.prog 3 x w fun e w' => e = .returned (.bool true) ∧ Below w.heap.size w w' :=
  below_of_args (knOf_sim (gd12.app (gd1.app (gd48.app (gd2000000.app .nil))))) (by rw [g0]; decide) (by rw [g0]; exact ran26) hT hG hro ha
theorem run27 [Val] (hT : ∀ f ∈ tb27, f.holds Val.σ) (w : World) (hG : Tryz.prog.globals.size ≤ w.heap.size) (hro : Ro0 Tryz.prog.globals.size w) {x : Array Value} (ha : LR (phi0 Tryz.prog.globals.size) a23 x) : Calls Tryz.prog 3 x w fun e w' => e = .returned (.bool true) ∧ Below w.heap.size w w' :=
  below_of_args (knOf_sim (gd53.app (gd1.app (gd48.app (gd2000000.app .nil))))) (by rw [g0]; decide) (by rw [g0]; exact ran27) hT hG hro ha
theorem run28 [Val] (hT : ∀ f ∈ tb28, f.holds Val.σ) (w : World) (hG : Tryz.prog.globals.size ≤ w.heap.size) (hro : Ro0 Tryz.prog.globals.size w) {x : Array Value} (ha : LR (phi0 Tryz.prog.globals.size) a24 x) : Calls Tryz.prog 3 x w fun e w' => e = .returned (.bool true) ∧ Below w.heap.size w w' :=
  below_of_args (knOf_sim (gd12.app (gd1.app (gd54.app (gd2000000.app .nil))))) (by rw [g0]; decide) (by rw [g0]; exact ran28) hT hG hro ha
theorem run29 [Val] (hT : ∀ f ∈ tb29, f.holds Val.σ) (w : World) (hG : Tryz.prog.globals.size ≤ w.heap.size) (hro : Ro0 Tryz.prog.globals.size w) {x : Array Value} (ha : LR (phi0 Tryz.prog.globals.size) a24 x) : Calls Tryz.prog 3 x w fun e w' => e = .returned (.bool true) ∧ Below w.heap.size w w' :=
  below_of_args (knOf_sim (gd59.app (gd1.app (gd54.app (gd2000000.app .nil))))) (by rw [g0]; decide) (by rw [g0]; exact ran29) hT hG hro ha
theorem run30 [Val] (hT : ∀ f ∈ tb30, f.holds Val.σ) (w : World) (hG : Tryz.prog.globals.size ≤ w.heap.size) (hro : Ro0 Tryz.prog.globals.size w) {x : Array Value} (ha : LR (phi0 Tryz.prog.globals.size) a25 x) : Calls Tryz.prog 3 x w fun e w' => e = .returned (.bool true) ∧ Below w.heap.size w w' :=
  below_of_args (knOf_sim (gd12.app (gd1.app (gd54.app (gd2000000.app .nil))))) (by rw [g0]; decide) (by rw [g0]; exact ran30) hT hG hro ha
theorem run31 [Val] (hT : ∀ f ∈ tb31, f.holds Val.σ) (w : World) (hG : Tryz.prog.globals.size ≤ w.heap.size) (hro : Ro0 Tryz.prog.globals.size w) {x : Array Value} (ha : LR (phi0 Tryz.prog.globals.size) a25 x) : Calls Tryz.prog 3 x w fun e w' => e = .returned (.bool true) ∧ Below w.heap.size w w' :=
  below_of_args (knOf_sim (gd59.app (gd1.app (gd54.app (gd2000000.app .nil))))) (by rw [g0]; decide) (by rw [g0]; exact ran31) hT hG hro ha
theorem run32 [Val] (hT : ∀ f ∈ tb32, f.holds Val.σ) (w : World) (hG : Tryz.prog.globals.size ≤ w.heap.size) (hro : Ro0 Tryz.prog.globals.size w) {x : Array Value} (ha : LR (phi0 Tryz.prog.globals.size) a26 x) : Calls Tryz.prog 3 x w fun e w' => e = .returned (.bool true) ∧ Below w.heap.size w w' :=
  below_of_args (knOf_sim (gd12.app (gd1.app (gd60.app (gd2000000.app .nil))))) (by rw [g0]; decide) (by rw [g0]; exact ran32) hT hG hro ha
theorem run33 [Val] (hT : ∀ f ∈ tb33, f.holds Val.σ) (w : World) (hG : Tryz.prog.globals.size ≤ w.heap.size) (hro : Ro0 Tryz.prog.globals.size w) {x : Array Value} (ha : LR (phi0 Tryz.prog.globals.size) a26 x) : Calls Tryz.prog 3 x w fun e w' => e = .returned (.bool true) ∧ Below w.heap.size w w' :=
  below_of_args (knOf_sim (gd65.app (gd1.app (gd60.app (gd2000000.app .nil))))) (by rw [g0]; decide) (by rw [g0]; exact ran33) hT hG hro ha
theorem run34 [Val] (hT : ∀ f ∈ tb34, f.holds Val.σ) (w : World) (hG : Tryz.prog.globals.size ≤ w.heap.size) (hro : Ro0 Tryz.prog.globals.size w) {x : Array Value} (ha : LR (phi0 Tryz.prog.globals.size) a27 x) : Calls Tryz.prog 3 x w fun e w' => e = .returned (.bool true) ∧ Below w.heap.size w w' :=
  below_of_args (knOf_sim (gd12.app (gd1.app (gd60.app (gd2000000.app .nil))))) (by rw [g0]; decide) (by rw [g0]; exact ran34) hT hG hro ha
theorem run35 [Val] (hT : ∀ f ∈ tb35, f.holds Val.σ) (w : World) (hG : Tryz.prog.globals.size ≤ w.heap.size) (hro : Ro0 Tryz.prog.globals.size w) {x : Array Value} (ha : LR (phi0 Tryz.prog.globals.size) a27 x) : Calls Tryz.prog 3 x w fun e w' => e = .returned (.bool true) ∧ Below w.heap.size w w' :=
  below_of_args (knOf_sim (gd65.app (gd1.app (gd60.app (gd2000000.app .nil))))) (by rw [g0]; decide) (by rw [g0]; exact ran35) hT hG hro ha
theorem run36 [Val] (hT : ∀ f ∈ tb36, f.holds Val.σ) (w : World) (hG : Tryz.prog.globals.size ≤ w.heap.size) (hro : Ro0 Tryz.prog.globals.size w) {x : Array Value} (ha : LR (phi0 Tryz.prog.globals.size) a28 x) : Calls Tryz.prog 3 x w fun e w' => e = .returned (.bool true) ∧ Below w.heap.size w w' :=
  below_of_args (knOf_sim (gd12.app (gd1.app (gd66.app (gd2000000.app .nil))))) (by rw [g0]; decide) (by rw [g0]; exact ran36) hT hG hro ha
theorem run37 [Val] (hT : ∀ f ∈ tb37, f.holds Val.σ) (w : World) (hG : Tryz.prog.globals.size ≤ w.heap.size) (hro : Ro0 Tryz.prog.globals.size w) {x : Array Value} (ha : LR (phi0 Tryz.prog.globals.size) a28 x) : Calls Tryz.prog 3 x w fun e w' => e = .returned (.bool true) ∧ Below w.heap.size w w' :=
  below_of_args (knOf_sim (gd71.app (gd1.app (gd66.app (gd2000000.app .nil))))) (by rw [g0]; decide) (by rw [g0]; exact ran37) hT hG hro ha
theorem run38 [Val] (hT : ∀ f ∈ tb38, f.holds Val.σ) (w : World) (hG : Tryz.prog.globals.size ≤ w.heap.size) (hro : Ro0 Tryz.prog.globals.size w) {x : Array Value} (ha : LR (phi0 Tryz.prog.globals.size) a29 x) : Calls Tryz.prog 3 x w fun e w' => e = .returned (.bool true) ∧ Below w.heap.size w w' :=
  below_of_args (knOf_sim (gd12.app (gd1.app (gd66.app (gd2000000.app .nil))))) (by rw [g0]; decide) (by rw [g0]; exact ran38) hT hG hro ha
theorem run39 [Val] (hT : ∀ f ∈ tb39, f.holds Val.σ) (w : World) (hG : Tryz.prog.globals.size ≤ w.heap.size) (hro : Ro0 Tryz.prog.globals.size w) {x : Array Value} (ha : LR (phi0 Tryz.prog.globals.size) a29 x) : Calls Tryz.prog 3 x w fun e w' => e = .returned (.bool true) ∧ Below w.heap.size w w' :=
  below_of_args (knOf_sim (gd71.app (gd1.app (gd66.app (gd2000000.app .nil))))) (by rw [g0]; decide) (by rw [g0]; exact ran39) hT hG hro ha
theorem run40 [Val] (hT : ∀ f ∈ tb40, f.holds Val.σ) (w : World) (hG : Tryz.prog.globals.size ≤ w.heap.size) (hro : Ro0 Tryz.prog.globals.size w) {x : Array Value} (ha : LR (phi0 Tryz.prog.globals.size) a30 x) : Calls Tryz.prog 3 x w fun e w' => e = .returned (.bool true) ∧ Below w.heap.size w w' :=
  below_of_args (knOf_sim (gd12.app (gd1.app (gd72.app (gd2000000.app .nil))))) (by rw [g0]; decide) (by rw [g0]; exact ran40) hT hG hro ha
theorem run41 [Val] (hT : ∀ f ∈ tb41, f.holds Val.σ) (w : World) (hG : Tryz.prog.globals.size ≤ w.heap.size) (hro : Ro0 Tryz.prog.globals.size w) {x : Array Value} (ha : LR (phi0 Tryz.prog.globals.size) a30 x) : Calls Tryz.prog 3 x w fun e w' => e = .returned (.bool true) ∧ Below w.heap.size w w' :=
  below_of_args (knOf_sim (gd77.app (gd1.app (gd72.app (gd2000000.app .nil))))) (by rw [g0]; decide) (by rw [g0]; exact ran41) hT hG hro ha
theorem run42 [Val] (hT : ∀ f ∈ tb42, f.holds Val.σ) (w : World) (hG : Tryz.prog.globals.size ≤ w.heap.size) (hro : Ro0 Tryz.prog.globals.size w) {x : Array Value} (ha : LR (phi0 Tryz.prog.globals.size) a31 x) : Calls Tryz.prog 3 x w fun e w' => e = .returned (.bool true) ∧ Below w.heap.size w w' :=
  below_of_args (knOf_sim (gd12.app (gd1.app (gd72.app (gd2000000.app .nil))))) (by rw [g0]; decide) (by rw [g0]; exact ran42) hT hG hro ha
theorem run43 [Val] (hT : ∀ f ∈ tb43, f.holds Val.σ) (w : World) (hG : Tryz.prog.globals.size ≤ w.heap.size) (hro : Ro0 Tryz.prog.globals.size w) {x : Array Value} (ha : LR (phi0 Tryz.prog.globals.size) a31 x) : Calls Tryz.prog 3 x w fun e w' => e = .returned (.bool true) ∧ Below w.heap.size w w' :=
  below_of_args (knOf_sim (gd77.app (gd1.app (gd72.app (gd2000000.app .nil))))) (by rw [g0]; decide) (by rw [g0]; exact ran43) hT hG hro ha
theorem run44 [Val] (hT : ∀ f ∈ tb44, f.holds Val.σ) (w : World) (hG : Tryz.prog.globals.size ≤ w.heap.size) (hro : Ro0 Tryz.prog.globals.size w) {x : Array Value} (ha : LR (phi0 Tryz.prog.globals.size) a32 x) : Calls Tryz.prog 3 x w fun e w' => e = .returned (.bool true) ∧ Below w.heap.size w w' :=
  below_of_args (knOf_sim (gd78.app (gd12.app (gd79.app (gd2000000.app .nil))))) (by rw [g0]; decide) (by rw [g0]; exact ran44) hT hG hro ha
theorem run45 [Val] (hT : ∀ f ∈ tb45, f.holds Val.σ) (w : World) (hG : Tryz.prog.globals.size ≤ w.heap.size) (hro : Ro0 Tryz.prog.globals.size w) {x : Array Value} (ha : LR (phi0 Tryz.prog.globals.size) a32 x) : Calls Tryz.prog 3 x w fun e w' => e = .returned (.bool true) ∧ Below w.heap.size w w' :=
  below_of_args (knOf_sim (gd84.app (gd79.app (gd2000000.app .nil)))) (by rw [g0]; decide) (by rw [g0]; exact ran45) hT hG hro ha
theorem run46 [Val] (hT : ∀ f ∈ tb46, f.holds Val.σ) (w : World) (hG : Tryz.prog.globals.size ≤ w.heap.size) (hro : Ro0 Tryz.prog.globals.size w) {x : Array Value} (ha : LR (phi0 Tryz.prog.globals.size) a33 x) : Calls Tryz.prog 3 x w fun e w' => e = .returned (.bool true) ∧ Below w.heap.size w w' :=
  below_of_args (knOf_sim (gd78.app (gd12.app (gd79.app (gd2000000.app .nil))))) (by rw [g0]; decide) (by rw [g0]; exact ran46) hT hG hro ha
theorem run47 [Val] (hT : ∀ f ∈ tb47, f.holds Val.σ) (w : World) (hG : Tryz.prog.globals.size ≤ w.heap.size) (hro : Ro0 Tryz.prog.globals.size w) {x : Array Value} (ha : LR (phi0 Tryz.prog.globals.size) a33 x) : Calls Tryz.prog 3 x w fun e w' => e = .returned (.bool true) ∧ Below w.heap.size w w' :=
  below_of_args (knOf_sim (gd84.app (gd79.app (gd2000000.app .nil)))) (by rw [g0]; decide) (by rw [g0]; exact ran47) hT hG hro ha
theorem run48 [Val] (hT : ∀ f ∈ tb48, f.holds Val.σ) (w : World) (hG : Tryz.prog.globals.size ≤ w.heap.size) (hro : Ro0 Tryz.prog.globals.size w) {x : Array Value} (ha : LR (phi0 Tryz.prog.globals.size) a34 x) : Calls Tryz.prog 3 x w fun e w' => e = .returned (.bool true) ∧ Below w.heap.size w w' :=
  below_of_args (knOf_sim (gd85.app (gd12.app (gd86.app (gd2000000.app .nil))))) (by rw [g0]; decide) (by rw [g0]; exact ran48) hT hG hro ha
theorem run49 [Val] (hT : ∀ f ∈ tb49, f.holds Val.σ) (w : World) (hG : Tryz.prog.globals.size ≤ w.heap.size) (hro : Ro0 Tryz.prog.globals.size w) {x : Array Value} (ha : LR (phi0 Tryz.prog.globals.size) a34 x) : Calls Tryz.prog 3 x w fun e w' => e = .returned (.bool true) ∧ Below w.heap.size w w' :=
  below_of_args (knOf_sim (gd91.app (gd86.app (gd2000000.app .nil)))) (by rw [g0]; decide) (by rw [g0]; exact ran49) hT hG hro ha
theorem run50 [Val] (hT : ∀ f ∈ tb50, f.holds Val.σ) (w : World) (hG : Tryz.prog.globals.size ≤ w.heap.size) (hro : Ro0 Tryz.prog.globals.size w) {x : Array Value} (ha : LR (phi0 Tryz.prog.globals.size) a35 x) : Calls Tryz.prog 3 x w fun e w' => e = .returned (.bool true) ∧ Below w.heap.size w w' :=
  below_of_args (knOf_sim (gd85.app (gd12.app (gd86.app (gd2000000.app .nil))))) (by rw [g0]; decide) (by rw [g0]; exact ran50) hT hG hro ha
theorem run51 [Val] (hT : ∀ f ∈ tb51, f.holds Val.σ) (w : World) (hG : Tryz.prog.globals.size ≤ w.heap.size) (hro : Ro0 Tryz.prog.globals.size w) {x : Array Value} (ha : LR (phi0 Tryz.prog.globals.size) a35 x) : Calls Tryz.prog 3 x w fun e w' => e = .returned (.bool true) ∧ Below w.heap.size w w' :=
  below_of_args (knOf_sim (gd91.app (gd86.app (gd2000000.app .nil)))) (by rw [g0]; decide) (by rw [g0]; exact ran51) hT hG hro ha
theorem run52 [Val] (hT : ∀ f ∈ tb52, f.holds Val.σ) (w : World) (hG : Tryz.prog.globals.size ≤ w.heap.size) (hro : Ro0 Tryz.prog.globals.size w) {x : Array Value} (ha : LR (phi0 Tryz.prog.globals.size) a36 x) : Calls Tryz.prog 3 x w fun e w' => e = .returned (.bool true) ∧ Below w.heap.size w w' :=
  below_of_args (knOf_sim (gd92.app (gd12.app (gd93.app (gd2000000.app .nil))))) (by rw [g0]; decide) (by rw [g0]; exact ran52) hT hG hro ha
theorem run53 [Val] (hT : ∀ f ∈ tb53, f.holds Val.σ) (w : World) (hG : Tryz.prog.globals.size ≤ w.heap.size) (hro : Ro0 Tryz.prog.globals.size w) {x : Array Value} (ha : LR (phi0 Tryz.prog.globals.size) a36 x) : Calls Tryz.prog 3 x w fun e w' => e = .returned (.bool true) ∧ Below w.heap.size w w' :=
  below_of_args (knOf_sim (gd98.app (gd93.app (gd2000000.app .nil)))) (by rw [g0]; decide) (by rw [g0]; exact ran53) hT hG hro ha
theorem run54 [Val] (hT : ∀ f ∈ tb54, f.holds Val.σ) (w : World) (hG : Tryz.prog.globals.size ≤ w.heap.size) (hro : Ro0 Tryz.prog.globals.size w) {x : Array Value} (ha : LR (phi0 Tryz.prog.globals.size) a37 x) : Calls Tryz.prog 3 x w fun e w' => e = .returned (.bool true) ∧ Below w.heap.size w w' :=
  below_of_args (knOf_sim (gd92.app (gd12.app (gd93.app (gd2000000.app .nil))))) (by rw [g0]; decide) (by rw [g0]; exact ran54) hT hG hro ha
theorem run55 [Val] (hT : ∀ f ∈ tb55, f.holds Val.σ) (w : World) (hG : Tryz.prog.globals.size ≤ w.heap.size) (hro : Ro0 Tryz.prog.globals.size w) {x : Array Value} (ha : LR (phi0 Tryz.prog.globals.size) a37 x) : Calls Tryz.prog 3 x w fun e w' => e = .returned (.bool true) ∧ Below w.heap.size w w' :=
  below_of_args (knOf_sim (gd98.app (gd93.app (gd2000000.app .nil)))) (by rw [g0]; decide) (by rw [g0]; exact ran55) hT hG hro ha
theorem run56 [Val] (hT : ∀ f ∈ tb56, f.holds Val.σ) (w : World) (hG : Tryz.prog.globals.size ≤ w.heap.size) (hro : Ro0 Tryz.prog.globals.size w) {x : Array Value} (ha : LR (phi0 Tryz.prog.globals.size) a38 x) : Calls Tryz.prog 3 x w fun e w' => e = .returned (.bool true) ∧ Below w.heap.size w w' :=
  below_of_args (knOf_sim (gd99.app (gd12.app (gd100.app (gd2000000.app .nil))))) (by rw [g0]; decide) (by rw [g0]; exact ran56) hT hG hro ha
theorem run57 [Val] (hT : ∀ f ∈ tb57, f.holds Val.σ) (w : World) (hG : Tryz.prog.globals.size ≤ w.heap.size) (hro : Ro0 Tryz.prog.globals.size w) {x : Array Value} (ha : LR (phi0 Tryz.prog.globals.size) a38 x) : Calls Tryz.prog 3 x w fun e w' => e = .returned (.bool true) ∧ Below w.heap.size w w' :=
  below_of_args (knOf_sim (gd106.app (gd100.app (gd2000000.app .nil)))) (by rw [g0]; decide) (by rw [g0]; exact ran57) hT hG hro ha
theorem run58 [Val] (hT : ∀ f ∈ tb58, f.holds Val.σ) (w : World) (hG : Tryz.prog.globals.size ≤ w.heap.size) (hro : Ro0 Tryz.prog.globals.size w) {x : Array Value} (ha : LR (phi0 Tryz.prog.globals.size) a39 x) : Calls Tryz.prog 3 x w fun e w' => e = .returned (.bool true) ∧ Below w.heap.size w w' :=
  below_of_args (knOf_sim (gd99.app (gd12.app (gd100.app (gd2000000.app .nil))))) (by rw [g0]; decide) (by rw [g0]; exact ran58) hT hG hro ha
theorem run59 [Val] (hT : ∀ f ∈ tb59, f.holds Val.σ) (w : World) (hG : Tryz.prog.globals.size ≤ w.heap.size) (hro : Ro0 Tryz.prog.globals.size w) {x : Array Value} (ha : LR (phi0 Tryz.prog.globals.size) a39 x) : Calls Tryz.prog 3 x w fun e w' => e = .returned (.bool true) ∧ Below w.heap.size w w' :=
  below_of_args (knOf_sim (gd106.app (gd100.app (gd2000000.app .nil)))) (by rw [g0]; decide) (by rw [g0]; exact ran59) hT hG hro ha
theorem cls0 [Val] (w : World) (hG : Tryz.prog.globals.size ≤ w.heap.size) (hro : Ro0 Tryz.prog.globals.size w) {x : Array Value} (ha : LR (phi0 Tryz.prog.globals.size) a0 x) : Calls Tryz.prog 3 x w fun e w' => e = .returned (.bool true) ∧ Below w.heap.size w w' := by
  exact run0 (holds_nil _) w hG hro ha
theorem cls1 [Val] (w : World) (hG : Tryz.prog.globals.size ≤ w.heap.size) (hro : Ro0 Tryz.prog.globals.size w) {x : Array Value} (ha : LR (phi0 Tryz.prog.globals.size) a1 x) : Calls Tryz.prog 3 x w fun e w' => e = .returned (.bool true) ∧ Below w.heap.size w w' := by
  exact run1 (holds_nil _) w hG hro ha
theorem cls2 [Val] (w : World) (hG : Tryz.prog.globals.size ≤ w.heap.size) (hro : Ro0 Tryz.prog.globals.size w) {x : Array Value} (ha : LR (phi0 Tryz.prog.globals.size) a2 x) : Calls Tryz.prog 3 x w fun e w' => e = .returned (.bool true) ∧ Below w.heap.size w w' := by
  exact run2 (holds_nil _) w hG hro ha
theorem cls3 [Val] (w : World) (hG : Tryz.prog.globals.size ≤ w.heap.size) (hro : Ro0 Tryz.prog.globals.size w) {x : Array Value} (ha : LR (phi0 Tryz.prog.globals.size) a3 x) : Calls Tryz.prog 3 x w fun e w' => e = .returned (.bool true) ∧ Below w.heap.size w w' := by
  exact run3 (holds_nil _) w hG hro ha
theorem cls4 [Val] (w : World) (hG : Tryz.prog.globals.size ≤ w.heap.size) (hro : Ro0 Tryz.prog.globals.size w) {x : Array Value} (ha : LR (phi0 Tryz.prog.globals.size) a4 x) : Calls Tryz.prog 3 x w fun e w' => e = .returned (.bool true) ∧ Below w.heap.size w w' := by
  exact run4 (holds_nil _) w hG hro ha
theorem cls5 [Val] (w : World) (hG : Tryz.prog.globals.size ≤ w.heap.size) (hro : Ro0 Tryz.prog.globals.size w) {x : Array Value} (ha : LR (phi0 Tryz.prog.globals.size) a5 x) : Calls Tryz.prog 3 x w fun e w' => e = .returned (.bool true) ∧ Below w.heap.size w w' := by
  exact run5 (holds_nil _) w hG hro ha
theorem cls6 [Val] (w : World) (hG : Tryz.prog.globals.size ≤ w.heap.size) (hro : Ro0 Tryz.prog.globals.size w) {x : Array Value} (ha : LR (phi0 Tryz.prog.globals.size) a6 x) : Calls Tryz.prog 3 x w fun e w' => e = .returned (.bool true) ∧ Below w.heap.size w w' := by
  exact run6 (holds_nil _) w hG hro ha
theorem cls7 [Val] (w : World) (hG : Tryz.prog.globals.size ≤ w.heap.size) (hro : Ro0 Tryz.prog.globals.size w) {x : Array Value} (ha : LR (phi0 Tryz.prog.globals.size) a7 x) : Calls Tryz.prog 3 x w fun e w' => e = .returned (.bool true) ∧ Below w.heap.size w w' := by
  exact run7 (holds_nil _) w hG hro ha
theorem cls8 [Val] (w : World) (hG : Tryz.prog.globals.size ≤ w.heap.size) (hro : Ro0 Tryz.prog.globals.size w) {x : Array Value} (ha : LR (phi0 Tryz.prog.globals.size) a8 x) : Calls Tryz.prog 3 x w fun e w' => e = .returned (.bool true) ∧ Below w.heap.size w w' := by
  exact run8 (holds_nil _) w hG hro ha
theorem cls9 [Val] (w : World) (hG : Tryz.prog.globals.size ≤ w.heap.size) (hro : Ro0 Tryz.prog.globals.size w) {x : Array Value} (ha : LR (phi0 Tryz.prog.globals.size) a9 x) : Calls Tryz.prog 3 x w fun e w' => e = .returned (.bool true) ∧ Below w.heap.size w w' := by
  exact run9 (holds_nil _) w hG hro ha
theorem cls10 [Val] (w : World) (hG : Tryz.prog.globals.size ≤ w.heap.size) (hro : Ro0 Tryz.prog.globals.size w) {x : Array Value} (ha : LR (phi0 Tryz.prog.globals.size) a10 x) : Calls Tryz.prog 3 x w fun e w' => e = .returned (.bool true) ∧ Below w.heap.size w w' := by
  exact run10 (holds_nil _) w hG hro ha
theorem cls11 [Val] (w : World) (hG : Tryz.prog.globals.size ≤ w.heap.size) (hro : Ro0 Tryz.prog.globals.size w) {x : Array Value} (ha : LR (phi0 Tryz.prog.globals.size) a11 x) : Calls Tryz.prog 3 x w fun e w' => e = .returned (.bool true) ∧ Below w.heap.size w w' := by
  exact run11 (holds_nil _) w hG hro ha
theorem cls12 [Val] (w : World) (hG : Tryz.prog.globals.size ≤ w.heap.size) (hro : Ro0 Tryz.prog.globals.size w) {x : Array Value} (ha : LR (phi0 Tryz.prog.globals.size) a12 x) : Calls Tryz.prog 3 x w fun e w' => e = .returned (.bool true) ∧ Below w.heap.size w w' := by
  exact run12 (holds_nil _) w hG hro ha
theorem cls13 [Val] (w : World) (hG : Tryz.prog.globals.size ≤ w.heap.size) (hro : Ro0 Tryz.prog.globals.size w) {x : Array Value} (ha : LR (phi0 Tryz.prog.globals.size) a13 x) : Calls Tryz.prog 3 x w fun e w' => e = .returned (.bool true) ∧ Below w.heap.size w w' := by
  exact run13 (holds_nil _) w hG hro ha
theorem cls14 [Val] (w : World) (hG : Tryz.prog.globals.size ≤ w.heap.size) (hro : Ro0 Tryz.prog.globals.size w) {x : Array Value} (ha : LR (phi0 Tryz.prog.globals.size) a14 x) : Calls Tryz.prog 3 x w fun e w' => e = .returned (.bool true) ∧ Below w.heap.size w w' := by
  exact run14 (holds_nil _) w hG hro ha
theorem cls15 [Val] (w : World) (hG : Tryz.prog.globals.size ≤ w.heap.size) (hro : Ro0 Tryz.prog.globals.size w) {x : Array Value} (ha : LR (phi0 Tryz.prog.globals.size) a15 x) : Calls Tryz.prog 3 x w fun e w' => e = .returned (.bool true) ∧ Below w.heap.size w w' := by
  exact run15 (holds_nil _) w hG hro ha
theorem cls16 [Val] (w : World) (hG : Tryz.prog.globals.size ≤ w.heap.size) (hro : Ro0 Tryz.prog.globals.size w) {x : Array Value} (ha : LR (phi0 Tryz.prog.globals.size) a16 x) : Calls Tryz.prog 3 x w fun e w' => e = .returned (.bool true) ∧ Below w.heap.size w w' := by
  exact run16 (holds_nil _) w hG hro ha
theorem cls17 [Val] (w : World) (hG : Tryz.prog.globals.size ≤ w.heap.size) (hro : Ro0 Tryz.prog.globals.size w) {x : Array Value} (ha : LR (phi0 Tryz.prog.globals.size) a17 x) : Calls Tryz.prog 3 x w fun e w' => e = .returned (.bool true) ∧ Below w.heap.size w w' := by
  exact run17 (holds_nil _) w hG hro ha
theorem cls18 [Val] (w : World) (hG : Tryz.prog.globals.size ≤ w.heap.size) (hro : Ro0 Tryz.prog.globals.size w) {x : Array Value} (ha : LR (phi0 Tryz.prog.globals.size) a18 x) : Calls Tryz.prog 3 x w fun e w' => e = .returned (.bool true) ∧ Below w.heap.size w w' := by
  exact run18 (holds_nil _) w hG hro ha
theorem cls19 [Val] (w : World) (hG : Tryz.prog.globals.size ≤ w.heap.size) (hro : Ro0 Tryz.prog.globals.size w) {x : Array Value} (ha : LR (phi0 Tryz.prog.globals.size) a19 x) : Calls Tryz.prog 3 x w fun e w' => e = .returned (.bool true) ∧ Below w.heap.size w w' := by
  exact run19 (holds_nil _) w hG hro ha
theorem cls20 [Val] (w : World) (hG : Tryz.prog.globals.size ≤ w.heap.size) (hro : Ro0 Tryz.prog.globals.size w) {x : Array Value} (ha : LR (phi0 Tryz.prog.globals.size) a20 x) : Calls Tryz.prog 3 x w fun e w' => e = .returned (.bool true) ∧ Below w.heap.size w w' := by
  rcases Fact.em Val.σ true x357 x358 with h0 | h0
  · exact run20 (holds_cons h0 (holds_nil _)) w hG hro ha
  · exact run21 (holds_cons h0 (holds_nil _)) w hG hro ha
theorem cls21 [Val] (w : World) (hG : Tryz.prog.globals.size ≤ w.heap.size) (hro : Ro0 Tryz.prog.globals.size w) {x : Array Value} (ha : LR (phi0 Tryz.prog.globals.size) a21 x) : Calls Tryz.prog 3 x w fun e w' => e = .returned (.bool true) ∧ Below w.heap.size w w' := by
  rcases Fact.em Val.σ true x357 x358 with h0 | h0
  · exact run22 (holds_cons h0 (holds_nil _)) w hG hro ha
  · exact run23 (holds_cons h0 (holds_nil _)) w hG hro ha
theorem cls22 [Val] (w : World) (hG : Tryz.prog.globals.size ≤ w.heap.size) (hro : Ro0 Tryz.prog.globals.size w) {x : Array Value} (ha : LR (phi0 Tryz.prog.globals.size) a22 x) : Calls Tryz.prog 3 x w fun e w' => e = .returned (.bool true) ∧ Below w.heap.size w w' := by
  rcases Fact.em Val.σ true x357 x358 with h0 | h0
  · exact run24 (holds_cons h0 (holds_nil _)) w hG hro ha
  · exact run25 (holds_cons h0 (holds_nil _)) w hG hro ha
theorem cls23 [Val] (w : World) (hG : Tryz.prog.globals.size ≤ w.heap.size) (hro : Ro0 Tryz.prog.globals.size w) {x : Array Value} (ha : LR (phi0 Tryz.prog.globals.size) a23 x) : Calls Tryz.prog 3 x w fun e w' => e = .returned (.bool true) ∧ Below w.heap.size w w' := by
  rcases Fact.em Val.σ true x357 x358 with h0 | h0
  · exact run26 (holds_cons h0 (holds_nil _)) w hG hro ha
  · exact run27 (holds_cons h0 (holds_nil _)) w hG hro ha
theorem cls24 [Val] (w : World) (hG : Tryz.prog.globals.size ≤ w.heap.size) (hro : Ro0 Tryz.prog.globals.size w) {x : Array Value} (ha : LR (phi0 Tryz.prog.globals.size) a24 x) : Calls Tryz.prog 3 x w fun e w' => e = .returned (.bool true) ∧ Below w.heap.size w w' := by
  rcases Fact.em Val.σ true x359 x358 with h0 | h0
  · exact run28 (holds_cons h0 (holds_nil _)) w hG hro ha
  · exact run29 (holds_cons h0 (holds_nil _)) w hG hro ha
theorem cls25 [Val] (w : World) (hG : Tryz.prog.globals.size ≤ w.heap.size) (hro : Ro0 Tryz.prog.globals.size w) {x : Array Value} (ha : LR (phi0 Tryz.prog.globals.size) a25 x) : Calls Tryz.prog 3 x w fun e w' => e = .returned (.bool true) ∧ Below w.heap.size w w' := by
  rcases Fact.em Val.σ true x360 x358 with h0 | h0
  · exact run30 (holds_cons h0 (holds_nil _)) w hG hro ha
  · exact run31 (holds_cons h0 (holds_nil _)) w hG hro ha
theorem cls26 [Val] (w : World) (hG : Tryz.prog.globals.size ≤ w.heap.size) (hro : Ro0 Tryz.prog.globals.size w) {x : Array Value} (ha : LR (phi0 Tryz.prog.globals.size) a26 x) : Calls Tryz.prog 3 x w fun e w' => e = .returned (.bool true) ∧ Below w.heap.size w w' := by
  rcases Fact.em Val.σ true x359 x358 with h0 | h0
  · exact run32 (holds_cons h0 (holds_nil _)) w hG hro ha
  · exact run33 (holds_cons h0 (holds_nil _)) w hG hro ha
theorem cls27 [Val] (w : World) (hG : Tryz.prog.globals.size ≤ w.heap.size) (hro : Ro0 Tryz.prog.globals.size w) {x : Array Value} (ha : LR (phi0 Tryz.prog.globals.size) a27 x) : Calls Tryz.prog 3 x w fun e w' => e = .returned (.bool true) ∧ Below w.heap.size w w' := by
  rcases Fact.em Val.σ true x360 x358 with h0 | h0
  · exact run34 (holds_cons h0 (holds_nil _)) w hG hro ha
  · exact run35 (holds_cons h0 (holds_nil _)) w hG hro ha
theorem cls28 [Val] (w : World) (hG : Tryz.prog.globals.size ≤ w.heap.size) (hro : Ro0 Tryz.prog.globals.size w) {x : Array Value} (ha : LR (phi0 Tryz.prog.globals.size) a28 x) : Calls Tryz.prog 3 x w fun e w' => e = .returned (.bool true) ∧ Below w.heap.size w w' := by
  rcases Fact.em Val.σ true x359 x358 with h0 | h0
  · exact run36 (holds_cons h0 (holds_nil _)) w hG hro ha
  · exact run37 (holds_cons h0 (holds_nil _)) w hG hro ha
theorem cls29 [Val] (w : World) (hG : Tryz.prog.globals.size ≤ w.heap.size) (hro : Ro0 Tryz.prog.globals.size w) {x : Array Value} (ha : LR (phi0 Tryz.prog.globals.size) a29 x) : Calls Tryz.prog 3 x w fun e w' => e = .returned (.bool true) ∧ Below w.heap.size w w' := by
  rcases Fact.em Val.σ true x360 x358 with h0 | h0
  · exact run38 (holds_cons h0 (holds_nil _)) w hG hro ha
  · exact run39 (holds_cons h0 (holds_nil _)) w hG hro ha
theorem cls30 [Val] (w : World) (hG : Tryz.prog.globals.size ≤ w.heap.size) (hro : Ro0 Tryz.prog.globals.size w) {x : Array Value} (ha : LR (phi0 Tryz.prog.globals.size) a30 x) : Calls Tryz.prog 3 x w fun e w' => e = .returned (.bool true) ∧ Below w.heap.size w w' := by
  rcases Fact.em Val.σ true x359 x358 with h0 | h0
  · exact run40 (holds_cons h0 (holds_nil _)) w hG hro ha
  · exact run41 (holds_cons h0 (holds_nil _)) w hG hro ha
theorem cls31 [Val] (w : World) (hG : Tryz.prog.globals.size ≤ w.heap.size) (hro : Ro0 Tryz.prog.globals.size w) {x : Array Value} (ha : LR (phi0 Tryz.prog.globals.size) a31 x) : Calls Tryz.prog 3 x w fun e w' => e = .returned (.bool true) ∧ Below w.heap.size w w' := by
  rcases Fact.em Val.σ true x360 x358 with h0 | h0
  · exact run42 (holds_cons h0 (holds_nil _)) w hG hro ha
  · exact run43 (holds_cons h0 (holds_nil _)) w hG hro ha
theorem cls32 [Val] (w : World) (hG : Tryz.prog.globals.size ≤ w.heap.size) (hro : Ro0 Tryz.prog.globals.size w) {x : Array Value} (ha : LR (phi0 Tryz.prog.globals.size) a32 x) : Calls Tryz.prog 3 x w fun e w' => e = .returned (.bool true) ∧ Below w.heap.size w w' := by
  rcases Fact.em Val.σ true x359 x358 with h0 | h0
  · exact run44 (holds_cons h0 (holds_nil _)) w hG hro ha
  · exact run45 (holds_cons h0 (holds_nil _)) w hG hro ha
theorem cls33 [Val] (w : World) (hG : Tryz.prog.globals.size ≤ w.heap.size) (hro : Ro0 Tryz.prog.globals.size w) {x : Array Value} (ha : LR (phi0 Tryz.prog.globals.size) a33 x) : Calls Tryz.prog 3 x w fun e w' => e = .returned (.bool true) ∧ Below w.heap.size w w' := by
  rcases Fact.em Val.σ true x360 x358 with h0 | h0
  · exact run46 (holds_cons h0 (holds_nil _)) w hG hro ha
  · exact run47 (holds_cons h0 (holds_nil _)) w hG hro ha
theorem cls34 [Val] (w : World) (hG : Tryz.prog.globals.size ≤ w.heap.size) (hro : Ro0 Tryz.prog.globals.size w) {x : Array Value} (ha : LR (phi0 Tryz.prog.globals.size) a34 x) : Calls Tryz.prog 3 x w fun e w' => e = .returned (.bool true) ∧ Below w.heap.size w w' := by
  rcases Fact.em Val.σ true x359 x358 with h0 | h0
  · exact run48 (holds_cons h0 (holds_nil _)) w hG hro ha
  · exact run49 (holds_cons h0 (holds_nil _)) w hG hro ha
theorem cls35 [Val] (w : World) (hG : Tryz.prog.globals.size ≤ w.heap.size) (hro : Ro0 Tryz.prog.globals.size w) {x : Array Value} (ha : LR (phi0 Tryz.prog.globals.size) a35 x) : Calls Tryz.prog 3 x w fun e w' => e = .returned (.bool true) ∧ Below w.heap.size w w' := by
  rcases Fact.em Val.σ true x360 x358 with h0 | h0
  · exact run50 (holds_cons h0 (holds_nil _)) w hG hro ha
  · exact run51 (holds_cons h0 (holds_nil _)) w hG hro ha
theorem cls36 [Val] (w : World) (hG : Tryz.prog.globals.size ≤ w.heap.size) (hro : Ro0 Tryz.prog.globals.size w) {x : Array Value} (ha : LR (phi0 Tryz.prog.globals.size) a36 x) : Calls Tryz.prog 3 x w fun e w' => e = .returned (.bool true) ∧ Below w.heap.size w w' := by
  rcases Fact.em Val.σ true x359 x358 with h0 | h0
  · exact run52 (holds_cons h0 (holds_nil _)) w hG hro ha
  · exact run53 (holds_cons h0 (holds_nil _)) w hG hro ha
theorem cls37 [Val] (w : World) (hG : Tryz.prog.globals.size ≤ w.heap.size) (hro : Ro0 Tryz.prog.globals.size w) {x : Array Value} (ha : LR (phi0 Tryz.prog.globals.size) a37 x) : Calls Tryz.prog 3 x w fun e w' => e = .returned (.bool true) ∧ Below w.heap.size w w' := by
  rcases Fact.em Val.σ true x360 x358 with h0 | h0
  · exact run54 (holds_cons h0 (holds_nil _)) w hG hro ha
  · exact run55 (holds_cons h0 (holds_nil _)) w hG hro ha
theorem cls38 [Val] (w : World) (hG : Tryz.prog.globals.size ≤ w.heap.size) (hro : Ro0 Tryz.prog.globals.size w) {x : Array Value} (ha : LR (phi0 Tryz.prog.globals.size) a38 x) : Calls Tryz.prog 3 x w fun e w' => e = .returned (.bool true) ∧ Below w.heap.size w w' := by
  rcases Fact.em Val.σ true x359 x358 with h0 | h0
  · exact run56 (holds_cons h0 (holds_nil _)) w hG hro ha
  · exact run57 (holds_cons h0 (holds_nil _)) w hG hro ha
theorem cls39 [Val] (w : World) (hG : Tryz.prog.globals.size ≤ w.heap.size) (hro : Ro0 Tryz.prog.globals.size w) {x : Array Value} (ha : LR (phi0 Tryz.prog.globals.size) a39 x) : Calls Tryz.prog 3 x w fun e w' => e = .returned (.bool true) ∧ Below w.heap.size w w' := by
  rcases Fact.em Val.σ true x360 x358 with h0 | h0
  · exact run58 (holds_cons h0 (holds_nil _)) w hG hro ha
  · exact run59 (holds_cons h0 (holds_nil _)) w hG hro ha
abbrev vals (o c b2 b3 b4 b5 b6 b7 b8 b9 b10 b11 who z : Int) : Val := ⟨fun i => match i with
  | 2 => b2
  | 3 => b3
  | 4 => b4
  | 5 => b5
  | 6 => b6
  | 7 => b7
  | 8 => b8
  | 9 => b9
  | 10 => b10
  | 11 => b11
  | 13 => who
  | 14 => z
  | 20 => o / 3
  | 21 => c / 4
  | _ => 0⟩

theorem shape_vr [Val] {φ : Phi} {tv : AV} {t : Bool} (ht : VR φ tv (.bool t)) {o c b2 b3 b4 b5 b6 b7 b8 b9 b10 b11 : Int} (lo : 0 ≤ o) (ho : o ≤ 255) (lc : 0 ≤ c) (hc : c ≤ 255) (lb2 : 0 ≤ b2) (hb2 : b2 ≤ 255) (lb3 : 0 ≤ b3) (hb3 : b3 ≤ 255) (lb4 : 0 ≤ b4) (hb4 : b4 ≤ 255) (lb5 : 0 ≤ b5) (hb5 : b5 ≤ 255) (lb6 : 0 ≤ b6) (hb6 : b6 ≤ 255) (lb7 : 0 ≤ b7) (hb7 : b7 ≤ 255) (lb8 : 0 ≤ b8) (hb8 : b8 ≤ 255) (lb9 : 0 ≤ b9) (hb9 : b9 ≤ 255) (lb10 : 0 ≤ b10) (hb10 : b10 ≤ 255) (lb11 : 0 ≤ b11) (hb11 : b11 ≤ 255) (r0 q0 h0 r1 h1 : Int)
    (e20 : Val.σ 20 = o / 3) (e21 : Val.σ 21 = c / 4) (e2 : Val.σ 2 = b2) (e3 : Val.σ 3 = b3) (e4 : Val.σ 4 = b4) (e5 : Val.σ 5 = b5) (e6 : Val.σ 6 = b6) (e7 : Val.σ 7 = b7) (e8 : Val.σ 8 = b8) (e9 : Val.σ 9 = b9) (e10 : Val.σ 10 = b10) (e11 : Val.σ 11 = b11) (m0 : o % 3 = r0) (m1 : c % 4 = r1) (g0 : o / 3 ≤ q0) (g1 : r0 ≤ o ∧ o ≤ h0) (g2 : r1 ≤ c ∧ c ≤ h1) :
    VR φ (.agg 13 4 .junk (setFrom 4 .e 0 [.sym .u8 r0 h0 (.add (.mul (.const 3) (.var 20 0 q0)) (.const r0)), .sym .u8 r1 h1 (.add (.mul (.const 4) (.var 21 0 63)) (.const r1)),
      .sym .u8 0 255 (.var 2 0 255), .sym .u8 0 255 (.var 3 0 255), .sym .u8 0 255 (.var 4 0 255), .sym .u8 0 255 (.var 5 0 255), .sym .u8 0 255 (.var 6 0 255), .sym .u8 0 255 (.var 7 0 255), .sym .u8 0 255 (.var 8 0 255), .sym .u8 0 255 (.var 9 0 255), .sym .u8 0 255 (.var 10 0 255), .sym .u8 0 255 (.var 11 0 255), tv])) (.agg #[.int .u8 o, .int .u8 c, .int .u8 b2, .int .u8 b3, .int .u8 b4, .int .u8 b5, .int .u8 b6, .int .u8 b7, .int .u8 b8, .int .u8 b9, .int .u8 b10, .int .u8 b11, .bool t]) := by
  refine VRs.agg (m := [.int .u8 o, .int .u8 c, .int .u8 b2, .int .u8 b3, .int .u8 b4, .int .u8 b5, .int .u8 b6, .int .u8 b7, .int .u8 b8, .int .u8 b9, .int .u8 b10, .int .u8 b11, .bool t]) (.cons (.sym ?_ g1.1 g1.2) (.cons (.sym ?_ g2.1 g2.2) (.cons (vr_var 2 e2 lb2 hb2) (.cons (vr_var 3 e3 lb3 hb3) (.cons (vr_var 4 e4 lb4 hb4) (.cons (vr_var 5 e5 lb5 hb5) (.cons (vr_var 6 e6 lb6 hb6) (.cons (vr_var 7 e7 lb7 hb7) (.cons (vr_var 8 e8 lb8 hb8) (.cons (vr_var 9 e9 lb9 hb9) (.cons (vr_var 10 e10 lb10 hb10) (.cons (vr_var 11 e11 lb11 hb11) (.cons ht .nil))))))))))))) rfl rfl (by decide)
  · show 3 * clampI 0 q0 (Val.σ 20) + r0 = o
    rw [e20, clampI_id (by omega) g0]; omega
  · show 4 * clampI 0 63 (Val.σ 21) + r1 = c
    rw [e21, clampI_id (by omega) (by omega)]; omega

theorem law (o c b2 b3 b4 b5 b6 b7 b8 b9 b10 b11 : Int) (t : Bool) (who whom : Int) (lo : 0 ≤ o) (ho : o ≤ 255) (lc : 0 ≤ c) (hc : c ≤ 255) (lb2 : 0 ≤ b2) (hb2 : b2 ≤ 255) (lb3 : 0 ≤ b3) (hb3 : b3 ≤ 255) (lb4 : 0 ≤ b4) (hb4 : b4 ≤ 255) (lb5 : 0 ≤ b5) (hb5 : b5 ≤ 255) (lb6 : 0 ≤ b6) (hb6 : b6 ≤ 255) (lb7 : 0 ≤ b7) (hb7 : b7 ≤ 255) (lb8 : 0 ≤ b8) (hb8 : b8 ≤ 255) (lb9 : 0 ≤ b9) (hb9 : b9 ≤ 255) (lb10 : 0 ≤ b10) (hb10 : b10 ≤ 255) (lb11 : 0 ≤ b11) (hb11 : b11 ≤ 255) (lw : 0 ≤ who) (hw : who ≤ 255) (lm : 0 ≤ whom) (hm : whom ≤ 255) (w : World) :
    Calls Tryz.prog 3 #[.agg #[.int .u8 o, .int .u8 c, .int .u8 b2, .int .u8 b3, .int .u8 b4, .int .u8 b5, .int .u8 b6, .int .u8 b7, .int .u8 b8, .int .u8 b9, .int .u8 b10, .int .u8 b11, .bool t], .int .u8 who, .int .u8 whom] w fun e w' => e = .returned (.bool true) ∧ Below w.heap.size w w' := by
  have hG : Tryz.prog.globals.size ≤ w.heap.size := by rw [g0]; exact Nat.zero_le _
  have hro : Ro0 Tryz.prog.globals.size w := fun _ _ _ _ h => by simp [roTab] at h
  have m0 : o % 3 = 0 ∨ o % 3 = 1 ∨ o % 3 = 2 := by omega
  have m1 : c % 4 = 0 ∨ c % 4 = 1 ∨ c % 4 = 2 ∨ c % 4 = 3 := by omega
  cases t
  · rcases m0 with m0 | m0 | m0
    · rcases m1 with m1 | m1 | m1 | m1
      · letI : Val := vals o c b2 b3 b4 b5 b6 b7 b8 b9 b10 b11 who (whom)
        exact cls0 w hG hro (VRs.lr (m := [.agg #[.int .u8 o, .int .u8 c, .int .u8 b2, .int .u8 b3, .int .u8 b4, .int .u8 b5, .int .u8 b6, .int .u8 b7, .int .u8 b8, .int .u8 b9, .int .u8 b10, .int .u8 b11, .bool false], .int .u8 who, .int .u8 whom]) (.cons (shape_vr (.bool _) lo ho lc hc lb2 hb2 lb3 hb3 lb4 hb4 lb5 hb5 lb6 hb6 lb7 hb7 lb8 hb8 lb9 hb9 lb10 hb10 lb11 hb11 0 85 255 0 252 rfl rfl rfl rfl rfl rfl rfl rfl rfl rfl rfl rfl m0 m1 (by omega) (by omega) (by omega)) (.cons (vr_var 13 rfl lw hw) (.cons (vr_var 14 rfl lm hm) .nil))))
      · letI : Val := vals o c b2 b3 b4 b5 b6 b7 b8 b9 b10 b11 who (whom)
        exact cls1 w hG hro (VRs.lr (m := [.agg #[.int .u8 o, .int .u8 c, .int .u8 b2, .int .u8 b3, .int .u8 b4, .int .u8 b5, .int .u8 b6, .int .u8 b7, .int .u8 b8, .int .u8 b9, .int .u8 b10, .int .u8 b11, .bool false], .int .u8 who, .int .u8 whom]) (.cons (shape_vr (.bool _) lo ho lc hc lb2 hb2 lb3 hb3 lb4 hb4 lb5 hb5 lb6 hb6 lb7 hb7 lb8 hb8 lb9 hb9 lb10 hb10 lb11 hb11 0 85 255 1 253 rfl rfl rfl rfl rfl rfl rfl rfl rfl rfl rfl rfl m0 m1 (by omega) (by omega) (by omega)) (.cons (vr_var 13 rfl lw hw) (.cons (vr_var 14 rfl lm hm) .nil))))
      · letI : Val := vals o c b2 b3 b4 b5 b6 b7 b8 b9 b10 b11 who (whom)
        exact cls2 w hG hro (VRs.lr (m := [.agg #[.int .u8 o, .int .u8 c, .int .u8 b2, .int .u8 b3, .int .u8 b4, .int .u8 b5, .int .u8 b6, .int .u8 b7, .int .u8 b8, .int .u8 b9, .int .u8 b10, .int .u8 b11, .bool false], .int .u8 who, .int .u8 whom]) (.cons (shape_vr (.bool _) lo ho lc hc lb2 hb2 lb3 hb3 lb4 hb4 lb5 hb5 lb6 hb6 lb7 hb7 lb8 hb8 lb9 hb9 lb10 hb10 lb11 hb11 0 85 255 2 254 rfl rfl rfl rfl rfl rfl rfl rfl rfl rfl rfl rfl m0 m1 (by omega) (by omega) (by omega)) (.cons (vr_var 13 rfl lw hw) (.cons (vr_var 14 rfl lm hm) .nil))))
      · letI : Val := vals o c b2 b3 b4 b5 b6 b7 b8 b9 b10 b11 who (whom)
        exact cls3 w hG hro (VRs.lr (m := [.agg #[.int .u8 o, .int .u8 c, .int .u8 b2, .int .u8 b3, .int .u8 b4, .int .u8 b5, .int .u8 b6, .int .u8 b7, .int .u8 b8, .int .u8 b9, .int .u8 b10, .int .u8 b11, .bool false], .int .u8 who, .int .u8 whom]) (.cons (shape_vr (.bool _) lo ho lc hc lb2 hb2 lb3 hb3 lb4 hb4 lb5 hb5 lb6 hb6 lb7 hb7 lb8 hb8 lb9 hb9 lb10 hb10 lb11 hb11 0 85 255 3 255 rfl rfl rfl rfl rfl rfl rfl rfl rfl rfl rfl rfl m0 m1 (by omega) (by omega) (by omega)) (.cons (vr_var 13 rfl lw hw) (.cons (vr_var 14 rfl lm hm) .nil))))
    · rcases m1 with m1 | m1 | m1 | m1
      · by_cases hq : whom < 128
        · letI : Val := vals o c b2 b3 b4 b5 b6 b7 b8 b9 b10 b11 who (whom)
          exact cls4 w hG hro (VRs.lr (m := [.agg #[.int .u8 o, .int .u8 c, .int .u8 b2, .int .u8 b3, .int .u8 b4, .int .u8 b5, .int .u8 b6, .int .u8 b7, .int .u8 b8, .int .u8 b9, .int .u8 b10, .int .u8 b11, .bool false], .int .u8 who, .int .u8 whom]) (.cons (shape_vr (.bool _) lo ho lc hc lb2 hb2 lb3 hb3 lb4 hb4 lb5 hb5 lb6 hb6 lb7 hb7 lb8 hb8 lb9 hb9 lb10 hb10 lb11 hb11 1 84 253 0 252 rfl rfl rfl rfl rfl rfl rfl rfl rfl rfl rfl rfl m0 m1 (by omega) (by omega) (by omega)) (.cons (vr_var 13 rfl lw hw) (.cons (vr_var 14 rfl lm (by omega)) .nil))))
        · letI : Val := vals o c b2 b3 b4 b5 b6 b7 b8 b9 b10 b11 who (whom - 128)
          exact cls5 w hG hro (VRs.lr (m := [.agg #[.int .u8 o, .int .u8 c, .int .u8 b2, .int .u8 b3, .int .u8 b4, .int .u8 b5, .int .u8 b6, .int .u8 b7, .int .u8 b8, .int .u8 b9, .int .u8 b10, .int .u8 b11, .bool false], .int .u8 who, .int .u8 whom]) (.cons (shape_vr (.bool _) lo ho lc hc lb2 hb2 lb3 hb3 lb4 hb4 lb5 hb5 lb6 hb6 lb7 hb7 lb8 hb8 lb9 hb9 lb10 hb10 lb11 hb11 1 84 253 0 252 rfl rfl rfl rfl rfl rfl rfl rfl rfl rfl rfl rfl m0 m1 (by omega) (by omega) (by omega)) (.cons (vr_var 13 rfl lw hw) (.cons (.sym (by show 128 + clampI 0 127 (whom - 128) = whom; rw [clampI_id (by omega) (by omega)]; omega) (by omega) (by omega)) .nil))))
      · by_cases hq : whom < 128
        · letI : Val := vals o c b2 b3 b4 b5 b6 b7 b8 b9 b10 b11 who (whom)
          exact cls6 w hG hro (VRs.lr (m := [.agg #[.int .u8 o, .int .u8 c, .int .u8 b2, .int .u8 b3, .int .u8 b4, .int .u8 b5, .int .u8 b6, .int .u8 b7, .int .u8 b8, .int .u8 b9, .int .u8 b10, .int .u8 b11, .bool false], .int .u8 who, .int .u8 whom]) (.cons (shape_vr (.bool _) lo ho lc hc lb2 hb2 lb3 hb3 lb4 hb4 lb5 hb5 lb6 hb6 lb7 hb7 lb8 hb8 lb9 hb9 lb10 hb10 lb11 hb11 1 84 253 1 253 rfl rfl rfl rfl rfl rfl rfl rfl rfl rfl rfl rfl m0 m1 (by omega) (by omega) (by omega)) (.cons (vr_var 13 rfl lw hw) (.cons (vr_var 14 rfl lm (by omega)) .nil))))
        · letI : Val := vals o c b2 b3 b4 b5 b6 b7 b8 b9 b10 b11 who (whom - 128)
          exact cls7 w hG hro (VRs.lr (m := [.agg #[.int .u8 o, .int .u8 c, .int .u8 b2, .int .u8 b3, .int .u8 b4, .int .u8 b5, .int .u8 b6, .int .u8 b7, .int .u8 b8, .int .u8 b9, .int .u8 b10, .int .u8 b11, .bool false], .int .u8 who, .int .u8 whom]) (.cons (shape_vr (.bool _) lo ho lc hc lb2 hb2 lb3 hb3 lb4 hb4 lb5 hb5 lb6 hb6 lb7 hb7 lb8 hb8 lb9 hb9 lb10 hb10 lb11 hb11 1 84 253 1 253 rfl rfl rfl rfl rfl rfl rfl rfl rfl rfl rfl rfl m0 m1 (by omega) (by omega) (by omega)) (.cons (vr_var 13 rfl lw hw) (.cons (.sym (by show 128 + clampI 0 127 (whom - 128) = whom; rw [clampI_id (by omega) (by omega)]; omega) (by omega) (by omega)) .nil))))
      · by_cases hq : whom < 128
        · letI : Val := vals o c b2 b3 b4 b5 b6 b7 b8 b9 b10 b11 who (whom)
          exact cls8 w hG hro (VRs.lr (m := [.agg #[.int .u8 o, .int .u8 c, .int .u8 b2, .int .u8 b3, .int .u8 b4, .int .u8 b5, .int .u8 b6, .int .u8 b7, .int .u8 b8, .int .u8 b9, .int .u8 b10, .int .u8 b11, .bool false], .int .u8 who, .int .u8 whom]) (.cons (shape_vr (.bool _) lo ho lc hc lb2 hb2 lb3 hb3 lb4 hb4 lb5 hb5 lb6 hb6 lb7 hb7 lb8 hb8 lb9 hb9 lb10 hb10 lb11 hb11 1 84 253 2 254 rfl rfl rfl rfl rfl rfl rfl rfl rfl rfl rfl rfl m0 m1 (by omega) (by omega) (by omega)) (.cons (vr_var 13 rfl lw hw) (.cons (vr_var 14 rfl lm (by omega)) .nil))))
        · letI : Val := vals o c b2 b3 b4 b5 b6 b7 b8 b9 b10 b11 who (whom - 128)
          exact cls9 w hG hro (VRs.lr (m := [.agg #[.int .u8 o, .int .u8 c, .int .u8 b2, .int .u8 b3, .int .u8 b4, .int .u8 b5, .int .u8 b6, .int .u8 b7, .int .u8 b8, .int .u8 b9, .int .u8 b10, .int .u8 b11, .bool false], .int .u8 who, .int .u8 whom]) (.cons (shape_vr (.bool _) lo ho lc hc lb2 hb2 lb3 hb3 lb4 hb4 lb5 hb5 lb6 hb6 lb7 hb7 lb8 hb8 lb9 hb9 lb10 hb10 lb11 hb11 1 84 253 2 254 rfl rfl rfl rfl rfl rfl rfl rfl rfl rfl rfl rfl m0 m1 (by omega) (by omega) (by omega)) (.cons (vr_var 13 rfl lw hw) (.cons (.sym (by show 128 + clampI 0 127 (whom - 128) = whom; rw [clampI_id (by omega) (by omega)]; omega) (by omega) (by omega)) .nil))))
      · by_cases hq : whom < 128
        · letI : Val := vals o c b2 b3 b4 b5 b6 b7 b8 b9 b10 b11 who (whom)
          exact cls10 w hG hro (VRs.lr (m := [.agg #[.int .u8 o, .int .u8 c, .int .u8 b2, .int .u8 b3, .int .u8 b4, .int .u8 b5, .int .u8 b6, .int .u8 b7, .int .u8 b8, .int .u8 b9, .int .u8 b10, .int .u8 b11, .bool false], .int .u8 who, .int .u8 whom]) (.cons (shape_vr (.bool _) lo ho lc hc lb2 hb2 lb3 hb3 lb4 hb4 lb5 hb5 lb6 hb6 lb7 hb7 lb8 hb8 lb9 hb9 lb10 hb10 lb11 hb11 1 84 253 3 255 rfl rfl rfl rfl rfl rfl rfl rfl rfl rfl rfl rfl m0 m1 (by omega) (by omega) (by omega)) (.cons (vr_var 13 rfl lw hw) (.cons (vr_var 14 rfl lm (by omega)) .nil))))
        · letI : Val := vals o c b2 b3 b4 b5 b6 b7 b8 b9 b10 b11 who (whom - 128)
          exact cls11 w hG hro (VRs.lr (m := [.agg #[.int .u8 o, .int .u8 c, .int .u8 b2, .int .u8 b3, .int .u8 b4, .int .u8 b5, .int .u8 b6, .int .u8 b7, .int .u8 b8, .int .u8 b9, .int .u8 b10, .int .u8 b11, .bool false], .int .u8 who, .int .u8 whom]) (.cons (shape_vr (.bool _) lo ho lc hc lb2 hb2 lb3 hb3 lb4 hb4 lb5 hb5 lb6 hb6 lb7 hb7 lb8 hb8 lb9 hb9 lb10 hb10 lb11 hb11 1 84 253 3 255 rfl rfl rfl rfl rfl rfl rfl rfl rfl rfl rfl rfl m0 m1 (by omega) (by omega) (by omega)) (.cons (vr_var 13 rfl lw hw) (.cons (.sym (by show 128 + clampI 0 127 (whom - 128) = whom; rw [clampI_id (by omega) (by omega)]; omega) (by omega) (by omega)) .nil))))
    · rcases m1 with m1 | m1 | m1 | m1
      · by_cases hq : whom < 128
        · letI : Val := vals o c b2 b3 b4 b5 b6 b7 b8 b9 b10 b11 who (whom)
          exact cls12 w hG hro (VRs.lr (m := [.agg #[.int .u8 o, .int .u8 c, .int .u8 b2, .int .u8 b3, .int .u8 b4, .int .u8 b5, .int .u8 b6, .int .u8 b7, .int .u8 b8, .int .u8 b9, .int .u8 b10, .int .u8 b11, .bool false], .int .u8 who, .int .u8 whom]) (.cons (shape_vr (.bool _) lo ho lc hc lb2 hb2 lb3 hb3 lb4 hb4 lb5 hb5 lb6 hb6 lb7 hb7 lb8 hb8 lb9 hb9 lb10 hb10 lb11 hb11 2 84 254 0 252 rfl rfl rfl rfl rfl rfl rfl rfl rfl rfl rfl rfl m0 m1 (by omega) (by omega) (by omega)) (.cons (vr_var 13 rfl lw hw) (.cons (vr_var 14 rfl lm (by omega)) .nil))))
        · letI : Val := vals o c b2 b3 b4 b5 b6 b7 b8 b9 b10 b11 who (whom - 128)
          exact cls13 w hG hro (VRs.lr (m := [.agg #[.int .u8 o, .int .u8 c, .int .u8 b2, .int .u8 b3, .int .u8 b4, .int .u8 b5, .int .u8 b6, .int .u8 b7, .int .u8 b8, .int .u8 b9, .int .u8 b10, .int .u8 b11, .bool false], .int .u8 who, .int .u8 whom]) (.cons (shape_vr (.bool _) lo ho lc hc lb2 hb2 lb3 hb3 lb4 hb4 lb5 hb5 lb6 hb6 lb7 hb7 lb8 hb8 lb9 hb9 lb10 hb10 lb11 hb11 2 84 254 0 252 rfl rfl rfl rfl rfl rfl rfl rfl rfl rfl rfl rfl m0 m1 (by omega) (by omega) (by omega)) (.cons (vr_var 13 rfl lw hw) (.cons (.sym (by show 128 + clampI 0 127 (whom - 128) = whom; rw [clampI_id (by omega) (by omega)]; omega) (by omega) (by omega)) .nil))))
      · by_cases hq : whom < 128
        · letI : Val := vals o c b2 b3 b4 b5 b6 b7 b8 b9 b10 b11 who (whom)
          exact cls14 w hG hro (VRs.lr (m := [.agg #[.int .u8 o, .int .u8 c, .int .u8 b2, .int .u8 b3, .int .u8 b4, .int .u8 b5, .int .u8 b6, .int .u8 b7, .int .u8 b8, .int .u8 b9, .int .u8 b10, .int .u8 b11, .bool false], .int .u8 who, .int .u8 whom]) (.cons (shape_vr (.bool _) lo ho lc hc lb2 hb2 lb3 hb3 lb4 hb4 lb5 hb5 lb6 hb6 lb7 hb7 lb8 hb8 lb9 hb9 lb10 hb10 lb11 hb11 2 84 254 1 253 rfl rfl rfl rfl rfl rfl rfl rfl rfl rfl rfl rfl m0 m1 (by omega) (by omega) (by omega)) (.cons (vr_var 13 rfl lw hw) (.cons (vr_var 14 rfl lm (by omega)) .nil))))
        · letI : Val := vals o c b2 b3 b4 b5 b6 b7 b8 b9 b10 b11 who (whom - 128)
          exact cls15 w hG hro (VRs.lr (m := [.agg #[.int .u8 o, .int .u8 c, .int .u8 b2, .int .u8 b3, .int .u8 b4, .int .u8 b5, .int .u8 b6, .int .u8 b7, .int .u8 b8, .int .u8 b9, .int .u8 b10, .int .u8 b11, .bool false], .int .u8 who, .int .u8 whom]) (.cons (shape_vr (.bool _) lo ho lc hc lb2 hb2 lb3 hb3 lb4 hb4 lb5 hb5 lb6 hb6 lb7 hb7 lb8 hb8 lb9 hb9 lb10 hb10 lb11 hb11 2 84 254 1 253 rfl rfl rfl rfl rfl rfl rfl rfl rfl rfl rfl rfl m0 m1 (by omega) (by omega) (by omega)) (.cons (vr_var 13 rfl lw hw) (.cons (.sym (by show 128 + clampI 0 127 (whom - 128) = whom; rw [clampI_id (by omega) (by omega)]; omega) (by omega) (by omega)) .nil))))
      · by_cases hq : whom < 128
        · letI : Val := vals o c b2 b3 b4 b5 b6 b7 b8 b9 b10 b11 who (whom)
          exact cls16 w hG hro (VRs.lr (m := [.agg #[.int .u8 o, .int .u8 c, .int .u8 b2, .int .u8 b3, .int .u8 b4, .int .u8 b5, .int .u8 b6, .int .u8 b7, .int .u8 b8, .int .u8 b9, .int .u8 b10, .int .u8 b11, .bool false], .int .u8 who, .int .u8 whom]) (.cons (shape_vr (.bool _) lo ho lc hc lb2 hb2 lb3 hb3 lb4 hb4 lb5 hb5 lb6 hb6 lb7 hb7 lb8 hb8 lb9 hb9 lb10 hb10 lb11 hb11 2 84 254 2 254 rfl rfl rfl rfl rfl rfl rfl rfl rfl rfl rfl rfl m0 m1 (by omega) (by omega) (by omega)) (.cons (vr_var 13 rfl lw hw) (.cons (vr_var 14 rfl lm (by omega)) .nil))))
        · letI : Val := vals o c b2 b3 b4 b5 b6 b7 b8 b9 b10 b11 who (whom - 128)
          exact cls17 w hG hro (VRs.lr (m := [.agg #[.int .u8 o, .int .u8 c, .int .u8 b2, .int .u8 b3, .int .u8 b4, .int .u8 b5, .int .u8 b6, .int .u8 b7, .int .u8 b8, .int .u8 b9, .int .u8 b10, .int .u8 b11, .bool false], .int .u8 who, .int .u8 whom]) (.cons (shape_vr (.bool _) lo ho lc hc lb2 hb2 lb3 hb3 lb4 hb4 lb5 hb5 lb6 hb6 lb7 hb7 lb8 hb8 lb9 hb9 lb10 hb10 lb11 hb11 2 84 254 2 254 rfl rfl rfl rfl rfl rfl rfl rfl rfl rfl rfl rfl m0 m1 (by omega) (by omega) (by omega)) (.cons (vr_var 13 rfl lw hw) (.cons (.sym (by show 128 + clampI 0 127 (whom - 128) = whom; rw [clampI_id (by omega) (by omega)]; omega) (by omega) (by omega)) .nil))))
      · by_cases hq : whom < 128
        · letI : Val := vals o c b2 b3 b4 b5 b6 b7 b8 b9 b10 b11 who (whom)
          exact cls18 w hG hro (VRs.lr (m := [.agg #[.int .u8 o, .int .u8 c, .int .u8 b2, .int .u8 b3, .int .u8 b4, .int .u8 b5, .int .u8 b6, .int .u8 b7, .int .u8 b8, .int .u8 b9, .int .u8 b10, .int .u8 b11, .bool false], .int .u8 who, .int .u8 whom]) (.cons (shape_vr (.bool _) lo ho lc hc lb2 hb2 lb3 hb3 lb4 hb4 lb5 hb5 lb6 hb6 lb7 hb7 lb8 hb8 lb9 hb9 lb10 hb10 lb11 hb11 2 84 254 3 255 rfl rfl rfl rfl rfl rfl rfl rfl rfl rfl rfl rfl m0 m1 (by omega) (by omega) (by omega)) (.cons (vr_var 13 rfl lw hw) (.cons (vr_var 14 rfl lm (by omega)) .nil))))
        · letI : Val := vals o c b2 b3 b4 b5 b6 b7 b8 b9 b10 b11 who (whom - 128)
          exact cls19 w hG hro (VRs.lr (m := [.agg #[.int .u8 o, .int .u8 c, .int .u8 b2, .int .u8 b3, .int .u8 b4, .int .u8 b5, .int .u8 b6, .int .u8 b7, .int .u8 b8, .int .u8 b9, .int .u8 b10, .int .u8 b11, .bool false], .int .u8 who, .int .u8 whom]) (.cons (shape_vr (.bool _) lo ho lc hc lb2 hb2 lb3 hb3 lb4 hb4 lb5 hb5 lb6 hb6 lb7 hb7 lb8 hb8 lb9 hb9 lb10 hb10 lb11 hb11 2 84 254 3 255 rfl rfl rfl rfl rfl rfl rfl rfl rfl rfl rfl rfl m0 m1 (by omega) (by omega) (by omega)) (.cons (vr_var 13 rfl lw hw) (.cons (.sym (by show 128 + clampI 0 127 (whom - 128) = whom; rw [clampI_id (by omega) (by omega)]; omega) (by omega) (by omega)) .nil))))
  · rcases m0 with m0 | m0 | m0
    · rcases m1 with m1 | m1 | m1 | m1
      · letI : Val := vals o c b2 b3 b4 b5 b6 b7 b8 b9 b10 b11 who (whom)
        exact cls20 w hG hro (VRs.lr (m := [.agg #[.int .u8 o, .int .u8 c, .int .u8 b2, .int .u8 b3, .int .u8 b4, .int .u8 b5, .int .u8 b6, .int .u8 b7, .int .u8 b8, .int .u8 b9, .int .u8 b10, .int .u8 b11, .bool true], .int .u8 who, .int .u8 whom]) (.cons (shape_vr (.bool _) lo ho lc hc lb2 hb2 lb3 hb3 lb4 hb4 lb5 hb5 lb6 hb6 lb7 hb7 lb8 hb8 lb9 hb9 lb10 hb10 lb11 hb11 0 85 255 0 252 rfl rfl rfl rfl rfl rfl rfl rfl rfl rfl rfl rfl m0 m1 (by omega) (by omega) (by omega)) (.cons (vr_var 13 rfl lw hw) (.cons (vr_var 14 rfl lm hm) .nil))))
      · letI : Val := vals o c b2 b3 b4 b5 b6 b7 b8 b9 b10 b11 who (whom)
        exact cls21 w hG hro (VRs.lr (m := [.agg #[.int .u8 o, .int .u8 c, .int .u8 b2, .int .u8 b3, .int .u8 b4, .int .u8 b5, .int .u8 b6, .int .u8 b7, .int .u8 b8, .int .u8 b9, .int .u8 b10, .int .u8 b11, .bool true], .int .u8 who, .int .u8 whom]) (.cons (shape_vr (.bool _) lo ho lc hc lb2 hb2 lb3 hb3 lb4 hb4 lb5 hb5 lb6 hb6 lb7 hb7 lb8 hb8 lb9 hb9 lb10 hb10 lb11 hb11 0 85 255 1 253 rfl rfl rfl rfl rfl rfl rfl rfl rfl rfl rfl rfl m0 m1 (by omega) (by omega) (by omega)) (.cons (vr_var 13 rfl lw hw) (.cons (vr_var 14 rfl lm hm) .nil))))
      · letI : Val := vals o c b2 b3 b4 b5 b6 b7 b8 b9 b10 b11 who (whom)
        exact cls22 w hG hro (VRs.lr (m := [.agg #[.int .u8 o, .int .u8 c, .int .u8 b2, .int .u8 b3, .int .u8 b4, .int .u8 b5, .int .u8 b6, .int .u8 b7, .int .u8 b8, .int .u8 b9, .int .u8 b10, .int .u8 b11, .bool true], .int .u8 who, .int .u8 whom]) (.cons (shape_vr (.bool _) lo ho lc hc lb2 hb2 lb3 hb3 lb4 hb4 lb5 hb5 lb6 hb6 lb7 hb7 lb8 hb8 lb9 hb9 lb10 hb10 lb11 hb11 0 85 255 2 254 rfl rfl rfl rfl rfl rfl rfl rfl rfl rfl rfl rfl m0 m1 (by omega) (by omega) (by omega)) (.cons (vr_var 13 rfl lw hw) (.cons (vr_var 14 rfl lm hm) .nil))))
      · letI : Val := vals o c b2 b3 b4 b5 b6 b7 b8 b9 b10 b11 who (whom)
        exact cls23 w hG hro (VRs.lr (m := [.agg #[.int .u8 o, .int .u8 c, .int .u8 b2, .int .u8 b3, .int .u8 b4, .int .u8 b5, .int .u8 b6, .int .u8 b7, .int .u8 b8, .int .u8 b9, .int .u8 b10, .int .u8 b11, .bool true], .int .u8 who, .int .u8 whom]) (.cons (shape_vr (.bool _) lo ho lc hc lb2 hb2 lb3 hb3 lb4 hb4 lb5 hb5 lb6 hb6 lb7 hb7 lb8 hb8 lb9 hb9 lb10 hb10 lb11 hb11 0 85 255 3 255 rfl rfl rfl rfl rfl rfl rfl rfl rfl rfl rfl rfl m0 m1 (by omega) (by omega) (by omega)) (.cons (vr_var 13 rfl lw hw) (.cons (vr_var 14 rfl lm hm) .nil))))
    · rcases m1 with m1 | m1 | m1 | m1
      · by_cases hq : whom < 128
        · letI : Val := vals o c b2 b3 b4 b5 b6 b7 b8 b9 b10 b11 who (whom)
          exact cls24 w hG hro (VRs.lr (m := [.agg #[.int .u8 o, .int .u8 c, .int .u8 b2, .int .u8 b3, .int .u8 b4, .int .u8 b5, .int .u8 b6, .int .u8 b7, .int .u8 b8, .int .u8 b9, .int .u8 b10, .int .u8 b11, .bool true], .int .u8 who, .int .u8 whom]) (.cons (shape_vr (.bool _) lo ho lc hc lb2 hb2 lb3 hb3 lb4 hb4 lb5 hb5 lb6 hb6 lb7 hb7 lb8 hb8 lb9 hb9 lb10 hb10 lb11 hb11 1 84 253 0 252 rfl rfl rfl rfl rfl rfl rfl rfl rfl rfl rfl rfl m0 m1 (by omega) (by omega) (by omega)) (.cons (vr_var 13 rfl lw hw) (.cons (vr_var 14 rfl lm (by omega)) .nil))))
        · letI : Val := vals o c b2 b3 b4 b5 b6 b7 b8 b9 b10 b11 who (whom - 128)
          exact cls25 w hG hro (VRs.lr (m := [.agg #[.int .u8 o, .int .u8 c, .int .u8 b2, .int .u8 b3, .int .u8 b4, .int .u8 b5, .int .u8 b6, .int .u8 b7, .int .u8 b8, .int .u8 b9, .int .u8 b10, .int .u8 b11, .bool true], .int .u8 who, .int .u8 whom]) (.cons (shape_vr (.bool _) lo ho lc hc lb2 hb2 lb3 hb3 lb4 hb4 lb5 hb5 lb6 hb6 lb7 hb7 lb8 hb8 lb9 hb9 lb10 hb10 lb11 hb11 1 84 253 0 252 rfl rfl rfl rfl rfl rfl rfl rfl rfl rfl rfl rfl m0 m1 (by omega) (by omega) (by omega)) (.cons (vr_var 13 rfl lw hw) (.cons (.sym (by show 128 + clampI 0 127 (whom - 128) = whom; rw [clampI_id (by omega) (by omega)]; omega) (by omega) (by omega)) .nil))))
      · by_cases hq : whom < 128
        · letI : Val := vals o c b2 b3 b4 b5 b6 b7 b8 b9 b10 b11 who (whom)
          exact cls26 w hG hro (VRs.lr (m := [.agg #[.int .u8 o, .int .u8 c, .int .u8 b2, .int .u8 b3, .int .u8 b4, .int .u8 b5, .int .u8 b6, .int .u8 b7, .int .u8 b8, .int .u8 b9, .int .u8 b10, .int .u8 b11, .bool true], .int .u8 who, .int .u8 whom]) (.cons (shape_vr (.bool _) lo ho lc hc lb2 hb2 lb3 hb3 lb4 hb4 lb5 hb5 lb6 hb6 lb7 hb7 lb8 hb8 lb9 hb9 lb10 hb10 lb11 hb11 1 84 253 1 253 rfl rfl rfl rfl rfl rfl rfl rfl rfl rfl rfl rfl m0 m1 (by omega) (by omega) (by omega)) (.cons (vr_var 13 rfl lw hw) (.cons (vr_var 14 rfl lm (by omega)) .nil))))
        · letI : Val := vals o c b2 b3 b4 b5 b6 b7 b8 b9 b10 b11 who (whom - 128)
          exact cls27 w hG hro (VRs.lr (m := [.agg #[.int .u8 o, .int .u8 c, .int .u8 b2, .int .u8 b3, .int .u8 b4, .int .u8 b5, .int .u8 b6, .int .u8 b7, .int .u8 b8, .int .u8 b9, .int .u8 b10, .int .u8 b11, .bool true], .int .u8 who, .int .u8 whom]) (.cons (shape_vr (.bool _) lo ho lc hc lb2 hb2 lb3 hb3 lb4 hb4 lb5 hb5 lb6 hb6 lb7 hb7 lb8 hb8 lb9 hb9 lb10 hb10 lb11 hb11 1 84 253 1 253 rfl rfl rfl rfl rfl rfl rfl rfl rfl rfl rfl rfl m0 m1 (by omega) (by omega) (by omega)) (.cons (vr_var 13 rfl lw hw) (.cons (.sym (by show 128 + clampI 0 127 (whom - 128) = whom; rw [clampI_id (by omega) (by omega)]; omega) (by omega) (by omega)) .nil))))
      · by_cases hq : whom < 128
        · letI : Val := vals o c b2 b3 b4 b5 b6 b7 b8 b9 b10 b11 who (whom)
          exact cls28 w hG hro (VRs.lr (m := [.agg #[.int .u8 o, .int .u8 c, .int .u8 b2, .int .u8 b3, .int .u8 b4, .int .u8 b5, .int .u8 b6, .int .u8 b7, .int .u8 b8, .int .u8 b9, .int .u8 b10, .int .u8 b11, .bool true], .int .u8 who, .int .u8 whom]) (.cons (shape_vr (.bool _) lo ho lc hc lb2 hb2 lb3 hb3 lb4 hb4 lb5 hb5 lb6 hb6 lb7 hb7 lb8 hb8 lb9 hb9 lb10 hb10 lb11 hb11 1 84 253 2 254 rfl rfl rfl rfl rfl rfl rfl rfl rfl rfl rfl rfl m0 m1 (by omega) (by omega) (by omega)) (.cons (vr_var 13 rfl lw hw) (.cons (vr_var 14 rfl lm (by omega)) .nil))))
        · letI : Val := vals o c b2 b3 b4 b5 b6 b7 b8 b9 b10 b11 who (whom - 128)
          exact cls29 w hG hro (VRs.lr (m := [.agg #[.int .u8 o, .int .u8 c, .int .u8 b2, .int .u8 b3, .int .u8 b4, .int .u8 b5, .int .u8 b6, .int .u8 b7, .int .u8 b8, .int .u8 b9, .int .u8 b10, .int .u8 b11, .bool true], .int .u8 who, .int .u8 whom]) (.cons (shape_vr (.bool _) lo ho lc hc lb2 hb2 lb3 hb3 lb4 hb4 lb5 hb5 lb6 hb6 lb7 hb7 lb8 hb8 lb9 hb9 lb10 hb10 lb11 hb11 1 84 253 2 254 rfl rfl rfl rfl rfl rfl rfl rfl rfl rfl rfl rfl m0 m1 (by omega) (by omega) (by omega)) (.cons (vr_var 13 rfl lw hw) (.cons (.sym (by show 128 + clampI 0 127 (whom - 128) = whom; rw [clampI_id (by omega) (by omega)]; omega) (by omega) (by omega)) .nil))))
      · by_cases hq : whom < 128
        · letI : Val := vals o c b2 b3 b4 b5 b6 b7 b8 b9 b10 b11 who (whom)
          exact cls30 w hG hro (VRs.lr (m := [.agg #[.int .u8 o, .int .u8 c, .int .u8 b2, .int .u8 b3, .int .u8 b4, .int .u8 b5, .int .u8 b6, .int .u8 b7, .int .u8 b8, .int .u8 b9, .int .u8 b10, .int .u8 b11, .bool true], .int .u8 who, .int .u8 whom]) (.cons (shape_vr (.bool _) lo ho lc hc lb2 hb2 lb3 hb3 lb4 hb4 lb5 hb5 lb6 hb6 lb7 hb7 lb8 hb8 lb9 hb9 lb10 hb10 lb11 hb11 1 84 253 3 255 rfl rfl rfl rfl rfl rfl rfl rfl rfl rfl rfl rfl m0 m1 (by omega) (by omega) (by omega)) (.cons (vr_var 13 rfl lw hw) (.cons (vr_var 14 rfl lm (by omega)) .nil))))
        · letI : Val := vals o c b2 b3 b4 b5 b6 b7 b8 b9 b10 b11 who (whom - 128)
          exact cls31 w hG hro (VRs.lr (m := [.agg #[.int .u8 o, .int .u8 c, .int .u8 b2, .int .u8 b3, .int .u8 b4, .int .u8 b5, .int .u8 b6, .int .u8 b7, .int .u8 b8, .int .u8 b9, .int .u8 b10, .int .u8 b11, .bool true], .int .u8 who, .int .u8 whom]) (.cons (shape_vr (.bool _) lo ho lc hc lb2 hb2 lb3 hb3 lb4 hb4 lb5 hb5 lb6 hb6 lb7 hb7 lb8 hb8 lb9 hb9 lb10 hb10 lb11 hb11 1 84 253 3 255 rfl rfl rfl rfl rfl rfl rfl rfl rfl rfl rfl rfl m0 m1 (by omega) (by omega) (by omega)) (.cons (vr_var 13 rfl lw hw) (.cons (.sym (by show 128 + clampI 0 127 (whom - 128) = whom; rw [clampI_id (by omega) (by omega)]; omega) (by omega) (by omega)) .nil))))
    · rcases m1 with m1 | m1 | m1 | m1
      · by_cases hq : whom < 128
        · letI : Val := vals o c b2 b3 b4 b5 b6 b7 b8 b9 b10 b11 who (whom)
          exact cls32 w hG hro (VRs.lr (m := [.agg #[.int .u8 o, .int .u8 c, .int .u8 b2, .int .u8 b3, .int .u8 b4, .int .u8 b5, .int .u8 b6, .int .u8 b7, .int .u8 b8, .int .u8 b9, .int .u8 b10, .int .u8 b11, .bool true], .int .u8 who, .int .u8 whom]) (.cons (shape_vr (.bool _) lo ho lc hc lb2 hb2 lb3 hb3 lb4 hb4 lb5 hb5 lb6 hb6 lb7 hb7 lb8 hb8 lb9 hb9 lb10 hb10 lb11 hb11 2 84 254 0 252 rfl rfl rfl rfl rfl rfl rfl rfl rfl rfl rfl rfl m0 m1 (by omega) (by omega) (by omega)) (.cons (vr_var 13 rfl lw hw) (.cons (vr_var 14 rfl lm (by omega)) .nil))))
        · letI : Val := vals o c b2 b3 b4 b5 b6 b7 b8 b9 b10 b11 who (whom - 128)
          exact cls33 w hG hro (VRs.lr (m := [.agg #[.int .u8 o, .int .u8 c, .int .u8 b2, .int .u8 b3, .int .u8 b4, .int .u8 b5, .int .u8 b6, .int .u8 b7, .int .u8 b8, .int .u8 b9, .int .u8 b10, .int .u8 b11, .bool true], .int .u8 who, .int .u8 whom]) (.cons (shape_vr (.bool _) lo ho lc hc lb2 hb2 lb3 hb3 lb4 hb4 lb5 hb5 lb6 hb6 lb7 hb7 lb8 hb8 lb9 hb9 lb10 hb10 lb11 hb11 2 84 254 0 252 rfl rfl rfl rfl rfl rfl rfl rfl rfl rfl rfl rfl m0 m1 (by omega) (by omega) (by omega)) (.cons (vr_var 13 rfl lw hw) (.cons (.sym (by show 128 + clampI 0 127 (whom - 128) = whom; rw [clampI_id (by omega) (by omega)]; omega) (by omega) (by omega)) .nil))))
      · by_cases hq : whom < 128
        · letI : Val := vals o c b2 b3 b4 b5 b6 b7 b8 b9 b10 b11 who (whom)
          exact cls34 w hG hro (VRs.lr (m := [.agg #[.int .u8 o, .int .u8 c, .int .u8 b2, .int .u8 b3, .int .u8 b4, .int .u8 b5, .int .u8 b6, .int .u8 b7, .int .u8 b8, .int .u8 b9, .int .u8 b10, .int .u8 b11, .bool true], .int .u8 who, .int .u8 whom]) (.cons (shape_vr (.bool _) lo ho lc hc lb2 hb2 lb3 hb3 lb4 hb4 lb5 hb5 lb6 hb6 lb7 hb7 lb8 hb8 lb9 hb9 lb10 hb10 lb11 hb11 2 84 254 1 253 rfl rfl rfl rfl rfl rfl rfl rfl rfl rfl rfl rfl m0 m1 (by omega) (by omega) (by omega)) (.cons (vr_var 13 rfl lw hw) (.cons (vr_var 14 rfl lm (by omega)) .nil))))
        · letI : Val := vals o c b2 b3 b4 b5 b6 b7 b8 b9 b10 b11 who (whom - 128)
          exact cls35 w hG hro (VRs.lr (m := [.agg #[.int .u8 o, .int .u8 c, .int .u8 b2, .int .u8 b3, .int .u8 b4, .int .u8 b5, .int .u8 b6, .int .u8 b7, .int .u8 b8, .int .u8 b9, .int .u8 b10, .int .u8 b11, .bool true], .int .u8 who, .int .u8 whom]) (.cons (shape_vr (.bool _) lo ho lc hc lb2 hb2 lb3 hb3 lb4 hb4 lb5 hb5 lb6 hb6 lb7 hb7 lb8 hb8 lb9 hb9 lb10 hb10 lb11 hb11 2 84 254 1 253 rfl rfl rfl rfl rfl rfl rfl rfl rfl rfl rfl rfl m0 m1 (by omega) (by omega) (by omega)) (.cons (vr_var 13 rfl lw hw) (.cons (.sym (by show 128 + clampI 0 127 (whom - 128) = whom; rw [clampI_id (by omega) (by omega)]; omega) (by omega) (by omega)) .nil))))
      · by_cases hq : whom < 128
        · letI : Val := vals o c b2 b3 b4 b5 b6 b7 b8 b9 b10 b11 who (whom)
          exact cls36 w hG hro (VRs.lr (m := [.agg #[.int .u8 o, .int .u8 c, .int .u8 b2, .int .u8 b3, .int .u8 b4, .int .u8 b5, .int .u8 b6, .int .u8 b7, .int .u8 b8, .int .u8 b9, .int .u8 b10, .int .u8 b11, .bool true], .int .u8 who, .int .u8 whom]) (.cons (shape_vr (.bool _) lo ho lc hc lb2 hb2 lb3 hb3 lb4 hb4 lb5 hb5 lb6 hb6 lb7 hb7 lb8 hb8 lb9 hb9 lb10 hb10 lb11 hb11 2 84 254 2 254 rfl rfl rfl rfl rfl rfl rfl rfl rfl rfl rfl rfl m0 m1 (by omega) (by omega) (by omega)) (.cons (vr_var 13 rfl lw hw) (.cons (vr_var 14 rfl lm (by omega)) .nil))))
        · letI : Val := vals o c b2 b3 b4 b5 b6 b7 b8 b9 b10 b11 who (whom - 128)
          exact cls37 w hG hro (VRs.lr (m := [.agg #[.int .u8 o, .int .u8 c, .int .u8 b2, .int .u8 b3, .int .u8 b4, .int .u8 b5, .int .u8 b6, .int .u8 b7, .int .u8 b8, .int .u8 b9, .int .u8 b10, .int .u8 b11, .bool true], .int .u8 who, .int .u8 whom]) (.cons (shape_vr (.bool _) lo ho lc hc lb2 hb2 lb3 hb3 lb4 hb4 lb5 hb5 lb6 hb6 lb7 hb7 lb8 hb8 lb9 hb9 lb10 hb10 lb11 hb11 2 84 254 2 254 rfl rfl rfl rfl rfl rfl rfl rfl rfl rfl rfl rfl m0 m1 (by omega) (by omega) (by omega)) (.cons (vr_var 13 rfl lw hw) (.cons (.sym (by show 128 + clampI 0 127 (whom - 128) = whom; rw [clampI_id (by omega) (by omega)]; omega) (by omega) (by omega)) .nil))))
      · by_cases hq : whom < 128
        · letI : Val := vals o c b2 b3 b4 b5 b6 b7 b8 b9 b10 b11 who (whom)
          exact cls38 w hG hro (VRs.lr (m := [.agg #[.int .u8 o, .int .u8 c, .int .u8 b2, .int .u8 b3, .int .u8 b4, .int .u8 b5, .int .u8 b6, .int .u8 b7, .int .u8 b8, .int .u8 b9, .int .u8 b10, .int .u8 b11, .bool true], .int .u8 who, .int .u8 whom]) (.cons (shape_vr (.bool _) lo ho lc hc lb2 hb2 lb3 hb3 lb4 hb4 lb5 hb5 lb6 hb6 lb7 hb7 lb8 hb8 lb9 hb9 lb10 hb10 lb11 hb11 2 84 254 3 255 rfl rfl rfl rfl rfl rfl rfl rfl rfl rfl rfl rfl m0 m1 (by omega) (by omega) (by omega)) (.cons (vr_var 13 rfl lw hw) (.cons (vr_var 14 rfl lm (by omega)) .nil))))
        · letI : Val := vals o c b2 b3 b4 b5 b6 b7 b8 b9 b10 b11 who (whom - 128)
          exact cls39 w hG hro (VRs.lr (m := [.agg #[.int .u8 o, .int .u8 c, .int .u8 b2, .int .u8 b3, .int .u8 b4, .int .u8 b5, .int .u8 b6, .int .u8 b7, .int .u8 b8, .int .u8 b9, .int .u8 b10, .int .u8 b11, .bool true], .int .u8 who, .int .u8 whom]) (.cons (shape_vr (.bool _) lo ho lc hc lb2 hb2 lb3 hb3 lb4 hb4 lb5 hb5 lb6 hb6 lb7 hb7 lb8 hb8 lb9 hb9 lb10 hb10 lb11 hb11 2 84 254 3 255 rfl rfl rfl rfl rfl rfl rfl rfl rfl rfl rfl rfl m0 m1 (by omega) (by omega) (by omega)) (.cons (vr_var 13 rfl lw hw) (.cons (.sym (by show 128 + clampI 0 127 (whom - 128) = whom; rw [clampI_id (by omega) (by omega)]; omega) (by omega) (by omega)) .nil))))
end
end Go.Proofs.YtfipecdimnjckaaGreat
