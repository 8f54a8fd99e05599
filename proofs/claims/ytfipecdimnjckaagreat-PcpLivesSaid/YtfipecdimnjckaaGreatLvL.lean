/-
  The law, for all inputs: its classes are all that there is.
  Conditions: the inputs' kinds.
-/
import Derived.Test.YtfipecdimnjckaaGreatLvE00
import Derived.Test.YtfipecdimnjckaaGreatLvE01
import Derived.Test.YtfipecdimnjckaaGreatLvE02
import Derived.Test.YtfipecdimnjckaaGreatLvE03
import Derived.Test.YtfipecdimnjckaaGreatLvE04
import Derived.Test.YtfipecdimnjckaaGreatLvE05
import Derived.Test.YtfipecdimnjckaaGreatLvE06
import Derived.Test.YtfipecdimnjckaaGreatLvE07
import Derived.Test.YtfipecdimnjckaaGreatLvE08
import Derived.Test.YtfipecdimnjckaaGreatLvR00
import Derived.Test.YtfipecdimnjckaaGreatLvR01
import Derived.Test.YtfipecdimnjckaaGreatLvR02
import Derived.Test.YtfipecdimnjckaaGreatLvR03
import Derived.Test.YtfipecdimnjckaaGreatLvC
open Go Go.Ab Go.ChangeShapes Go.WideShapes Go.ChangeAt Go.RowKit
namespace Go.Proofs.YtfipecdimnjckaaGreat
noncomputable section
theorem gd0 : AllGoodW Tryz.prog kb [e0] := .one .nil (fuel := 1000) (n := 60) (by rw [g0]; exact ok0)
theorem gd1 : AllGoodW Tryz.prog kb [e1] := .one (gd0.app .nil) (fuel := 1000) (n := 60) (by rw [g0]; exact ok1)
theorem gd2 : AllGoodW Tryz.prog kb [e2] := .one .nil (fuel := 1000) (n := 60) (by rw [g0]; exact ok2)
theorem gd3 : AllGoodW Tryz.prog kb [e3] := .one (gd2.app (gd1.app (gdOpen.app .nil))) (fuel := 1000) (n := 60) (by rw [g0]; exact ok3)
theorem gd4 : AllGoodW Tryz.prog kb [e4] := .one .nil (fuel := 1000) (n := 60) (by rw [g0]; exact ok4)
theorem gd5 : AllGoodW Tryz.prog kb [e5] := .one .nil (fuel := 1000) (n := 60) (by rw [g0]; exact ok5)
theorem gd6 : AllGoodW Tryz.prog kb [e6] := .one (gd5.app .nil) (fuel := 1000) (n := 60) (by rw [g0]; exact ok6)
theorem gd7 : AllGoodW Tryz.prog kb [e7] := .one (gd2.app .nil) (fuel := 1000) (n := 60) (by rw [g0]; exact ok7)
theorem gd8 : AllGoodW Tryz.prog kb [e8] := .one (gd7.app (gd2.app (gd6.app .nil))) (fuel := 1000) (n := 60) (by rw [g0]; exact ok8)
theorem gd9 : AllGoodW Tryz.prog kb [e9] := .one (gd8.app (gd2.app .nil)) (fuel := 1000) (n := 60) (by rw [g0]; exact ok9)
theorem gd10 : AllGoodW Tryz.prog kb [e10] := .one (gd9.app .nil) (fuel := 1000) (n := 60) (by rw [g0]; exact ok10)
theorem gd11 : AllGoodW Tryz.prog kb [e11] := .one (gd10.app (gd4.app (gd2.app .nil))) (fuel := 1000) (n := 60) (by rw [g0]; exact ok11)
theorem gd2000000 : AllGoodW Tryz.prog kb [e2000000] := .one (gd11.app (gd3.app .nil)) (fuel := 1000) (n := 60) (by rw [g0]; exact ok2000000)
theorem gd13 : AllGoodW Tryz.prog kb [e13] := .one .nil (fuel := 1000) (n := 60) (by rw [g0]; exact ok13)
theorem gd14 : AllGoodW Tryz.prog kb [e14] := .one (gd13.app (gd1.app (gdOpen.app .nil))) (fuel := 1000) (n := 60) (by rw [g0]; exact ok14)
theorem gd15 : AllGoodW Tryz.prog kb [e15] := .one .nil (fuel := 1000) (n := 60) (by rw [g0]; exact ok15)
theorem gd16 : AllGoodW Tryz.prog kb [e16] := .one (gd13.app .nil) (fuel := 1000) (n := 60) (by rw [g0]; exact ok16)
theorem gd17 : AllGoodW Tryz.prog kb [e17] := .one (gd16.app (gd13.app (gd6.app .nil))) (fuel := 1000) (n := 60) (by rw [g0]; exact ok17)
theorem gd18 : AllGoodW Tryz.prog kb [e18] := .one (gd17.app (gd13.app .nil)) (fuel := 1000) (n := 60) (by rw [g0]; exact ok18)
theorem gd19 : AllGoodW Tryz.prog kb [e19] := .one (gd18.app .nil) (fuel := 1000) (n := 60) (by rw [g0]; exact ok19)
theorem gd20 : AllGoodW Tryz.prog kb [e20] := .one (gd13.app .nil) (fuel := 1000) (n := 60) (by rw [g0]; exact ok20)
theorem gd21 : AllGoodW Tryz.prog kb [e21] := .one .nil (fuel := 1000) (n := 60) (by rw [g0]; exact ok21)
theorem gd22 : AllGoodW Tryz.prog kb [e22] := .one (gd21.app .nil) (fuel := 1000) (n := 60) (by rw [g0]; exact ok22)
theorem gd23 : AllGoodW Tryz.prog kb [e23] := .one (gd22.app .nil) (fuel := 1000) (n := 60) (by rw [g0]; exact ok23)
theorem gd24 : AllGoodW Tryz.prog kb [e24] := .one (gd23.app (gd13.app .nil)) (fuel := 1000) (n := 60) (by rw [g0]; exact ok24)
theorem gd25 : AllGoodW Tryz.prog kb [e25] := .one (gd13.app .nil) (fuel := 1000) (n := 60) (by rw [g0]; exact ok25)
theorem gd26 : AllGoodW Tryz.prog kb [e26] := .one (gd13.app .nil) (fuel := 1000) (n := 60) (by rw [g0]; exact ok26)
theorem gd27 : AllGoodW Tryz.prog kb [e27] := .one .nil (fuel := 1000) (n := 60) (by rw [g0]; exact ok27)
theorem gd28 : AllGoodW Tryz.prog kb [e28] := .one (gd13.app .nil) (fuel := 1000) (n := 60) (by rw [g0]; exact ok28)
theorem gd29 : AllGoodW Tryz.prog kb [e29] := .one (gd28.app (gd13.app (gd6.app .nil))) (fuel := 1000) (n := 60) (by rw [g0]; exact ok29)
theorem gd30 : AllGoodW Tryz.prog kb [e30] := .one (gd29.app (gd13.app .nil)) (fuel := 1000) (n := 60) (by rw [g0]; exact ok30)
theorem gd31 : AllGoodW Tryz.prog kb [e31] := .one (gd30.app .nil) (fuel := 1000) (n := 60) (by rw [g0]; exact ok31)
theorem gd32 : AllGoodW Tryz.prog kb [e32] := .one (gd23.app (gd13.app .nil)) (fuel := 1000) (n := 60) (by rw [g0]; exact ok32)
theorem gd33 : AllGoodW Tryz.prog kb [e33] := .one (gd13.app .nil) (fuel := 1000) (n := 60) (by rw [g0]; exact ok33)
theorem gd34 : AllGoodW Tryz.prog kb [e34] := .one .nil (fuel := 1000) (n := 60) (by rw [g0]; exact ok34)
theorem gd35 : AllGoodW Tryz.prog kb [e35] := .one (gd13.app .nil) (fuel := 1000) (n := 60) (by rw [g0]; exact ok35)
theorem gd36 : AllGoodW Tryz.prog kb [e36] := .one (gd35.app (gd13.app (gd6.app .nil))) (fuel := 1000) (n := 60) (by rw [g0]; exact ok36)
theorem gd37 : AllGoodW Tryz.prog kb [e37] := .one (gd36.app (gd13.app .nil)) (fuel := 1000) (n := 60) (by rw [g0]; exact ok37)
theorem gd38 : AllGoodW Tryz.prog kb [e38] := .one (gd37.app .nil) (fuel := 1000) (n := 60) (by rw [g0]; exact ok38)
theorem gd39 : AllGoodW Tryz.prog kb [e39] := .one (gd13.app .nil) (fuel := 1000) (n := 60) (by rw [g0]; exact ok39)
theorem gd40 : AllGoodW Tryz.prog kb [e40] := .one (gd23.app (gd13.app .nil)) (fuel := 1000) (n := 60) (by rw [g0]; exact ok40)
theorem gd41 : AllGoodW Tryz.prog kb [e41] := .one (gd13.app .nil) (fuel := 1000) (n := 60) (by rw [g0]; exact ok41)
theorem gd42 : AllGoodW Tryz.prog kb [e42] := .one .nil (fuel := 1000) (n := 60) (by rw [g0]; exact ok42)
theorem gd43 : AllGoodW Tryz.prog kb [e43] := .one (gd42.app (gd1.app (gdOpen.app .nil))) (fuel := 1000) (n := 60) (by rw [g0]; exact ok43)
theorem gd44 : AllGoodW Tryz.prog kb [e44] := .one (gd42.app .nil) (fuel := 1000) (n := 60) (by rw [g0]; exact ok44)
theorem gd45 : AllGoodW Tryz.prog kb [e45] := .one (gd44.app (gd42.app (gd6.app .nil))) (fuel := 1000) (n := 60) (by rw [g0]; exact ok45)
theorem gd46 : AllGoodW Tryz.prog kb [e46] := .one (gd45.app (gd42.app .nil)) (fuel := 1000) (n := 60) (by rw [g0]; exact ok46)
theorem gd47 : AllGoodW Tryz.prog kb [e47] := .one (gd46.app .nil) (fuel := 1000) (n := 60) (by rw [g0]; exact ok47)
theorem gd48 : AllGoodW Tryz.prog kb [e48] := .one (gd42.app .nil) (fuel := 1000) (n := 60) (by rw [g0]; exact ok48)
theorem gd49 : AllGoodW Tryz.prog kb [e49] := .one (gd22.app .nil) (fuel := 1000) (n := 60) (by rw [g0]; exact ok49)
theorem gd50 : AllGoodW Tryz.prog kb [e50] := .one (gd49.app (gd42.app .nil)) (fuel := 1000) (n := 60) (by rw [g0]; exact ok50)
theorem gd51 : AllGoodW Tryz.prog kb [e51] := .one (gd42.app .nil) (fuel := 1000) (n := 60) (by rw [g0]; exact ok51)
theorem gd52 : AllGoodW Tryz.prog kb [e52] := .one (gd42.app .nil) (fuel := 1000) (n := 60) (by rw [g0]; exact ok52)
theorem gd53 : AllGoodW Tryz.prog kb [e53] := .one (gd42.app .nil) (fuel := 1000) (n := 60) (by rw [g0]; exact ok53)
theorem gd54 : AllGoodW Tryz.prog kb [e54] := .one (gd53.app (gd42.app (gd6.app .nil))) (fuel := 1000) (n := 60) (by rw [g0]; exact ok54)
theorem gd55 : AllGoodW Tryz.prog kb [e55] := .one (gd54.app (gd42.app .nil)) (fuel := 1000) (n := 60) (by rw [g0]; exact ok55)
theorem gd56 : AllGoodW Tryz.prog kb [e56] := .one (gd55.app .nil) (fuel := 1000) (n := 60) (by rw [g0]; exact ok56)
theorem gd57 : AllGoodW Tryz.prog kb [e57] := .one (gd49.app (gd42.app .nil)) (fuel := 1000) (n := 60) (by rw [g0]; exact ok57)
theorem gd58 : AllGoodW Tryz.prog kb [e58] := .one (gd42.app .nil) (fuel := 1000) (n := 60) (by rw [g0]; exact ok58)
theorem gd59 : AllGoodW Tryz.prog kb [e59] := .one (gd42.app .nil) (fuel := 1000) (n := 60) (by rw [g0]; exact ok59)
theorem gd60 : AllGoodW Tryz.prog kb [e60] := .one (gd59.app (gd42.app (gd6.app .nil))) (fuel := 1000) (n := 60) (by rw [g0]; exact ok60)
theorem gd61 : AllGoodW Tryz.prog kb [e61] := .one (gd60.app (gd42.app .nil)) (fuel := 1000) (n := 60) (by rw [g0]; exact ok61)
theorem gd62 : AllGoodW Tryz.prog kb [e62] := .one (gd61.app .nil) (fuel := 1000) (n := 60) (by rw [g0]; exact ok62)
theorem gd63 : AllGoodW Tryz.prog kb [e63] := .one (gd42.app .nil) (fuel := 1000) (n := 60) (by rw [g0]; exact ok63)
theorem gd64 : AllGoodW Tryz.prog kb [e64] := .one (gd49.app (gd42.app .nil)) (fuel := 1000) (n := 60) (by rw [g0]; exact ok64)
theorem gd65 : AllGoodW Tryz.prog kb [e65] := .one (gd42.app .nil) (fuel := 1000) (n := 60) (by rw [g0]; exact ok65)
theorem gd66 : AllGoodW Tryz.prog kb [e66] := .one .nil (fuel := 1000) (n := 60) (by rw [g0]; exact ok66)
theorem gd67 : AllGoodW Tryz.prog kb [e67] := .one (gd66.app (gd1.app (gdOpen.app .nil))) (fuel := 1000) (n := 60) (by rw [g0]; exact ok67)
theorem gd68 : AllGoodW Tryz.prog kb [e68] := .one (gd66.app .nil) (fuel := 1000) (n := 60) (by rw [g0]; exact ok68)
theorem gd69 : AllGoodW Tryz.prog kb [e69] := .one (gd68.app (gd66.app (gd6.app .nil))) (fuel := 1000) (n := 60) (by rw [g0]; exact ok69)
theorem gd70 : AllGoodW Tryz.prog kb [e70] := .one (gd69.app (gd66.app .nil)) (fuel := 1000) (n := 60) (by rw [g0]; exact ok70)
theorem gd71 : AllGoodW Tryz.prog kb [e71] := .one (gd70.app .nil) (fuel := 1000) (n := 60) (by rw [g0]; exact ok71)
theorem gd72 : AllGoodW Tryz.prog kb [e72] := .one (gd66.app .nil) (fuel := 1000) (n := 60) (by rw [g0]; exact ok72)
theorem gd73 : AllGoodW Tryz.prog kb [e73] := .one (gd22.app .nil) (fuel := 1000) (n := 60) (by rw [g0]; exact ok73)
theorem gd74 : AllGoodW Tryz.prog kb [e74] := .one (gd73.app (gd66.app .nil)) (fuel := 1000) (n := 60) (by rw [g0]; exact ok74)
theorem gd75 : AllGoodW Tryz.prog kb [e75] := .one (gd66.app .nil) (fuel := 1000) (n := 60) (by rw [g0]; exact ok75)
theorem gd76 : AllGoodW Tryz.prog kb [e76] := .one (gd66.app .nil) (fuel := 1000) (n := 60) (by rw [g0]; exact ok76)
theorem gd77 : AllGoodW Tryz.prog kb [e77] := .one (gd66.app .nil) (fuel := 1000) (n := 60) (by rw [g0]; exact ok77)
theorem gd78 : AllGoodW Tryz.prog kb [e78] := .one (gd77.app (gd66.app (gd6.app .nil))) (fuel := 1000) (n := 60) (by rw [g0]; exact ok78)
theorem gd79 : AllGoodW Tryz.prog kb [e79] := .one (gd78.app (gd66.app .nil)) (fuel := 1000) (n := 60) (by rw [g0]; exact ok79)
theorem gd80 : AllGoodW Tryz.prog kb [e80] := .one (gd79.app .nil) (fuel := 1000) (n := 60) (by rw [g0]; exact ok80)
theorem gd81 : AllGoodW Tryz.prog kb [e81] := .one (gd73.app (gd66.app .nil)) (fuel := 1000) (n := 60) (by rw [g0]; exact ok81)
theorem gd82 : AllGoodW Tryz.prog kb [e82] := .one (gd66.app .nil) (fuel := 1000) (n := 60) (by rw [g0]; exact ok82)
theorem gd83 : AllGoodW Tryz.prog kb [e83] := .one (gd66.app .nil) (fuel := 1000) (n := 60) (by rw [g0]; exact ok83)
theorem gd84 : AllGoodW Tryz.prog kb [e84] := .one (gd83.app (gd66.app (gd6.app .nil))) (fuel := 1000) (n := 60) (by rw [g0]; exact ok84)
theorem gd85 : AllGoodW Tryz.prog kb [e85] := .one (gd84.app (gd66.app .nil)) (fuel := 1000) (n := 60) (by rw [g0]; exact ok85)
theorem gd86 : AllGoodW Tryz.prog kb [e86] := .one (gd85.app .nil) (fuel := 1000) (n := 60) (by rw [g0]; exact ok86)
theorem gd87 : AllGoodW Tryz.prog kb [e87] := .one (gd66.app .nil) (fuel := 1000) (n := 60) (by rw [g0]; exact ok87)
theorem gd88 : AllGoodW Tryz.prog kb [e88] := .one (gd73.app (gd66.app .nil)) (fuel := 1000) (n := 60) (by rw [g0]; exact ok88)
theorem gd89 : AllGoodW Tryz.prog kb [e89] := .one (gd66.app .nil) (fuel := 1000) (n := 60) (by rw [g0]; exact ok89)
theorem gd90 : AllGoodW Tryz.prog kb [e90] := .one .nil (fuel := 1000) (n := 60) (by rw [g0]; exact ok90)
theorem gd91 : AllGoodW Tryz.prog kb [e91] := .one (gd90.app (gd1.app (gdOpen.app .nil))) (fuel := 1000) (n := 60) (by rw [g0]; exact ok91)
theorem gd92 : AllGoodW Tryz.prog kb [e92] := .one (gd90.app .nil) (fuel := 1000) (n := 60) (by rw [g0]; exact ok92)
theorem gd93 : AllGoodW Tryz.prog kb [e93] := .one (gd92.app (gd90.app (gd6.app .nil))) (fuel := 1000) (n := 60) (by rw [g0]; exact ok93)
theorem gd94 : AllGoodW Tryz.prog kb [e94] := .one (gd93.app (gd90.app .nil)) (fuel := 1000) (n := 60) (by rw [g0]; exact ok94)
theorem gd95 : AllGoodW Tryz.prog kb [e95] := .one (gd94.app .nil) (fuel := 1000) (n := 60) (by rw [g0]; exact ok95)
theorem gd96 : AllGoodW Tryz.prog kb [e96] := .one (gd90.app .nil) (fuel := 1000) (n := 60) (by rw [g0]; exact ok96)
theorem gd97 : AllGoodW Tryz.prog kb [e97] := .one (gd22.app .nil) (fuel := 1000) (n := 60) (by rw [g0]; exact ok97)
theorem gd98 : AllGoodW Tryz.prog kb [e98] := .one (gd97.app (gd90.app .nil)) (fuel := 1000) (n := 60) (by rw [g0]; exact ok98)
theorem gd99 : AllGoodW Tryz.prog kb [e99] := .one (gd90.app .nil) (fuel := 1000) (n := 60) (by rw [g0]; exact ok99)
theorem gd100 : AllGoodW Tryz.prog kb [e100] := .one (gd90.app .nil) (fuel := 1000) (n := 60) (by rw [g0]; exact ok100)
theorem gd101 : AllGoodW Tryz.prog kb [e101] := .one (gd90.app .nil) (fuel := 1000) (n := 60) (by rw [g0]; exact ok101)
theorem gd102 : AllGoodW Tryz.prog kb [e102] := .one (gd101.app (gd90.app (gd6.app .nil))) (fuel := 1000) (n := 60) (by rw [g0]; exact ok102)
theorem gd103 : AllGoodW Tryz.prog kb [e103] := .one (gd102.app (gd90.app .nil)) (fuel := 1000) (n := 60) (by rw [g0]; exact ok103)
theorem gd104 : AllGoodW Tryz.prog kb [e104] := .one (gd103.app .nil) (fuel := 1000) (n := 60) (by rw [g0]; exact ok104)
theorem gd105 : AllGoodW Tryz.prog kb [e105] := .one (gd97.app (gd90.app .nil)) (fuel := 1000) (n := 60) (by rw [g0]; exact ok105)
theorem gd106 : AllGoodW Tryz.prog kb [e106] := .one (gd90.app .nil) (fuel := 1000) (n := 60) (by rw [g0]; exact ok106)
theorem gd107 : AllGoodW Tryz.prog kb [e107] := .one (gd90.app .nil) (fuel := 1000) (n := 60) (by rw [g0]; exact ok107)
theorem gd108 : AllGoodW Tryz.prog kb [e108] := .one (gd107.app (gd90.app (gd6.app .nil))) (fuel := 1000) (n := 60) (by rw [g0]; exact ok108)
theorem gd109 : AllGoodW Tryz.prog kb [e109] := .one (gd108.app (gd90.app .nil)) (fuel := 1000) (n := 60) (by rw [g0]; exact ok109)
theorem gd110 : AllGoodW Tryz.prog kb [e110] := .one (gd109.app .nil) (fuel := 1000) (n := 60) (by rw [g0]; exact ok110)
theorem gd111 : AllGoodW Tryz.prog kb [e111] := .one (gd90.app .nil) (fuel := 1000) (n := 60) (by rw [g0]; exact ok111)
theorem gd112 : AllGoodW Tryz.prog kb [e112] := .one (gd97.app (gd90.app .nil)) (fuel := 1000) (n := 60) (by rw [g0]; exact ok112)
theorem gd113 : AllGoodW Tryz.prog kb [e113] := .one (gd90.app .nil) (fuel := 1000) (n := 60) (by rw [g0]; exact ok113)
theorem gd114 : AllGoodW Tryz.prog kb [e114] := .one .nil (fuel := 1000) (n := 60) (by rw [g0]; exact ok114)
theorem gd115 : AllGoodW Tryz.prog kb [e115] := .one (gd114.app (gd1.app (gdOpen.app .nil))) (fuel := 1000) (n := 60) (by rw [g0]; exact ok115)
theorem gd116 : AllGoodW Tryz.prog kb [e116] := .one (gd114.app .nil) (fuel := 1000) (n := 60) (by rw [g0]; exact ok116)
theorem gd117 : AllGoodW Tryz.prog kb [e117] := .one (gd116.app (gd114.app (gd6.app .nil))) (fuel := 1000) (n := 60) (by rw [g0]; exact ok117)
theorem gd118 : AllGoodW Tryz.prog kb [e118] := .one (gd117.app (gd114.app .nil)) (fuel := 1000) (n := 60) (by rw [g0]; exact ok118)
theorem gd119 : AllGoodW Tryz.prog kb [e119] := .one (gd118.app .nil) (fuel := 1000) (n := 60) (by rw [g0]; exact ok119)
theorem gd120 : AllGoodW Tryz.prog kb [e120] := .one (gd119.app (gd15.app (gd114.app .nil))) (fuel := 1000) (n := 60) (by rw [g0]; exact ok120)
theorem gd121 : AllGoodW Tryz.prog kb [e121] := .one (gd114.app .nil) (fuel := 1000) (n := 60) (by rw [g0]; exact ok121)
theorem gd122 : AllGoodW Tryz.prog kb [e122] := .one (gd22.app .nil) (fuel := 1000) (n := 60) (by rw [g0]; exact ok122)
theorem gd123 : AllGoodW Tryz.prog kb [e123] := .one (gd122.app (gd114.app .nil)) (fuel := 1000) (n := 60) (by rw [g0]; exact ok123)
theorem gd124 : AllGoodW Tryz.prog kb [e124] := .one (gd114.app .nil) (fuel := 1000) (n := 60) (by rw [g0]; exact ok124)
theorem gd125 : AllGoodW Tryz.prog kb [e125] := .one (gd114.app .nil) (fuel := 1000) (n := 60) (by rw [g0]; exact ok125)
theorem gd126 : AllGoodW Tryz.prog kb [e126] := .one (gd114.app .nil) (fuel := 1000) (n := 60) (by rw [g0]; exact ok126)
theorem gd127 : AllGoodW Tryz.prog kb [e127] := .one (gd126.app (gd114.app (gd6.app .nil))) (fuel := 1000) (n := 60) (by rw [g0]; exact ok127)
theorem gd128 : AllGoodW Tryz.prog kb [e128] := .one (gd127.app (gd114.app .nil)) (fuel := 1000) (n := 60) (by rw [g0]; exact ok128)
theorem gd129 : AllGoodW Tryz.prog kb [e129] := .one (gd128.app .nil) (fuel := 1000) (n := 60) (by rw [g0]; exact ok129)
theorem gd130 : AllGoodW Tryz.prog kb [e130] := .one (gd129.app (gd27.app (gd114.app .nil))) (fuel := 1000) (n := 60) (by rw [g0]; exact ok130)
theorem gd131 : AllGoodW Tryz.prog kb [e131] := .one (gd122.app (gd114.app .nil)) (fuel := 1000) (n := 60) (by rw [g0]; exact ok131)
theorem gd132 : AllGoodW Tryz.prog kb [e132] := .one (gd114.app .nil) (fuel := 1000) (n := 60) (by rw [g0]; exact ok132)
theorem gd133 : AllGoodW Tryz.prog kb [e133] := .one (gd114.app .nil) (fuel := 1000) (n := 60) (by rw [g0]; exact ok133)
theorem gd134 : AllGoodW Tryz.prog kb [e134] := .one (gd133.app (gd114.app (gd6.app .nil))) (fuel := 1000) (n := 60) (by rw [g0]; exact ok134)
theorem gd135 : AllGoodW Tryz.prog kb [e135] := .one (gd134.app (gd114.app .nil)) (fuel := 1000) (n := 60) (by rw [g0]; exact ok135)
theorem gd136 : AllGoodW Tryz.prog kb [e136] := .one (gd135.app .nil) (fuel := 1000) (n := 60) (by rw [g0]; exact ok136)
theorem gd137 : AllGoodW Tryz.prog kb [e137] := .one (gd136.app (gd34.app (gd114.app .nil))) (fuel := 1000) (n := 60) (by rw [g0]; exact ok137)
theorem gd138 : AllGoodW Tryz.prog kb [e138] := .one (gd114.app .nil) (fuel := 1000) (n := 60) (by rw [g0]; exact ok138)
theorem gd139 : AllGoodW Tryz.prog kb [e139] := .one (gd122.app (gd114.app .nil)) (fuel := 1000) (n := 60) (by rw [g0]; exact ok139)
theorem gd140 : AllGoodW Tryz.prog kb [e140] := .one (gd114.app .nil) (fuel := 1000) (n := 60) (by rw [g0]; exact ok140)
theorem gd141 : AllGoodW Tryz.prog kb [e141] := .one .nil (fuel := 1000) (n := 60) (by rw [g0]; exact ok141)
theorem gd142 : AllGoodW Tryz.prog kb [e142] := .one (gd141.app (gd1.app (gdOpen.app .nil))) (fuel := 1000) (n := 60) (by rw [g0]; exact ok142)
theorem gd143 : AllGoodW Tryz.prog kb [e143] := .one (gd141.app .nil) (fuel := 1000) (n := 60) (by rw [g0]; exact ok143)
theorem gd144 : AllGoodW Tryz.prog kb [e144] := .one (gd143.app (gd141.app (gd6.app .nil))) (fuel := 1000) (n := 60) (by rw [g0]; exact ok144)
theorem gd145 : AllGoodW Tryz.prog kb [e145] := .one (gd144.app (gd141.app .nil)) (fuel := 1000) (n := 60) (by rw [g0]; exact ok145)
theorem gd146 : AllGoodW Tryz.prog kb [e146] := .one (gd145.app .nil) (fuel := 1000) (n := 60) (by rw [g0]; exact ok146)
theorem gd147 : AllGoodW Tryz.prog kb [e147] := .one (gd146.app (gd15.app (gd141.app .nil))) (fuel := 1000) (n := 60) (by rw [g0]; exact ok147)
theorem gd148 : AllGoodW Tryz.prog kb [e148] := .one (gd141.app .nil) (fuel := 1000) (n := 60) (by rw [g0]; exact ok148)
theorem gd149 : AllGoodW Tryz.prog kb [e149] := .one (gd22.app .nil) (fuel := 1000) (n := 60) (by rw [g0]; exact ok149)
theorem gd150 : AllGoodW Tryz.prog kb [e150] := .one (gd149.app (gd141.app .nil)) (fuel := 1000) (n := 60) (by rw [g0]; exact ok150)
theorem gd151 : AllGoodW Tryz.prog kb [e151] := .one (gd141.app .nil) (fuel := 1000) (n := 60) (by rw [g0]; exact ok151)
theorem gd152 : AllGoodW Tryz.prog kb [e152] := .one (gd141.app .nil) (fuel := 1000) (n := 60) (by rw [g0]; exact ok152)
theorem gd153 : AllGoodW Tryz.prog kb [e153] := .one (gd141.app .nil) (fuel := 1000) (n := 60) (by rw [g0]; exact ok153)
theorem gd154 : AllGoodW Tryz.prog kb [e154] := .one (gd153.app (gd141.app (gd6.app .nil))) (fuel := 1000) (n := 60) (by rw [g0]; exact ok154)
theorem gd155 : AllGoodW Tryz.prog kb [e155] := .one (gd154.app (gd141.app .nil)) (fuel := 1000) (n := 60) (by rw [g0]; exact ok155)
theorem gd156 : AllGoodW Tryz.prog kb [e156] := .one (gd155.app .nil) (fuel := 1000) (n := 60) (by rw [g0]; exact ok156)
theorem gd157 : AllGoodW Tryz.prog kb [e157] := .one (gd156.app (gd27.app (gd141.app .nil))) (fuel := 1000) (n := 60) (by rw [g0]; exact ok157)
theorem gd158 : AllGoodW Tryz.prog kb [e158] := .one (gd149.app (gd141.app .nil)) (fuel := 1000) (n := 60) (by rw [g0]; exact ok158)
theorem gd159 : AllGoodW Tryz.prog kb [e159] := .one (gd141.app .nil) (fuel := 1000) (n := 60) (by rw [g0]; exact ok159)
theorem gd160 : AllGoodW Tryz.prog kb [e160] := .one (gd141.app .nil) (fuel := 1000) (n := 60) (by rw [g0]; exact ok160)
theorem gd161 : AllGoodW Tryz.prog kb [e161] := .one (gd160.app (gd141.app (gd6.app .nil))) (fuel := 1000) (n := 60) (by rw [g0]; exact ok161)
theorem gd162 : AllGoodW Tryz.prog kb [e162] := .one (gd161.app (gd141.app .nil)) (fuel := 1000) (n := 60) (by rw [g0]; exact ok162)
theorem gd163 : AllGoodW Tryz.prog kb [e163] := .one (gd162.app .nil) (fuel := 1000) (n := 60) (by rw [g0]; exact ok163)
theorem gd164 : AllGoodW Tryz.prog kb [e164] := .one (gd163.app (gd34.app (gd141.app .nil))) (fuel := 1000) (n := 60) (by rw [g0]; exact ok164)
theorem gd165 : AllGoodW Tryz.prog kb [e165] := .one (gd141.app .nil) (fuel := 1000) (n := 60) (by rw [g0]; exact ok165)
theorem gd166 : AllGoodW Tryz.prog kb [e166] := .one (gd149.app (gd141.app .nil)) (fuel := 1000) (n := 60) (by rw [g0]; exact ok166)
theorem gd167 : AllGoodW Tryz.prog kb [e167] := .one (gd141.app .nil) (fuel := 1000) (n := 60) (by rw [g0]; exact ok167)
theorem gd168 : AllGoodW Tryz.prog kb [e168] := .one .nil (fuel := 1000) (n := 60) (by rw [g0]; exact ok168)
theorem gd169 : AllGoodW Tryz.prog kb [e169] := .one (gd168.app (gd1.app (gdOpen.app .nil))) (fuel := 1000) (n := 60) (by rw [g0]; exact ok169)
theorem gd170 : AllGoodW Tryz.prog kb [e170] := .one (gd168.app .nil) (fuel := 1000) (n := 60) (by rw [g0]; exact ok170)
theorem gd171 : AllGoodW Tryz.prog kb [e171] := .one (gd170.app (gd168.app (gd6.app .nil))) (fuel := 1000) (n := 60) (by rw [g0]; exact ok171)
theorem gd172 : AllGoodW Tryz.prog kb [e172] := .one (gd171.app (gd168.app .nil)) (fuel := 1000) (n := 60) (by rw [g0]; exact ok172)
theorem gd173 : AllGoodW Tryz.prog kb [e173] := .one (gd172.app .nil) (fuel := 1000) (n := 60) (by rw [g0]; exact ok173)
theorem gd174 : AllGoodW Tryz.prog kb [e174] := .one (gd173.app (gd15.app (gd168.app .nil))) (fuel := 1000) (n := 60) (by rw [g0]; exact ok174)
theorem gd175 : AllGoodW Tryz.prog kb [e175] := .one (gd168.app .nil) (fuel := 1000) (n := 60) (by rw [g0]; exact ok175)
theorem gd176 : AllGoodW Tryz.prog kb [e176] := .one (gd22.app .nil) (fuel := 1000) (n := 60) (by rw [g0]; exact ok176)
theorem gd177 : AllGoodW Tryz.prog kb [e177] := .one (gd176.app (gd168.app .nil)) (fuel := 1000) (n := 60) (by rw [g0]; exact ok177)
theorem gd178 : AllGoodW Tryz.prog kb [e178] := .one (gd168.app .nil) (fuel := 1000) (n := 60) (by rw [g0]; exact ok178)
theorem gd179 : AllGoodW Tryz.prog kb [e179] := .one (gd168.app .nil) (fuel := 1000) (n := 60) (by rw [g0]; exact ok179)
theorem gd180 : AllGoodW Tryz.prog kb [e180] := .one (gd168.app .nil) (fuel := 1000) (n := 60) (by rw [g0]; exact ok180)
theorem gd181 : AllGoodW Tryz.prog kb [e181] := .one (gd180.app (gd168.app (gd6.app .nil))) (fuel := 1000) (n := 60) (by rw [g0]; exact ok181)
theorem gd182 : AllGoodW Tryz.prog kb [e182] := .one (gd181.app (gd168.app .nil)) (fuel := 1000) (n := 60) (by rw [g0]; exact ok182)
theorem gd183 : AllGoodW Tryz.prog kb [e183] := .one (gd182.app .nil) (fuel := 1000) (n := 60) (by rw [g0]; exact ok183)
theorem gd184 : AllGoodW Tryz.prog kb [e184] := .one (gd183.app (gd27.app (gd168.app .nil))) (fuel := 1000) (n := 60) (by rw [g0]; exact ok184)
theorem gd185 : AllGoodW Tryz.prog kb [e185] := .one (gd176.app (gd168.app .nil)) (fuel := 1000) (n := 60) (by rw [g0]; exact ok185)
theorem gd186 : AllGoodW Tryz.prog kb [e186] := .one (gd168.app .nil) (fuel := 1000) (n := 60) (by rw [g0]; exact ok186)
theorem gd187 : AllGoodW Tryz.prog kb [e187] := .one (gd168.app .nil) (fuel := 1000) (n := 60) (by rw [g0]; exact ok187)
theorem gd188 : AllGoodW Tryz.prog kb [e188] := .one (gd187.app (gd168.app (gd6.app .nil))) (fuel := 1000) (n := 60) (by rw [g0]; exact ok188)
theorem gd189 : AllGoodW Tryz.prog kb [e189] := .one (gd188.app (gd168.app .nil)) (fuel := 1000) (n := 60) (by rw [g0]; exact ok189)
theorem gd190 : AllGoodW Tryz.prog kb [e190] := .one (gd189.app .nil) (fuel := 1000) (n := 60) (by rw [g0]; exact ok190)
theorem gd191 : AllGoodW Tryz.prog kb [e191] := .one (gd190.app (gd34.app (gd168.app .nil))) (fuel := 1000) (n := 60) (by rw [g0]; exact ok191)
theorem gd192 : AllGoodW Tryz.prog kb [e192] := .one (gd168.app .nil) (fuel := 1000) (n := 60) (by rw [g0]; exact ok192)
theorem gd193 : AllGoodW Tryz.prog kb [e193] := .one (gd176.app (gd168.app .nil)) (fuel := 1000) (n := 60) (by rw [g0]; exact ok193)
theorem gd194 : AllGoodW Tryz.prog kb [e194] := .one (gd168.app .nil) (fuel := 1000) (n := 60) (by rw [g0]; exact ok194)
theorem gd195 : AllGoodW Tryz.prog kb [e195] := .one .nil (fuel := 1000) (n := 60) (by rw [g0]; exact ok195)
theorem gd196 : AllGoodW Tryz.prog kb [e196] := .one (gd195.app (gd1.app (gdOpen.app .nil))) (fuel := 1000) (n := 60) (by rw [g0]; exact ok196)
theorem gd197 : AllGoodW Tryz.prog kb [e197] := .one (gd195.app .nil) (fuel := 1000) (n := 60) (by rw [g0]; exact ok197)
theorem gd198 : AllGoodW Tryz.prog kb [e198] := .one (gd197.app (gd195.app (gd6.app .nil))) (fuel := 1000) (n := 60) (by rw [g0]; exact ok198)
theorem gd199 : AllGoodW Tryz.prog kb [e199] := .one (gd198.app (gd195.app .nil)) (fuel := 1000) (n := 60) (by rw [g0]; exact ok199)
theorem gd200 : AllGoodW Tryz.prog kb [e200] := .one (gd199.app .nil) (fuel := 1000) (n := 60) (by rw [g0]; exact ok200)
theorem gd201 : AllGoodW Tryz.prog kb [e201] := .one (gd200.app (gd15.app (gd195.app .nil))) (fuel := 1000) (n := 60) (by rw [g0]; exact ok201)
theorem gd202 : AllGoodW Tryz.prog kb [e202] := .one (gd195.app .nil) (fuel := 1000) (n := 60) (by rw [g0]; exact ok202)
theorem gd203 : AllGoodW Tryz.prog kb [e203] := .one (gd22.app .nil) (fuel := 1000) (n := 60) (by rw [g0]; exact ok203)
theorem gd204 : AllGoodW Tryz.prog kb [e204] := .one (gd203.app (gd195.app .nil)) (fuel := 1000) (n := 60) (by rw [g0]; exact ok204)
theorem gd205 : AllGoodW Tryz.prog kb [e205] := .one (gd195.app .nil) (fuel := 1000) (n := 60) (by rw [g0]; exact ok205)
theorem gd206 : AllGoodW Tryz.prog kb [e206] := .one (gd195.app .nil) (fuel := 1000) (n := 60) (by rw [g0]; exact ok206)
theorem gd207 : AllGoodW Tryz.prog kb [e207] := .one (gd195.app .nil) (fuel := 1000) (n := 60) (by rw [g0]; exact ok207)
theorem gd208 : AllGoodW Tryz.prog kb [e208] := .one (gd207.app (gd195.app (gd6.app .nil))) (fuel := 1000) (n := 60) (by rw [g0]; exact ok208)
theorem gd209 : AllGoodW Tryz.prog kb [e209] := .one (gd208.app (gd195.app .nil)) (fuel := 1000) (n := 60) (by rw [g0]; exact ok209)
theorem gd210 : AllGoodW Tryz.prog kb [e210] := .one (gd209.app .nil) (fuel := 1000) (n := 60) (by rw [g0]; exact ok210)
theorem gd211 : AllGoodW Tryz.prog kb [e211] := .one (gd210.app (gd27.app (gd195.app .nil))) (fuel := 1000) (n := 60) (by rw [g0]; exact ok211)
theorem gd212 : AllGoodW Tryz.prog kb [e212] := .one (gd203.app (gd195.app .nil)) (fuel := 1000) (n := 60) (by rw [g0]; exact ok212)
theorem gd213 : AllGoodW Tryz.prog kb [e213] := .one (gd195.app .nil) (fuel := 1000) (n := 60) (by rw [g0]; exact ok213)
theorem gd214 : AllGoodW Tryz.prog kb [e214] := .one (gd195.app .nil) (fuel := 1000) (n := 60) (by rw [g0]; exact ok214)
theorem gd215 : AllGoodW Tryz.prog kb [e215] := .one (gd214.app (gd195.app (gd6.app .nil))) (fuel := 1000) (n := 60) (by rw [g0]; exact ok215)
theorem gd216 : AllGoodW Tryz.prog kb [e216] := .one (gd215.app (gd195.app .nil)) (fuel := 1000) (n := 60) (by rw [g0]; exact ok216)
theorem gd217 : AllGoodW Tryz.prog kb [e217] := .one (gd216.app .nil) (fuel := 1000) (n := 60) (by rw [g0]; exact ok217)
theorem gd218 : AllGoodW Tryz.prog kb [e218] := .one (gd217.app (gd34.app (gd195.app .nil))) (fuel := 1000) (n := 60) (by rw [g0]; exact ok218)
theorem gd219 : AllGoodW Tryz.prog kb [e219] := .one (gd195.app .nil) (fuel := 1000) (n := 60) (by rw [g0]; exact ok219)
theorem gd220 : AllGoodW Tryz.prog kb [e220] := .one (gd203.app (gd195.app .nil)) (fuel := 1000) (n := 60) (by rw [g0]; exact ok220)
theorem gd221 : AllGoodW Tryz.prog kb [e221] := .one (gd195.app .nil) (fuel := 1000) (n := 60) (by rw [g0]; exact ok221)
theorem gd222 : AllGoodW Tryz.prog kb [e222] := .one .nil (fuel := 1000) (n := 60) (by rw [g0]; exact ok222)
theorem gd223 : AllGoodW Tryz.prog kb [e223] := .one (gd222.app (gd1.app (gdOpen.app .nil))) (fuel := 1000) (n := 60) (by rw [g0]; exact ok223)
theorem gd224 : AllGoodW Tryz.prog kb [e224] := .one (gd222.app .nil) (fuel := 1000) (n := 60) (by rw [g0]; exact ok224)
theorem gd225 : AllGoodW Tryz.prog kb [e225] := .one (gd224.app (gd222.app (gd6.app .nil))) (fuel := 1000) (n := 60) (by rw [g0]; exact ok225)
theorem gd226 : AllGoodW Tryz.prog kb [e226] := .one (gd225.app (gd222.app .nil)) (fuel := 1000) (n := 60) (by rw [g0]; exact ok226)
theorem gd227 : AllGoodW Tryz.prog kb [e227] := .one (gd226.app .nil) (fuel := 1000) (n := 60) (by rw [g0]; exact ok227)
theorem gd228 : AllGoodW Tryz.prog kb [e228] := .one (gd227.app (gd15.app (gd222.app .nil))) (fuel := 1000) (n := 60) (by rw [g0]; exact ok228)
theorem gd229 : AllGoodW Tryz.prog kb [e229] := .one (gd222.app .nil) (fuel := 1000) (n := 60) (by rw [g0]; exact ok229)
theorem gd230 : AllGoodW Tryz.prog kb [e230] := .one (gd22.app .nil) (fuel := 1000) (n := 60) (by rw [g0]; exact ok230)
theorem gd231 : AllGoodW Tryz.prog kb [e231] := .one (gd230.app (gd222.app .nil)) (fuel := 1000) (n := 60) (by rw [g0]; exact ok231)
theorem gd232 : AllGoodW Tryz.prog kb [e232] := .one (gd222.app .nil) (fuel := 1000) (n := 60) (by rw [g0]; exact ok232)
theorem gd233 : AllGoodW Tryz.prog kb [e233] := .one (gd222.app .nil) (fuel := 1000) (n := 60) (by rw [g0]; exact ok233)
theorem gd234 : AllGoodW Tryz.prog kb [e234] := .one (gd222.app .nil) (fuel := 1000) (n := 60) (by rw [g0]; exact ok234)
theorem gd235 : AllGoodW Tryz.prog kb [e235] := .one (gd234.app (gd222.app (gd6.app .nil))) (fuel := 1000) (n := 60) (by rw [g0]; exact ok235)
theorem gd236 : AllGoodW Tryz.prog kb [e236] := .one (gd235.app (gd222.app .nil)) (fuel := 1000) (n := 60) (by rw [g0]; exact ok236)
theorem gd237 : AllGoodW Tryz.prog kb [e237] := .one (gd236.app .nil) (fuel := 1000) (n := 60) (by rw [g0]; exact ok237)
theorem gd238 : AllGoodW Tryz.prog kb [e238] := .one (gd237.app (gd27.app (gd222.app .nil))) (fuel := 1000) (n := 60) (by rw [g0]; exact ok238)
theorem gd239 : AllGoodW Tryz.prog kb [e239] := .one (gd230.app (gd222.app .nil)) (fuel := 1000) (n := 60) (by rw [g0]; exact ok239)
theorem gd240 : AllGoodW Tryz.prog kb [e240] := .one (gd222.app .nil) (fuel := 1000) (n := 60) (by rw [g0]; exact ok240)
theorem gd241 : AllGoodW Tryz.prog kb [e241] := .one (gd222.app .nil) (fuel := 1000) (n := 60) (by rw [g0]; exact ok241)
theorem gd242 : AllGoodW Tryz.prog kb [e242] := .one (gd241.app (gd222.app (gd6.app .nil))) (fuel := 1000) (n := 60) (by rw [g0]; exact ok242)
theorem gd243 : AllGoodW Tryz.prog kb [e243] := .one (gd242.app (gd222.app .nil)) (fuel := 1000) (n := 60) (by rw [g0]; exact ok243)
theorem gd244 : AllGoodW Tryz.prog kb [e244] := .one (gd243.app .nil) (fuel := 1000) (n := 60) (by rw [g0]; exact ok244)
theorem gd245 : AllGoodW Tryz.prog kb [e245] := .one (gd244.app (gd34.app (gd222.app .nil))) (fuel := 1000) (n := 60) (by rw [g0]; exact ok245)
theorem gd246 : AllGoodW Tryz.prog kb [e246] := .one (gd222.app .nil) (fuel := 1000) (n := 60) (by rw [g0]; exact ok246)
theorem gd247 : AllGoodW Tryz.prog kb [e247] := .one (gd230.app (gd222.app .nil)) (fuel := 1000) (n := 60) (by rw [g0]; exact ok247)
theorem gd248 : AllGoodW Tryz.prog kb [e248] := .one (gd222.app .nil) (fuel := 1000) (n := 60) (by rw [g0]; exact ok248)
theorem gd249 : AllGoodW Tryz.prog kb [e249] := .one .nil (fuel := 1000) (n := 60) (by rw [g0]; exact ok249)
theorem gd250 : AllGoodW Tryz.prog kb [e250] := .one (gd249.app (gd1.app (gdOpen.app .nil))) (fuel := 1000) (n := 60) (by rw [g0]; exact ok250)
theorem gd251 : AllGoodW Tryz.prog kb [e251] := .one (gd249.app .nil) (fuel := 1000) (n := 60) (by rw [g0]; exact ok251)
theorem gd252 : AllGoodW Tryz.prog kb [e252] := .one (gd251.app (gd249.app (gd6.app .nil))) (fuel := 1000) (n := 60) (by rw [g0]; exact ok252)
theorem gd253 : AllGoodW Tryz.prog kb [e253] := .one (gd252.app (gd249.app .nil)) (fuel := 1000) (n := 60) (by rw [g0]; exact ok253)
theorem gd254 : AllGoodW Tryz.prog kb [e254] := .one (gd253.app .nil) (fuel := 1000) (n := 60) (by rw [g0]; exact ok254)
theorem gd255 : AllGoodW Tryz.prog kb [e255] := .one (gd254.app (gd15.app (gd249.app .nil))) (fuel := 1000) (n := 60) (by rw [g0]; exact ok255)
theorem gd256 : AllGoodW Tryz.prog kb [e256] := .one (gd249.app .nil) (fuel := 1000) (n := 60) (by rw [g0]; exact ok256)
theorem gd257 : AllGoodW Tryz.prog kb [e257] := .one (gd22.app .nil) (fuel := 1000) (n := 60) (by rw [g0]; exact ok257)
theorem gd258 : AllGoodW Tryz.prog kb [e258] := .one (gd257.app (gd249.app .nil)) (fuel := 1000) (n := 60) (by rw [g0]; exact ok258)
theorem gd259 : AllGoodW Tryz.prog kb [e259] := .one (gd249.app .nil) (fuel := 1000) (n := 60) (by rw [g0]; exact ok259)
theorem gd260 : AllGoodW Tryz.prog kb [e260] := .one (gd249.app .nil) (fuel := 1000) (n := 60) (by rw [g0]; exact ok260)
theorem gd261 : AllGoodW Tryz.prog kb [e261] := .one (gd249.app .nil) (fuel := 1000) (n := 60) (by rw [g0]; exact ok261)
theorem gd262 : AllGoodW Tryz.prog kb [e262] := .one (gd261.app (gd249.app (gd6.app .nil))) (fuel := 1000) (n := 60) (by rw [g0]; exact ok262)
theorem gd263 : AllGoodW Tryz.prog kb [e263] := .one (gd262.app (gd249.app .nil)) (fuel := 1000) (n := 60) (by rw [g0]; exact ok263)
theorem gd264 : AllGoodW Tryz.prog kb [e264] := .one (gd263.app .nil) (fuel := 1000) (n := 60) (by rw [g0]; exact ok264)
theorem gd265 : AllGoodW Tryz.prog kb [e265] := .one (gd264.app (gd27.app (gd249.app .nil))) (fuel := 1000) (n := 60) (by rw [g0]; exact ok265)
theorem gd266 : AllGoodW Tryz.prog kb [e266] := .one (gd257.app (gd249.app .nil)) (fuel := 1000) (n := 60) (by rw [g0]; exact ok266)
theorem gd267 : AllGoodW Tryz.prog kb [e267] := .one (gd249.app .nil) (fuel := 1000) (n := 60) (by rw [g0]; exact ok267)
theorem gd268 : AllGoodW Tryz.prog kb [e268] := .one (gd249.app .nil) (fuel := 1000) (n := 60) (by rw [g0]; exact ok268)
theorem gd269 : AllGoodW Tryz.prog kb [e269] := .one (gd268.app (gd249.app (gd6.app .nil))) (fuel := 1000) (n := 60) (by rw [g0]; exact ok269)
theorem gd270 : AllGoodW Tryz.prog kb [e270] := .one (gd269.app (gd249.app .nil)) (fuel := 1000) (n := 60) (by rw [g0]; exact ok270)
theorem gd271 : AllGoodW Tryz.prog kb [e271] := .one (gd270.app .nil) (fuel := 1000) (n := 60) (by rw [g0]; exact ok271)
theorem gd272 : AllGoodW Tryz.prog kb [e272] := .one (gd271.app (gd34.app (gd249.app .nil))) (fuel := 1000) (n := 60) (by rw [g0]; exact ok272)
theorem gd273 : AllGoodW Tryz.prog kb [e273] := .one (gd249.app .nil) (fuel := 1000) (n := 60) (by rw [g0]; exact ok273)
theorem gd274 : AllGoodW Tryz.prog kb [e274] := .one (gd257.app (gd249.app .nil)) (fuel := 1000) (n := 60) (by rw [g0]; exact ok274)
theorem gd275 : AllGoodW Tryz.prog kb [e275] := .one (gd249.app .nil) (fuel := 1000) (n := 60) (by rw [g0]; exact ok275)
theorem gd276 : AllGoodW Tryz.prog kb [e276] := .one .nil (fuel := 1000) (n := 60) (by rw [g0]; exact ok276)
theorem gd277 : AllGoodW Tryz.prog kb [e277] := .one (gd276.app (gd1.app (gdOpen.app .nil))) (fuel := 1000) (n := 60) (by rw [g0]; exact ok277)
theorem gd278 : AllGoodW Tryz.prog kb [e278] := .one .nil (fuel := 1000) (n := 60) (by rw [g0]; exact ok278)
theorem gd279 : AllGoodW Tryz.prog kb [e279] := .one (gd276.app .nil) (fuel := 1000) (n := 60) (by rw [g0]; exact ok279)
theorem gd280 : AllGoodW Tryz.prog kb [e280] := .one (gd279.app (gd276.app (gd6.app (gd278.app .nil)))) (fuel := 1000) (n := 60) (by rw [g0]; exact ok280)
theorem gd281 : AllGoodW Tryz.prog kb [e281] := .one (gd280.app (gd276.app .nil)) (fuel := 1000) (n := 60) (by rw [g0]; exact ok281)
theorem gd282 : AllGoodW Tryz.prog kb [e282] := .one (gd281.app .nil) (fuel := 1000) (n := 60) (by rw [g0]; exact ok282)
theorem gd283 : AllGoodW Tryz.prog kb [e283] := .one (gd282.app (gd15.app (gd276.app .nil))) (fuel := 1000) (n := 60) (by rw [g0]; exact ok283)
theorem gd284 : AllGoodW Tryz.prog kb [e284] := .one (gd276.app .nil) (fuel := 1000) (n := 60) (by rw [g0]; exact ok284)
theorem gd285 : AllGoodW Tryz.prog kb [e285] := .one (gd22.app .nil) (fuel := 1000) (n := 60) (by rw [g0]; exact ok285)
theorem gd286 : AllGoodW Tryz.prog kb [e286] := .one (gd285.app (gd276.app .nil)) (fuel := 1000) (n := 60) (by rw [g0]; exact ok286)
theorem gd287 : AllGoodW Tryz.prog kb [e287] := .one (gd276.app .nil) (fuel := 1000) (n := 60) (by rw [g0]; exact ok287)
theorem gd288 : AllGoodW Tryz.prog kb [e288] := .one (gd276.app .nil) (fuel := 1000) (n := 60) (by rw [g0]; exact ok288)
theorem gd289 : AllGoodW Tryz.prog kb [e289] := .one (gd276.app .nil) (fuel := 1000) (n := 60) (by rw [g0]; exact ok289)
theorem gd290 : AllGoodW Tryz.prog kb [e290] := .one (gd289.app (gd276.app (gd6.app (gd278.app .nil)))) (fuel := 1000) (n := 60) (by rw [g0]; exact ok290)
theorem gd291 : AllGoodW Tryz.prog kb [e291] := .one (gd290.app (gd276.app .nil)) (fuel := 1000) (n := 60) (by rw [g0]; exact ok291)
theorem gd292 : AllGoodW Tryz.prog kb [e292] := .one (gd291.app .nil) (fuel := 1000) (n := 60) (by rw [g0]; exact ok292)
theorem gd293 : AllGoodW Tryz.prog kb [e293] := .one (gd292.app (gd27.app (gd276.app .nil))) (fuel := 1000) (n := 60) (by rw [g0]; exact ok293)
theorem gd294 : AllGoodW Tryz.prog kb [e294] := .one (gd285.app (gd276.app .nil)) (fuel := 1000) (n := 60) (by rw [g0]; exact ok294)
theorem gd295 : AllGoodW Tryz.prog kb [e295] := .one (gd276.app .nil) (fuel := 1000) (n := 60) (by rw [g0]; exact ok295)
theorem gd296 : AllGoodW Tryz.prog kb [e296] := .one (gd276.app .nil) (fuel := 1000) (n := 60) (by rw [g0]; exact ok296)
theorem gd297 : AllGoodW Tryz.prog kb [e297] := .one (gd296.app (gd276.app (gd6.app (gd278.app .nil)))) (fuel := 1000) (n := 60) (by rw [g0]; exact ok297)
theorem gd298 : AllGoodW Tryz.prog kb [e298] := .one (gd297.app (gd276.app .nil)) (fuel := 1000) (n := 60) (by rw [g0]; exact ok298)
theorem gd299 : AllGoodW Tryz.prog kb [e299] := .one (gd298.app .nil) (fuel := 1000) (n := 60) (by rw [g0]; exact ok299)
theorem gd300 : AllGoodW Tryz.prog kb [e300] := .one (gd299.app (gd34.app (gd276.app .nil))) (fuel := 1000) (n := 60) (by rw [g0]; exact ok300)
theorem gd301 : AllGoodW Tryz.prog kb [e301] := .one (gd276.app .nil) (fuel := 1000) (n := 60) (by rw [g0]; exact ok301)
theorem gd302 : AllGoodW Tryz.prog kb [e302] := .one (gd285.app (gd276.app .nil)) (fuel := 1000) (n := 60) (by rw [g0]; exact ok302)
theorem gd303 : AllGoodW Tryz.prog kb [e303] := .one (gd276.app .nil) (fuel := 1000) (n := 60) (by rw [g0]; exact ok303)
theorem gd304 : AllGoodW Tryz.prog kb [e304] := .one .nil (fuel := 1000) (n := 60) (by rw [g0]; exact ok304)
theorem gd305 : AllGoodW Tryz.prog kb [e305] := .one (gd304.app (gd1.app (gdOpen.app .nil))) (fuel := 1000) (n := 60) (by rw [g0]; exact ok305)
theorem gd306 : AllGoodW Tryz.prog kb [e306] := .one .nil (fuel := 1000) (n := 60) (by rw [g0]; exact ok306)
theorem gd307 : AllGoodW Tryz.prog kb [e307] := .one (gd304.app .nil) (fuel := 1000) (n := 60) (by rw [g0]; exact ok307)
theorem gd308 : AllGoodW Tryz.prog kb [e308] := .one (gd307.app (gd304.app (gd6.app (gd306.app .nil)))) (fuel := 1000) (n := 60) (by rw [g0]; exact ok308)
theorem gd309 : AllGoodW Tryz.prog kb [e309] := .one (gd308.app (gd304.app .nil)) (fuel := 1000) (n := 60) (by rw [g0]; exact ok309)
theorem gd310 : AllGoodW Tryz.prog kb [e310] := .one (gd309.app .nil) (fuel := 1000) (n := 60) (by rw [g0]; exact ok310)
theorem gd311 : AllGoodW Tryz.prog kb [e311] := .one (gd310.app (gd15.app (gd304.app .nil))) (fuel := 1000) (n := 60) (by rw [g0]; exact ok311)
theorem gd312 : AllGoodW Tryz.prog kb [e312] := .one (gd304.app .nil) (fuel := 1000) (n := 60) (by rw [g0]; exact ok312)
theorem gd313 : AllGoodW Tryz.prog kb [e313] := .one (gd22.app .nil) (fuel := 1000) (n := 60) (by rw [g0]; exact ok313)
theorem gd314 : AllGoodW Tryz.prog kb [e314] := .one (gd313.app (gd304.app .nil)) (fuel := 1000) (n := 60) (by rw [g0]; exact ok314)
theorem gd315 : AllGoodW Tryz.prog kb [e315] := .one (gd304.app .nil) (fuel := 1000) (n := 60) (by rw [g0]; exact ok315)
theorem gd316 : AllGoodW Tryz.prog kb [e316] := .one (gd304.app .nil) (fuel := 1000) (n := 60) (by rw [g0]; exact ok316)
theorem gd317 : AllGoodW Tryz.prog kb [e317] := .one (gd304.app .nil) (fuel := 1000) (n := 60) (by rw [g0]; exact ok317)
theorem gd318 : AllGoodW Tryz.prog kb [e318] := .one (gd317.app (gd304.app (gd6.app (gd306.app .nil)))) (fuel := 1000) (n := 60) (by rw [g0]; exact ok318)
theorem gd319 : AllGoodW Tryz.prog kb [e319] := .one (gd318.app (gd304.app .nil)) (fuel := 1000) (n := 60) (by rw [g0]; exact ok319)
theorem gd320 : AllGoodW Tryz.prog kb [e320] := .one (gd319.app .nil) (fuel := 1000) (n := 60) (by rw [g0]; exact ok320)
theorem gd321 : AllGoodW Tryz.prog kb [e321] := .one (gd320.app (gd27.app (gd304.app .nil))) (fuel := 1000) (n := 60) (by rw [g0]; exact ok321)
theorem gd322 : AllGoodW Tryz.prog kb [e322] := .one (gd313.app (gd304.app .nil)) (fuel := 1000) (n := 60) (by rw [g0]; exact ok322)
theorem gd323 : AllGoodW Tryz.prog kb [e323] := .one (gd304.app .nil) (fuel := 1000) (n := 60) (by rw [g0]; exact ok323)
theorem gd324 : AllGoodW Tryz.prog kb [e324] := .one (gd304.app .nil) (fuel := 1000) (n := 60) (by rw [g0]; exact ok324)
theorem gd325 : AllGoodW Tryz.prog kb [e325] := .one (gd324.app (gd304.app (gd6.app (gd306.app .nil)))) (fuel := 1000) (n := 60) (by rw [g0]; exact ok325)
theorem gd326 : AllGoodW Tryz.prog kb [e326] := .one (gd325.app (gd304.app .nil)) (fuel := 1000) (n := 60) (by rw [g0]; exact ok326)
theorem gd327 : AllGoodW Tryz.prog kb [e327] := .one (gd326.app .nil) (fuel := 1000) (n := 60) (by rw [g0]; exact ok327)
theorem gd328 : AllGoodW Tryz.prog kb [e328] := .one (gd327.app (gd34.app (gd304.app .nil))) (fuel := 1000) (n := 60) (by rw [g0]; exact ok328)
theorem gd329 : AllGoodW Tryz.prog kb [e329] := .one (gd304.app .nil) (fuel := 1000) (n := 60) (by rw [g0]; exact ok329)
theorem gd330 : AllGoodW Tryz.prog kb [e330] := .one (gd313.app (gd304.app .nil)) (fuel := 1000) (n := 60) (by rw [g0]; exact ok330)
theorem gd331 : AllGoodW Tryz.prog kb [e331] := .one (gd304.app .nil) (fuel := 1000) (n := 60) (by rw [g0]; exact ok331)
/-- The law answers true for every input of a class, and leaves what was there as it was. -/
def Fine [Val] (a : List AV) : Prop := ∀ (w : World), Tryz.prog.globals.size ≤ w.heap.size → Ro0 Tryz.prog.globals.size w → ∀ (x : Array Value), LR (phi0 Tryz.prog.globals.size) a x → Calls Tryz.prog 4 x w fun e w' => e = .returned (.bool true) ∧ Below w.heap.size w w'
theorem run0 [Val] (hT : ∀ f ∈ tb0, f.holds Val.σ) : Fine a0 := fun _ hG hro _ ha => below_of_args (knWith_sim kbSim (gd24.app (gd20.app (gd13.app (gd15.app (gd19.app (gd14.app (gd2000000.app .nil)))))))) (by rw [g0]; decide) (by rw [g0]; exact ran0) hT hG hro ha
theorem run1 [Val] (hT : ∀ f ∈ tb1, f.holds Val.σ) : Fine a0 := fun _ hG hro _ ha => below_of_args (knWith_sim kbSim (gd24.app (gd25.app (gd13.app (gd15.app (gd19.app (gd14.app (gd2000000.app .nil)))))))) (by rw [g0]; decide) (by rw [g0]; exact ran1) hT hG hro ha
theorem run2 [Val] (hT : ∀ f ∈ tb2, f.holds Val.σ) : Fine a1 := fun _ hG hro _ ha => below_of_args (knWith_sim kbSim (gd24.app (gd26.app (gd13.app (gd15.app (gd19.app (gd14.app (gd2000000.app .nil)))))))) (by rw [g0]; decide) (by rw [g0]; exact ran2) hT hG hro ha
theorem run3 [Val] (hT : ∀ f ∈ tb3, f.holds Val.σ) : Fine a1 := fun _ hG hro _ ha => below_of_args (knWith_sim kbSim (gd24.app (gd25.app (gd13.app (gd15.app (gd19.app (gd14.app (gd2000000.app .nil)))))))) (by rw [g0]; decide) (by rw [g0]; exact ran3) hT hG hro ha
theorem run4 [Val] (hT : ∀ f ∈ tb4, f.holds Val.σ) : Fine a2 := fun _ hG hro _ ha => below_of_args (knWith_sim kbSim (gd32.app (gd13.app (gd27.app (gd31.app (gd14.app (gd2000000.app .nil))))))) (by rw [g0]; decide) (by rw [g0]; exact ran4) hT hG hro ha
theorem run5 [Val] (hT : ∀ f ∈ tb5, f.holds Val.σ) : Fine a2 := fun _ hG hro _ ha => below_of_args (knWith_sim kbSim (gd32.app (gd33.app (gd13.app (gd27.app (gd31.app (gd14.app (gd2000000.app .nil)))))))) (by rw [g0]; decide) (by rw [g0]; exact ran5) hT hG hro ha
theorem run6 [Val] (hT : ∀ f ∈ tb6, f.holds Val.σ) : Fine a3 := fun _ hG hro _ ha => below_of_args (knWith_sim kbSim (gd40.app (gd39.app (gd13.app (gd34.app (gd38.app (gd14.app (gd2000000.app .nil)))))))) (by rw [g0]; decide) (by rw [g0]; exact ran6) hT hG hro ha
theorem run7 [Val] (hT : ∀ f ∈ tb7, f.holds Val.σ) : Fine a3 := fun _ hG hro _ ha => below_of_args (knWith_sim kbSim (gd40.app (gd41.app (gd13.app (gd34.app (gd38.app (gd14.app (gd2000000.app .nil)))))))) (by rw [g0]; decide) (by rw [g0]; exact ran7) hT hG hro ha
theorem run8 [Val] (hT : ∀ f ∈ tb8, f.holds Val.σ) : Fine a4 := fun _ hG hro _ ha => below_of_args (knWith_sim kbSim (gd50.app (gd48.app (gd42.app (gd15.app (gd47.app (gd43.app (gd2000000.app .nil)))))))) (by rw [g0]; decide) (by rw [g0]; exact ran8) hT hG hro ha
theorem run9 [Val] (hT : ∀ f ∈ tb9, f.holds Val.σ) : Fine a4 := fun _ hG hro _ ha => below_of_args (knWith_sim kbSim (gd50.app (gd51.app (gd42.app (gd15.app (gd47.app (gd43.app (gd2000000.app .nil)))))))) (by rw [g0]; decide) (by rw [g0]; exact ran9) hT hG hro ha
theorem run10 [Val] (hT : ∀ f ∈ tb10, f.holds Val.σ) : Fine a5 := fun _ hG hro _ ha => below_of_args (knWith_sim kbSim (gd50.app (gd52.app (gd42.app (gd15.app (gd47.app (gd43.app (gd2000000.app .nil)))))))) (by rw [g0]; decide) (by rw [g0]; exact ran10) hT hG hro ha
theorem run11 [Val] (hT : ∀ f ∈ tb11, f.holds Val.σ) : Fine a5 := fun _ hG hro _ ha => below_of_args (knWith_sim kbSim (gd50.app (gd51.app (gd42.app (gd15.app (gd47.app (gd43.app (gd2000000.app .nil)))))))) (by rw [g0]; decide) (by rw [g0]; exact ran11) hT hG hro ha
theorem run12 [Val] (hT : ∀ f ∈ tb12, f.holds Val.σ) : Fine a6 := fun _ hG hro _ ha => below_of_args (knWith_sim kbSim (gd57.app (gd42.app (gd27.app (gd56.app (gd43.app (gd2000000.app .nil))))))) (by rw [g0]; decide) (by rw [g0]; exact ran12) hT hG hro ha
theorem run13 [Val] (hT : ∀ f ∈ tb13, f.holds Val.σ) : Fine a6 := fun _ hG hro _ ha => below_of_args (knWith_sim kbSim (gd57.app (gd58.app (gd42.app (gd27.app (gd56.app (gd43.app (gd2000000.app .nil)))))))) (by rw [g0]; decide) (by rw [g0]; exact ran13) hT hG hro ha
theorem run14 [Val] (hT : ∀ f ∈ tb14, f.holds Val.σ) : Fine a7 := fun _ hG hro _ ha => below_of_args (knWith_sim kbSim (gd64.app (gd63.app (gd42.app (gd34.app (gd62.app (gd43.app (gd2000000.app .nil)))))))) (by rw [g0]; decide) (by rw [g0]; exact ran14) hT hG hro ha
theorem run15 [Val] (hT : ∀ f ∈ tb15, f.holds Val.σ) : Fine a7 := fun _ hG hro _ ha => below_of_args (knWith_sim kbSim (gd64.app (gd65.app (gd42.app (gd34.app (gd62.app (gd43.app (gd2000000.app .nil)))))))) (by rw [g0]; decide) (by rw [g0]; exact ran15) hT hG hro ha
theorem run16 [Val] (hT : ∀ f ∈ tb16, f.holds Val.σ) : Fine a8 := fun _ hG hro _ ha => below_of_args (knWith_sim kbSim (gd74.app (gd72.app (gd66.app (gd15.app (gd71.app (gd67.app (gd2000000.app .nil)))))))) (by rw [g0]; decide) (by rw [g0]; exact ran16) hT hG hro ha
theorem run17 [Val] (hT : ∀ f ∈ tb17, f.holds Val.σ) : Fine a8 := fun _ hG hro _ ha => below_of_args (knWith_sim kbSim (gd74.app (gd75.app (gd66.app (gd15.app (gd71.app (gd67.app (gd2000000.app .nil)))))))) (by rw [g0]; decide) (by rw [g0]; exact ran17) hT hG hro ha
theorem run18 [Val] (hT : ∀ f ∈ tb18, f.holds Val.σ) : Fine a9 := fun _ hG hro _ ha => below_of_args (knWith_sim kbSim (gd74.app (gd76.app (gd66.app (gd15.app (gd71.app (gd67.app (gd2000000.app .nil)))))))) (by rw [g0]; decide) (by rw [g0]; exact ran18) hT hG hro ha
theorem run19 [Val] (hT : ∀ f ∈ tb19, f.holds Val.σ) : Fine a9 := fun _ hG hro _ ha => below_of_args (knWith_sim kbSim (gd74.app (gd75.app (gd66.app (gd15.app (gd71.app (gd67.app (gd2000000.app .nil)))))))) (by rw [g0]; decide) (by rw [g0]; exact ran19) hT hG hro ha
theorem run20 [Val] (hT : ∀ f ∈ tb20, f.holds Val.σ) : Fine a10 := fun _ hG hro _ ha => below_of_args (knWith_sim kbSim (gd81.app (gd66.app (gd27.app (gd80.app (gd67.app (gd2000000.app .nil))))))) (by rw [g0]; decide) (by rw [g0]; exact ran20) hT hG hro ha
theorem run21 [Val] (hT : ∀ f ∈ tb21, f.holds Val.σ) : Fine a10 := fun _ hG hro _ ha => below_of_args (knWith_sim kbSim (gd81.app (gd82.app (gd66.app (gd27.app (gd80.app (gd67.app (gd2000000.app .nil)))))))) (by rw [g0]; decide) (by rw [g0]; exact ran21) hT hG hro ha
theorem run22 [Val] (hT : ∀ f ∈ tb22, f.holds Val.σ) : Fine a11 := fun _ hG hro _ ha => below_of_args (knWith_sim kbSim (gd88.app (gd87.app (gd66.app (gd34.app (gd86.app (gd67.app (gd2000000.app .nil)))))))) (by rw [g0]; decide) (by rw [g0]; exact ran22) hT hG hro ha
theorem run23 [Val] (hT : ∀ f ∈ tb23, f.holds Val.σ) : Fine a11 := fun _ hG hro _ ha => below_of_args (knWith_sim kbSim (gd88.app (gd89.app (gd66.app (gd34.app (gd86.app (gd67.app (gd2000000.app .nil)))))))) (by rw [g0]; decide) (by rw [g0]; exact ran23) hT hG hro ha
theorem run24 [Val] (hT : ∀ f ∈ tb24, f.holds Val.σ) : Fine a12 := fun _ hG hro _ ha => below_of_args (knWith_sim kbSim (gd98.app (gd96.app (gd90.app (gd15.app (gd95.app (gd91.app (gd2000000.app .nil)))))))) (by rw [g0]; decide) (by rw [g0]; exact ran24) hT hG hro ha
theorem run25 [Val] (hT : ∀ f ∈ tb25, f.holds Val.σ) : Fine a12 := fun _ hG hro _ ha => below_of_args (knWith_sim kbSim (gd98.app (gd99.app (gd90.app (gd15.app (gd95.app (gd91.app (gd2000000.app .nil)))))))) (by rw [g0]; decide) (by rw [g0]; exact ran25) hT hG hro ha
theorem run26 [Val] (hT : ∀ f ∈ tb26, f.holds Val.σ) : Fine a13 := fun _ hG hro _ ha => below_of_args (knWith_sim kbSim (gd98.app (gd100.app (gd90.app (gd15.app (gd95.app (gd91.app (gd2000000.app .nil)))))))) (by rw [g0]; decide) (by rw [g0]; exact ran26) hT hG hro ha
theorem run27 [Val] (hT : ∀ f ∈ tb27, f.holds Val.σ) : Fine a13 := fun _ hG hro _ ha => below_of_args (knWith_sim kbSim (gd98.app (gd99.app (gd90.app (gd15.app (gd95.app (gd91.app (gd2000000.app .nil)))))))) (by rw [g0]; decide) (by rw [g0]; exact ran27) hT hG hro ha
theorem run28 [Val] (hT : ∀ f ∈ tb28, f.holds Val.σ) : Fine a14 := fun _ hG hro _ ha => below_of_args (knWith_sim kbSim (gd105.app (gd90.app (gd27.app (gd104.app (gd91.app (gd2000000.app .nil))))))) (by rw [g0]; decide) (by rw [g0]; exact ran28) hT hG hro ha
theorem run29 [Val] (hT : ∀ f ∈ tb29, f.holds Val.σ) : Fine a14 := fun _ hG hro _ ha => below_of_args (knWith_sim kbSim (gd105.app (gd106.app (gd90.app (gd27.app (gd104.app (gd91.app (gd2000000.app .nil)))))))) (by rw [g0]; decide) (by rw [g0]; exact ran29) hT hG hro ha
theorem run30 [Val] (hT : ∀ f ∈ tb30, f.holds Val.σ) : Fine a15 := fun _ hG hro _ ha => below_of_args (knWith_sim kbSim (gd112.app (gd111.app (gd90.app (gd34.app (gd110.app (gd91.app (gd2000000.app .nil)))))))) (by rw [g0]; decide) (by rw [g0]; exact ran30) hT hG hro ha
theorem run31 [Val] (hT : ∀ f ∈ tb31, f.holds Val.σ) : Fine a15 := fun _ hG hro _ ha => below_of_args (knWith_sim kbSim (gd112.app (gd113.app (gd90.app (gd34.app (gd110.app (gd91.app (gd2000000.app .nil)))))))) (by rw [g0]; decide) (by rw [g0]; exact ran31) hT hG hro ha
theorem run32 [Val] (hT : ∀ f ∈ tb32, f.holds Val.σ) : Fine a16 := fun _ hG hro _ ha => below_of_args (knWith_sim kbSim (gd123.app (gd121.app (gd120.app (gd115.app (gd2000000.app .nil)))))) (by rw [g0]; decide) (by rw [g0]; exact ran32) hT hG hro ha
theorem run33 [Val] (hT : ∀ f ∈ tb33, f.holds Val.σ) : Fine a16 := fun _ hG hro _ ha => below_of_args (knWith_sim kbSim (gd123.app (gd124.app (gd120.app (gd115.app (gd2000000.app .nil)))))) (by rw [g0]; decide) (by rw [g0]; exact ran33) hT hG hro ha
theorem run34 [Val] (hT : ∀ f ∈ tb34, f.holds Val.σ) : Fine a17 := fun _ hG hro _ ha => below_of_args (knWith_sim kbSim (gd123.app (gd125.app (gd120.app (gd115.app (gd2000000.app .nil)))))) (by rw [g0]; decide) (by rw [g0]; exact ran34) hT hG hro ha
theorem run35 [Val] (hT : ∀ f ∈ tb35, f.holds Val.σ) : Fine a17 := fun _ hG hro _ ha => below_of_args (knWith_sim kbSim (gd123.app (gd124.app (gd120.app (gd115.app (gd2000000.app .nil)))))) (by rw [g0]; decide) (by rw [g0]; exact ran35) hT hG hro ha
theorem run36 [Val] (hT : ∀ f ∈ tb36, f.holds Val.σ) : Fine a18 := fun _ hG hro _ ha => below_of_args (knWith_sim kbSim (gd131.app (gd114.app (gd130.app (gd115.app (gd2000000.app .nil)))))) (by rw [g0]; decide) (by rw [g0]; exact ran36) hT hG hro ha
theorem run37 [Val] (hT : ∀ f ∈ tb37, f.holds Val.σ) : Fine a18 := fun _ hG hro _ ha => below_of_args (knWith_sim kbSim (gd131.app (gd132.app (gd130.app (gd115.app (gd2000000.app .nil)))))) (by rw [g0]; decide) (by rw [g0]; exact ran37) hT hG hro ha
theorem run38 [Val] (hT : ∀ f ∈ tb38, f.holds Val.σ) : Fine a19 := fun _ hG hro _ ha => below_of_args (knWith_sim kbSim (gd139.app (gd138.app (gd137.app (gd115.app (gd2000000.app .nil)))))) (by rw [g0]; decide) (by rw [g0]; exact ran38) hT hG hro ha
theorem run39 [Val] (hT : ∀ f ∈ tb39, f.holds Val.σ) : Fine a19 := fun _ hG hro _ ha => below_of_args (knWith_sim kbSim (gd139.app (gd140.app (gd137.app (gd115.app (gd2000000.app .nil)))))) (by rw [g0]; decide) (by rw [g0]; exact ran39) hT hG hro ha
theorem run40 [Val] (hT : ∀ f ∈ tb40, f.holds Val.σ) : Fine a20 := fun _ hG hro _ ha => below_of_args (knWith_sim kbSim (gd150.app (gd148.app (gd147.app (gd142.app (gd2000000.app .nil)))))) (by rw [g0]; decide) (by rw [g0]; exact ran40) hT hG hro ha
theorem run41 [Val] (hT : ∀ f ∈ tb41, f.holds Val.σ) : Fine a20 := fun _ hG hro _ ha => below_of_args (knWith_sim kbSim (gd150.app (gd151.app (gd147.app (gd142.app (gd2000000.app .nil)))))) (by rw [g0]; decide) (by rw [g0]; exact ran41) hT hG hro ha
theorem run42 [Val] (hT : ∀ f ∈ tb42, f.holds Val.σ) : Fine a21 := fun _ hG hro _ ha => below_of_args (knWith_sim kbSim (gd150.app (gd152.app (gd147.app (gd142.app (gd2000000.app .nil)))))) (by rw [g0]; decide) (by rw [g0]; exact ran42) hT hG hro ha
theorem run43 [Val] (hT : ∀ f ∈ tb43, f.holds Val.σ) : Fine a21 := fun _ hG hro _ ha => below_of_args (knWith_sim kbSim (gd150.app (gd151.app (gd147.app (gd142.app (gd2000000.app .nil)))))) (by rw [g0]; decide) (by rw [g0]; exact ran43) hT hG hro ha
theorem run44 [Val] (hT : ∀ f ∈ tb44, f.holds Val.σ) : Fine a22 := fun _ hG hro _ ha => below_of_args (knWith_sim kbSim (gd158.app (gd141.app (gd157.app (gd142.app (gd2000000.app .nil)))))) (by rw [g0]; decide) (by rw [g0]; exact ran44) hT hG hro ha
theorem run45 [Val] (hT : ∀ f ∈ tb45, f.holds Val.σ) : Fine a22 := fun _ hG hro _ ha => below_of_args (knWith_sim kbSim (gd158.app (gd159.app (gd157.app (gd142.app (gd2000000.app .nil)))))) (by rw [g0]; decide) (by rw [g0]; exact ran45) hT hG hro ha
theorem run46 [Val] (hT : ∀ f ∈ tb46, f.holds Val.σ) : Fine a23 := fun _ hG hro _ ha => below_of_args (knWith_sim kbSim (gd166.app (gd165.app (gd164.app (gd142.app (gd2000000.app .nil)))))) (by rw [g0]; decide) (by rw [g0]; exact ran46) hT hG hro ha
theorem run47 [Val] (hT : ∀ f ∈ tb47, f.holds Val.σ) : Fine a23 := fun _ hG hro _ ha => below_of_args (knWith_sim kbSim (gd166.app (gd167.app (gd164.app (gd142.app (gd2000000.app .nil)))))) (by rw [g0]; decide) (by rw [g0]; exact ran47) hT hG hro ha
theorem run48 [Val] (hT : ∀ f ∈ tb48, f.holds Val.σ) : Fine a24 := fun _ hG hro _ ha => below_of_args (knWith_sim kbSim (gd177.app (gd175.app (gd174.app (gd169.app (gd2000000.app .nil)))))) (by rw [g0]; decide) (by rw [g0]; exact ran48) hT hG hro ha
theorem run49 [Val] (hT : ∀ f ∈ tb49, f.holds Val.σ) : Fine a24 := fun _ hG hro _ ha => below_of_args (knWith_sim kbSim (gd177.app (gd178.app (gd174.app (gd169.app (gd2000000.app .nil)))))) (by rw [g0]; decide) (by rw [g0]; exact ran49) hT hG hro ha
theorem run50 [Val] (hT : ∀ f ∈ tb50, f.holds Val.σ) : Fine a25 := fun _ hG hro _ ha => below_of_args (knWith_sim kbSim (gd177.app (gd179.app (gd174.app (gd169.app (gd2000000.app .nil)))))) (by rw [g0]; decide) (by rw [g0]; exact ran50) hT hG hro ha
theorem run51 [Val] (hT : ∀ f ∈ tb51, f.holds Val.σ) : Fine a25 := fun _ hG hro _ ha => below_of_args (knWith_sim kbSim (gd177.app (gd178.app (gd174.app (gd169.app (gd2000000.app .nil)))))) (by rw [g0]; decide) (by rw [g0]; exact ran51) hT hG hro ha
theorem run52 [Val] (hT : ∀ f ∈ tb52, f.holds Val.σ) : Fine a26 := fun _ hG hro _ ha => below_of_args (knWith_sim kbSim (gd185.app (gd168.app (gd184.app (gd169.app (gd2000000.app .nil)))))) (by rw [g0]; decide) (by rw [g0]; exact ran52) hT hG hro ha
theorem run53 [Val] (hT : ∀ f ∈ tb53, f.holds Val.σ) : Fine a26 := fun _ hG hro _ ha => below_of_args (knWith_sim kbSim (gd185.app (gd186.app (gd184.app (gd169.app (gd2000000.app .nil)))))) (by rw [g0]; decide) (by rw [g0]; exact ran53) hT hG hro ha
theorem run54 [Val] (hT : ∀ f ∈ tb54, f.holds Val.σ) : Fine a27 := fun _ hG hro _ ha => below_of_args (knWith_sim kbSim (gd193.app (gd192.app (gd191.app (gd169.app (gd2000000.app .nil)))))) (by rw [g0]; decide) (by rw [g0]; exact ran54) hT hG hro ha
theorem run55 [Val] (hT : ∀ f ∈ tb55, f.holds Val.σ) : Fine a27 := fun _ hG hro _ ha => below_of_args (knWith_sim kbSim (gd193.app (gd194.app (gd191.app (gd169.app (gd2000000.app .nil)))))) (by rw [g0]; decide) (by rw [g0]; exact ran55) hT hG hro ha
theorem run56 [Val] (hT : ∀ f ∈ tb56, f.holds Val.σ) : Fine a28 := fun _ hG hro _ ha => below_of_args (knWith_sim kbSim (gd204.app (gd202.app (gd201.app (gd196.app (gd2000000.app .nil)))))) (by rw [g0]; decide) (by rw [g0]; exact ran56) hT hG hro ha
theorem run57 [Val] (hT : ∀ f ∈ tb57, f.holds Val.σ) : Fine a28 := fun _ hG hro _ ha => below_of_args (knWith_sim kbSim (gd204.app (gd205.app (gd201.app (gd196.app (gd2000000.app .nil)))))) (by rw [g0]; decide) (by rw [g0]; exact ran57) hT hG hro ha
theorem run58 [Val] (hT : ∀ f ∈ tb58, f.holds Val.σ) : Fine a29 := fun _ hG hro _ ha => below_of_args (knWith_sim kbSim (gd204.app (gd206.app (gd201.app (gd196.app (gd2000000.app .nil)))))) (by rw [g0]; decide) (by rw [g0]; exact ran58) hT hG hro ha
theorem run59 [Val] (hT : ∀ f ∈ tb59, f.holds Val.σ) : Fine a29 := fun _ hG hro _ ha => below_of_args (knWith_sim kbSim (gd204.app (gd205.app (gd201.app (gd196.app (gd2000000.app .nil)))))) (by rw [g0]; decide) (by rw [g0]; exact ran59) hT hG hro ha
theorem run60 [Val] (hT : ∀ f ∈ tb60, f.holds Val.σ) : Fine a30 := fun _ hG hro _ ha => below_of_args (knWith_sim kbSim (gd212.app (gd195.app (gd211.app (gd196.app (gd2000000.app .nil)))))) (by rw [g0]; decide) (by rw [g0]; exact ran60) hT hG hro ha
theorem run61 [Val] (hT : ∀ f ∈ tb61, f.holds Val.σ) : Fine a30 := fun _ hG hro _ ha => below_of_args (knWith_sim kbSim (gd212.app (gd213.app (gd211.app (gd196.app (gd2000000.app .nil)))))) (by rw [g0]; decide) (by rw [g0]; exact ran61) hT hG hro ha
theorem run62 [Val] (hT : ∀ f ∈ tb62, f.holds Val.σ) : Fine a31 := fun _ hG hro _ ha => below_of_args (knWith_sim kbSim (gd220.app (gd219.app (gd218.app (gd196.app (gd2000000.app .nil)))))) (by rw [g0]; decide) (by rw [g0]; exact ran62) hT hG hro ha
theorem run63 [Val] (hT : ∀ f ∈ tb63, f.holds Val.σ) : Fine a31 := fun _ hG hro _ ha => below_of_args (knWith_sim kbSim (gd220.app (gd221.app (gd218.app (gd196.app (gd2000000.app .nil)))))) (by rw [g0]; decide) (by rw [g0]; exact ran63) hT hG hro ha
theorem run64 [Val] (hT : ∀ f ∈ tb64, f.holds Val.σ) : Fine a32 := fun _ hG hro _ ha => below_of_args (knWith_sim kbSim (gd231.app (gd229.app (gd228.app (gd223.app (gd2000000.app .nil)))))) (by rw [g0]; decide) (by rw [g0]; exact ran64) hT hG hro ha
theorem run65 [Val] (hT : ∀ f ∈ tb65, f.holds Val.σ) : Fine a32 := fun _ hG hro _ ha => below_of_args (knWith_sim kbSim (gd231.app (gd232.app (gd228.app (gd223.app (gd2000000.app .nil)))))) (by rw [g0]; decide) (by rw [g0]; exact ran65) hT hG hro ha
theorem run66 [Val] (hT : ∀ f ∈ tb66, f.holds Val.σ) : Fine a33 := fun _ hG hro _ ha => below_of_args (knWith_sim kbSim (gd231.app (gd233.app (gd228.app (gd223.app (gd2000000.app .nil)))))) (by rw [g0]; decide) (by rw [g0]; exact ran66) hT hG hro ha
theorem run67 [Val] (hT : ∀ f ∈ tb67, f.holds Val.σ) : Fine a33 := fun _ hG hro _ ha => below_of_args (knWith_sim kbSim (gd231.app (gd232.app (gd228.app (gd223.app (gd2000000.app .nil)))))) (by rw [g0]; decide) (by rw [g0]; exact ran67) hT hG hro ha
theorem run68 [Val] (hT : ∀ f ∈ tb68, f.holds Val.σ) : Fine a34 := fun _ hG hro _ ha => below_of_args (knWith_sim kbSim (gd239.app (gd222.app (gd238.app (gd223.app (gd2000000.app .nil)))))) (by rw [g0]; decide) (by rw [g0]; exact ran68) hT hG hro ha
theorem run69 [Val] (hT : ∀ f ∈ tb69, f.holds Val.σ) : Fine a34 := fun _ hG hro _ ha => below_of_args (knWith_sim kbSim (gd239.app (gd240.app (gd238.app (gd223.app (gd2000000.app .nil)))))) (by rw [g0]; decide) (by rw [g0]; exact ran69) hT hG hro ha
theorem run70 [Val] (hT : ∀ f ∈ tb70, f.holds Val.σ) : Fine a35 := fun _ hG hro _ ha => below_of_args (knWith_sim kbSim (gd247.app (gd246.app (gd245.app (gd223.app (gd2000000.app .nil)))))) (by rw [g0]; decide) (by rw [g0]; exact ran70) hT hG hro ha
theorem run71 [Val] (hT : ∀ f ∈ tb71, f.holds Val.σ) : Fine a35 := fun _ hG hro _ ha => below_of_args (knWith_sim kbSim (gd247.app (gd248.app (gd245.app (gd223.app (gd2000000.app .nil)))))) (by rw [g0]; decide) (by rw [g0]; exact ran71) hT hG hro ha
theorem run72 [Val] (hT : ∀ f ∈ tb72, f.holds Val.σ) : Fine a36 := fun _ hG hro _ ha => below_of_args (knWith_sim kbSim (gd258.app (gd256.app (gd255.app (gd250.app (gd2000000.app .nil)))))) (by rw [g0]; decide) (by rw [g0]; exact ran72) hT hG hro ha
theorem run73 [Val] (hT : ∀ f ∈ tb73, f.holds Val.σ) : Fine a36 := fun _ hG hro _ ha => below_of_args (knWith_sim kbSim (gd258.app (gd259.app (gd255.app (gd250.app (gd2000000.app .nil)))))) (by rw [g0]; decide) (by rw [g0]; exact ran73) hT hG hro ha
theorem run74 [Val] (hT : ∀ f ∈ tb74, f.holds Val.σ) : Fine a37 := fun _ hG hro _ ha => below_of_args (knWith_sim kbSim (gd258.app (gd260.app (gd255.app (gd250.app (gd2000000.app .nil)))))) (by rw [g0]; decide) (by rw [g0]; exact ran74) hT hG hro ha
theorem run75 [Val] (hT : ∀ f ∈ tb75, f.holds Val.σ) : Fine a37 := fun _ hG hro _ ha => below_of_args (knWith_sim kbSim (gd258.app (gd259.app (gd255.app (gd250.app (gd2000000.app .nil)))))) (by rw [g0]; decide) (by rw [g0]; exact ran75) hT hG hro ha
theorem run76 [Val] (hT : ∀ f ∈ tb76, f.holds Val.σ) : Fine a38 := fun _ hG hro _ ha => below_of_args (knWith_sim kbSim (gd266.app (gd249.app (gd265.app (gd250.app (gd2000000.app .nil)))))) (by rw [g0]; decide) (by rw [g0]; exact ran76) hT hG hro ha
theorem run77 [Val] (hT : ∀ f ∈ tb77, f.holds Val.σ) : Fine a38 := fun _ hG hro _ ha => below_of_args (knWith_sim kbSim (gd266.app (gd267.app (gd265.app (gd250.app (gd2000000.app .nil)))))) (by rw [g0]; decide) (by rw [g0]; exact ran77) hT hG hro ha
theorem run78 [Val] (hT : ∀ f ∈ tb78, f.holds Val.σ) : Fine a39 := fun _ hG hro _ ha => below_of_args (knWith_sim kbSim (gd274.app (gd273.app (gd272.app (gd250.app (gd2000000.app .nil)))))) (by rw [g0]; decide) (by rw [g0]; exact ran78) hT hG hro ha
theorem run79 [Val] (hT : ∀ f ∈ tb79, f.holds Val.σ) : Fine a39 := fun _ hG hro _ ha => below_of_args (knWith_sim kbSim (gd274.app (gd275.app (gd272.app (gd250.app (gd2000000.app .nil)))))) (by rw [g0]; decide) (by rw [g0]; exact ran79) hT hG hro ha
theorem run80 [Val] (hT : ∀ f ∈ tb80, f.holds Val.σ) : Fine a40 := fun _ hG hro _ ha => below_of_args (knWith_sim kbSim (gd286.app (gd284.app (gd283.app (gd277.app (gd2000000.app .nil)))))) (by rw [g0]; decide) (by rw [g0]; exact ran80) hT hG hro ha
theorem run81 [Val] (hT : ∀ f ∈ tb81, f.holds Val.σ) : Fine a40 := fun _ hG hro _ ha => below_of_args (knWith_sim kbSim (gd286.app (gd287.app (gd283.app (gd277.app (gd2000000.app .nil)))))) (by rw [g0]; decide) (by rw [g0]; exact ran81) hT hG hro ha
theorem run82 [Val] (hT : ∀ f ∈ tb82, f.holds Val.σ) : Fine a41 := fun _ hG hro _ ha => below_of_args (knWith_sim kbSim (gd286.app (gd288.app (gd283.app (gd277.app (gd2000000.app .nil)))))) (by rw [g0]; decide) (by rw [g0]; exact ran82) hT hG hro ha
theorem run83 [Val] (hT : ∀ f ∈ tb83, f.holds Val.σ) : Fine a41 := fun _ hG hro _ ha => below_of_args (knWith_sim kbSim (gd286.app (gd287.app (gd283.app (gd277.app (gd2000000.app .nil)))))) (by rw [g0]; decide) (by rw [g0]; exact ran83) hT hG hro ha
theorem run84 [Val] (hT : ∀ f ∈ tb84, f.holds Val.σ) : Fine a42 := fun _ hG hro _ ha => below_of_args (knWith_sim kbSim (gd294.app (gd276.app (gd293.app (gd277.app (gd2000000.app .nil)))))) (by rw [g0]; decide) (by rw [g0]; exact ran84) hT hG hro ha
theorem run85 [Val] (hT : ∀ f ∈ tb85, f.holds Val.σ) : Fine a42 := fun _ hG hro _ ha => below_of_args (knWith_sim kbSim (gd294.app (gd295.app (gd293.app (gd277.app (gd2000000.app .nil)))))) (by rw [g0]; decide) (by rw [g0]; exact ran85) hT hG hro ha
theorem run86 [Val] (hT : ∀ f ∈ tb86, f.holds Val.σ) : Fine a43 := fun _ hG hro _ ha => below_of_args (knWith_sim kbSim (gd302.app (gd301.app (gd300.app (gd277.app (gd2000000.app .nil)))))) (by rw [g0]; decide) (by rw [g0]; exact ran86) hT hG hro ha
theorem run87 [Val] (hT : ∀ f ∈ tb87, f.holds Val.σ) : Fine a43 := fun _ hG hro _ ha => below_of_args (knWith_sim kbSim (gd302.app (gd303.app (gd300.app (gd277.app (gd2000000.app .nil)))))) (by rw [g0]; decide) (by rw [g0]; exact ran87) hT hG hro ha
theorem run88 [Val] (hT : ∀ f ∈ tb88, f.holds Val.σ) : Fine a44 := fun _ hG hro _ ha => below_of_args (knWith_sim kbSim (gd314.app (gd312.app (gd311.app (gd305.app (gd2000000.app .nil)))))) (by rw [g0]; decide) (by rw [g0]; exact ran88) hT hG hro ha
theorem run89 [Val] (hT : ∀ f ∈ tb89, f.holds Val.σ) : Fine a44 := fun _ hG hro _ ha => below_of_args (knWith_sim kbSim (gd314.app (gd315.app (gd311.app (gd305.app (gd2000000.app .nil)))))) (by rw [g0]; decide) (by rw [g0]; exact ran89) hT hG hro ha
theorem run90 [Val] (hT : ∀ f ∈ tb90, f.holds Val.σ) : Fine a45 := fun _ hG hro _ ha => below_of_args (knWith_sim kbSim (gd314.app (gd316.app (gd311.app (gd305.app (gd2000000.app .nil)))))) (by rw [g0]; decide) (by rw [g0]; exact ran90) hT hG hro ha
theorem run91 [Val] (hT : ∀ f ∈ tb91, f.holds Val.σ) : Fine a45 := fun _ hG hro _ ha => below_of_args (knWith_sim kbSim (gd314.app (gd315.app (gd311.app (gd305.app (gd2000000.app .nil)))))) (by rw [g0]; decide) (by rw [g0]; exact ran91) hT hG hro ha
theorem run92 [Val] (hT : ∀ f ∈ tb92, f.holds Val.σ) : Fine a46 := fun _ hG hro _ ha => below_of_args (knWith_sim kbSim (gd322.app (gd304.app (gd321.app (gd305.app (gd2000000.app .nil)))))) (by rw [g0]; decide) (by rw [g0]; exact ran92) hT hG hro ha
theorem run93 [Val] (hT : ∀ f ∈ tb93, f.holds Val.σ) : Fine a46 := fun _ hG hro _ ha => below_of_args (knWith_sim kbSim (gd322.app (gd323.app (gd321.app (gd305.app (gd2000000.app .nil)))))) (by rw [g0]; decide) (by rw [g0]; exact ran93) hT hG hro ha
theorem run94 [Val] (hT : ∀ f ∈ tb94, f.holds Val.σ) : Fine a47 := fun _ hG hro _ ha => below_of_args (knWith_sim kbSim (gd330.app (gd329.app (gd328.app (gd305.app (gd2000000.app .nil)))))) (by rw [g0]; decide) (by rw [g0]; exact ran94) hT hG hro ha
theorem run95 [Val] (hT : ∀ f ∈ tb95, f.holds Val.σ) : Fine a47 := fun _ hG hro _ ha => below_of_args (knWith_sim kbSim (gd330.app (gd331.app (gd328.app (gd305.app (gd2000000.app .nil)))))) (by rw [g0]; decide) (by rw [g0]; exact ran95) hT hG hro ha
theorem cls0 [Val] : Fine a0 := by
  rcases Fact.em Val.σ false (.sub x198 (.const 1)) (.const 1) with h0 | h0
  · exact run0 (holds_cons h0 (holds_nil _))
  · exact run1 (holds_cons h0 (holds_nil _))
theorem cls1 [Val] : Fine a1 := by
  rcases Fact.em Val.σ false (.sub x198 (.const 1)) (.const 1) with h0 | h0
  · exact run2 (holds_cons h0 (holds_nil _))
  · exact run3 (holds_cons h0 (holds_nil _))
theorem cls2 [Val] : Fine a2 := by
  rcases Fact.em Val.σ false (.sub x198 (.const 1)) (.const 1) with h0 | h0
  · exact run4 (holds_cons h0 (holds_nil _))
  · exact run5 (holds_cons h0 (holds_nil _))
theorem cls3 [Val] : Fine a3 := by
  rcases Fact.em Val.σ false (.sub x198 (.const 1)) (.const 1) with h0 | h0
  · exact run6 (holds_cons h0 (holds_nil _))
  · exact run7 (holds_cons h0 (holds_nil _))
theorem cls4 [Val] : Fine a4 := by
  rcases Fact.em Val.σ false (.sub x198 (.const 1)) (.const 1) with h0 | h0
  · exact run8 (holds_cons h0 (holds_nil _))
  · exact run9 (holds_cons h0 (holds_nil _))
theorem cls5 [Val] : Fine a5 := by
  rcases Fact.em Val.σ false (.sub x198 (.const 1)) (.const 1) with h0 | h0
  · exact run10 (holds_cons h0 (holds_nil _))
  · exact run11 (holds_cons h0 (holds_nil _))
theorem cls6 [Val] : Fine a6 := by
  rcases Fact.em Val.σ false (.sub x198 (.const 1)) (.const 1) with h0 | h0
  · exact run12 (holds_cons h0 (holds_nil _))
  · exact run13 (holds_cons h0 (holds_nil _))
theorem cls7 [Val] : Fine a7 := by
  rcases Fact.em Val.σ false (.sub x198 (.const 1)) (.const 1) with h0 | h0
  · exact run14 (holds_cons h0 (holds_nil _))
  · exact run15 (holds_cons h0 (holds_nil _))
theorem cls8 [Val] : Fine a8 := by
  rcases Fact.em Val.σ false (.sub x198 (.const 1)) (.const 1) with h0 | h0
  · exact run16 (holds_cons h0 (holds_nil _))
  · exact run17 (holds_cons h0 (holds_nil _))
theorem cls9 [Val] : Fine a9 := by
  rcases Fact.em Val.σ false (.sub x198 (.const 1)) (.const 1) with h0 | h0
  · exact run18 (holds_cons h0 (holds_nil _))
  · exact run19 (holds_cons h0 (holds_nil _))
theorem cls10 [Val] : Fine a10 := by
  rcases Fact.em Val.σ false (.sub x198 (.const 1)) (.const 1) with h0 | h0
  · exact run20 (holds_cons h0 (holds_nil _))
  · exact run21 (holds_cons h0 (holds_nil _))
theorem cls11 [Val] : Fine a11 := by
  rcases Fact.em Val.σ false (.sub x198 (.const 1)) (.const 1) with h0 | h0
  · exact run22 (holds_cons h0 (holds_nil _))
  · exact run23 (holds_cons h0 (holds_nil _))
theorem cls12 [Val] : Fine a12 := by
  rcases Fact.em Val.σ false (.sub x198 (.const 1)) (.const 1) with h0 | h0
  · exact run24 (holds_cons h0 (holds_nil _))
  · exact run25 (holds_cons h0 (holds_nil _))
theorem cls13 [Val] : Fine a13 := by
  rcases Fact.em Val.σ false (.sub x198 (.const 1)) (.const 1) with h0 | h0
  · exact run26 (holds_cons h0 (holds_nil _))
  · exact run27 (holds_cons h0 (holds_nil _))
theorem cls14 [Val] : Fine a14 := by
  rcases Fact.em Val.σ false (.sub x198 (.const 1)) (.const 1) with h0 | h0
  · exact run28 (holds_cons h0 (holds_nil _))
  · exact run29 (holds_cons h0 (holds_nil _))
theorem cls15 [Val] : Fine a15 := by
  rcases Fact.em Val.σ false (.sub x198 (.const 1)) (.const 1) with h0 | h0
  · exact run30 (holds_cons h0 (holds_nil _))
  · exact run31 (holds_cons h0 (holds_nil _))
theorem cls16 [Val] : Fine a16 := by
  rcases Fact.em Val.σ false (.sub x198 (.const 1)) (.const 1) with h0 | h0
  · exact run32 (holds_cons h0 (holds_nil _))
  · exact run33 (holds_cons h0 (holds_nil _))
theorem cls17 [Val] : Fine a17 := by
  rcases Fact.em Val.σ false (.sub x198 (.const 1)) (.const 1) with h0 | h0
  · exact run34 (holds_cons h0 (holds_nil _))
  · exact run35 (holds_cons h0 (holds_nil _))
theorem cls18 [Val] : Fine a18 := by
  rcases Fact.em Val.σ false (.sub x198 (.const 1)) (.const 1) with h0 | h0
  · exact run36 (holds_cons h0 (holds_nil _))
  · exact run37 (holds_cons h0 (holds_nil _))
theorem cls19 [Val] : Fine a19 := by
  rcases Fact.em Val.σ false (.sub x198 (.const 1)) (.const 1) with h0 | h0
  · exact run38 (holds_cons h0 (holds_nil _))
  · exact run39 (holds_cons h0 (holds_nil _))
theorem cls20 [Val] : Fine a20 := by
  rcases Fact.em Val.σ false (.sub x198 (.const 1)) (.const 1) with h0 | h0
  · exact run40 (holds_cons h0 (holds_nil _))
  · exact run41 (holds_cons h0 (holds_nil _))
theorem cls21 [Val] : Fine a21 := by
  rcases Fact.em Val.σ false (.sub x198 (.const 1)) (.const 1) with h0 | h0
  · exact run42 (holds_cons h0 (holds_nil _))
  · exact run43 (holds_cons h0 (holds_nil _))
theorem cls22 [Val] : Fine a22 := by
  rcases Fact.em Val.σ false (.sub x198 (.const 1)) (.const 1) with h0 | h0
  · exact run44 (holds_cons h0 (holds_nil _))
  · exact run45 (holds_cons h0 (holds_nil _))
theorem cls23 [Val] : Fine a23 := by
  rcases Fact.em Val.σ false (.sub x198 (.const 1)) (.const 1) with h0 | h0
  · exact run46 (holds_cons h0 (holds_nil _))
  · exact run47 (holds_cons h0 (holds_nil _))
theorem cls24 [Val] : Fine a24 := by
  rcases Fact.em Val.σ false (.sub x198 (.const 1)) (.const 1) with h0 | h0
  · exact run48 (holds_cons h0 (holds_nil _))
  · exact run49 (holds_cons h0 (holds_nil _))
theorem cls25 [Val] : Fine a25 := by
  rcases Fact.em Val.σ false (.sub x198 (.const 1)) (.const 1) with h0 | h0
  · exact run50 (holds_cons h0 (holds_nil _))
  · exact run51 (holds_cons h0 (holds_nil _))
theorem cls26 [Val] : Fine a26 := by
  rcases Fact.em Val.σ false (.sub x198 (.const 1)) (.const 1) with h0 | h0
  · exact run52 (holds_cons h0 (holds_nil _))
  · exact run53 (holds_cons h0 (holds_nil _))
theorem cls27 [Val] : Fine a27 := by
  rcases Fact.em Val.σ false (.sub x198 (.const 1)) (.const 1) with h0 | h0
  · exact run54 (holds_cons h0 (holds_nil _))
  · exact run55 (holds_cons h0 (holds_nil _))
theorem cls28 [Val] : Fine a28 := by
  rcases Fact.em Val.σ false (.sub x198 (.const 1)) (.const 1) with h0 | h0
  · exact run56 (holds_cons h0 (holds_nil _))
  · exact run57 (holds_cons h0 (holds_nil _))
theorem cls29 [Val] : Fine a29 := by
  rcases Fact.em Val.σ false (.sub x198 (.const 1)) (.const 1) with h0 | h0
  · exact run58 (holds_cons h0 (holds_nil _))
  · exact run59 (holds_cons h0 (holds_nil _))
theorem cls30 [Val] : Fine a30 := by
  rcases Fact.em Val.σ false (.sub x198 (.const 1)) (.const 1) with h0 | h0
  · exact run60 (holds_cons h0 (holds_nil _))
  · exact run61 (holds_cons h0 (holds_nil _))
theorem cls31 [Val] : Fine a31 := by
  rcases Fact.em Val.σ false (.sub x198 (.const 1)) (.const 1) with h0 | h0
  · exact run62 (holds_cons h0 (holds_nil _))
  · exact run63 (holds_cons h0 (holds_nil _))
theorem cls32 [Val] : Fine a32 := by
  rcases Fact.em Val.σ false (.sub x198 (.const 1)) (.const 1) with h0 | h0
  · exact run64 (holds_cons h0 (holds_nil _))
  · exact run65 (holds_cons h0 (holds_nil _))
theorem cls33 [Val] : Fine a33 := by
  rcases Fact.em Val.σ false (.sub x198 (.const 1)) (.const 1) with h0 | h0
  · exact run66 (holds_cons h0 (holds_nil _))
  · exact run67 (holds_cons h0 (holds_nil _))
theorem cls34 [Val] : Fine a34 := by
  rcases Fact.em Val.σ false (.sub x198 (.const 1)) (.const 1) with h0 | h0
  · exact run68 (holds_cons h0 (holds_nil _))
  · exact run69 (holds_cons h0 (holds_nil _))
theorem cls35 [Val] : Fine a35 := by
  rcases Fact.em Val.σ false (.sub x198 (.const 1)) (.const 1) with h0 | h0
  · exact run70 (holds_cons h0 (holds_nil _))
  · exact run71 (holds_cons h0 (holds_nil _))
theorem cls36 [Val] : Fine a36 := by
  rcases Fact.em Val.σ false (.sub x198 (.const 1)) (.const 1) with h0 | h0
  · exact run72 (holds_cons h0 (holds_nil _))
  · exact run73 (holds_cons h0 (holds_nil _))
theorem cls37 [Val] : Fine a37 := by
  rcases Fact.em Val.σ false (.sub x198 (.const 1)) (.const 1) with h0 | h0
  · exact run74 (holds_cons h0 (holds_nil _))
  · exact run75 (holds_cons h0 (holds_nil _))
theorem cls38 [Val] : Fine a38 := by
  rcases Fact.em Val.σ false (.sub x198 (.const 1)) (.const 1) with h0 | h0
  · exact run76 (holds_cons h0 (holds_nil _))
  · exact run77 (holds_cons h0 (holds_nil _))
theorem cls39 [Val] : Fine a39 := by
  rcases Fact.em Val.σ false (.sub x198 (.const 1)) (.const 1) with h0 | h0
  · exact run78 (holds_cons h0 (holds_nil _))
  · exact run79 (holds_cons h0 (holds_nil _))
theorem cls40 [Val] : Fine a40 := by
  rcases Fact.em Val.σ false (.sub x198 (.const 1)) (.const 1) with h0 | h0
  · exact run80 (holds_cons h0 (holds_nil _))
  · exact run81 (holds_cons h0 (holds_nil _))
theorem cls41 [Val] : Fine a41 := by
  rcases Fact.em Val.σ false (.sub x198 (.const 1)) (.const 1) with h0 | h0
  · exact run82 (holds_cons h0 (holds_nil _))
  · exact run83 (holds_cons h0 (holds_nil _))
theorem cls42 [Val] : Fine a42 := by
  rcases Fact.em Val.σ false (.sub x198 (.const 1)) (.const 1) with h0 | h0
  · exact run84 (holds_cons h0 (holds_nil _))
  · exact run85 (holds_cons h0 (holds_nil _))
theorem cls43 [Val] : Fine a43 := by
  rcases Fact.em Val.σ false (.sub x198 (.const 1)) (.const 1) with h0 | h0
  · exact run86 (holds_cons h0 (holds_nil _))
  · exact run87 (holds_cons h0 (holds_nil _))
theorem cls44 [Val] : Fine a44 := by
  rcases Fact.em Val.σ false (.sub x198 (.const 1)) (.const 1) with h0 | h0
  · exact run88 (holds_cons h0 (holds_nil _))
  · exact run89 (holds_cons h0 (holds_nil _))
theorem cls45 [Val] : Fine a45 := by
  rcases Fact.em Val.σ false (.sub x198 (.const 1)) (.const 1) with h0 | h0
  · exact run90 (holds_cons h0 (holds_nil _))
  · exact run91 (holds_cons h0 (holds_nil _))
theorem cls46 [Val] : Fine a46 := by
  rcases Fact.em Val.σ false (.sub x198 (.const 1)) (.const 1) with h0 | h0
  · exact run92 (holds_cons h0 (holds_nil _))
  · exact run93 (holds_cons h0 (holds_nil _))
theorem cls47 [Val] : Fine a47 := by
  rcases Fact.em Val.σ false (.sub x198 (.const 1)) (.const 1) with h0 | h0
  · exact run94 (holds_cons h0 (holds_nil _))
  · exact run95 (holds_cons h0 (holds_nil _))
abbrev vals (o c b2 b3 b4 b5 b6 b7 b8 b9 b10 b11 asks q u : Int) : Val := ⟨fun i => match i with
  | 2 => b2
  | 3 => b3
  | 4 => b4
  | 5 => b5
  | 6 => b6
  | 7 => b7
  | 8 => b8
  | 9 => b9
  | 10 => b10
  | 11 => b11
  | 0 => q
  | 1 => u
  | 13 => asks
  | 20 => o / 3
  | 21 => c / 4
  | _ => 0⟩

theorem shape_vr [Val] {φ : Phi} {tv : AV} {t : Bool} (ht : VR φ tv (.bool t)) {o c b2 b3 b4 b5 b6 b7 b8 b9 b10 b11 : Int} (lo : 0 ≤ o) (ho : o ≤ 255) (lc : 0 ≤ c) (hc : c ≤ 255) (lb2 : 0 ≤ b2) (hb2 : b2 ≤ 255) (lb3 : 0 ≤ b3) (hb3 : b3 ≤ 255) (lb4 : 0 ≤ b4) (hb4 : b4 ≤ 255) (lb5 : 0 ≤ b5) (hb5 : b5 ≤ 255) (lb6 : 0 ≤ b6) (hb6 : b6 ≤ 255) (lb7 : 0 ≤ b7) (hb7 : b7 ≤ 255) (lb8 : 0 ≤ b8) (hb8 : b8 ≤ 255) (lb9 : 0 ≤ b9) (hb9 : b9 ≤ 255) (lb10 : 0 ≤ b10) (hb10 : b10 ≤ 255) (lb11 : 0 ≤ b11) (hb11 : b11 ≤ 255) (r0 q0 h0 r1 h1 : Int)
    (e20 : Val.σ 20 = o / 3) (e21 : Val.σ 21 = c / 4) (e2 : Val.σ 2 = b2) (e3 : Val.σ 3 = b3) (e4 : Val.σ 4 = b4) (e5 : Val.σ 5 = b5) (e6 : Val.σ 6 = b6) (e7 : Val.σ 7 = b7) (e8 : Val.σ 8 = b8) (e9 : Val.σ 9 = b9) (e10 : Val.σ 10 = b10) (e11 : Val.σ 11 = b11) (m0 : o % 3 = r0) (m1 : c % 4 = r1) (g0 : o / 3 ≤ q0) (g1 : r0 ≤ o ∧ o ≤ h0) (g2 : r1 ≤ c ∧ c ≤ h1) :
    VR φ (.agg 13 4 .junk (setFrom 4 .e 0 [.sym .u8 r0 h0 (.add (.mul (.const 3) (.var 20 0 q0)) (.const r0)), .sym .u8 r1 h1 (.add (.mul (.const 4) (.var 21 0 63)) (.const r1)),
      .sym .u8 0 255 (.var 2 0 255), .sym .u8 0 255 (.var 3 0 255), .sym .u8 0 255 (.var 4 0 255), .sym .u8 0 255 (.var 5 0 255), .sym .u8 0 255 (.var 6 0 255), .sym .u8 0 255 (.var 7 0 255), .sym .u8 0 255 (.var 8 0 255), .sym .u8 0 255 (.var 9 0 255), .sym .u8 0 255 (.var 10 0 255), .sym .u8 0 255 (.var 11 0 255), tv])) (.agg #[.int .u8 o, .int .u8 c, .int .u8 b2, .int .u8 b3, .int .u8 b4, .int .u8 b5, .int .u8 b6, .int .u8 b7, .int .u8 b8, .int .u8 b9, .int .u8 b10, .int .u8 b11, .bool t]) := by
  refine VRs.agg (m := [.int .u8 o, .int .u8 c, .int .u8 b2, .int .u8 b3, .int .u8 b4, .int .u8 b5, .int .u8 b6, .int .u8 b7, .int .u8 b8, .int .u8 b9, .int .u8 b10, .int .u8 b11, .bool t]) (.cons (.sym ?_ g1.1 g1.2) (.cons (.sym ?_ g2.1 g2.2) (.cons (vr_var 2 e2 lb2 hb2) (.cons (vr_var 3 e3 lb3 hb3) (.cons (vr_var 4 e4 lb4 hb4) (.cons (vr_var 5 e5 lb5 hb5) (.cons (vr_var 6 e6 lb6 hb6) (.cons (vr_var 7 e7 lb7 hb7) (.cons (vr_var 8 e8 lb8 hb8) (.cons (vr_var 9 e9 lb9 hb9) (.cons (vr_var 10 e10 lb10 hb10) (.cons (vr_var 11 e11 lb11 hb11) (.cons ht .nil))))))))))))) rfl rfl (by decide)
  · show 3 * clampI 0 q0 (Val.σ 20) + r0 = o
    rw [e20, clampI_id (by omega) g0]; omega
  · show 4 * clampI 0 63 (Val.σ 21) + r1 = c
    rw [e21, clampI_id (by omega) (by omega)]; omega

theorem lr3 [Val] {φ : Phi} {a b c : AV} {x y z : Value} (h : VR φ a x) (h' : VR φ b y) (h'' : VR φ c z) : LR φ [a, b, c] #[x, y, z] := VRs.lr (m := [x, y, z]) (.cons h (.cons h' (.cons h'' .nil)))

theorem law (o c b2 b3 b4 b5 b6 b7 b8 b9 b10 b11 : Int) (t : Bool) (asks port : Int) (lo : 0 ≤ o) (ho : o ≤ 255) (lc : 0 ≤ c) (hc : c ≤ 255) (lb2 : 0 ≤ b2) (hb2 : b2 ≤ 255) (lb3 : 0 ≤ b3) (hb3 : b3 ≤ 255) (lb4 : 0 ≤ b4) (hb4 : b4 ≤ 255) (lb5 : 0 ≤ b5) (hb5 : b5 ≤ 255) (lb6 : 0 ≤ b6) (hb6 : b6 ≤ 255) (lb7 : 0 ≤ b7) (hb7 : b7 ≤ 255) (lb8 : 0 ≤ b8) (hb8 : b8 ≤ 255) (lb9 : 0 ≤ b9) (hb9 : b9 ≤ 255) (lb10 : 0 ≤ b10) (hb10 : b10 ≤ 255) (lb11 : 0 ≤ b11) (hb11 : b11 ≤ 255) (lw : 0 ≤ asks) (hw : asks ≤ 255) (lp : 0 ≤ port) (hp : port ≤ 255) (w : World) :
    Calls Tryz.prog 4 #[.agg #[.int .u8 o, .int .u8 c, .int .u8 b2, .int .u8 b3, .int .u8 b4, .int .u8 b5, .int .u8 b6, .int .u8 b7, .int .u8 b8, .int .u8 b9, .int .u8 b10, .int .u8 b11, .bool t], .int .u8 asks, .int .u8 port] w fun e w' => e = .returned (.bool true) ∧ Below w.heap.size w w' := by
  have hG : Tryz.prog.globals.size ≤ w.heap.size := by rw [g0]; exact Nat.zero_le _
  have hro : Ro0 Tryz.prog.globals.size w := fun _ _ _ _ h => by simp [roTab] at h
  have sv := fun (q u r0 q0 h0 r1 h1 : Int) => @shape_vr (vals o c b2 b3 b4 b5 b6 b7 b8 b9 b10 b11 asks q u) (phi0 Tryz.prog.globals.size) .anyb t (@VR.anyb (vals o c b2 b3 b4 b5 b6 b7 b8 b9 b10 b11 asks q u) _ _) o c b2 b3 b4 b5 b6 b7 b8 b9 b10 b11 lo ho lc hc lb2 hb2 lb3 hb3 lb4 hb4 lb5 hb5 lb6 hb6 lb7 hb7 lb8 hb8 lb9 hb9 lb10 hb10 lb11 hb11 r0 q0 h0 r1 h1 rfl rfl rfl rfl rfl rfl rfl rfl rfl rfl rfl rfl
  have m0 : o % 3 = 0 ∨ o % 3 = 1 ∨ o % 3 = 2 := by omega
  have m1 : c % 4 = 0 ∨ c % 4 = 1 ∨ c % 4 = 2 ∨ c % 4 = 3 := by omega
  have mp : (128 ≤ port ∧ 24 ≤ port % 40) ∨ port < 128 ∨ (128 ≤ port ∧ port % 40 < 24 ∧ port % 2 = 0) ∨ (128 ≤ port ∧ port % 40 < 24 ∧ port % 2 = 1) := by omega
  rcases m0 with m0 | m0 | m0
  · rcases m1 with m1 | m1 | m1 | m1
    · rcases mp with ⟨g1, g2⟩ | g1 | ⟨g1, g2, g3⟩ | ⟨g1, g2, g3⟩
      · letI : Val := vals o c b2 b3 b4 b5 b6 b7 b8 b9 b10 b11 asks (port / 40) (port % 40 - 24)
        exact cls0 w hG hro _ (lr3 (sv (port / 40) (port % 40 - 24) 0 85 255 0 252 m0 m1 (by omega) (by omega) (by omega)) (vr_var 13 rfl lw hw) (.sym (by show 40 * clampI 3 6 (port / 40) + (24 + clampI 0 15 (port % 40 - 24)) = port; rw [clampI_id (by omega) (by omega), clampI_id (by omega) (by omega)]; omega) (by omega) (by omega)))
      · letI : Val := vals o c b2 b3 b4 b5 b6 b7 b8 b9 b10 b11 asks (port / 4) (port % 4)
        exact cls1 w hG hro _ (lr3 (sv (port / 4) (port % 4) 0 85 255 0 252 m0 m1 (by omega) (by omega) (by omega)) (vr_var 13 rfl lw hw) (.sym (by show 4 * clampI 0 31 (port / 4) + clampI 0 3 (port % 4) = port; rw [clampI_id (by omega) (by omega), clampI_id (by omega) (by omega)]; omega) (by omega) (by omega)))
      · letI : Val := vals o c b2 b3 b4 b5 b6 b7 b8 b9 b10 b11 asks (port / 40) (port % 40 / 2)
        exact cls2 w hG hro _ (lr3 (sv (port / 40) (port % 40 / 2) 0 85 255 0 252 m0 m1 (by omega) (by omega) (by omega)) (vr_var 13 rfl lw hw) (.sym (by show 40 * clampI 3 6 (port / 40) + (2 * clampI 0 11 (port % 40 / 2) + 0) = port; rw [clampI_id (by omega) (by omega), clampI_id (by omega) (by omega)]; omega) (by omega) (by omega)))
      · letI : Val := vals o c b2 b3 b4 b5 b6 b7 b8 b9 b10 b11 asks (port / 40) (port % 40 / 2)
        exact cls3 w hG hro _ (lr3 (sv (port / 40) (port % 40 / 2) 0 85 255 0 252 m0 m1 (by omega) (by omega) (by omega)) (vr_var 13 rfl lw hw) (.sym (by show 40 * clampI 3 6 (port / 40) + (2 * clampI 0 11 (port % 40 / 2) + 1) = port; rw [clampI_id (by omega) (by omega), clampI_id (by omega) (by omega)]; omega) (by omega) (by omega)))
    · rcases mp with ⟨g1, g2⟩ | g1 | ⟨g1, g2, g3⟩ | ⟨g1, g2, g3⟩
      · letI : Val := vals o c b2 b3 b4 b5 b6 b7 b8 b9 b10 b11 asks (port / 40) (port % 40 - 24)
        exact cls4 w hG hro _ (lr3 (sv (port / 40) (port % 40 - 24) 0 85 255 1 253 m0 m1 (by omega) (by omega) (by omega)) (vr_var 13 rfl lw hw) (.sym (by show 40 * clampI 3 6 (port / 40) + (24 + clampI 0 15 (port % 40 - 24)) = port; rw [clampI_id (by omega) (by omega), clampI_id (by omega) (by omega)]; omega) (by omega) (by omega)))
      · letI : Val := vals o c b2 b3 b4 b5 b6 b7 b8 b9 b10 b11 asks (port / 4) (port % 4)
        exact cls5 w hG hro _ (lr3 (sv (port / 4) (port % 4) 0 85 255 1 253 m0 m1 (by omega) (by omega) (by omega)) (vr_var 13 rfl lw hw) (.sym (by show 4 * clampI 0 31 (port / 4) + clampI 0 3 (port % 4) = port; rw [clampI_id (by omega) (by omega), clampI_id (by omega) (by omega)]; omega) (by omega) (by omega)))
      · letI : Val := vals o c b2 b3 b4 b5 b6 b7 b8 b9 b10 b11 asks (port / 40) (port % 40 / 2)
        exact cls6 w hG hro _ (lr3 (sv (port / 40) (port % 40 / 2) 0 85 255 1 253 m0 m1 (by omega) (by omega) (by omega)) (vr_var 13 rfl lw hw) (.sym (by show 40 * clampI 3 6 (port / 40) + (2 * clampI 0 11 (port % 40 / 2) + 0) = port; rw [clampI_id (by omega) (by omega), clampI_id (by omega) (by omega)]; omega) (by omega) (by omega)))
      · letI : Val := vals o c b2 b3 b4 b5 b6 b7 b8 b9 b10 b11 asks (port / 40) (port % 40 / 2)
        exact cls7 w hG hro _ (lr3 (sv (port / 40) (port % 40 / 2) 0 85 255 1 253 m0 m1 (by omega) (by omega) (by omega)) (vr_var 13 rfl lw hw) (.sym (by show 40 * clampI 3 6 (port / 40) + (2 * clampI 0 11 (port % 40 / 2) + 1) = port; rw [clampI_id (by omega) (by omega), clampI_id (by omega) (by omega)]; omega) (by omega) (by omega)))
    · rcases mp with ⟨g1, g2⟩ | g1 | ⟨g1, g2, g3⟩ | ⟨g1, g2, g3⟩
      · letI : Val := vals o c b2 b3 b4 b5 b6 b7 b8 b9 b10 b11 asks (port / 40) (port % 40 - 24)
        exact cls8 w hG hro _ (lr3 (sv (port / 40) (port % 40 - 24) 0 85 255 2 254 m0 m1 (by omega) (by omega) (by omega)) (vr_var 13 rfl lw hw) (.sym (by show 40 * clampI 3 6 (port / 40) + (24 + clampI 0 15 (port % 40 - 24)) = port; rw [clampI_id (by omega) (by omega), clampI_id (by omega) (by omega)]; omega) (by omega) (by omega)))
      · letI : Val := vals o c b2 b3 b4 b5 b6 b7 b8 b9 b10 b11 asks (port / 4) (port % 4)
        exact cls9 w hG hro _ (lr3 (sv (port / 4) (port % 4) 0 85 255 2 254 m0 m1 (by omega) (by omega) (by omega)) (vr_var 13 rfl lw hw) (.sym (by show 4 * clampI 0 31 (port / 4) + clampI 0 3 (port % 4) = port; rw [clampI_id (by omega) (by omega), clampI_id (by omega) (by omega)]; omega) (by omega) (by omega)))
      · letI : Val := vals o c b2 b3 b4 b5 b6 b7 b8 b9 b10 b11 asks (port / 40) (port % 40 / 2)
        exact cls10 w hG hro _ (lr3 (sv (port / 40) (port % 40 / 2) 0 85 255 2 254 m0 m1 (by omega) (by omega) (by omega)) (vr_var 13 rfl lw hw) (.sym (by show 40 * clampI 3 6 (port / 40) + (2 * clampI 0 11 (port % 40 / 2) + 0) = port; rw [clampI_id (by omega) (by omega), clampI_id (by omega) (by omega)]; omega) (by omega) (by omega)))
      · letI : Val := vals o c b2 b3 b4 b5 b6 b7 b8 b9 b10 b11 asks (port / 40) (port % 40 / 2)
        exact cls11 w hG hro _ (lr3 (sv (port / 40) (port % 40 / 2) 0 85 255 2 254 m0 m1 (by omega) (by omega) (by omega)) (vr_var 13 rfl lw hw) (.sym (by show 40 * clampI 3 6 (port / 40) + (2 * clampI 0 11 (port % 40 / 2) + 1) = port; rw [clampI_id (by omega) (by omega), clampI_id (by omega) (by omega)]; omega) (by omega) (by omega)))
    · rcases mp with ⟨g1, g2⟩ | g1 | ⟨g1, g2, g3⟩ | ⟨g1, g2, g3⟩
      · letI : Val := vals o c b2 b3 b4 b5 b6 b7 b8 b9 b10 b11 asks (port / 40) (port % 40 - 24)
        exact cls12 w hG hro _ (lr3 (sv (port / 40) (port % 40 - 24) 0 85 255 3 255 m0 m1 (by omega) (by omega) (by omega)) (vr_var 13 rfl lw hw) (.sym (by show 40 * clampI 3 6 (port / 40) + (24 + clampI 0 15 (port % 40 - 24)) = port; rw [clampI_id (by omega) (by omega), clampI_id (by omega) (by omega)]; omega) (by omega) (by omega)))
      · letI : Val := vals o c b2 b3 b4 b5 b6 b7 b8 b9 b10 b11 asks (port / 4) (port % 4)
        exact cls13 w hG hro _ (lr3 (sv (port / 4) (port % 4) 0 85 255 3 255 m0 m1 (by omega) (by omega) (by omega)) (vr_var 13 rfl lw hw) (.sym (by show 4 * clampI 0 31 (port / 4) + clampI 0 3 (port % 4) = port; rw [clampI_id (by omega) (by omega), clampI_id (by omega) (by omega)]; omega) (by omega) (by omega)))
      · letI : Val := vals o c b2 b3 b4 b5 b6 b7 b8 b9 b10 b11 asks (port / 40) (port % 40 / 2)
        exact cls14 w hG hro _ (lr3 (sv (port / 40) (port % 40 / 2) 0 85 255 3 255 m0 m1 (by omega) (by omega) (by omega)) (vr_var 13 rfl lw hw) (.sym (by show 40 * clampI 3 6 (port / 40) + (2 * clampI 0 11 (port % 40 / 2) + 0) = port; rw [clampI_id (by omega) (by omega), clampI_id (by omega) (by omega)]; omega) (by omega) (by omega)))
      · letI : Val := vals o c b2 b3 b4 b5 b6 b7 b8 b9 b10 b11 asks (port / 40) (port % 40 / 2)
        exact cls15 w hG hro _ (lr3 (sv (port / 40) (port % 40 / 2) 0 85 255 3 255 m0 m1 (by omega) (by omega) (by omega)) (vr_var 13 rfl lw hw) (.sym (by show 40 * clampI 3 6 (port / 40) + (2 * clampI 0 11 (port % 40 / 2) + 1) = port; rw [clampI_id (by omega) (by omega), clampI_id (by omega) (by omega)]; omega) (by omega) (by omega)))
  · rcases m1 with m1 | m1 | m1 | m1
    · rcases mp with ⟨g1, g2⟩ | g1 | ⟨g1, g2, g3⟩ | ⟨g1, g2, g3⟩
      · letI : Val := vals o c b2 b3 b4 b5 b6 b7 b8 b9 b10 b11 asks (port / 40) (port % 40 - 24)
        exact cls16 w hG hro _ (lr3 (sv (port / 40) (port % 40 - 24) 1 84 253 0 252 m0 m1 (by omega) (by omega) (by omega)) (vr_var 13 rfl lw hw) (.sym (by show 40 * clampI 3 6 (port / 40) + (24 + clampI 0 15 (port % 40 - 24)) = port; rw [clampI_id (by omega) (by omega), clampI_id (by omega) (by omega)]; omega) (by omega) (by omega)))
      · letI : Val := vals o c b2 b3 b4 b5 b6 b7 b8 b9 b10 b11 asks (port / 4) (port % 4)
        exact cls17 w hG hro _ (lr3 (sv (port / 4) (port % 4) 1 84 253 0 252 m0 m1 (by omega) (by omega) (by omega)) (vr_var 13 rfl lw hw) (.sym (by show 4 * clampI 0 31 (port / 4) + clampI 0 3 (port % 4) = port; rw [clampI_id (by omega) (by omega), clampI_id (by omega) (by omega)]; omega) (by omega) (by omega)))
      · letI : Val := vals o c b2 b3 b4 b5 b6 b7 b8 b9 b10 b11 asks (port / 40) (port % 40 / 2)
        exact cls18 w hG hro _ (lr3 (sv (port / 40) (port % 40 / 2) 1 84 253 0 252 m0 m1 (by omega) (by omega) (by omega)) (vr_var 13 rfl lw hw) (.sym (by show 40 * clampI 3 6 (port / 40) + (2 * clampI 0 11 (port % 40 / 2) + 0) = port; rw [clampI_id (by omega) (by omega), clampI_id (by omega) (by omega)]; omega) (by omega) (by omega)))
      · letI : Val := vals o c b2 b3 b4 b5 b6 b7 b8 b9 b10 b11 asks (port / 40) (port % 40 / 2)
        exact cls19 w hG hro _ (lr3 (sv (port / 40) (port % 40 / 2) 1 84 253 0 252 m0 m1 (by omega) (by omega) (by omega)) (vr_var 13 rfl lw hw) (.sym (by show 40 * clampI 3 6 (port / 40) + (2 * clampI 0 11 (port % 40 / 2) + 1) = port; rw [clampI_id (by omega) (by omega), clampI_id (by omega) (by omega)]; omega) (by omega) (by omega)))
    · rcases mp with ⟨g1, g2⟩ | g1 | ⟨g1, g2, g3⟩ | ⟨g1, g2, g3⟩
      · letI : Val := vals o c b2 b3 b4 b5 b6 b7 b8 b9 b10 b11 asks (port / 40) (port % 40 - 24)
        exact cls20 w hG hro _ (lr3 (sv (port / 40) (port % 40 - 24) 1 84 253 1 253 m0 m1 (by omega) (by omega) (by omega)) (vr_var 13 rfl lw hw) (.sym (by show 40 * clampI 3 6 (port / 40) + (24 + clampI 0 15 (port % 40 - 24)) = port; rw [clampI_id (by omega) (by omega), clampI_id (by omega) (by omega)]; omega) (by omega) (by omega)))
      · letI : Val := vals o c b2 b3 b4 b5 b6 b7 b8 b9 b10 b11 asks (port / 4) (port % 4)
        exact cls21 w hG hro _ (lr3 (sv (port / 4) (port % 4) 1 84 253 1 253 m0 m1 (by omega) (by omega) (by omega)) (vr_var 13 rfl lw hw) (.sym (by show 4 * clampI 0 31 (port / 4) + clampI 0 3 (port % 4) = port; rw [clampI_id (by omega) (by omega), clampI_id (by omega) (by omega)]; omega) (by omega) (by omega)))
      · letI : Val := vals o c b2 b3 b4 b5 b6 b7 b8 b9 b10 b11 asks (port / 40) (port % 40 / 2)
        exact cls22 w hG hro _ (lr3 (sv (port / 40) (port % 40 / 2) 1 84 253 1 253 m0 m1 (by omega) (by omega) (by omega)) (vr_var 13 rfl lw hw) (.sym (by show 40 * clampI 3 6 (port / 40) + (2 * clampI 0 11 (port % 40 / 2) + 0) = port; rw [clampI_id (by omega) (by omega), clampI_id (by omega) (by omega)]; omega) (by omega) (by omega)))
      · letI : Val := vals o c b2 b3 b4 b5 b6 b7 b8 b9 b10 b11 asks (port / 40) (port % 40 / 2)
        exact cls23 w hG hro _ (lr3 (sv (port / 40) (port % 40 / 2) 1 84 253 1 253 m0 m1 (by omega) (by omega) (by omega)) (vr_var 13 rfl lw hw) (.sym (by show 40 * clampI 3 6 (port / 40) + (2 * clampI 0 11 (port % 40 / 2) + 1) = port; rw [clampI_id (by omega) (by omega), clampI_id (by omega) (by omega)]; omega) (by omega) (by omega)))
    · rcases mp with ⟨g1, g2⟩ | g1 | ⟨g1, g2, g3⟩ | ⟨g1, g2, g3⟩
      · letI : Val := vals o c b2 b3 b4 b5 b6 b7 b8 b9 b10 b11 asks (port / 40) (port % 40 - 24)
        exact cls24 w hG hro _ (lr3 (sv (port / 40) (port % 40 - 24) 1 84 253 2 254 m0 m1 (by omega) (by omega) (by omega)) (vr_var 13 rfl lw hw) (.sym (by show 40 * clampI 3 6 (port / 40) + (24 + clampI 0 15 (port % 40 - 24)) = port; rw [clampI_id (by omega) (by omega), clampI_id (by omega) (by omega)]; omega) (by omega) (by omega)))
      · letI : Val := vals o c b2 b3 b4 b5 b6 b7 b8 b9 b10 b11 asks (port / 4) (port % 4)
        exact cls25 w hG hro _ (lr3 (sv (port / 4) (port % 4) 1 84 253 2 254 m0 m1 (by omega) (by omega) (by omega)) (vr_var 13 rfl lw hw) (.sym (by show 4 * clampI 0 31 (port / 4) + clampI 0 3 (port % 4) = port; rw [clampI_id (by omega) (by omega), clampI_id (by omega) (by omega)]; omega) (by omega) (by omega)))
      · letI : Val := vals o c b2 b3 b4 b5 b6 b7 b8 b9 b10 b11 asks (port / 40) (port % 40 / 2)
        exact cls26 w hG hro _ (lr3 (sv (port / 40) (port % 40 / 2) 1 84 253 2 254 m0 m1 (by omega) (by omega) (by omega)) (vr_var 13 rfl lw hw) (.sym (by show 40 * clampI 3 6 (port / 40) + (2 * clampI 0 11 (port % 40 / 2) + 0) = port; rw [clampI_id (by omega) (by omega), clampI_id (by omega) (by omega)]; omega) (by omega) (by omega)))
      · letI : Val := vals o c b2 b3 b4 b5 b6 b7 b8 b9 b10 b11 asks (port / 40) (port % 40 / 2)
        exact cls27 w hG hro _ (lr3 (sv (port / 40) (port % 40 / 2) 1 84 253 2 254 m0 m1 (by omega) (by omega) (by omega)) (vr_var 13 rfl lw hw) (.sym (by show 40 * clampI 3 6 (port / 40) + (2 * clampI 0 11 (port % 40 / 2) + 1) = port; rw [clampI_id (by omega) (by omega), clampI_id (by omega) (by omega)]; omega) (by omega) (by omega)))
    · rcases mp with ⟨g1, g2⟩ | g1 | ⟨g1, g2, g3⟩ | ⟨g1, g2, g3⟩
      · letI : Val := vals o c b2 b3 b4 b5 b6 b7 b8 b9 b10 b11 asks (port / 40) (port % 40 - 24)
        exact cls28 w hG hro _ (lr3 (sv (port / 40) (port % 40 - 24) 1 84 253 3 255 m0 m1 (by omega) (by omega) (by omega)) (vr_var 13 rfl lw hw) (.sym (by show 40 * clampI 3 6 (port / 40) + (24 + clampI 0 15 (port % 40 - 24)) = port; rw [clampI_id (by omega) (by omega), clampI_id (by omega) (by omega)]; omega) (by omega) (by omega)))
      · letI : Val := vals o c b2 b3 b4 b5 b6 b7 b8 b9 b10 b11 asks (port / 4) (port % 4)
        exact cls29 w hG hro _ (lr3 (sv (port / 4) (port % 4) 1 84 253 3 255 m0 m1 (by omega) (by omega) (by omega)) (vr_var 13 rfl lw hw) (.sym (by show 4 * clampI 0 31 (port / 4) + clampI 0 3 (port % 4) = port; rw [clampI_id (by omega) (by omega), clampI_id (by omega) (by omega)]; omega) (by omega) (by omega)))
      · letI : Val := vals o c b2 b3 b4 b5 b6 b7 b8 b9 b10 b11 asks (port / 40) (port % 40 / 2)
        exact cls30 w hG hro _ (lr3 (sv (port / 40) (port % 40 / 2) 1 84 253 3 255 m0 m1 (by omega) (by omega) (by omega)) (vr_var 13 rfl lw hw) (.sym (by show 40 * clampI 3 6 (port / 40) + (2 * clampI 0 11 (port % 40 / 2) + 0) = port; rw [clampI_id (by omega) (by omega), clampI_id (by omega) (by omega)]; omega) (by omega) (by omega)))
      · letI : Val := vals o c b2 b3 b4 b5 b6 b7 b8 b9 b10 b11 asks (port / 40) (port % 40 / 2)
        exact cls31 w hG hro _ (lr3 (sv (port / 40) (port % 40 / 2) 1 84 253 3 255 m0 m1 (by omega) (by omega) (by omega)) (vr_var 13 rfl lw hw) (.sym (by show 40 * clampI 3 6 (port / 40) + (2 * clampI 0 11 (port % 40 / 2) + 1) = port; rw [clampI_id (by omega) (by omega), clampI_id (by omega) (by omega)]; omega) (by omega) (by omega)))
  · rcases m1 with m1 | m1 | m1 | m1
    · rcases mp with ⟨g1, g2⟩ | g1 | ⟨g1, g2, g3⟩ | ⟨g1, g2, g3⟩
      · letI : Val := vals o c b2 b3 b4 b5 b6 b7 b8 b9 b10 b11 asks (port / 40) (port % 40 - 24)
        exact cls32 w hG hro _ (lr3 (sv (port / 40) (port % 40 - 24) 2 84 254 0 252 m0 m1 (by omega) (by omega) (by omega)) (vr_var 13 rfl lw hw) (.sym (by show 40 * clampI 3 6 (port / 40) + (24 + clampI 0 15 (port % 40 - 24)) = port; rw [clampI_id (by omega) (by omega), clampI_id (by omega) (by omega)]; omega) (by omega) (by omega)))
      · letI : Val := vals o c b2 b3 b4 b5 b6 b7 b8 b9 b10 b11 asks (port / 4) (port % 4)
        exact cls33 w hG hro _ (lr3 (sv (port / 4) (port % 4) 2 84 254 0 252 m0 m1 (by omega) (by omega) (by omega)) (vr_var 13 rfl lw hw) (.sym (by show 4 * clampI 0 31 (port / 4) + clampI 0 3 (port % 4) = port; rw [clampI_id (by omega) (by omega), clampI_id (by omega) (by omega)]; omega) (by omega) (by omega)))
      · letI : Val := vals o c b2 b3 b4 b5 b6 b7 b8 b9 b10 b11 asks (port / 40) (port % 40 / 2)
        exact cls34 w hG hro _ (lr3 (sv (port / 40) (port % 40 / 2) 2 84 254 0 252 m0 m1 (by omega) (by omega) (by omega)) (vr_var 13 rfl lw hw) (.sym (by show 40 * clampI 3 6 (port / 40) + (2 * clampI 0 11 (port % 40 / 2) + 0) = port; rw [clampI_id (by omega) (by omega), clampI_id (by omega) (by omega)]; omega) (by omega) (by omega)))
      · letI : Val := vals o c b2 b3 b4 b5 b6 b7 b8 b9 b10 b11 asks (port / 40) (port % 40 / 2)
        exact cls35 w hG hro _ (lr3 (sv (port / 40) (port % 40 / 2) 2 84 254 0 252 m0 m1 (by omega) (by omega) (by omega)) (vr_var 13 rfl lw hw) (.sym (by show 40 * clampI 3 6 (port / 40) + (2 * clampI 0 11 (port % 40 / 2) + 1) = port; rw [clampI_id (by omega) (by omega), clampI_id (by omega) (by omega)]; omega) (by omega) (by omega)))
    · rcases mp with ⟨g1, g2⟩ | g1 | ⟨g1, g2, g3⟩ | ⟨g1, g2, g3⟩
      · letI : Val := vals o c b2 b3 b4 b5 b6 b7 b8 b9 b10 b11 asks (port / 40) (port % 40 - 24)
        exact cls36 w hG hro _ (lr3 (sv (port / 40) (port % 40 - 24) 2 84 254 1 253 m0 m1 (by omega) (by omega) (by omega)) (vr_var 13 rfl lw hw) (.sym (by show 40 * clampI 3 6 (port / 40) + (24 + clampI 0 15 (port % 40 - 24)) = port; rw [clampI_id (by omega) (by omega), clampI_id (by omega) (by omega)]; omega) (by omega) (by omega)))
      · letI : Val := vals o c b2 b3 b4 b5 b6 b7 b8 b9 b10 b11 asks (port / 4) (port % 4)
        exact cls37 w hG hro _ (lr3 (sv (port / 4) (port % 4) 2 84 254 1 253 m0 m1 (by omega) (by omega) (by omega)) (vr_var 13 rfl lw hw) (.sym (by show 4 * clampI 0 31 (port / 4) + clampI 0 3 (port % 4) = port; rw [clampI_id (by omega) (by omega), clampI_id (by omega) (by omega)]; omega) (by omega) (by omega)))
      · letI : Val := vals o c b2 b3 b4 b5 b6 b7 b8 b9 b10 b11 asks (port / 40) (port % 40 / 2)
        exact cls38 w hG hro _ (lr3 (sv (port / 40) (port % 40 / 2) 2 84 254 1 253 m0 m1 (by omega) (by omega) (by omega)) (vr_var 13 rfl lw hw) (.sym (by show 40 * clampI 3 6 (port / 40) + (2 * clampI 0 11 (port % 40 / 2) + 0) = port; rw [clampI_id (by omega) (by omega), clampI_id (by omega) (by omega)]; omega) (by omega) (by omega)))
      · letI : Val := vals o c b2 b3 b4 b5 b6 b7 b8 b9 b10 b11 asks (port / 40) (port % 40 / 2)
        exact cls39 w hG hro _ (lr3 (sv (port / 40) (port % 40 / 2) 2 84 254 1 253 m0 m1 (by omega) (by omega) (by omega)) (vr_var 13 rfl lw hw) (.sym (by show 40 * clampI 3 6 (port / 40) + (2 * clampI 0 11 (port % 40 / 2) + 1) = port; rw [clampI_id (by omega) (by omega), clampI_id (by omega) (by omega)]; omega) (by omega) (by omega)))
    · rcases mp with ⟨g1, g2⟩ | g1 | ⟨g1, g2, g3⟩ | ⟨g1, g2, g3⟩
      · letI : Val := vals o c b2 b3 b4 b5 b6 b7 b8 b9 b10 b11 asks (port / 40) (port % 40 - 24)
        exact cls40 w hG hro _ (lr3 (sv (port / 40) (port % 40 - 24) 2 84 254 2 254 m0 m1 (by omega) (by omega) (by omega)) (vr_var 13 rfl lw hw) (.sym (by show 40 * clampI 3 6 (port / 40) + (24 + clampI 0 15 (port % 40 - 24)) = port; rw [clampI_id (by omega) (by omega), clampI_id (by omega) (by omega)]; omega) (by omega) (by omega)))
      · letI : Val := vals o c b2 b3 b4 b5 b6 b7 b8 b9 b10 b11 asks (port / 4) (port % 4)
        exact cls41 w hG hro _ (lr3 (sv (port / 4) (port % 4) 2 84 254 2 254 m0 m1 (by omega) (by omega) (by omega)) (vr_var 13 rfl lw hw) (.sym (by show 4 * clampI 0 31 (port / 4) + clampI 0 3 (port % 4) = port; rw [clampI_id (by omega) (by omega), clampI_id (by omega) (by omega)]; omega) (by omega) (by omega)))
      · letI : Val := vals o c b2 b3 b4 b5 b6 b7 b8 b9 b10 b11 asks (port / 40) (port % 40 / 2)
        exact cls42 w hG hro _ (lr3 (sv (port / 40) (port % 40 / 2) 2 84 254 2 254 m0 m1 (by omega) (by omega) (by omega)) (vr_var 13 rfl lw hw) (.sym (by show 40 * clampI 3 6 (port / 40) + (2 * clampI 0 11 (port % 40 / 2) + 0) = port; rw [clampI_id (by omega) (by omega), clampI_id (by omega) (by omega)]; omega) (by omega) (by omega)))
      · letI : Val := vals o c b2 b3 b4 b5 b6 b7 b8 b9 b10 b11 asks (port / 40) (port % 40 / 2)
        exact cls43 w hG hro _ (lr3 (sv (port / 40) (port % 40 / 2) 2 84 254 2 254 m0 m1 (by omega) (by omega) (by omega)) (vr_var 13 rfl lw hw) (.sym (by show 40 * clampI 3 6 (port / 40) + (2 * clampI 0 11 (port % 40 / 2) + 1) = port; rw [clampI_id (by omega) (by omega), clampI_id (by omega) (by omega)]; omega) (by omega) (by omega)))
    · rcases mp with ⟨g1, g2⟩ | g1 | ⟨g1, g2, g3⟩ | ⟨g1, g2, g3⟩
      · letI : Val := vals o c b2 b3 b4 b5 b6 b7 b8 b9 b10 b11 asks (port / 40) (port % 40 - 24)
        exact cls44 w hG hro _ (lr3 (sv (port / 40) (port % 40 - 24) 2 84 254 3 255 m0 m1 (by omega) (by omega) (by omega)) (vr_var 13 rfl lw hw) (.sym (by show 40 * clampI 3 6 (port / 40) + (24 + clampI 0 15 (port % 40 - 24)) = port; rw [clampI_id (by omega) (by omega), clampI_id (by omega) (by omega)]; omega) (by omega) (by omega)))
      · letI : Val := vals o c b2 b3 b4 b5 b6 b7 b8 b9 b10 b11 asks (port / 4) (port % 4)
        exact cls45 w hG hro _ (lr3 (sv (port / 4) (port % 4) 2 84 254 3 255 m0 m1 (by omega) (by omega) (by omega)) (vr_var 13 rfl lw hw) (.sym (by show 4 * clampI 0 31 (port / 4) + clampI 0 3 (port % 4) = port; rw [clampI_id (by omega) (by omega), clampI_id (by omega) (by omega)]; omega) (by omega) (by omega)))
      · letI : Val := vals o c b2 b3 b4 b5 b6 b7 b8 b9 b10 b11 asks (port / 40) (port % 40 / 2)
        exact cls46 w hG hro _ (lr3 (sv (port / 40) (port % 40 / 2) 2 84 254 3 255 m0 m1 (by omega) (by omega) (by omega)) (vr_var 13 rfl lw hw) (.sym (by show 40 * clampI 3 6 (port / 40) + (2 * clampI 0 11 (port % 40 / 2) + 0) = port; rw [clampI_id (by omega) (by omega), clampI_id (by omega) (by omega)]; omega) (by omega) (by omega)))
      · letI : Val := vals o c b2 b3 b4 b5 b6 b7 b8 b9 b10 b11 asks (port / 40) (port % 40 / 2)
        exact cls47 w hG hro _ (lr3 (sv (port / 40) (port % 40 / 2) 2 84 254 3 255 m0 m1 (by omega) (by omega) (by omega)) (vr_var 13 rfl lw hw) (.sym (by show 40 * clampI 3 6 (port / 40) + (2 * clampI 0 11 (port % 40 / 2) + 1) = port; rw [clampI_id (by omega) (by omega), clampI_id (by omega) (by omega)]; omega) (by omega) (by omega)))
end
end Go.Proofs.YtfipecdimnjckaaGreat
