/-
  The law, for all inputs: its classes are all that there is.
  Conditions: the inputs' kinds.
-/
import Derived.Test.YtjclnmkdkbmjlaaGreatDoorKeE00
import Derived.Test.YtjclnmkdkbmjlaaGreatDoorKeE01
import Derived.Test.YtjclnmkdkbmjlaaGreatDoorKeE02
import Derived.Test.YtjclnmkdkbmjlaaGreatDoorKeE03
import Derived.Test.YtjclnmkdkbmjlaaGreatDoorKeE04
import Derived.Test.YtjclnmkdkbmjlaaGreatDoorKeE05
import Derived.Test.YtjclnmkdkbmjlaaGreatDoorKeE06
import Derived.Test.YtjclnmkdkbmjlaaGreatDoorKeE07
import Derived.Test.YtjclnmkdkbmjlaaGreatDoorKeE08
import Derived.Test.YtjclnmkdkbmjlaaGreatDoorKeE09
import Derived.Test.YtjclnmkdkbmjlaaGreatDoorKeE10
import Derived.Test.YtjclnmkdkbmjlaaGreatDoorKeE11
import Derived.Test.YtjclnmkdkbmjlaaGreatDoorKeE12
import Derived.Test.YtjclnmkdkbmjlaaGreatDoorKeE13
import Derived.Test.YtjclnmkdkbmjlaaGreatDoorKeE14
import Derived.Test.YtjclnmkdkbmjlaaGreatDoorKeE15
import Derived.Test.YtjclnmkdkbmjlaaGreatDoorKeE16
import Derived.Test.YtjclnmkdkbmjlaaGreatDoorKeE17
import Derived.Test.YtjclnmkdkbmjlaaGreatDoorKeR00
import Derived.Test.YtjclnmkdkbmjlaaGreatDoorKeR01
import Derived.Test.YtjclnmkdkbmjlaaGreatDoorKeR02
import Derived.Test.YtjclnmkdkbmjlaaGreatDoorKeR03
import Derived.Test.YtjclnmkdkbmjlaaGreatDoorKeR04
import Derived.Test.YtjclnmkdkbmjlaaGreatDoorKeR05
import Derived.Test.YtjclnmkdkbmjlaaGreatDoorKeR06
import Derived.Test.YtjclnmkdkbmjlaaGreatDoorKeR07
import Derived.Test.YtjclnmkdkbmjlaaGreatDoorKeR08
import Derived.Test.YtjclnmkdkbmjlaaGreatDoorKeR09
import Derived.Test.YtjclnmkdkbmjlaaGreatDoorKeR10
import Derived.Test.YtjclnmkdkbmjlaaGreatDoorKeR11
import Derived.Test.YtjclnmkdkbmjlaaGreatDoorKeR12
import Derived.Test.YtjclnmkdkbmjlaaGreatDoorKeR13
import Derived.Test.YtjclnmkdkbmjlaaGreatDoorKeR14
import Derived.Test.YtjclnmkdkbmjlaaGreatDoorKeC
open Go Go.Ab Go.ChangeShapes Go.WideShapes Go.ChangeAt Go.RowKit
namespace Go.Proofs.YtjclnmkdkbmjlaaGreatDoor
noncomputable section
/-- An entry that was run over what was known before it. -/
theorem mk {e : Ent} {m : List Ent} (hm : AllGoodW Tryz.prog kb m) (h : e.ok Tryz.prog (knWith kb 6 m) 6 1000 60 = true) : AllGoodW Tryz.prog kb [e] := .one hm (fuel := 1000) (n := 60) (by rw [g0]; exact h)
abbrev B (e : Ent) : Prop := AllGoodW Tryz.prog kb [e]
theorem app {e : Ent} {l : List Ent} (he : B e) (hl : AllGoodW Tryz.prog kb l) : AllGoodW Tryz.prog kb (e :: l) := he.app hl
theorem nl : AllGoodW Tryz.prog kb [] := .nil
theorem eqT {σ : Nat → Int} {a b : E} (h : (⟨true, a, b, true⟩ : Fact).holds σ) : a.eval σ = b.eval σ := of_decide_eq_true h
theorem eqF {σ : Nat → Int} {a b : E} (h : (⟨true, a, b, false⟩ : Fact).holds σ) : ¬ a.eval σ = b.eval σ := of_decide_eq_false h
theorem ltT {σ : Nat → Int} {a b : E} (h : (⟨false, a, b, true⟩ : Fact).holds σ) : a.eval σ < b.eval σ := of_decide_eq_true h
theorem ltF {σ : Nat → Int} {a b : E} (h : (⟨false, a, b, false⟩ : Fact).holds σ) : ¬ a.eval σ < b.eval σ := of_decide_eq_false h
theorem gd0 : B e0 := mk nl ok0
theorem gd1 : B e1 := mk nl ok1
theorem gd2 : B e2 := mk nl ok2
theorem gd3 : B e3 := mk (app gd1 (app gd2 (app gd0 (app gdOpen nl)))) ok3
theorem gd4 : B e4 := mk nl ok4
theorem gd5 : B e5 := mk nl ok5
theorem gd6 : B e6 := mk nl ok6
theorem gd7 : B e7 := mk nl ok7
theorem gd8 : B e8 := mk nl ok8
theorem gd9 : B e9 := mk (app gd8 nl) ok9
theorem gd10 : B e10 := mk (app gd2 nl) ok10
theorem gd11 : B e11 := mk (app gd10 (app gd2 (app gd9 nl))) ok11
theorem gd12 : B e12 := mk (app gd11 (app gd2 nl)) ok12
theorem gd13 : B e13 := mk (app gd2 (app gd12 nl)) ok13
theorem gd14 : B e14 := mk nl ok14
theorem gd15 : B e15 := mk (app gd14 nl) ok15
theorem gd16 : B e16 := mk nl ok16
theorem gd17 : B e17 := mk nl ok17
theorem gd18 : B e18 := mk (app gd17 (app gd16 nl)) ok18
theorem gd19 : B e19 := mk (app gd13 (app gd15 (app gd18 (app gd2 (app gd6 (app gd7 nl)))))) ok19
theorem gd20 : B e20 := mk nl ok20
theorem gd2000000 : B e2000000 := mk (app gd20 (app gd17 (app gd19 (app gd5 (app gd4 (app gd3 (app gd1 nl))))))) ok2000000
theorem gd22 : B e22 := mk nl ok22
theorem gd23 : B e23 := mk (app gd22 (app gd0 (app gdOpen nl))) ok23
theorem gd24 : B e24 := mk nl ok24
theorem gd25 : B e25 := mk nl ok25
theorem gd26 : B e26 := mk (app gd22 nl) ok26
theorem gd27 : B e27 := mk (app gd26 (app gd22 (app gd9 nl))) ok27
theorem gd28 : B e28 := mk (app gd27 (app gd22 nl)) ok28
theorem gd29 : B e29 := mk (app gd22 (app gd28 nl)) ok29
theorem gd30 : B e30 := mk nl ok30
theorem gd31 : B e31 := mk (app gd30 (app gd25 nl)) ok31
theorem gd32 : B e32 := mk nl ok32
theorem gd33 : B e33 := mk (app gd32 nl) ok33
theorem gd34 : B e34 := mk (app gd29 (app gd31 (app gd33 (app gd22 (app gd25 nl))))) ok34
theorem gd35 : B e35 := mk nl ok35
theorem gd36 : B e36 := mk nl ok36
theorem gd37 : B e37 := mk nl ok37
theorem gd38 : B e38 := mk nl ok38
theorem gd39 : B e39 := mk (app gd38 (app gd37 nl)) ok39
theorem gd40 : B e40 := mk nl ok40
theorem gd41 : B e41 := mk (app gd40 nl) ok41
theorem gd42 : B e42 := mk (app gd39 (app gd41 (app gd22 (app gd37 nl)))) ok42
theorem gd43 : B e43 := mk nl ok43
theorem gd44 : B e44 := mk nl ok44
theorem gd45 : B e45 := mk nl ok45
theorem gd46 : B e46 := mk nl ok46
theorem gd47 : B e47 := mk nl ok47
theorem gd48 : B e48 := mk (app gd47 (app gd46 nl)) ok48
theorem gd49 : B e49 := mk nl ok49
theorem gd50 : B e50 := mk nl ok50
theorem gd51 : B e51 := mk nl ok51
theorem gd52 : B e52 := mk nl ok52
theorem gd53 : B e53 := mk nl ok53
theorem gd54 : B e54 := mk (app gd53 (app gd52 nl)) ok54
theorem gd55 : B e55 := mk (app gd54 nl) ok55
theorem gd56 : B e56 := mk (app gd51 (app gd50 (app gd49 (app gd47 (app gd55 (app gd22 (app gd48 nl))))))) ok56
theorem gd57 : B e57 := mk nl ok57
theorem gd58 : B e58 := mk (app gd53 (app gd57 nl)) ok58
theorem gd59 : B e59 := mk nl ok59
theorem gd60 : B e60 := mk nl ok60
theorem gd61 : B e61 := mk (app gd22 (app gd60 nl)) ok61
theorem gd62 : B e62 := mk (app gd22 nl) ok62
theorem gd63 : B e63 := mk (app gd62 (app gd22 (app gd9 nl))) ok63
theorem gd64 : B e64 := mk (app gd63 (app gd22 nl)) ok64
theorem gd65 : B e65 := mk (app gd22 (app gd64 nl)) ok65
theorem gd66 : B e66 := mk nl ok66
theorem gd67 : B e67 := mk (app gd66 (app gd25 nl)) ok67
theorem gd68 : B e68 := mk nl ok68
theorem gd69 : B e69 := mk (app gd68 nl) ok69
theorem gd70 : B e70 := mk (app gd65 (app gd67 (app gd69 (app gd22 (app gd25 nl))))) ok70
theorem gd71 : B e71 := mk nl ok71
theorem gd72 : B e72 := mk nl ok72
theorem gd73 : B e73 := mk nl ok73
theorem gd74 : B e74 := mk nl ok74
theorem gd75 : B e75 := mk (app gd74 (app gd73 nl)) ok75
theorem gd76 : B e76 := mk (app gd75 (app gd41 (app gd22 (app gd73 nl)))) ok76
theorem gd77 : B e77 := mk nl ok77
theorem gd78 : B e78 := mk nl ok78
theorem gd79 : B e79 := mk nl ok79
theorem gd80 : B e80 := mk nl ok80
theorem gd81 : B e81 := mk (app gd80 (app gd79 nl)) ok81
theorem gd82 : B e82 := mk nl ok82
theorem gd83 : B e83 := mk (app gd51 (app gd50 (app gd82 (app gd80 (app gd55 (app gd22 (app gd81 nl))))))) ok83
theorem gd84 : B e84 := mk nl ok84
theorem gd85 : B e85 := mk nl ok85
theorem gd86 : B e86 := mk (app gd22 (app gd85 nl)) ok86
theorem gd87 : B e87 := mk (app gd22 nl) ok87
theorem gd88 : B e88 := mk (app gd87 (app gd22 (app gd9 nl))) ok88
theorem gd89 : B e89 := mk (app gd88 (app gd22 nl)) ok89
theorem gd90 : B e90 := mk (app gd22 (app gd89 nl)) ok90
theorem gd92 : B e92 := mk (app gd25 nl) ok92
theorem gd93 : B e93 := mk nl ok93
theorem gd94 : B e94 := mk (app gd93 nl) ok94
theorem gd95 : B e95 := mk (app gd90 (app gd92 (app gd94 (app gd22 (app gd25 nl))))) ok95
theorem gd96 : B e96 := mk nl ok96
theorem gd97 : B e97 := mk nl ok97
theorem gd98 : B e98 := mk nl ok98
theorem gd100 : B e100 := mk (app gd98 nl) ok100
theorem gd101 : B e101 := mk nl ok101
theorem gd102 : B e102 := mk nl ok102
theorem gd103 : B e103 := mk nl ok103
theorem gd104 : B e104 := mk nl ok104
theorem gd105 : B e105 := mk (app gd104 (app gd103 nl)) ok105
theorem gd106 : B e106 := mk (app gd50 (app gd104 (app gd105 nl))) ok106
theorem gd107 : B e107 := mk nl ok107
theorem gd108 : B e108 := mk nl ok108
theorem gd109 : B e109 := mk (app gd22 (app gd108 nl)) ok109
theorem gd113 : B e113 := mk (app gd26 (app gd9 (app gd31 (app gd33 (app gd22 (app gd25 nl)))))) ok113
theorem gd114 : B e114 := mk nl ok114
theorem gd115 : B e115 := mk (app gd51 (app gd50 (app gd114 (app gd47 (app gd55 (app gd22 (app gd48 nl))))))) ok115
theorem gd116 : B e116 := mk nl ok116
theorem gd117 : B e117 := mk (app gd51 (app gd50 (app gd116 (app gd47 (app gd55 (app gd22 (app gd48 nl))))))) ok117
theorem gd121 : B e121 := mk (app gd62 (app gd9 (app gd67 (app gd69 (app gd22 (app gd25 nl)))))) ok121
theorem gd122 : B e122 := mk nl ok122
theorem gd123 : B e123 := mk (app gd51 (app gd50 (app gd122 (app gd80 (app gd55 (app gd22 (app gd81 nl))))))) ok123
theorem gd124 : B e124 := mk (app gd22 (app gd0 (app gdOpen nl))) ok124
theorem gd125 : B e125 := mk (app gd26 (app gd22 (app gd9 nl))) ok125
theorem gd126 : B e126 := mk (app gd125 (app gd22 nl)) ok126
theorem gd127 : B e127 := mk (app gd22 (app gd126 nl)) ok127
theorem gd128 : B e128 := mk (app gd127 (app gd31 (app gd33 (app gd22 (app gd25 nl))))) ok128
theorem gd129 : B e129 := mk (app gd51 (app gd50 (app gd49 (app gd47 (app gd55 (app gd22 (app gd48 nl))))))) ok129
theorem gd130 : B e130 := mk (app gd62 (app gd22 (app gd9 nl))) ok130
theorem gd131 : B e131 := mk (app gd130 (app gd22 nl)) ok131
theorem gd132 : B e132 := mk (app gd22 (app gd131 nl)) ok132
theorem gd133 : B e133 := mk (app gd132 (app gd67 (app gd69 (app gd22 (app gd25 nl))))) ok133
theorem gd134 : B e134 := mk (app gd51 (app gd50 (app gd82 (app gd80 (app gd55 (app gd22 (app gd81 nl))))))) ok134
theorem gd135 : B e135 := mk (app gd22 nl) ok135
theorem gd136 : B e136 := mk (app gd135 (app gd22 (app gd9 nl))) ok136
theorem gd137 : B e137 := mk (app gd136 (app gd22 nl)) ok137
theorem gd138 : B e138 := mk (app gd22 (app gd137 nl)) ok138
theorem gd139 : B e139 := mk (app gd138 (app gd92 (app gd94 (app gd22 (app gd25 nl))))) ok139
theorem gd143 : B e143 := mk (app gd26 (app gd9 (app gd31 (app gd33 (app gd22 (app gd25 nl)))))) ok143
theorem gd147 : B e147 := mk (app gd62 (app gd9 (app gd67 (app gd69 (app gd22 (app gd25 nl)))))) ok147
theorem gd148 : B e148 := mk (app gd22 (app gd0 (app gdOpen nl))) ok148
theorem gd149 : B e149 := mk (app gd26 (app gd22 (app gd9 nl))) ok149
theorem gd150 : B e150 := mk (app gd149 (app gd22 nl)) ok150
theorem gd151 : B e151 := mk (app gd22 (app gd150 nl)) ok151
theorem gd152 : B e152 := mk (app gd151 (app gd31 (app gd33 (app gd22 (app gd25 nl))))) ok152
theorem gd153 : B e153 := mk (app gd51 (app gd50 (app gd49 (app gd47 (app gd55 (app gd22 (app gd48 nl))))))) ok153
theorem gd154 : B e154 := mk (app gd62 (app gd22 (app gd9 nl))) ok154
theorem gd155 : B e155 := mk (app gd154 (app gd22 nl)) ok155
theorem gd156 : B e156 := mk (app gd22 (app gd155 nl)) ok156
theorem gd157 : B e157 := mk (app gd156 (app gd67 (app gd69 (app gd22 (app gd25 nl))))) ok157
theorem gd158 : B e158 := mk (app gd51 (app gd50 (app gd82 (app gd80 (app gd55 (app gd22 (app gd81 nl))))))) ok158
theorem gd159 : B e159 := mk (app gd22 nl) ok159
theorem gd160 : B e160 := mk (app gd159 (app gd22 (app gd9 nl))) ok160
theorem gd161 : B e161 := mk (app gd160 (app gd22 nl)) ok161
theorem gd162 : B e162 := mk (app gd22 (app gd161 nl)) ok162
theorem gd163 : B e163 := mk (app gd162 (app gd92 (app gd94 (app gd22 (app gd25 nl))))) ok163
theorem gd167 : B e167 := mk (app gd26 (app gd9 (app gd31 (app gd33 (app gd22 (app gd25 nl)))))) ok167
theorem gd171 : B e171 := mk (app gd62 (app gd9 (app gd67 (app gd69 (app gd22 (app gd25 nl)))))) ok171
theorem gd172 : B e172 := mk (app gd22 (app gd0 (app gdOpen nl))) ok172
theorem gd173 : B e173 := mk (app gd26 (app gd22 (app gd9 nl))) ok173
theorem gd174 : B e174 := mk (app gd173 (app gd22 nl)) ok174
theorem gd175 : B e175 := mk (app gd22 (app gd174 nl)) ok175
theorem gd176 : B e176 := mk (app gd175 (app gd31 (app gd33 (app gd22 (app gd25 nl))))) ok176
theorem gd177 : B e177 := mk (app gd51 (app gd50 (app gd49 (app gd47 (app gd55 (app gd22 (app gd48 nl))))))) ok177
theorem gd178 : B e178 := mk (app gd62 (app gd22 (app gd9 nl))) ok178
theorem gd179 : B e179 := mk (app gd178 (app gd22 nl)) ok179
theorem gd180 : B e180 := mk (app gd22 (app gd179 nl)) ok180
theorem gd181 : B e181 := mk (app gd180 (app gd67 (app gd69 (app gd22 (app gd25 nl))))) ok181
theorem gd182 : B e182 := mk (app gd51 (app gd50 (app gd82 (app gd80 (app gd55 (app gd22 (app gd81 nl))))))) ok182
theorem gd183 : B e183 := mk (app gd22 nl) ok183
theorem gd184 : B e184 := mk (app gd183 (app gd22 (app gd9 nl))) ok184
theorem gd185 : B e185 := mk (app gd184 (app gd22 nl)) ok185
theorem gd186 : B e186 := mk (app gd22 (app gd185 nl)) ok186
theorem gd187 : B e187 := mk (app gd186 (app gd92 (app gd94 (app gd22 (app gd25 nl))))) ok187
theorem gd191 : B e191 := mk (app gd26 (app gd9 (app gd31 (app gd33 (app gd22 (app gd25 nl)))))) ok191
theorem gd195 : B e195 := mk (app gd62 (app gd9 (app gd67 (app gd69 (app gd22 (app gd25 nl)))))) ok195
theorem gd196 : B e196 := mk nl ok196
theorem gd197 : B e197 := mk (app gd196 (app gd0 (app gdOpen nl))) ok197
theorem gd198 : B e198 := mk (app gd196 nl) ok198
theorem gd199 : B e199 := mk (app gd198 (app gd196 (app gd9 nl))) ok199
theorem gd200 : B e200 := mk (app gd199 (app gd196 nl)) ok200
theorem gd201 : B e201 := mk (app gd196 (app gd200 nl)) ok201
theorem gd202 : B e202 := mk (app gd201 (app gd31 (app gd33 (app gd196 (app gd25 nl))))) ok202
theorem gd203 : B e203 := mk (app gd39 (app gd41 (app gd196 (app gd37 nl)))) ok203
theorem gd204 : B e204 := mk (app gd51 (app gd50 (app gd49 (app gd47 (app gd55 (app gd196 (app gd48 nl))))))) ok204
theorem gd205 : B e205 := mk (app gd196 (app gd60 nl)) ok205
theorem gd206 : B e206 := mk (app gd196 nl) ok206
theorem gd207 : B e207 := mk (app gd206 (app gd196 (app gd9 nl))) ok207
theorem gd208 : B e208 := mk (app gd207 (app gd196 nl)) ok208
theorem gd209 : B e209 := mk (app gd196 (app gd208 nl)) ok209
theorem gd210 : B e210 := mk (app gd209 (app gd67 (app gd69 (app gd196 (app gd25 nl))))) ok210
theorem gd211 : B e211 := mk (app gd75 (app gd41 (app gd196 (app gd73 nl)))) ok211
theorem gd212 : B e212 := mk (app gd51 (app gd50 (app gd82 (app gd80 (app gd55 (app gd196 (app gd81 nl))))))) ok212
theorem gd213 : B e213 := mk (app gd196 (app gd85 nl)) ok213
theorem gd214 : B e214 := mk (app gd196 nl) ok214
theorem gd215 : B e215 := mk (app gd214 (app gd196 (app gd9 nl))) ok215
theorem gd216 : B e216 := mk (app gd215 (app gd196 nl)) ok216
theorem gd217 : B e217 := mk (app gd196 (app gd216 nl)) ok217
theorem gd218 : B e218 := mk (app gd217 (app gd92 (app gd94 (app gd196 (app gd25 nl))))) ok218
theorem gd219 : B e219 := mk (app gd196 (app gd108 nl)) ok219
theorem gd223 : B e223 := mk (app gd198 (app gd9 (app gd31 (app gd33 (app gd196 (app gd25 nl)))))) ok223
theorem gd224 : B e224 := mk (app gd51 (app gd50 (app gd114 (app gd47 (app gd55 (app gd196 (app gd48 nl))))))) ok224
theorem gd225 : B e225 := mk (app gd51 (app gd50 (app gd116 (app gd47 (app gd55 (app gd196 (app gd48 nl))))))) ok225
theorem gd229 : B e229 := mk (app gd206 (app gd9 (app gd67 (app gd69 (app gd196 (app gd25 nl)))))) ok229
theorem gd230 : B e230 := mk (app gd51 (app gd50 (app gd122 (app gd80 (app gd55 (app gd196 (app gd81 nl))))))) ok230
theorem gd231 : B e231 := mk (app gd196 (app gd0 (app gdOpen nl))) ok231
theorem gd232 : B e232 := mk (app gd198 (app gd196 (app gd9 nl))) ok232
theorem gd233 : B e233 := mk (app gd232 (app gd196 nl)) ok233
theorem gd234 : B e234 := mk (app gd196 (app gd233 nl)) ok234
theorem gd235 : B e235 := mk (app gd234 (app gd31 (app gd33 (app gd196 (app gd25 nl))))) ok235
theorem gd236 : B e236 := mk (app gd51 (app gd50 (app gd49 (app gd47 (app gd55 (app gd196 (app gd48 nl))))))) ok236
theorem gd237 : B e237 := mk (app gd206 (app gd196 (app gd9 nl))) ok237
theorem gd238 : B e238 := mk (app gd237 (app gd196 nl)) ok238
theorem gd239 : B e239 := mk (app gd196 (app gd238 nl)) ok239
theorem gd240 : B e240 := mk (app gd239 (app gd67 (app gd69 (app gd196 (app gd25 nl))))) ok240
theorem gd241 : B e241 := mk (app gd51 (app gd50 (app gd82 (app gd80 (app gd55 (app gd196 (app gd81 nl))))))) ok241
theorem gd242 : B e242 := mk (app gd196 nl) ok242
theorem gd243 : B e243 := mk (app gd242 (app gd196 (app gd9 nl))) ok243
theorem gd244 : B e244 := mk (app gd243 (app gd196 nl)) ok244
theorem gd245 : B e245 := mk (app gd196 (app gd244 nl)) ok245
theorem gd246 : B e246 := mk (app gd245 (app gd92 (app gd94 (app gd196 (app gd25 nl))))) ok246
theorem gd250 : B e250 := mk (app gd198 (app gd9 (app gd31 (app gd33 (app gd196 (app gd25 nl)))))) ok250
theorem gd254 : B e254 := mk (app gd206 (app gd9 (app gd67 (app gd69 (app gd196 (app gd25 nl)))))) ok254
theorem gd255 : B e255 := mk (app gd196 (app gd0 (app gdOpen nl))) ok255
theorem gd256 : B e256 := mk (app gd198 (app gd196 (app gd9 nl))) ok256
theorem gd257 : B e257 := mk (app gd256 (app gd196 nl)) ok257
theorem gd258 : B e258 := mk (app gd196 (app gd257 nl)) ok258
theorem gd259 : B e259 := mk (app gd258 (app gd31 (app gd33 (app gd196 (app gd25 nl))))) ok259
theorem gd260 : B e260 := mk (app gd51 (app gd50 (app gd49 (app gd47 (app gd55 (app gd196 (app gd48 nl))))))) ok260
theorem gd261 : B e261 := mk (app gd206 (app gd196 (app gd9 nl))) ok261
theorem gd262 : B e262 := mk (app gd261 (app gd196 nl)) ok262
theorem gd263 : B e263 := mk (app gd196 (app gd262 nl)) ok263
theorem gd264 : B e264 := mk (app gd263 (app gd67 (app gd69 (app gd196 (app gd25 nl))))) ok264
theorem gd265 : B e265 := mk (app gd51 (app gd50 (app gd82 (app gd80 (app gd55 (app gd196 (app gd81 nl))))))) ok265
theorem gd266 : B e266 := mk (app gd196 nl) ok266
theorem gd267 : B e267 := mk (app gd266 (app gd196 (app gd9 nl))) ok267
theorem gd268 : B e268 := mk (app gd267 (app gd196 nl)) ok268
theorem gd269 : B e269 := mk (app gd196 (app gd268 nl)) ok269
theorem gd270 : B e270 := mk (app gd269 (app gd92 (app gd94 (app gd196 (app gd25 nl))))) ok270
theorem gd274 : B e274 := mk (app gd198 (app gd9 (app gd31 (app gd33 (app gd196 (app gd25 nl)))))) ok274
theorem gd278 : B e278 := mk (app gd206 (app gd9 (app gd67 (app gd69 (app gd196 (app gd25 nl)))))) ok278
theorem gd279 : B e279 := mk (app gd196 (app gd0 (app gdOpen nl))) ok279
theorem gd280 : B e280 := mk (app gd198 (app gd196 (app gd9 nl))) ok280
theorem gd281 : B e281 := mk (app gd280 (app gd196 nl)) ok281
theorem gd282 : B e282 := mk (app gd196 (app gd281 nl)) ok282
theorem gd283 : B e283 := mk (app gd282 (app gd31 (app gd33 (app gd196 (app gd25 nl))))) ok283
theorem gd284 : B e284 := mk (app gd51 (app gd50 (app gd49 (app gd47 (app gd55 (app gd196 (app gd48 nl))))))) ok284
theorem gd285 : B e285 := mk (app gd206 (app gd196 (app gd9 nl))) ok285
theorem gd286 : B e286 := mk (app gd285 (app gd196 nl)) ok286
theorem gd287 : B e287 := mk (app gd196 (app gd286 nl)) ok287
theorem gd288 : B e288 := mk (app gd287 (app gd67 (app gd69 (app gd196 (app gd25 nl))))) ok288
theorem gd289 : B e289 := mk (app gd51 (app gd50 (app gd82 (app gd80 (app gd55 (app gd196 (app gd81 nl))))))) ok289
theorem gd290 : B e290 := mk (app gd196 nl) ok290
theorem gd291 : B e291 := mk (app gd290 (app gd196 (app gd9 nl))) ok291
theorem gd292 : B e292 := mk (app gd291 (app gd196 nl)) ok292
theorem gd293 : B e293 := mk (app gd196 (app gd292 nl)) ok293
theorem gd294 : B e294 := mk (app gd293 (app gd92 (app gd94 (app gd196 (app gd25 nl))))) ok294
theorem gd298 : B e298 := mk (app gd198 (app gd9 (app gd31 (app gd33 (app gd196 (app gd25 nl)))))) ok298
theorem gd302 : B e302 := mk (app gd206 (app gd9 (app gd67 (app gd69 (app gd196 (app gd25 nl)))))) ok302
theorem gd303 : B e303 := mk nl ok303
theorem gd304 : B e304 := mk (app gd303 (app gd0 (app gdOpen nl))) ok304
theorem gd305 : B e305 := mk (app gd303 nl) ok305
theorem gd306 : B e306 := mk (app gd305 (app gd303 (app gd9 nl))) ok306
theorem gd307 : B e307 := mk (app gd306 (app gd303 nl)) ok307
theorem gd308 : B e308 := mk (app gd303 (app gd307 nl)) ok308
theorem gd309 : B e309 := mk (app gd308 (app gd31 (app gd33 (app gd303 (app gd25 nl))))) ok309
theorem gd310 : B e310 := mk (app gd39 (app gd41 (app gd303 (app gd37 nl)))) ok310
theorem gd311 : B e311 := mk (app gd51 (app gd50 (app gd49 (app gd47 (app gd55 (app gd303 (app gd48 nl))))))) ok311
theorem gd312 : B e312 := mk (app gd303 (app gd60 nl)) ok312
theorem gd313 : B e313 := mk (app gd303 nl) ok313
theorem gd314 : B e314 := mk (app gd313 (app gd303 (app gd9 nl))) ok314
theorem gd315 : B e315 := mk (app gd314 (app gd303 nl)) ok315
theorem gd316 : B e316 := mk (app gd303 (app gd315 nl)) ok316
theorem gd317 : B e317 := mk (app gd316 (app gd67 (app gd69 (app gd303 (app gd25 nl))))) ok317
theorem gd318 : B e318 := mk (app gd75 (app gd41 (app gd303 (app gd73 nl)))) ok318
theorem gd319 : B e319 := mk (app gd51 (app gd50 (app gd82 (app gd80 (app gd55 (app gd303 (app gd81 nl))))))) ok319
theorem gd320 : B e320 := mk (app gd303 (app gd85 nl)) ok320
theorem gd321 : B e321 := mk (app gd303 nl) ok321
theorem gd322 : B e322 := mk (app gd321 (app gd303 (app gd9 nl))) ok322
theorem gd323 : B e323 := mk (app gd322 (app gd303 nl)) ok323
theorem gd324 : B e324 := mk (app gd303 (app gd323 nl)) ok324
theorem gd325 : B e325 := mk (app gd324 (app gd92 (app gd94 (app gd303 (app gd25 nl))))) ok325
theorem gd326 : B e326 := mk (app gd303 (app gd108 nl)) ok326
theorem gd330 : B e330 := mk (app gd305 (app gd9 (app gd31 (app gd33 (app gd303 (app gd25 nl)))))) ok330
theorem gd331 : B e331 := mk (app gd51 (app gd50 (app gd114 (app gd47 (app gd55 (app gd303 (app gd48 nl))))))) ok331
theorem gd332 : B e332 := mk (app gd51 (app gd50 (app gd116 (app gd47 (app gd55 (app gd303 (app gd48 nl))))))) ok332
theorem gd336 : B e336 := mk (app gd313 (app gd9 (app gd67 (app gd69 (app gd303 (app gd25 nl)))))) ok336
theorem gd337 : B e337 := mk (app gd51 (app gd50 (app gd122 (app gd80 (app gd55 (app gd303 (app gd81 nl))))))) ok337
theorem gd338 : B e338 := mk (app gd303 (app gd0 (app gdOpen nl))) ok338
theorem gd339 : B e339 := mk (app gd305 (app gd303 (app gd9 nl))) ok339
theorem gd340 : B e340 := mk (app gd339 (app gd303 nl)) ok340
theorem gd341 : B e341 := mk (app gd303 (app gd340 nl)) ok341
theorem gd342 : B e342 := mk (app gd341 (app gd31 (app gd33 (app gd303 (app gd25 nl))))) ok342
theorem gd343 : B e343 := mk (app gd51 (app gd50 (app gd49 (app gd47 (app gd55 (app gd303 (app gd48 nl))))))) ok343
theorem gd344 : B e344 := mk (app gd313 (app gd303 (app gd9 nl))) ok344
theorem gd345 : B e345 := mk (app gd344 (app gd303 nl)) ok345
theorem gd346 : B e346 := mk (app gd303 (app gd345 nl)) ok346
theorem gd347 : B e347 := mk (app gd346 (app gd67 (app gd69 (app gd303 (app gd25 nl))))) ok347
theorem gd348 : B e348 := mk (app gd51 (app gd50 (app gd82 (app gd80 (app gd55 (app gd303 (app gd81 nl))))))) ok348
theorem gd349 : B e349 := mk (app gd303 nl) ok349
theorem gd350 : B e350 := mk (app gd349 (app gd303 (app gd9 nl))) ok350
theorem gd351 : B e351 := mk (app gd350 (app gd303 nl)) ok351
theorem gd352 : B e352 := mk (app gd303 (app gd351 nl)) ok352
theorem gd353 : B e353 := mk (app gd352 (app gd92 (app gd94 (app gd303 (app gd25 nl))))) ok353
theorem gd357 : B e357 := mk (app gd305 (app gd9 (app gd31 (app gd33 (app gd303 (app gd25 nl)))))) ok357
theorem gd361 : B e361 := mk (app gd313 (app gd9 (app gd67 (app gd69 (app gd303 (app gd25 nl)))))) ok361
theorem gd362 : B e362 := mk (app gd303 (app gd0 (app gdOpen nl))) ok362
theorem gd363 : B e363 := mk (app gd305 (app gd303 (app gd9 nl))) ok363
theorem gd364 : B e364 := mk (app gd363 (app gd303 nl)) ok364
theorem gd365 : B e365 := mk (app gd303 (app gd364 nl)) ok365
theorem gd366 : B e366 := mk (app gd365 (app gd31 (app gd33 (app gd303 (app gd25 nl))))) ok366
theorem gd367 : B e367 := mk (app gd51 (app gd50 (app gd49 (app gd47 (app gd55 (app gd303 (app gd48 nl))))))) ok367
theorem gd368 : B e368 := mk (app gd313 (app gd303 (app gd9 nl))) ok368
theorem gd369 : B e369 := mk (app gd368 (app gd303 nl)) ok369
theorem gd370 : B e370 := mk (app gd303 (app gd369 nl)) ok370
theorem gd371 : B e371 := mk (app gd370 (app gd67 (app gd69 (app gd303 (app gd25 nl))))) ok371
theorem gd372 : B e372 := mk (app gd51 (app gd50 (app gd82 (app gd80 (app gd55 (app gd303 (app gd81 nl))))))) ok372
theorem gd373 : B e373 := mk (app gd303 nl) ok373
theorem gd374 : B e374 := mk (app gd373 (app gd303 (app gd9 nl))) ok374
theorem gd375 : B e375 := mk (app gd374 (app gd303 nl)) ok375
theorem gd376 : B e376 := mk (app gd303 (app gd375 nl)) ok376
theorem gd377 : B e377 := mk (app gd376 (app gd92 (app gd94 (app gd303 (app gd25 nl))))) ok377
theorem gd381 : B e381 := mk (app gd305 (app gd9 (app gd31 (app gd33 (app gd303 (app gd25 nl)))))) ok381
theorem gd385 : B e385 := mk (app gd313 (app gd9 (app gd67 (app gd69 (app gd303 (app gd25 nl)))))) ok385
theorem gd386 : B e386 := mk (app gd303 (app gd0 (app gdOpen nl))) ok386
theorem gd387 : B e387 := mk (app gd305 (app gd303 (app gd9 nl))) ok387
theorem gd388 : B e388 := mk (app gd387 (app gd303 nl)) ok388
theorem gd389 : B e389 := mk (app gd303 (app gd388 nl)) ok389
theorem gd390 : B e390 := mk (app gd389 (app gd31 (app gd33 (app gd303 (app gd25 nl))))) ok390
theorem gd391 : B e391 := mk (app gd51 (app gd50 (app gd49 (app gd47 (app gd55 (app gd303 (app gd48 nl))))))) ok391
theorem gd392 : B e392 := mk (app gd313 (app gd303 (app gd9 nl))) ok392
theorem gd393 : B e393 := mk (app gd392 (app gd303 nl)) ok393
theorem gd394 : B e394 := mk (app gd303 (app gd393 nl)) ok394
theorem gd395 : B e395 := mk (app gd394 (app gd67 (app gd69 (app gd303 (app gd25 nl))))) ok395
theorem gd396 : B e396 := mk (app gd51 (app gd50 (app gd82 (app gd80 (app gd55 (app gd303 (app gd81 nl))))))) ok396
theorem gd397 : B e397 := mk (app gd303 nl) ok397
theorem gd398 : B e398 := mk (app gd397 (app gd303 (app gd9 nl))) ok398
theorem gd399 : B e399 := mk (app gd398 (app gd303 nl)) ok399
theorem gd400 : B e400 := mk (app gd303 (app gd399 nl)) ok400
theorem gd401 : B e401 := mk (app gd400 (app gd92 (app gd94 (app gd303 (app gd25 nl))))) ok401
theorem gd405 : B e405 := mk (app gd305 (app gd9 (app gd31 (app gd33 (app gd303 (app gd25 nl)))))) ok405
theorem gd409 : B e409 := mk (app gd313 (app gd9 (app gd67 (app gd69 (app gd303 (app gd25 nl)))))) ok409
/-- The law answers true for every input of a class, and leaves what was there as it was. -/
def Fine [Val] (a : List AV) : Prop := ∀ (w : World), Tryz.prog.globals.size ≤ w.heap.size → Ro0 Tryz.prog.globals.size w → ∀ (x : Array Value), LR (phi0 Tryz.prog.globals.size) a x → Calls Tryz.prog 4 x w fun e w' => e = .returned (.bool true) ∧ Below w.heap.size w w'
theorem fin [Val] {m : List Ent} {a : List AV} {tb : List Fact} (hm : AllGoodW Tryz.prog kb m) (h : yieldsTrueA Tryz.prog (knWith kb 6 m) 1000 60 4 a tb = true) (hT : ∀ f ∈ tb, f.holds Val.σ) : Fine a :=
  fun _ hG hro _ ha => below_of_args (knWith_sim kbSim hm) (by rw [g0]; decide) (by rw [g0]; exact h) hT hG hro ha
theorem run0 [Val] (hT : ∀ f ∈ tb0, f.holds Val.σ) : Fine a0 := fin (app gd61 (app gd59 (app gd58 (app gd56 (app gd44 (app gd45 (app gd43 (app gd42 (app gd36 (app gd35 (app gd34 (app gd24 (app gd23 (app gd22 (app gd2000000 nl))))))))))))))) ran0 hT
theorem run1 [Val] (hT : ∀ f ∈ tb1, f.holds Val.σ) : Fine a0 := fin (app gd86 (app gd84 (app gd58 (app gd83 (app gd77 (app gd78 (app gd43 (app gd76 (app gd72 (app gd71 (app gd70 (app gd24 (app gd23 (app gd22 (app gd2000000 nl))))))))))))))) ran1 hT
theorem run2 [Val] (hT : ∀ f ∈ tb2, f.holds Val.σ) : Fine a1 := fin (app gd109 (app gd107 (app gd58 (app gd106 (app gd55 (app gd105 (app gd101 (app gd102 (app gd43 (app gd100 (app gd41 (app gd98 (app gd97 (app gd96 (app gd95 (app gd24 (app gd23 (app gd22 (app gd2000000 nl))))))))))))))))))) ran2 hT
theorem run3 [Val] (hT : ∀ f ∈ tb3, f.holds Val.σ) : Fine a2 := fin (app gd61 (app gd59 (app gd58 (app gd115 (app gd44 (app gd45 (app gd43 (app gd42 (app gd36 (app gd35 (app gd113 (app gd24 (app gd23 (app gd22 (app gd2000000 nl))))))))))))))) ran3 hT
theorem run4 [Val] (hT : ∀ f ∈ tb4, f.holds Val.σ) : Fine a2 := fin (app gd61 (app gd59 (app gd58 (app gd117 (app gd44 (app gd45 (app gd43 (app gd42 (app gd36 (app gd35 (app gd113 (app gd24 (app gd23 (app gd22 (app gd2000000 nl))))))))))))))) ran4 hT
theorem run5 [Val] (hT : ∀ f ∈ tb5, f.holds Val.σ) : Fine a2 := fin (app gd86 (app gd84 (app gd58 (app gd123 (app gd77 (app gd78 (app gd43 (app gd76 (app gd72 (app gd71 (app gd121 (app gd24 (app gd23 (app gd22 (app gd2000000 nl))))))))))))))) ran5 hT
theorem run6 [Val] (hT : ∀ f ∈ tb6, f.holds Val.σ) : Fine a3 := fin (app gd61 (app gd59 (app gd58 (app gd129 (app gd44 (app gd45 (app gd43 (app gd42 (app gd36 (app gd35 (app gd128 (app gd24 (app gd124 (app gd22 (app gd2000000 nl))))))))))))))) ran6 hT
theorem run7 [Val] (hT : ∀ f ∈ tb7, f.holds Val.σ) : Fine a3 := fin (app gd86 (app gd84 (app gd58 (app gd134 (app gd77 (app gd78 (app gd43 (app gd76 (app gd72 (app gd71 (app gd133 (app gd24 (app gd124 (app gd22 (app gd2000000 nl))))))))))))))) ran7 hT
theorem run8 [Val] (hT : ∀ f ∈ tb8, f.holds Val.σ) : Fine a4 := fin (app gd109 (app gd107 (app gd58 (app gd106 (app gd55 (app gd105 (app gd101 (app gd102 (app gd43 (app gd100 (app gd41 (app gd98 (app gd97 (app gd96 (app gd139 (app gd24 (app gd124 (app gd22 (app gd2000000 nl))))))))))))))))))) ran8 hT
theorem run9 [Val] (hT : ∀ f ∈ tb9, f.holds Val.σ) : Fine a5 := fin (app gd61 (app gd59 (app gd58 (app gd115 (app gd44 (app gd45 (app gd43 (app gd42 (app gd36 (app gd35 (app gd143 (app gd24 (app gd124 (app gd22 (app gd2000000 nl))))))))))))))) ran9 hT
theorem run10 [Val] (hT : ∀ f ∈ tb10, f.holds Val.σ) : Fine a5 := fin (app gd61 (app gd59 (app gd58 (app gd117 (app gd44 (app gd45 (app gd43 (app gd42 (app gd36 (app gd35 (app gd143 (app gd24 (app gd124 (app gd22 (app gd2000000 nl))))))))))))))) ran10 hT
theorem run11 [Val] (hT : ∀ f ∈ tb11, f.holds Val.σ) : Fine a5 := fin (app gd86 (app gd84 (app gd58 (app gd123 (app gd77 (app gd78 (app gd43 (app gd76 (app gd72 (app gd71 (app gd147 (app gd24 (app gd124 (app gd22 (app gd2000000 nl))))))))))))))) ran11 hT
theorem run12 [Val] (hT : ∀ f ∈ tb12, f.holds Val.σ) : Fine a6 := fin (app gd61 (app gd59 (app gd58 (app gd153 (app gd44 (app gd45 (app gd43 (app gd42 (app gd36 (app gd35 (app gd152 (app gd24 (app gd148 (app gd22 (app gd2000000 nl))))))))))))))) ran12 hT
theorem run13 [Val] (hT : ∀ f ∈ tb13, f.holds Val.σ) : Fine a6 := fin (app gd86 (app gd84 (app gd58 (app gd158 (app gd77 (app gd78 (app gd43 (app gd76 (app gd72 (app gd71 (app gd157 (app gd24 (app gd148 (app gd22 (app gd2000000 nl))))))))))))))) ran13 hT
theorem run14 [Val] (hT : ∀ f ∈ tb14, f.holds Val.σ) : Fine a7 := fin (app gd109 (app gd107 (app gd58 (app gd106 (app gd55 (app gd105 (app gd101 (app gd102 (app gd43 (app gd100 (app gd41 (app gd98 (app gd97 (app gd96 (app gd163 (app gd24 (app gd148 (app gd22 (app gd2000000 nl))))))))))))))))))) ran14 hT
theorem run15 [Val] (hT : ∀ f ∈ tb15, f.holds Val.σ) : Fine a8 := fin (app gd61 (app gd59 (app gd58 (app gd115 (app gd44 (app gd45 (app gd43 (app gd42 (app gd36 (app gd35 (app gd167 (app gd24 (app gd148 (app gd22 (app gd2000000 nl))))))))))))))) ran15 hT
theorem run16 [Val] (hT : ∀ f ∈ tb16, f.holds Val.σ) : Fine a8 := fin (app gd61 (app gd59 (app gd58 (app gd117 (app gd44 (app gd45 (app gd43 (app gd42 (app gd36 (app gd35 (app gd167 (app gd24 (app gd148 (app gd22 (app gd2000000 nl))))))))))))))) ran16 hT
theorem run17 [Val] (hT : ∀ f ∈ tb17, f.holds Val.σ) : Fine a8 := fin (app gd86 (app gd84 (app gd58 (app gd123 (app gd77 (app gd78 (app gd43 (app gd76 (app gd72 (app gd71 (app gd171 (app gd24 (app gd148 (app gd22 (app gd2000000 nl))))))))))))))) ran17 hT
theorem run18 [Val] (hT : ∀ f ∈ tb18, f.holds Val.σ) : Fine a9 := fin (app gd61 (app gd59 (app gd58 (app gd177 (app gd44 (app gd45 (app gd43 (app gd42 (app gd36 (app gd35 (app gd176 (app gd24 (app gd172 (app gd22 (app gd2000000 nl))))))))))))))) ran18 hT
theorem run19 [Val] (hT : ∀ f ∈ tb19, f.holds Val.σ) : Fine a9 := fin (app gd86 (app gd84 (app gd58 (app gd182 (app gd77 (app gd78 (app gd43 (app gd76 (app gd72 (app gd71 (app gd181 (app gd24 (app gd172 (app gd22 (app gd2000000 nl))))))))))))))) ran19 hT
theorem run20 [Val] (hT : ∀ f ∈ tb20, f.holds Val.σ) : Fine a10 := fin (app gd109 (app gd107 (app gd58 (app gd106 (app gd55 (app gd105 (app gd101 (app gd102 (app gd43 (app gd100 (app gd41 (app gd98 (app gd97 (app gd96 (app gd187 (app gd24 (app gd172 (app gd22 (app gd2000000 nl))))))))))))))))))) ran20 hT
theorem run21 [Val] (hT : ∀ f ∈ tb21, f.holds Val.σ) : Fine a11 := fin (app gd61 (app gd59 (app gd58 (app gd115 (app gd44 (app gd45 (app gd43 (app gd42 (app gd36 (app gd35 (app gd191 (app gd24 (app gd172 (app gd22 (app gd2000000 nl))))))))))))))) ran21 hT
theorem run22 [Val] (hT : ∀ f ∈ tb22, f.holds Val.σ) : Fine a11 := fin (app gd61 (app gd59 (app gd58 (app gd117 (app gd44 (app gd45 (app gd43 (app gd42 (app gd36 (app gd35 (app gd191 (app gd24 (app gd172 (app gd22 (app gd2000000 nl))))))))))))))) ran22 hT
theorem run23 [Val] (hT : ∀ f ∈ tb23, f.holds Val.σ) : Fine a11 := fin (app gd86 (app gd84 (app gd58 (app gd123 (app gd77 (app gd78 (app gd43 (app gd76 (app gd72 (app gd71 (app gd195 (app gd24 (app gd172 (app gd22 (app gd2000000 nl))))))))))))))) ran23 hT
theorem run24 [Val] (hT : ∀ f ∈ tb24, f.holds Val.σ) : Fine a12 := fin (app gd205 (app gd59 (app gd58 (app gd204 (app gd44 (app gd45 (app gd43 (app gd203 (app gd36 (app gd35 (app gd202 (app gd24 (app gd197 (app gd196 (app gd2000000 nl))))))))))))))) ran24 hT
theorem run25 [Val] (hT : ∀ f ∈ tb25, f.holds Val.σ) : Fine a12 := fin (app gd213 (app gd84 (app gd58 (app gd212 (app gd77 (app gd78 (app gd43 (app gd211 (app gd72 (app gd71 (app gd210 (app gd24 (app gd197 (app gd196 (app gd2000000 nl))))))))))))))) ran25 hT
theorem run26 [Val] (hT : ∀ f ∈ tb26, f.holds Val.σ) : Fine a13 := fin (app gd219 (app gd107 (app gd58 (app gd106 (app gd55 (app gd105 (app gd101 (app gd102 (app gd43 (app gd100 (app gd41 (app gd98 (app gd97 (app gd96 (app gd218 (app gd24 (app gd197 (app gd196 (app gd2000000 nl))))))))))))))))))) ran26 hT
theorem run27 [Val] (hT : ∀ f ∈ tb27, f.holds Val.σ) : Fine a14 := fin (app gd205 (app gd59 (app gd58 (app gd224 (app gd44 (app gd45 (app gd43 (app gd203 (app gd36 (app gd35 (app gd223 (app gd24 (app gd197 (app gd196 (app gd2000000 nl))))))))))))))) ran27 hT
theorem run28 [Val] (hT : ∀ f ∈ tb28, f.holds Val.σ) : Fine a14 := fin (app gd205 (app gd59 (app gd58 (app gd225 (app gd44 (app gd45 (app gd43 (app gd203 (app gd36 (app gd35 (app gd223 (app gd24 (app gd197 (app gd196 (app gd2000000 nl))))))))))))))) ran28 hT
theorem run29 [Val] (hT : ∀ f ∈ tb29, f.holds Val.σ) : Fine a14 := fin (app gd213 (app gd84 (app gd58 (app gd230 (app gd77 (app gd78 (app gd43 (app gd211 (app gd72 (app gd71 (app gd229 (app gd24 (app gd197 (app gd196 (app gd2000000 nl))))))))))))))) ran29 hT
theorem run30 [Val] (hT : ∀ f ∈ tb30, f.holds Val.σ) : Fine a15 := fin (app gd205 (app gd59 (app gd58 (app gd236 (app gd44 (app gd45 (app gd43 (app gd203 (app gd36 (app gd35 (app gd235 (app gd24 (app gd231 (app gd196 (app gd2000000 nl))))))))))))))) ran30 hT
theorem run31 [Val] (hT : ∀ f ∈ tb31, f.holds Val.σ) : Fine a15 := fin (app gd213 (app gd84 (app gd58 (app gd241 (app gd77 (app gd78 (app gd43 (app gd211 (app gd72 (app gd71 (app gd240 (app gd24 (app gd231 (app gd196 (app gd2000000 nl))))))))))))))) ran31 hT
theorem run32 [Val] (hT : ∀ f ∈ tb32, f.holds Val.σ) : Fine a16 := fin (app gd219 (app gd107 (app gd58 (app gd106 (app gd55 (app gd105 (app gd101 (app gd102 (app gd43 (app gd100 (app gd41 (app gd98 (app gd97 (app gd96 (app gd246 (app gd24 (app gd231 (app gd196 (app gd2000000 nl))))))))))))))))))) ran32 hT
theorem run33 [Val] (hT : ∀ f ∈ tb33, f.holds Val.σ) : Fine a17 := fin (app gd205 (app gd59 (app gd58 (app gd224 (app gd44 (app gd45 (app gd43 (app gd203 (app gd36 (app gd35 (app gd250 (app gd24 (app gd231 (app gd196 (app gd2000000 nl))))))))))))))) ran33 hT
theorem run34 [Val] (hT : ∀ f ∈ tb34, f.holds Val.σ) : Fine a17 := fin (app gd205 (app gd59 (app gd58 (app gd225 (app gd44 (app gd45 (app gd43 (app gd203 (app gd36 (app gd35 (app gd250 (app gd24 (app gd231 (app gd196 (app gd2000000 nl))))))))))))))) ran34 hT
theorem run35 [Val] (hT : ∀ f ∈ tb35, f.holds Val.σ) : Fine a17 := fin (app gd213 (app gd84 (app gd58 (app gd230 (app gd77 (app gd78 (app gd43 (app gd211 (app gd72 (app gd71 (app gd254 (app gd24 (app gd231 (app gd196 (app gd2000000 nl))))))))))))))) ran35 hT
theorem run36 [Val] (hT : ∀ f ∈ tb36, f.holds Val.σ) : Fine a18 := fin (app gd205 (app gd59 (app gd58 (app gd260 (app gd44 (app gd45 (app gd43 (app gd203 (app gd36 (app gd35 (app gd259 (app gd24 (app gd255 (app gd196 (app gd2000000 nl))))))))))))))) ran36 hT
theorem run37 [Val] (hT : ∀ f ∈ tb37, f.holds Val.σ) : Fine a18 := fin (app gd213 (app gd84 (app gd58 (app gd265 (app gd77 (app gd78 (app gd43 (app gd211 (app gd72 (app gd71 (app gd264 (app gd24 (app gd255 (app gd196 (app gd2000000 nl))))))))))))))) ran37 hT
theorem run38 [Val] (hT : ∀ f ∈ tb38, f.holds Val.σ) : Fine a19 := fin (app gd219 (app gd107 (app gd58 (app gd106 (app gd55 (app gd105 (app gd101 (app gd102 (app gd43 (app gd100 (app gd41 (app gd98 (app gd97 (app gd96 (app gd270 (app gd24 (app gd255 (app gd196 (app gd2000000 nl))))))))))))))))))) ran38 hT
theorem run39 [Val] (hT : ∀ f ∈ tb39, f.holds Val.σ) : Fine a20 := fin (app gd205 (app gd59 (app gd58 (app gd224 (app gd44 (app gd45 (app gd43 (app gd203 (app gd36 (app gd35 (app gd274 (app gd24 (app gd255 (app gd196 (app gd2000000 nl))))))))))))))) ran39 hT
theorem run40 [Val] (hT : ∀ f ∈ tb40, f.holds Val.σ) : Fine a20 := fin (app gd205 (app gd59 (app gd58 (app gd225 (app gd44 (app gd45 (app gd43 (app gd203 (app gd36 (app gd35 (app gd274 (app gd24 (app gd255 (app gd196 (app gd2000000 nl))))))))))))))) ran40 hT
theorem run41 [Val] (hT : ∀ f ∈ tb41, f.holds Val.σ) : Fine a20 := fin (app gd213 (app gd84 (app gd58 (app gd230 (app gd77 (app gd78 (app gd43 (app gd211 (app gd72 (app gd71 (app gd278 (app gd24 (app gd255 (app gd196 (app gd2000000 nl))))))))))))))) ran41 hT
theorem run42 [Val] (hT : ∀ f ∈ tb42, f.holds Val.σ) : Fine a21 := fin (app gd205 (app gd59 (app gd58 (app gd284 (app gd44 (app gd45 (app gd43 (app gd203 (app gd36 (app gd35 (app gd283 (app gd24 (app gd279 (app gd196 (app gd2000000 nl))))))))))))))) ran42 hT
theorem run43 [Val] (hT : ∀ f ∈ tb43, f.holds Val.σ) : Fine a21 := fin (app gd213 (app gd84 (app gd58 (app gd289 (app gd77 (app gd78 (app gd43 (app gd211 (app gd72 (app gd71 (app gd288 (app gd24 (app gd279 (app gd196 (app gd2000000 nl))))))))))))))) ran43 hT
theorem run44 [Val] (hT : ∀ f ∈ tb44, f.holds Val.σ) : Fine a22 := fin (app gd219 (app gd107 (app gd58 (app gd106 (app gd55 (app gd105 (app gd101 (app gd102 (app gd43 (app gd100 (app gd41 (app gd98 (app gd97 (app gd96 (app gd294 (app gd24 (app gd279 (app gd196 (app gd2000000 nl))))))))))))))))))) ran44 hT
theorem run45 [Val] (hT : ∀ f ∈ tb45, f.holds Val.σ) : Fine a23 := fin (app gd205 (app gd59 (app gd58 (app gd224 (app gd44 (app gd45 (app gd43 (app gd203 (app gd36 (app gd35 (app gd298 (app gd24 (app gd279 (app gd196 (app gd2000000 nl))))))))))))))) ran45 hT
theorem run46 [Val] (hT : ∀ f ∈ tb46, f.holds Val.σ) : Fine a23 := fin (app gd205 (app gd59 (app gd58 (app gd225 (app gd44 (app gd45 (app gd43 (app gd203 (app gd36 (app gd35 (app gd298 (app gd24 (app gd279 (app gd196 (app gd2000000 nl))))))))))))))) ran46 hT
theorem run47 [Val] (hT : ∀ f ∈ tb47, f.holds Val.σ) : Fine a23 := fin (app gd213 (app gd84 (app gd58 (app gd230 (app gd77 (app gd78 (app gd43 (app gd211 (app gd72 (app gd71 (app gd302 (app gd24 (app gd279 (app gd196 (app gd2000000 nl))))))))))))))) ran47 hT
theorem run48 [Val] (hT : ∀ f ∈ tb48, f.holds Val.σ) : Fine a24 := fin (app gd312 (app gd59 (app gd58 (app gd311 (app gd44 (app gd45 (app gd43 (app gd310 (app gd36 (app gd35 (app gd309 (app gd24 (app gd304 (app gd303 (app gd2000000 nl))))))))))))))) ran48 hT
theorem run49 [Val] (hT : ∀ f ∈ tb49, f.holds Val.σ) : Fine a24 := fin (app gd320 (app gd84 (app gd58 (app gd319 (app gd77 (app gd78 (app gd43 (app gd318 (app gd72 (app gd71 (app gd317 (app gd24 (app gd304 (app gd303 (app gd2000000 nl))))))))))))))) ran49 hT
theorem run50 [Val] (hT : ∀ f ∈ tb50, f.holds Val.σ) : Fine a25 := fin (app gd326 (app gd107 (app gd58 (app gd106 (app gd55 (app gd105 (app gd101 (app gd102 (app gd43 (app gd100 (app gd41 (app gd98 (app gd97 (app gd96 (app gd325 (app gd24 (app gd304 (app gd303 (app gd2000000 nl))))))))))))))))))) ran50 hT
theorem run51 [Val] (hT : ∀ f ∈ tb51, f.holds Val.σ) : Fine a26 := fin (app gd312 (app gd59 (app gd58 (app gd331 (app gd44 (app gd45 (app gd43 (app gd310 (app gd36 (app gd35 (app gd330 (app gd24 (app gd304 (app gd303 (app gd2000000 nl))))))))))))))) ran51 hT
theorem run52 [Val] (hT : ∀ f ∈ tb52, f.holds Val.σ) : Fine a26 := fin (app gd312 (app gd59 (app gd58 (app gd332 (app gd44 (app gd45 (app gd43 (app gd310 (app gd36 (app gd35 (app gd330 (app gd24 (app gd304 (app gd303 (app gd2000000 nl))))))))))))))) ran52 hT
theorem run53 [Val] (hT : ∀ f ∈ tb53, f.holds Val.σ) : Fine a26 := fin (app gd320 (app gd84 (app gd58 (app gd337 (app gd77 (app gd78 (app gd43 (app gd318 (app gd72 (app gd71 (app gd336 (app gd24 (app gd304 (app gd303 (app gd2000000 nl))))))))))))))) ran53 hT
theorem run54 [Val] (hT : ∀ f ∈ tb54, f.holds Val.σ) : Fine a27 := fin (app gd312 (app gd59 (app gd58 (app gd343 (app gd44 (app gd45 (app gd43 (app gd310 (app gd36 (app gd35 (app gd342 (app gd24 (app gd338 (app gd303 (app gd2000000 nl))))))))))))))) ran54 hT
theorem run55 [Val] (hT : ∀ f ∈ tb55, f.holds Val.σ) : Fine a27 := fin (app gd320 (app gd84 (app gd58 (app gd348 (app gd77 (app gd78 (app gd43 (app gd318 (app gd72 (app gd71 (app gd347 (app gd24 (app gd338 (app gd303 (app gd2000000 nl))))))))))))))) ran55 hT
theorem run56 [Val] (hT : ∀ f ∈ tb56, f.holds Val.σ) : Fine a28 := fin (app gd326 (app gd107 (app gd58 (app gd106 (app gd55 (app gd105 (app gd101 (app gd102 (app gd43 (app gd100 (app gd41 (app gd98 (app gd97 (app gd96 (app gd353 (app gd24 (app gd338 (app gd303 (app gd2000000 nl))))))))))))))))))) ran56 hT
theorem run57 [Val] (hT : ∀ f ∈ tb57, f.holds Val.σ) : Fine a29 := fin (app gd312 (app gd59 (app gd58 (app gd331 (app gd44 (app gd45 (app gd43 (app gd310 (app gd36 (app gd35 (app gd357 (app gd24 (app gd338 (app gd303 (app gd2000000 nl))))))))))))))) ran57 hT
theorem run58 [Val] (hT : ∀ f ∈ tb58, f.holds Val.σ) : Fine a29 := fin (app gd312 (app gd59 (app gd58 (app gd332 (app gd44 (app gd45 (app gd43 (app gd310 (app gd36 (app gd35 (app gd357 (app gd24 (app gd338 (app gd303 (app gd2000000 nl))))))))))))))) ran58 hT
theorem run59 [Val] (hT : ∀ f ∈ tb59, f.holds Val.σ) : Fine a29 := fin (app gd320 (app gd84 (app gd58 (app gd337 (app gd77 (app gd78 (app gd43 (app gd318 (app gd72 (app gd71 (app gd361 (app gd24 (app gd338 (app gd303 (app gd2000000 nl))))))))))))))) ran59 hT
theorem run60 [Val] (hT : ∀ f ∈ tb60, f.holds Val.σ) : Fine a30 := fin (app gd312 (app gd59 (app gd58 (app gd367 (app gd44 (app gd45 (app gd43 (app gd310 (app gd36 (app gd35 (app gd366 (app gd24 (app gd362 (app gd303 (app gd2000000 nl))))))))))))))) ran60 hT
theorem run61 [Val] (hT : ∀ f ∈ tb61, f.holds Val.σ) : Fine a30 := fin (app gd320 (app gd84 (app gd58 (app gd372 (app gd77 (app gd78 (app gd43 (app gd318 (app gd72 (app gd71 (app gd371 (app gd24 (app gd362 (app gd303 (app gd2000000 nl))))))))))))))) ran61 hT
theorem run62 [Val] (hT : ∀ f ∈ tb62, f.holds Val.σ) : Fine a31 := fin (app gd326 (app gd107 (app gd58 (app gd106 (app gd55 (app gd105 (app gd101 (app gd102 (app gd43 (app gd100 (app gd41 (app gd98 (app gd97 (app gd96 (app gd377 (app gd24 (app gd362 (app gd303 (app gd2000000 nl))))))))))))))))))) ran62 hT
theorem run63 [Val] (hT : ∀ f ∈ tb63, f.holds Val.σ) : Fine a32 := fin (app gd312 (app gd59 (app gd58 (app gd331 (app gd44 (app gd45 (app gd43 (app gd310 (app gd36 (app gd35 (app gd381 (app gd24 (app gd362 (app gd303 (app gd2000000 nl))))))))))))))) ran63 hT
theorem run64 [Val] (hT : ∀ f ∈ tb64, f.holds Val.σ) : Fine a32 := fin (app gd312 (app gd59 (app gd58 (app gd332 (app gd44 (app gd45 (app gd43 (app gd310 (app gd36 (app gd35 (app gd381 (app gd24 (app gd362 (app gd303 (app gd2000000 nl))))))))))))))) ran64 hT
theorem run65 [Val] (hT : ∀ f ∈ tb65, f.holds Val.σ) : Fine a32 := fin (app gd320 (app gd84 (app gd58 (app gd337 (app gd77 (app gd78 (app gd43 (app gd318 (app gd72 (app gd71 (app gd385 (app gd24 (app gd362 (app gd303 (app gd2000000 nl))))))))))))))) ran65 hT
theorem run66 [Val] (hT : ∀ f ∈ tb66, f.holds Val.σ) : Fine a33 := fin (app gd312 (app gd59 (app gd58 (app gd391 (app gd44 (app gd45 (app gd43 (app gd310 (app gd36 (app gd35 (app gd390 (app gd24 (app gd386 (app gd303 (app gd2000000 nl))))))))))))))) ran66 hT
theorem run67 [Val] (hT : ∀ f ∈ tb67, f.holds Val.σ) : Fine a33 := fin (app gd320 (app gd84 (app gd58 (app gd396 (app gd77 (app gd78 (app gd43 (app gd318 (app gd72 (app gd71 (app gd395 (app gd24 (app gd386 (app gd303 (app gd2000000 nl))))))))))))))) ran67 hT
theorem run68 [Val] (hT : ∀ f ∈ tb68, f.holds Val.σ) : Fine a34 := fin (app gd326 (app gd107 (app gd58 (app gd106 (app gd55 (app gd105 (app gd101 (app gd102 (app gd43 (app gd100 (app gd41 (app gd98 (app gd97 (app gd96 (app gd401 (app gd24 (app gd386 (app gd303 (app gd2000000 nl))))))))))))))))))) ran68 hT
theorem run69 [Val] (hT : ∀ f ∈ tb69, f.holds Val.σ) : Fine a35 := fin (app gd312 (app gd59 (app gd58 (app gd331 (app gd44 (app gd45 (app gd43 (app gd310 (app gd36 (app gd35 (app gd405 (app gd24 (app gd386 (app gd303 (app gd2000000 nl))))))))))))))) ran69 hT
theorem run70 [Val] (hT : ∀ f ∈ tb70, f.holds Val.σ) : Fine a35 := fin (app gd312 (app gd59 (app gd58 (app gd332 (app gd44 (app gd45 (app gd43 (app gd310 (app gd36 (app gd35 (app gd405 (app gd24 (app gd386 (app gd303 (app gd2000000 nl))))))))))))))) ran70 hT
theorem run71 [Val] (hT : ∀ f ∈ tb71, f.holds Val.σ) : Fine a35 := fin (app gd320 (app gd84 (app gd58 (app gd337 (app gd77 (app gd78 (app gd43 (app gd318 (app gd72 (app gd71 (app gd409 (app gd24 (app gd386 (app gd303 (app gd2000000 nl))))))))))))))) ran71 hT
theorem nb [Val] : (0 ≤ clampI 0 1023 (Val.σ 13) ∧ clampI 0 1023 (Val.σ 13) ≤ 1023) ∧ (1024 ≤ clampI 1024 1039 (Val.σ 13) ∧ clampI 1024 1039 (Val.σ 13) ≤ 1039) ∧ (1040 ≤ clampI 1040 65535 (Val.σ 13) ∧ clampI 1040 65535 (Val.σ 13) ≤ 65535) := ⟨clampI_le (by decide) _, clampI_le (by decide) _, clampI_le (by decide) _⟩
theorem cls0 [Val] : Fine a0 := by
  rcases Fact.em Val.σ true (.const 0) (.rem (.var 13 0 1023) 2) with h0 | h0
  · rcases Fact.em Val.σ true (.const 1) (.rem (.var 13 0 1023) 2) with h1 | h1
    · exfalso; have b := nb; (first | have k0 := eqT h0 | have k0 := eqF h0 | have k0 := ltT h0 | have k0 := ltF h0); (first | have k1 := eqT h1 | have k1 := eqF h1 | have k1 := ltT h1 | have k1 := ltF h1); simp only [E.eval] at k0 k1; omega
    · exact run0 (holds_cons h0 (holds_cons h1 (holds_nil _)))
  · rcases Fact.em Val.σ true (.const 1) (.rem (.var 13 0 1023) 2) with h1 | h1
    · exact run1 (holds_cons h0 (holds_cons h1 (holds_nil _)))
    · exfalso; have b := nb; (first | have k0 := eqT h0 | have k0 := eqF h0 | have k0 := ltT h0 | have k0 := ltF h0); (first | have k1 := eqT h1 | have k1 := eqF h1 | have k1 := ltT h1 | have k1 := ltF h1); simp only [E.eval] at k0 k1; omega
theorem cls1 [Val] : Fine a1 := by
  rcases Fact.em Val.σ true (.add (.rem (.add (.add (.sub (.const 65535) (.add (.rem (.add (.var 13 1024 1039) (.const 54744)) 65535) (.const 1))) x519) (.const 55768)) 65535) (.const 1)) (.const 65535) with h0 | h0
  · rcases Fact.em Val.σ true (.add x519 (.const 1024)) (.var 13 1024 1039) with h1 | h1
    · rcases Fact.em Val.σ true (.add (.rem (.add (.add (.sub (.const 65535) (.add (.rem (.add (.var 13 1024 1039) (.const 52696)) 65535) (.const 1))) x519) (.const 53720)) 65535) (.const 1)) (.const 65535) with h2 | h2
      · exact run2 (holds_cons h0 (holds_cons h1 (holds_cons h2 (holds_nil _))))
      · exfalso; have b := nb; (first | have k0 := eqT h0 | have k0 := eqF h0 | have k0 := ltT h0 | have k0 := ltF h0); (first | have k1 := eqT h1 | have k1 := eqF h1 | have k1 := ltT h1 | have k1 := ltF h1); (first | have k2 := eqT h2 | have k2 := eqF h2 | have k2 := ltT h2 | have k2 := ltF h2); simp only [E.eval, x519] at k0 k1 k2; omega
    · exfalso; have b := nb; (first | have k0 := eqT h0 | have k0 := eqF h0 | have k0 := ltT h0 | have k0 := ltF h0); (first | have k1 := eqT h1 | have k1 := eqF h1 | have k1 := ltT h1 | have k1 := ltF h1); simp only [E.eval, x519] at k0 k1; omega
  · exfalso; have b := nb; (first | have k0 := eqT h0 | have k0 := eqF h0 | have k0 := ltT h0 | have k0 := ltF h0); simp only [E.eval, x519] at k0; omega
theorem cls2 [Val] : Fine a2 := by
  rcases Fact.em Val.σ true (.const 0) (.rem (.var 13 1040 65535) 2) with h0 | h0
  · rcases Fact.em Val.σ true (.const 1) (.rem (.var 13 1040 65535) 2) with h1 | h1
    · exfalso; have b := nb; (first | have k0 := eqT h0 | have k0 := eqF h0 | have k0 := ltT h0 | have k0 := ltF h0); (first | have k1 := eqT h1 | have k1 := eqF h1 | have k1 := ltT h1 | have k1 := ltF h1); simp only [E.eval] at k0 k1; omega
    · rcases Fact.em Val.σ true x520 (.const 0) with h2 | h2
      · exact run3 (holds_cons h0 (holds_cons h1 (holds_cons h2 (holds_nil _))))
      · exact run4 (holds_cons h0 (holds_cons h1 (holds_cons h2 (holds_nil _))))
  · rcases Fact.em Val.σ true (.const 1) (.rem (.var 13 1040 65535) 2) with h1 | h1
    · rcases Fact.em Val.σ true x520 (.const 0) with h2 | h2
      · exfalso; have b := nb; (first | have k0 := eqT h0 | have k0 := eqF h0 | have k0 := ltT h0 | have k0 := ltF h0); (first | have k1 := eqT h1 | have k1 := eqF h1 | have k1 := ltT h1 | have k1 := ltF h1); (first | have k2 := eqT h2 | have k2 := eqF h2 | have k2 := ltT h2 | have k2 := ltF h2); simp only [E.eval, x520] at k0 k1 k2; have hx : clampI 1040 65535 (Val.σ 13) = 10790 := (by clear k0 k1; omega); clear k2; omega
      · exact run5 (holds_cons h0 (holds_cons h1 (holds_cons h2 (holds_nil _))))
    · exfalso; have b := nb; (first | have k0 := eqT h0 | have k0 := eqF h0 | have k0 := ltT h0 | have k0 := ltF h0); (first | have k1 := eqT h1 | have k1 := eqF h1 | have k1 := ltT h1 | have k1 := ltF h1); simp only [E.eval] at k0 k1; omega
theorem cls3 [Val] : Fine a3 := by
  rcases Fact.em Val.σ true (.const 0) (.rem (.var 13 0 1023) 2) with h0 | h0
  · rcases Fact.em Val.σ true (.const 1) (.rem (.var 13 0 1023) 2) with h1 | h1
    · exfalso; have b := nb; (first | have k0 := eqT h0 | have k0 := eqF h0 | have k0 := ltT h0 | have k0 := ltF h0); (first | have k1 := eqT h1 | have k1 := eqF h1 | have k1 := ltT h1 | have k1 := ltF h1); simp only [E.eval] at k0 k1; omega
    · exact run6 (holds_cons h0 (holds_cons h1 (holds_nil _)))
  · rcases Fact.em Val.σ true (.const 1) (.rem (.var 13 0 1023) 2) with h1 | h1
    · exact run7 (holds_cons h0 (holds_cons h1 (holds_nil _)))
    · exfalso; have b := nb; (first | have k0 := eqT h0 | have k0 := eqF h0 | have k0 := ltT h0 | have k0 := ltF h0); (first | have k1 := eqT h1 | have k1 := eqF h1 | have k1 := ltT h1 | have k1 := ltF h1); simp only [E.eval] at k0 k1; omega
theorem cls4 [Val] : Fine a4 := by
  rcases Fact.em Val.σ true (.add (.rem (.add (.add (.sub (.const 65535) (.add (.rem (.add (.var 13 1024 1039) (.const 54744)) 65535) (.const 1))) x519) (.const 55768)) 65535) (.const 1)) (.const 65535) with h0 | h0
  · rcases Fact.em Val.σ true (.add x519 (.const 1024)) (.var 13 1024 1039) with h1 | h1
    · rcases Fact.em Val.σ true (.add (.rem (.add (.add (.sub (.const 65535) (.add (.rem (.add (.var 13 1024 1039) (.const 52696)) 65535) (.const 1))) x519) (.const 53720)) 65535) (.const 1)) (.const 65535) with h2 | h2
      · exact run8 (holds_cons h0 (holds_cons h1 (holds_cons h2 (holds_nil _))))
      · exfalso; have b := nb; (first | have k0 := eqT h0 | have k0 := eqF h0 | have k0 := ltT h0 | have k0 := ltF h0); (first | have k1 := eqT h1 | have k1 := eqF h1 | have k1 := ltT h1 | have k1 := ltF h1); (first | have k2 := eqT h2 | have k2 := eqF h2 | have k2 := ltT h2 | have k2 := ltF h2); simp only [E.eval, x519] at k0 k1 k2; omega
    · exfalso; have b := nb; (first | have k0 := eqT h0 | have k0 := eqF h0 | have k0 := ltT h0 | have k0 := ltF h0); (first | have k1 := eqT h1 | have k1 := eqF h1 | have k1 := ltT h1 | have k1 := ltF h1); simp only [E.eval, x519] at k0 k1; omega
  · exfalso; have b := nb; (first | have k0 := eqT h0 | have k0 := eqF h0 | have k0 := ltT h0 | have k0 := ltF h0); simp only [E.eval, x519] at k0; omega
theorem cls5 [Val] : Fine a5 := by
  rcases Fact.em Val.σ true (.const 0) (.rem (.var 13 1040 65535) 2) with h0 | h0
  · rcases Fact.em Val.σ true (.const 1) (.rem (.var 13 1040 65535) 2) with h1 | h1
    · exfalso; have b := nb; (first | have k0 := eqT h0 | have k0 := eqF h0 | have k0 := ltT h0 | have k0 := ltF h0); (first | have k1 := eqT h1 | have k1 := eqF h1 | have k1 := ltT h1 | have k1 := ltF h1); simp only [E.eval] at k0 k1; omega
    · rcases Fact.em Val.σ true x520 (.const 0) with h2 | h2
      · exact run9 (holds_cons h0 (holds_cons h1 (holds_cons h2 (holds_nil _))))
      · exact run10 (holds_cons h0 (holds_cons h1 (holds_cons h2 (holds_nil _))))
  · rcases Fact.em Val.σ true (.const 1) (.rem (.var 13 1040 65535) 2) with h1 | h1
    · rcases Fact.em Val.σ true x520 (.const 0) with h2 | h2
      · exfalso; have b := nb; (first | have k0 := eqT h0 | have k0 := eqF h0 | have k0 := ltT h0 | have k0 := ltF h0); (first | have k1 := eqT h1 | have k1 := eqF h1 | have k1 := ltT h1 | have k1 := ltF h1); (first | have k2 := eqT h2 | have k2 := eqF h2 | have k2 := ltT h2 | have k2 := ltF h2); simp only [E.eval, x520] at k0 k1 k2; have hx : clampI 1040 65535 (Val.σ 13) = 10790 := (by clear k0 k1; omega); clear k2; omega
      · exact run11 (holds_cons h0 (holds_cons h1 (holds_cons h2 (holds_nil _))))
    · exfalso; have b := nb; (first | have k0 := eqT h0 | have k0 := eqF h0 | have k0 := ltT h0 | have k0 := ltF h0); (first | have k1 := eqT h1 | have k1 := eqF h1 | have k1 := ltT h1 | have k1 := ltF h1); simp only [E.eval] at k0 k1; omega
theorem cls6 [Val] : Fine a6 := by
  rcases Fact.em Val.σ true (.const 0) (.rem (.var 13 0 1023) 2) with h0 | h0
  · rcases Fact.em Val.σ true (.const 1) (.rem (.var 13 0 1023) 2) with h1 | h1
    · exfalso; have b := nb; (first | have k0 := eqT h0 | have k0 := eqF h0 | have k0 := ltT h0 | have k0 := ltF h0); (first | have k1 := eqT h1 | have k1 := eqF h1 | have k1 := ltT h1 | have k1 := ltF h1); simp only [E.eval] at k0 k1; omega
    · exact run12 (holds_cons h0 (holds_cons h1 (holds_nil _)))
  · rcases Fact.em Val.σ true (.const 1) (.rem (.var 13 0 1023) 2) with h1 | h1
    · exact run13 (holds_cons h0 (holds_cons h1 (holds_nil _)))
    · exfalso; have b := nb; (first | have k0 := eqT h0 | have k0 := eqF h0 | have k0 := ltT h0 | have k0 := ltF h0); (first | have k1 := eqT h1 | have k1 := eqF h1 | have k1 := ltT h1 | have k1 := ltF h1); simp only [E.eval] at k0 k1; omega
theorem cls7 [Val] : Fine a7 := by
  rcases Fact.em Val.σ true (.add (.rem (.add (.add (.sub (.const 65535) (.add (.rem (.add (.var 13 1024 1039) (.const 54744)) 65535) (.const 1))) x519) (.const 55768)) 65535) (.const 1)) (.const 65535) with h0 | h0
  · rcases Fact.em Val.σ true (.add x519 (.const 1024)) (.var 13 1024 1039) with h1 | h1
    · rcases Fact.em Val.σ true (.add (.rem (.add (.add (.sub (.const 65535) (.add (.rem (.add (.var 13 1024 1039) (.const 52696)) 65535) (.const 1))) x519) (.const 53720)) 65535) (.const 1)) (.const 65535) with h2 | h2
      · exact run14 (holds_cons h0 (holds_cons h1 (holds_cons h2 (holds_nil _))))
      · exfalso; have b := nb; (first | have k0 := eqT h0 | have k0 := eqF h0 | have k0 := ltT h0 | have k0 := ltF h0); (first | have k1 := eqT h1 | have k1 := eqF h1 | have k1 := ltT h1 | have k1 := ltF h1); (first | have k2 := eqT h2 | have k2 := eqF h2 | have k2 := ltT h2 | have k2 := ltF h2); simp only [E.eval, x519] at k0 k1 k2; omega
    · exfalso; have b := nb; (first | have k0 := eqT h0 | have k0 := eqF h0 | have k0 := ltT h0 | have k0 := ltF h0); (first | have k1 := eqT h1 | have k1 := eqF h1 | have k1 := ltT h1 | have k1 := ltF h1); simp only [E.eval, x519] at k0 k1; omega
  · exfalso; have b := nb; (first | have k0 := eqT h0 | have k0 := eqF h0 | have k0 := ltT h0 | have k0 := ltF h0); simp only [E.eval, x519] at k0; omega
theorem cls8 [Val] : Fine a8 := by
  rcases Fact.em Val.σ true (.const 0) (.rem (.var 13 1040 65535) 2) with h0 | h0
  · rcases Fact.em Val.σ true (.const 1) (.rem (.var 13 1040 65535) 2) with h1 | h1
    · exfalso; have b := nb; (first | have k0 := eqT h0 | have k0 := eqF h0 | have k0 := ltT h0 | have k0 := ltF h0); (first | have k1 := eqT h1 | have k1 := eqF h1 | have k1 := ltT h1 | have k1 := ltF h1); simp only [E.eval] at k0 k1; omega
    · rcases Fact.em Val.σ true x520 (.const 0) with h2 | h2
      · exact run15 (holds_cons h0 (holds_cons h1 (holds_cons h2 (holds_nil _))))
      · exact run16 (holds_cons h0 (holds_cons h1 (holds_cons h2 (holds_nil _))))
  · rcases Fact.em Val.σ true (.const 1) (.rem (.var 13 1040 65535) 2) with h1 | h1
    · rcases Fact.em Val.σ true x520 (.const 0) with h2 | h2
      · exfalso; have b := nb; (first | have k0 := eqT h0 | have k0 := eqF h0 | have k0 := ltT h0 | have k0 := ltF h0); (first | have k1 := eqT h1 | have k1 := eqF h1 | have k1 := ltT h1 | have k1 := ltF h1); (first | have k2 := eqT h2 | have k2 := eqF h2 | have k2 := ltT h2 | have k2 := ltF h2); simp only [E.eval, x520] at k0 k1 k2; have hx : clampI 1040 65535 (Val.σ 13) = 10790 := (by clear k0 k1; omega); clear k2; omega
      · exact run17 (holds_cons h0 (holds_cons h1 (holds_cons h2 (holds_nil _))))
    · exfalso; have b := nb; (first | have k0 := eqT h0 | have k0 := eqF h0 | have k0 := ltT h0 | have k0 := ltF h0); (first | have k1 := eqT h1 | have k1 := eqF h1 | have k1 := ltT h1 | have k1 := ltF h1); simp only [E.eval] at k0 k1; omega
theorem cls9 [Val] : Fine a9 := by
  rcases Fact.em Val.σ true (.const 0) (.rem (.var 13 0 1023) 2) with h0 | h0
  · rcases Fact.em Val.σ true (.const 1) (.rem (.var 13 0 1023) 2) with h1 | h1
    · exfalso; have b := nb; (first | have k0 := eqT h0 | have k0 := eqF h0 | have k0 := ltT h0 | have k0 := ltF h0); (first | have k1 := eqT h1 | have k1 := eqF h1 | have k1 := ltT h1 | have k1 := ltF h1); simp only [E.eval] at k0 k1; omega
    · exact run18 (holds_cons h0 (holds_cons h1 (holds_nil _)))
  · rcases Fact.em Val.σ true (.const 1) (.rem (.var 13 0 1023) 2) with h1 | h1
    · exact run19 (holds_cons h0 (holds_cons h1 (holds_nil _)))
    · exfalso; have b := nb; (first | have k0 := eqT h0 | have k0 := eqF h0 | have k0 := ltT h0 | have k0 := ltF h0); (first | have k1 := eqT h1 | have k1 := eqF h1 | have k1 := ltT h1 | have k1 := ltF h1); simp only [E.eval] at k0 k1; omega
theorem cls10 [Val] : Fine a10 := by
  rcases Fact.em Val.σ true (.add (.rem (.add (.add (.sub (.const 65535) (.add (.rem (.add (.var 13 1024 1039) (.const 54744)) 65535) (.const 1))) x519) (.const 55768)) 65535) (.const 1)) (.const 65535) with h0 | h0
  · rcases Fact.em Val.σ true (.add x519 (.const 1024)) (.var 13 1024 1039) with h1 | h1
    · rcases Fact.em Val.σ true (.add (.rem (.add (.add (.sub (.const 65535) (.add (.rem (.add (.var 13 1024 1039) (.const 52696)) 65535) (.const 1))) x519) (.const 53720)) 65535) (.const 1)) (.const 65535) with h2 | h2
      · exact run20 (holds_cons h0 (holds_cons h1 (holds_cons h2 (holds_nil _))))
      · exfalso; have b := nb; (first | have k0 := eqT h0 | have k0 := eqF h0 | have k0 := ltT h0 | have k0 := ltF h0); (first | have k1 := eqT h1 | have k1 := eqF h1 | have k1 := ltT h1 | have k1 := ltF h1); (first | have k2 := eqT h2 | have k2 := eqF h2 | have k2 := ltT h2 | have k2 := ltF h2); simp only [E.eval, x519] at k0 k1 k2; omega
    · exfalso; have b := nb; (first | have k0 := eqT h0 | have k0 := eqF h0 | have k0 := ltT h0 | have k0 := ltF h0); (first | have k1 := eqT h1 | have k1 := eqF h1 | have k1 := ltT h1 | have k1 := ltF h1); simp only [E.eval, x519] at k0 k1; omega
  · exfalso; have b := nb; (first | have k0 := eqT h0 | have k0 := eqF h0 | have k0 := ltT h0 | have k0 := ltF h0); simp only [E.eval, x519] at k0; omega
theorem cls11 [Val] : Fine a11 := by
  rcases Fact.em Val.σ true (.const 0) (.rem (.var 13 1040 65535) 2) with h0 | h0
  · rcases Fact.em Val.σ true (.const 1) (.rem (.var 13 1040 65535) 2) with h1 | h1
    · exfalso; have b := nb; (first | have k0 := eqT h0 | have k0 := eqF h0 | have k0 := ltT h0 | have k0 := ltF h0); (first | have k1 := eqT h1 | have k1 := eqF h1 | have k1 := ltT h1 | have k1 := ltF h1); simp only [E.eval] at k0 k1; omega
    · rcases Fact.em Val.σ true x520 (.const 0) with h2 | h2
      · exact run21 (holds_cons h0 (holds_cons h1 (holds_cons h2 (holds_nil _))))
      · exact run22 (holds_cons h0 (holds_cons h1 (holds_cons h2 (holds_nil _))))
  · rcases Fact.em Val.σ true (.const 1) (.rem (.var 13 1040 65535) 2) with h1 | h1
    · rcases Fact.em Val.σ true x520 (.const 0) with h2 | h2
      · exfalso; have b := nb; (first | have k0 := eqT h0 | have k0 := eqF h0 | have k0 := ltT h0 | have k0 := ltF h0); (first | have k1 := eqT h1 | have k1 := eqF h1 | have k1 := ltT h1 | have k1 := ltF h1); (first | have k2 := eqT h2 | have k2 := eqF h2 | have k2 := ltT h2 | have k2 := ltF h2); simp only [E.eval, x520] at k0 k1 k2; have hx : clampI 1040 65535 (Val.σ 13) = 10790 := (by clear k0 k1; omega); clear k2; omega
      · exact run23 (holds_cons h0 (holds_cons h1 (holds_cons h2 (holds_nil _))))
    · exfalso; have b := nb; (first | have k0 := eqT h0 | have k0 := eqF h0 | have k0 := ltT h0 | have k0 := ltF h0); (first | have k1 := eqT h1 | have k1 := eqF h1 | have k1 := ltT h1 | have k1 := ltF h1); simp only [E.eval] at k0 k1; omega
theorem cls12 [Val] : Fine a12 := by
  rcases Fact.em Val.σ true (.const 0) (.rem (.var 13 0 1023) 2) with h0 | h0
  · rcases Fact.em Val.σ true (.const 1) (.rem (.var 13 0 1023) 2) with h1 | h1
    · exfalso; have b := nb; (first | have k0 := eqT h0 | have k0 := eqF h0 | have k0 := ltT h0 | have k0 := ltF h0); (first | have k1 := eqT h1 | have k1 := eqF h1 | have k1 := ltT h1 | have k1 := ltF h1); simp only [E.eval] at k0 k1; omega
    · exact run24 (holds_cons h0 (holds_cons h1 (holds_nil _)))
  · rcases Fact.em Val.σ true (.const 1) (.rem (.var 13 0 1023) 2) with h1 | h1
    · exact run25 (holds_cons h0 (holds_cons h1 (holds_nil _)))
    · exfalso; have b := nb; (first | have k0 := eqT h0 | have k0 := eqF h0 | have k0 := ltT h0 | have k0 := ltF h0); (first | have k1 := eqT h1 | have k1 := eqF h1 | have k1 := ltT h1 | have k1 := ltF h1); simp only [E.eval] at k0 k1; omega
theorem cls13 [Val] : Fine a13 := by
  rcases Fact.em Val.σ true (.add (.rem (.add (.add (.sub (.const 65535) (.add (.rem (.add (.var 13 1024 1039) (.const 54744)) 65535) (.const 1))) x519) (.const 55768)) 65535) (.const 1)) (.const 65535) with h0 | h0
  · rcases Fact.em Val.σ true (.add x519 (.const 1024)) (.var 13 1024 1039) with h1 | h1
    · rcases Fact.em Val.σ true (.add (.rem (.add (.add (.sub (.const 65535) (.add (.rem (.add (.var 13 1024 1039) (.const 52696)) 65535) (.const 1))) x519) (.const 53720)) 65535) (.const 1)) (.const 65535) with h2 | h2
      · exact run26 (holds_cons h0 (holds_cons h1 (holds_cons h2 (holds_nil _))))
      · exfalso; have b := nb; (first | have k0 := eqT h0 | have k0 := eqF h0 | have k0 := ltT h0 | have k0 := ltF h0); (first | have k1 := eqT h1 | have k1 := eqF h1 | have k1 := ltT h1 | have k1 := ltF h1); (first | have k2 := eqT h2 | have k2 := eqF h2 | have k2 := ltT h2 | have k2 := ltF h2); simp only [E.eval, x519] at k0 k1 k2; omega
    · exfalso; have b := nb; (first | have k0 := eqT h0 | have k0 := eqF h0 | have k0 := ltT h0 | have k0 := ltF h0); (first | have k1 := eqT h1 | have k1 := eqF h1 | have k1 := ltT h1 | have k1 := ltF h1); simp only [E.eval, x519] at k0 k1; omega
  · exfalso; have b := nb; (first | have k0 := eqT h0 | have k0 := eqF h0 | have k0 := ltT h0 | have k0 := ltF h0); simp only [E.eval, x519] at k0; omega
theorem cls14 [Val] : Fine a14 := by
  rcases Fact.em Val.σ true (.const 0) (.rem (.var 13 1040 65535) 2) with h0 | h0
  · rcases Fact.em Val.σ true (.const 1) (.rem (.var 13 1040 65535) 2) with h1 | h1
    · exfalso; have b := nb; (first | have k0 := eqT h0 | have k0 := eqF h0 | have k0 := ltT h0 | have k0 := ltF h0); (first | have k1 := eqT h1 | have k1 := eqF h1 | have k1 := ltT h1 | have k1 := ltF h1); simp only [E.eval] at k0 k1; omega
    · rcases Fact.em Val.σ true x520 (.const 0) with h2 | h2
      · exact run27 (holds_cons h0 (holds_cons h1 (holds_cons h2 (holds_nil _))))
      · exact run28 (holds_cons h0 (holds_cons h1 (holds_cons h2 (holds_nil _))))
  · rcases Fact.em Val.σ true (.const 1) (.rem (.var 13 1040 65535) 2) with h1 | h1
    · rcases Fact.em Val.σ true x520 (.const 0) with h2 | h2
      · exfalso; have b := nb; (first | have k0 := eqT h0 | have k0 := eqF h0 | have k0 := ltT h0 | have k0 := ltF h0); (first | have k1 := eqT h1 | have k1 := eqF h1 | have k1 := ltT h1 | have k1 := ltF h1); (first | have k2 := eqT h2 | have k2 := eqF h2 | have k2 := ltT h2 | have k2 := ltF h2); simp only [E.eval, x520] at k0 k1 k2; have hx : clampI 1040 65535 (Val.σ 13) = 10790 := (by clear k0 k1; omega); clear k2; omega
      · exact run29 (holds_cons h0 (holds_cons h1 (holds_cons h2 (holds_nil _))))
    · exfalso; have b := nb; (first | have k0 := eqT h0 | have k0 := eqF h0 | have k0 := ltT h0 | have k0 := ltF h0); (first | have k1 := eqT h1 | have k1 := eqF h1 | have k1 := ltT h1 | have k1 := ltF h1); simp only [E.eval] at k0 k1; omega
theorem cls15 [Val] : Fine a15 := by
  rcases Fact.em Val.σ true (.const 0) (.rem (.var 13 0 1023) 2) with h0 | h0
  · rcases Fact.em Val.σ true (.const 1) (.rem (.var 13 0 1023) 2) with h1 | h1
    · exfalso; have b := nb; (first | have k0 := eqT h0 | have k0 := eqF h0 | have k0 := ltT h0 | have k0 := ltF h0); (first | have k1 := eqT h1 | have k1 := eqF h1 | have k1 := ltT h1 | have k1 := ltF h1); simp only [E.eval] at k0 k1; omega
    · exact run30 (holds_cons h0 (holds_cons h1 (holds_nil _)))
  · rcases Fact.em Val.σ true (.const 1) (.rem (.var 13 0 1023) 2) with h1 | h1
    · exact run31 (holds_cons h0 (holds_cons h1 (holds_nil _)))
    · exfalso; have b := nb; (first | have k0 := eqT h0 | have k0 := eqF h0 | have k0 := ltT h0 | have k0 := ltF h0); (first | have k1 := eqT h1 | have k1 := eqF h1 | have k1 := ltT h1 | have k1 := ltF h1); simp only [E.eval] at k0 k1; omega
theorem cls16 [Val] : Fine a16 := by
  rcases Fact.em Val.σ true (.add (.rem (.add (.add (.sub (.const 65535) (.add (.rem (.add (.var 13 1024 1039) (.const 54744)) 65535) (.const 1))) x519) (.const 55768)) 65535) (.const 1)) (.const 65535) with h0 | h0
  · rcases Fact.em Val.σ true (.add x519 (.const 1024)) (.var 13 1024 1039) with h1 | h1
    · rcases Fact.em Val.σ true (.add (.rem (.add (.add (.sub (.const 65535) (.add (.rem (.add (.var 13 1024 1039) (.const 52696)) 65535) (.const 1))) x519) (.const 53720)) 65535) (.const 1)) (.const 65535) with h2 | h2
      · exact run32 (holds_cons h0 (holds_cons h1 (holds_cons h2 (holds_nil _))))
      · exfalso; have b := nb; (first | have k0 := eqT h0 | have k0 := eqF h0 | have k0 := ltT h0 | have k0 := ltF h0); (first | have k1 := eqT h1 | have k1 := eqF h1 | have k1 := ltT h1 | have k1 := ltF h1); (first | have k2 := eqT h2 | have k2 := eqF h2 | have k2 := ltT h2 | have k2 := ltF h2); simp only [E.eval, x519] at k0 k1 k2; omega
    · exfalso; have b := nb; (first | have k0 := eqT h0 | have k0 := eqF h0 | have k0 := ltT h0 | have k0 := ltF h0); (first | have k1 := eqT h1 | have k1 := eqF h1 | have k1 := ltT h1 | have k1 := ltF h1); simp only [E.eval, x519] at k0 k1; omega
  · exfalso; have b := nb; (first | have k0 := eqT h0 | have k0 := eqF h0 | have k0 := ltT h0 | have k0 := ltF h0); simp only [E.eval, x519] at k0; omega
theorem cls17 [Val] : Fine a17 := by
  rcases Fact.em Val.σ true (.const 0) (.rem (.var 13 1040 65535) 2) with h0 | h0
  · rcases Fact.em Val.σ true (.const 1) (.rem (.var 13 1040 65535) 2) with h1 | h1
    · exfalso; have b := nb; (first | have k0 := eqT h0 | have k0 := eqF h0 | have k0 := ltT h0 | have k0 := ltF h0); (first | have k1 := eqT h1 | have k1 := eqF h1 | have k1 := ltT h1 | have k1 := ltF h1); simp only [E.eval] at k0 k1; omega
    · rcases Fact.em Val.σ true x520 (.const 0) with h2 | h2
      · exact run33 (holds_cons h0 (holds_cons h1 (holds_cons h2 (holds_nil _))))
      · exact run34 (holds_cons h0 (holds_cons h1 (holds_cons h2 (holds_nil _))))
  · rcases Fact.em Val.σ true (.const 1) (.rem (.var 13 1040 65535) 2) with h1 | h1
    · rcases Fact.em Val.σ true x520 (.const 0) with h2 | h2
      · exfalso; have b := nb; (first | have k0 := eqT h0 | have k0 := eqF h0 | have k0 := ltT h0 | have k0 := ltF h0); (first | have k1 := eqT h1 | have k1 := eqF h1 | have k1 := ltT h1 | have k1 := ltF h1); (first | have k2 := eqT h2 | have k2 := eqF h2 | have k2 := ltT h2 | have k2 := ltF h2); simp only [E.eval, x520] at k0 k1 k2; have hx : clampI 1040 65535 (Val.σ 13) = 10790 := (by clear k0 k1; omega); clear k2; omega
      · exact run35 (holds_cons h0 (holds_cons h1 (holds_cons h2 (holds_nil _))))
    · exfalso; have b := nb; (first | have k0 := eqT h0 | have k0 := eqF h0 | have k0 := ltT h0 | have k0 := ltF h0); (first | have k1 := eqT h1 | have k1 := eqF h1 | have k1 := ltT h1 | have k1 := ltF h1); simp only [E.eval] at k0 k1; omega
theorem cls18 [Val] : Fine a18 := by
  rcases Fact.em Val.σ true (.const 0) (.rem (.var 13 0 1023) 2) with h0 | h0
  · rcases Fact.em Val.σ true (.const 1) (.rem (.var 13 0 1023) 2) with h1 | h1
    · exfalso; have b := nb; (first | have k0 := eqT h0 | have k0 := eqF h0 | have k0 := ltT h0 | have k0 := ltF h0); (first | have k1 := eqT h1 | have k1 := eqF h1 | have k1 := ltT h1 | have k1 := ltF h1); simp only [E.eval] at k0 k1; omega
    · exact run36 (holds_cons h0 (holds_cons h1 (holds_nil _)))
  · rcases Fact.em Val.σ true (.const 1) (.rem (.var 13 0 1023) 2) with h1 | h1
    · exact run37 (holds_cons h0 (holds_cons h1 (holds_nil _)))
    · exfalso; have b := nb; (first | have k0 := eqT h0 | have k0 := eqF h0 | have k0 := ltT h0 | have k0 := ltF h0); (first | have k1 := eqT h1 | have k1 := eqF h1 | have k1 := ltT h1 | have k1 := ltF h1); simp only [E.eval] at k0 k1; omega
theorem cls19 [Val] : Fine a19 := by
  rcases Fact.em Val.σ true (.add (.rem (.add (.add (.sub (.const 65535) (.add (.rem (.add (.var 13 1024 1039) (.const 54744)) 65535) (.const 1))) x519) (.const 55768)) 65535) (.const 1)) (.const 65535) with h0 | h0
  · rcases Fact.em Val.σ true (.add x519 (.const 1024)) (.var 13 1024 1039) with h1 | h1
    · rcases Fact.em Val.σ true (.add (.rem (.add (.add (.sub (.const 65535) (.add (.rem (.add (.var 13 1024 1039) (.const 52696)) 65535) (.const 1))) x519) (.const 53720)) 65535) (.const 1)) (.const 65535) with h2 | h2
      · exact run38 (holds_cons h0 (holds_cons h1 (holds_cons h2 (holds_nil _))))
      · exfalso; have b := nb; (first | have k0 := eqT h0 | have k0 := eqF h0 | have k0 := ltT h0 | have k0 := ltF h0); (first | have k1 := eqT h1 | have k1 := eqF h1 | have k1 := ltT h1 | have k1 := ltF h1); (first | have k2 := eqT h2 | have k2 := eqF h2 | have k2 := ltT h2 | have k2 := ltF h2); simp only [E.eval, x519] at k0 k1 k2; omega
    · exfalso; have b := nb; (first | have k0 := eqT h0 | have k0 := eqF h0 | have k0 := ltT h0 | have k0 := ltF h0); (first | have k1 := eqT h1 | have k1 := eqF h1 | have k1 := ltT h1 | have k1 := ltF h1); simp only [E.eval, x519] at k0 k1; omega
  · exfalso; have b := nb; (first | have k0 := eqT h0 | have k0 := eqF h0 | have k0 := ltT h0 | have k0 := ltF h0); simp only [E.eval, x519] at k0; omega
theorem cls20 [Val] : Fine a20 := by
  rcases Fact.em Val.σ true (.const 0) (.rem (.var 13 1040 65535) 2) with h0 | h0
  · rcases Fact.em Val.σ true (.const 1) (.rem (.var 13 1040 65535) 2) with h1 | h1
    · exfalso; have b := nb; (first | have k0 := eqT h0 | have k0 := eqF h0 | have k0 := ltT h0 | have k0 := ltF h0); (first | have k1 := eqT h1 | have k1 := eqF h1 | have k1 := ltT h1 | have k1 := ltF h1); simp only [E.eval] at k0 k1; omega
    · rcases Fact.em Val.σ true x520 (.const 0) with h2 | h2
      · exact run39 (holds_cons h0 (holds_cons h1 (holds_cons h2 (holds_nil _))))
      · exact run40 (holds_cons h0 (holds_cons h1 (holds_cons h2 (holds_nil _))))
  · rcases Fact.em Val.σ true (.const 1) (.rem (.var 13 1040 65535) 2) with h1 | h1
    · rcases Fact.em Val.σ true x520 (.const 0) with h2 | h2
      · exfalso; have b := nb; (first | have k0 := eqT h0 | have k0 := eqF h0 | have k0 := ltT h0 | have k0 := ltF h0); (first | have k1 := eqT h1 | have k1 := eqF h1 | have k1 := ltT h1 | have k1 := ltF h1); (first | have k2 := eqT h2 | have k2 := eqF h2 | have k2 := ltT h2 | have k2 := ltF h2); simp only [E.eval, x520] at k0 k1 k2; have hx : clampI 1040 65535 (Val.σ 13) = 10790 := (by clear k0 k1; omega); clear k2; omega
      · exact run41 (holds_cons h0 (holds_cons h1 (holds_cons h2 (holds_nil _))))
    · exfalso; have b := nb; (first | have k0 := eqT h0 | have k0 := eqF h0 | have k0 := ltT h0 | have k0 := ltF h0); (first | have k1 := eqT h1 | have k1 := eqF h1 | have k1 := ltT h1 | have k1 := ltF h1); simp only [E.eval] at k0 k1; omega
theorem cls21 [Val] : Fine a21 := by
  rcases Fact.em Val.σ true (.const 0) (.rem (.var 13 0 1023) 2) with h0 | h0
  · rcases Fact.em Val.σ true (.const 1) (.rem (.var 13 0 1023) 2) with h1 | h1
    · exfalso; have b := nb; (first | have k0 := eqT h0 | have k0 := eqF h0 | have k0 := ltT h0 | have k0 := ltF h0); (first | have k1 := eqT h1 | have k1 := eqF h1 | have k1 := ltT h1 | have k1 := ltF h1); simp only [E.eval] at k0 k1; omega
    · exact run42 (holds_cons h0 (holds_cons h1 (holds_nil _)))
  · rcases Fact.em Val.σ true (.const 1) (.rem (.var 13 0 1023) 2) with h1 | h1
    · exact run43 (holds_cons h0 (holds_cons h1 (holds_nil _)))
    · exfalso; have b := nb; (first | have k0 := eqT h0 | have k0 := eqF h0 | have k0 := ltT h0 | have k0 := ltF h0); (first | have k1 := eqT h1 | have k1 := eqF h1 | have k1 := ltT h1 | have k1 := ltF h1); simp only [E.eval] at k0 k1; omega
theorem cls22 [Val] : Fine a22 := by
  rcases Fact.em Val.σ true (.add (.rem (.add (.add (.sub (.const 65535) (.add (.rem (.add (.var 13 1024 1039) (.const 54744)) 65535) (.const 1))) x519) (.const 55768)) 65535) (.const 1)) (.const 65535) with h0 | h0
  · rcases Fact.em Val.σ true (.add x519 (.const 1024)) (.var 13 1024 1039) with h1 | h1
    · rcases Fact.em Val.σ true (.add (.rem (.add (.add (.sub (.const 65535) (.add (.rem (.add (.var 13 1024 1039) (.const 52696)) 65535) (.const 1))) x519) (.const 53720)) 65535) (.const 1)) (.const 65535) with h2 | h2
      · exact run44 (holds_cons h0 (holds_cons h1 (holds_cons h2 (holds_nil _))))
      · exfalso; have b := nb; (first | have k0 := eqT h0 | have k0 := eqF h0 | have k0 := ltT h0 | have k0 := ltF h0); (first | have k1 := eqT h1 | have k1 := eqF h1 | have k1 := ltT h1 | have k1 := ltF h1); (first | have k2 := eqT h2 | have k2 := eqF h2 | have k2 := ltT h2 | have k2 := ltF h2); simp only [E.eval, x519] at k0 k1 k2; omega
    · exfalso; have b := nb; (first | have k0 := eqT h0 | have k0 := eqF h0 | have k0 := ltT h0 | have k0 := ltF h0); (first | have k1 := eqT h1 | have k1 := eqF h1 | have k1 := ltT h1 | have k1 := ltF h1); simp only [E.eval, x519] at k0 k1; omega
  · exfalso; have b := nb; (first | have k0 := eqT h0 | have k0 := eqF h0 | have k0 := ltT h0 | have k0 := ltF h0); simp only [E.eval, x519] at k0; omega
theorem cls23 [Val] : Fine a23 := by
  rcases Fact.em Val.σ true (.const 0) (.rem (.var 13 1040 65535) 2) with h0 | h0
  · rcases Fact.em Val.σ true (.const 1) (.rem (.var 13 1040 65535) 2) with h1 | h1
    · exfalso; have b := nb; (first | have k0 := eqT h0 | have k0 := eqF h0 | have k0 := ltT h0 | have k0 := ltF h0); (first | have k1 := eqT h1 | have k1 := eqF h1 | have k1 := ltT h1 | have k1 := ltF h1); simp only [E.eval] at k0 k1; omega
    · rcases Fact.em Val.σ true x520 (.const 0) with h2 | h2
      · exact run45 (holds_cons h0 (holds_cons h1 (holds_cons h2 (holds_nil _))))
      · exact run46 (holds_cons h0 (holds_cons h1 (holds_cons h2 (holds_nil _))))
  · rcases Fact.em Val.σ true (.const 1) (.rem (.var 13 1040 65535) 2) with h1 | h1
    · rcases Fact.em Val.σ true x520 (.const 0) with h2 | h2
      · exfalso; have b := nb; (first | have k0 := eqT h0 | have k0 := eqF h0 | have k0 := ltT h0 | have k0 := ltF h0); (first | have k1 := eqT h1 | have k1 := eqF h1 | have k1 := ltT h1 | have k1 := ltF h1); (first | have k2 := eqT h2 | have k2 := eqF h2 | have k2 := ltT h2 | have k2 := ltF h2); simp only [E.eval, x520] at k0 k1 k2; have hx : clampI 1040 65535 (Val.σ 13) = 10790 := (by clear k0 k1; omega); clear k2; omega
      · exact run47 (holds_cons h0 (holds_cons h1 (holds_cons h2 (holds_nil _))))
    · exfalso; have b := nb; (first | have k0 := eqT h0 | have k0 := eqF h0 | have k0 := ltT h0 | have k0 := ltF h0); (first | have k1 := eqT h1 | have k1 := eqF h1 | have k1 := ltT h1 | have k1 := ltF h1); simp only [E.eval] at k0 k1; omega
theorem cls24 [Val] : Fine a24 := by
  rcases Fact.em Val.σ true (.const 0) (.rem (.var 13 0 1023) 2) with h0 | h0
  · rcases Fact.em Val.σ true (.const 1) (.rem (.var 13 0 1023) 2) with h1 | h1
    · exfalso; have b := nb; (first | have k0 := eqT h0 | have k0 := eqF h0 | have k0 := ltT h0 | have k0 := ltF h0); (first | have k1 := eqT h1 | have k1 := eqF h1 | have k1 := ltT h1 | have k1 := ltF h1); simp only [E.eval] at k0 k1; omega
    · exact run48 (holds_cons h0 (holds_cons h1 (holds_nil _)))
  · rcases Fact.em Val.σ true (.const 1) (.rem (.var 13 0 1023) 2) with h1 | h1
    · exact run49 (holds_cons h0 (holds_cons h1 (holds_nil _)))
    · exfalso; have b := nb; (first | have k0 := eqT h0 | have k0 := eqF h0 | have k0 := ltT h0 | have k0 := ltF h0); (first | have k1 := eqT h1 | have k1 := eqF h1 | have k1 := ltT h1 | have k1 := ltF h1); simp only [E.eval] at k0 k1; omega
theorem cls25 [Val] : Fine a25 := by
  rcases Fact.em Val.σ true (.add (.rem (.add (.add (.sub (.const 65535) (.add (.rem (.add (.var 13 1024 1039) (.const 54744)) 65535) (.const 1))) x519) (.const 55768)) 65535) (.const 1)) (.const 65535) with h0 | h0
  · rcases Fact.em Val.σ true (.add x519 (.const 1024)) (.var 13 1024 1039) with h1 | h1
    · rcases Fact.em Val.σ true (.add (.rem (.add (.add (.sub (.const 65535) (.add (.rem (.add (.var 13 1024 1039) (.const 52696)) 65535) (.const 1))) x519) (.const 53720)) 65535) (.const 1)) (.const 65535) with h2 | h2
      · exact run50 (holds_cons h0 (holds_cons h1 (holds_cons h2 (holds_nil _))))
      · exfalso; have b := nb; (first | have k0 := eqT h0 | have k0 := eqF h0 | have k0 := ltT h0 | have k0 := ltF h0); (first | have k1 := eqT h1 | have k1 := eqF h1 | have k1 := ltT h1 | have k1 := ltF h1); (first | have k2 := eqT h2 | have k2 := eqF h2 | have k2 := ltT h2 | have k2 := ltF h2); simp only [E.eval, x519] at k0 k1 k2; omega
    · exfalso; have b := nb; (first | have k0 := eqT h0 | have k0 := eqF h0 | have k0 := ltT h0 | have k0 := ltF h0); (first | have k1 := eqT h1 | have k1 := eqF h1 | have k1 := ltT h1 | have k1 := ltF h1); simp only [E.eval, x519] at k0 k1; omega
  · exfalso; have b := nb; (first | have k0 := eqT h0 | have k0 := eqF h0 | have k0 := ltT h0 | have k0 := ltF h0); simp only [E.eval, x519] at k0; omega
theorem cls26 [Val] : Fine a26 := by
  rcases Fact.em Val.σ true (.const 0) (.rem (.var 13 1040 65535) 2) with h0 | h0
  · rcases Fact.em Val.σ true (.const 1) (.rem (.var 13 1040 65535) 2) with h1 | h1
    · exfalso; have b := nb; (first | have k0 := eqT h0 | have k0 := eqF h0 | have k0 := ltT h0 | have k0 := ltF h0); (first | have k1 := eqT h1 | have k1 := eqF h1 | have k1 := ltT h1 | have k1 := ltF h1); simp only [E.eval] at k0 k1; omega
    · rcases Fact.em Val.σ true x520 (.const 0) with h2 | h2
      · exact run51 (holds_cons h0 (holds_cons h1 (holds_cons h2 (holds_nil _))))
      · exact run52 (holds_cons h0 (holds_cons h1 (holds_cons h2 (holds_nil _))))
  · rcases Fact.em Val.σ true (.const 1) (.rem (.var 13 1040 65535) 2) with h1 | h1
    · rcases Fact.em Val.σ true x520 (.const 0) with h2 | h2
      · exfalso; have b := nb; (first | have k0 := eqT h0 | have k0 := eqF h0 | have k0 := ltT h0 | have k0 := ltF h0); (first | have k1 := eqT h1 | have k1 := eqF h1 | have k1 := ltT h1 | have k1 := ltF h1); (first | have k2 := eqT h2 | have k2 := eqF h2 | have k2 := ltT h2 | have k2 := ltF h2); simp only [E.eval, x520] at k0 k1 k2; have hx : clampI 1040 65535 (Val.σ 13) = 10790 := (by clear k0 k1; omega); clear k2; omega
      · exact run53 (holds_cons h0 (holds_cons h1 (holds_cons h2 (holds_nil _))))
    · exfalso; have b := nb; (first | have k0 := eqT h0 | have k0 := eqF h0 | have k0 := ltT h0 | have k0 := ltF h0); (first | have k1 := eqT h1 | have k1 := eqF h1 | have k1 := ltT h1 | have k1 := ltF h1); simp only [E.eval] at k0 k1; omega
theorem cls27 [Val] : Fine a27 := by
  rcases Fact.em Val.σ true (.const 0) (.rem (.var 13 0 1023) 2) with h0 | h0
  · rcases Fact.em Val.σ true (.const 1) (.rem (.var 13 0 1023) 2) with h1 | h1
    · exfalso; have b := nb; (first | have k0 := eqT h0 | have k0 := eqF h0 | have k0 := ltT h0 | have k0 := ltF h0); (first | have k1 := eqT h1 | have k1 := eqF h1 | have k1 := ltT h1 | have k1 := ltF h1); simp only [E.eval] at k0 k1; omega
    · exact run54 (holds_cons h0 (holds_cons h1 (holds_nil _)))
  · rcases Fact.em Val.σ true (.const 1) (.rem (.var 13 0 1023) 2) with h1 | h1
    · exact run55 (holds_cons h0 (holds_cons h1 (holds_nil _)))
    · exfalso; have b := nb; (first | have k0 := eqT h0 | have k0 := eqF h0 | have k0 := ltT h0 | have k0 := ltF h0); (first | have k1 := eqT h1 | have k1 := eqF h1 | have k1 := ltT h1 | have k1 := ltF h1); simp only [E.eval] at k0 k1; omega
theorem cls28 [Val] : Fine a28 := by
  rcases Fact.em Val.σ true (.add (.rem (.add (.add (.sub (.const 65535) (.add (.rem (.add (.var 13 1024 1039) (.const 54744)) 65535) (.const 1))) x519) (.const 55768)) 65535) (.const 1)) (.const 65535) with h0 | h0
  · rcases Fact.em Val.σ true (.add x519 (.const 1024)) (.var 13 1024 1039) with h1 | h1
    · rcases Fact.em Val.σ true (.add (.rem (.add (.add (.sub (.const 65535) (.add (.rem (.add (.var 13 1024 1039) (.const 52696)) 65535) (.const 1))) x519) (.const 53720)) 65535) (.const 1)) (.const 65535) with h2 | h2
      · exact run56 (holds_cons h0 (holds_cons h1 (holds_cons h2 (holds_nil _))))
      · exfalso; have b := nb; (first | have k0 := eqT h0 | have k0 := eqF h0 | have k0 := ltT h0 | have k0 := ltF h0); (first | have k1 := eqT h1 | have k1 := eqF h1 | have k1 := ltT h1 | have k1 := ltF h1); (first | have k2 := eqT h2 | have k2 := eqF h2 | have k2 := ltT h2 | have k2 := ltF h2); simp only [E.eval, x519] at k0 k1 k2; omega
    · exfalso; have b := nb; (first | have k0 := eqT h0 | have k0 := eqF h0 | have k0 := ltT h0 | have k0 := ltF h0); (first | have k1 := eqT h1 | have k1 := eqF h1 | have k1 := ltT h1 | have k1 := ltF h1); simp only [E.eval, x519] at k0 k1; omega
  · exfalso; have b := nb; (first | have k0 := eqT h0 | have k0 := eqF h0 | have k0 := ltT h0 | have k0 := ltF h0); simp only [E.eval, x519] at k0; omega
theorem cls29 [Val] : Fine a29 := by
  rcases Fact.em Val.σ true (.const 0) (.rem (.var 13 1040 65535) 2) with h0 | h0
  · rcases Fact.em Val.σ true (.const 1) (.rem (.var 13 1040 65535) 2) with h1 | h1
    · exfalso; have b := nb; (first | have k0 := eqT h0 | have k0 := eqF h0 | have k0 := ltT h0 | have k0 := ltF h0); (first | have k1 := eqT h1 | have k1 := eqF h1 | have k1 := ltT h1 | have k1 := ltF h1); simp only [E.eval] at k0 k1; omega
    · rcases Fact.em Val.σ true x520 (.const 0) with h2 | h2
      · exact run57 (holds_cons h0 (holds_cons h1 (holds_cons h2 (holds_nil _))))
      · exact run58 (holds_cons h0 (holds_cons h1 (holds_cons h2 (holds_nil _))))
  · rcases Fact.em Val.σ true (.const 1) (.rem (.var 13 1040 65535) 2) with h1 | h1
    · rcases Fact.em Val.σ true x520 (.const 0) with h2 | h2
      · exfalso; have b := nb; (first | have k0 := eqT h0 | have k0 := eqF h0 | have k0 := ltT h0 | have k0 := ltF h0); (first | have k1 := eqT h1 | have k1 := eqF h1 | have k1 := ltT h1 | have k1 := ltF h1); (first | have k2 := eqT h2 | have k2 := eqF h2 | have k2 := ltT h2 | have k2 := ltF h2); simp only [E.eval, x520] at k0 k1 k2; have hx : clampI 1040 65535 (Val.σ 13) = 10790 := (by clear k0 k1; omega); clear k2; omega
      · exact run59 (holds_cons h0 (holds_cons h1 (holds_cons h2 (holds_nil _))))
    · exfalso; have b := nb; (first | have k0 := eqT h0 | have k0 := eqF h0 | have k0 := ltT h0 | have k0 := ltF h0); (first | have k1 := eqT h1 | have k1 := eqF h1 | have k1 := ltT h1 | have k1 := ltF h1); simp only [E.eval] at k0 k1; omega
theorem cls30 [Val] : Fine a30 := by
  rcases Fact.em Val.σ true (.const 0) (.rem (.var 13 0 1023) 2) with h0 | h0
  · rcases Fact.em Val.σ true (.const 1) (.rem (.var 13 0 1023) 2) with h1 | h1
    · exfalso; have b := nb; (first | have k0 := eqT h0 | have k0 := eqF h0 | have k0 := ltT h0 | have k0 := ltF h0); (first | have k1 := eqT h1 | have k1 := eqF h1 | have k1 := ltT h1 | have k1 := ltF h1); simp only [E.eval] at k0 k1; omega
    · exact run60 (holds_cons h0 (holds_cons h1 (holds_nil _)))
  · rcases Fact.em Val.σ true (.const 1) (.rem (.var 13 0 1023) 2) with h1 | h1
    · exact run61 (holds_cons h0 (holds_cons h1 (holds_nil _)))
    · exfalso; have b := nb; (first | have k0 := eqT h0 | have k0 := eqF h0 | have k0 := ltT h0 | have k0 := ltF h0); (first | have k1 := eqT h1 | have k1 := eqF h1 | have k1 := ltT h1 | have k1 := ltF h1); simp only [E.eval] at k0 k1; omega
theorem cls31 [Val] : Fine a31 := by
  rcases Fact.em Val.σ true (.add (.rem (.add (.add (.sub (.const 65535) (.add (.rem (.add (.var 13 1024 1039) (.const 54744)) 65535) (.const 1))) x519) (.const 55768)) 65535) (.const 1)) (.const 65535) with h0 | h0
  · rcases Fact.em Val.σ true (.add x519 (.const 1024)) (.var 13 1024 1039) with h1 | h1
    · rcases Fact.em Val.σ true (.add (.rem (.add (.add (.sub (.const 65535) (.add (.rem (.add (.var 13 1024 1039) (.const 52696)) 65535) (.const 1))) x519) (.const 53720)) 65535) (.const 1)) (.const 65535) with h2 | h2
      · exact run62 (holds_cons h0 (holds_cons h1 (holds_cons h2 (holds_nil _))))
      · exfalso; have b := nb; (first | have k0 := eqT h0 | have k0 := eqF h0 | have k0 := ltT h0 | have k0 := ltF h0); (first | have k1 := eqT h1 | have k1 := eqF h1 | have k1 := ltT h1 | have k1 := ltF h1); (first | have k2 := eqT h2 | have k2 := eqF h2 | have k2 := ltT h2 | have k2 := ltF h2); simp only [E.eval, x519] at k0 k1 k2; omega
    · exfalso; have b := nb; (first | have k0 := eqT h0 | have k0 := eqF h0 | have k0 := ltT h0 | have k0 := ltF h0); (first | have k1 := eqT h1 | have k1 := eqF h1 | have k1 := ltT h1 | have k1 := ltF h1); simp only [E.eval, x519] at k0 k1; omega
  · exfalso; have b := nb; (first | have k0 := eqT h0 | have k0 := eqF h0 | have k0 := ltT h0 | have k0 := ltF h0); simp only [E.eval, x519] at k0; omega
theorem cls32 [Val] : Fine a32 := by
  rcases Fact.em Val.σ true (.const 0) (.rem (.var 13 1040 65535) 2) with h0 | h0
  · rcases Fact.em Val.σ true (.const 1) (.rem (.var 13 1040 65535) 2) with h1 | h1
    · exfalso; have b := nb; (first | have k0 := eqT h0 | have k0 := eqF h0 | have k0 := ltT h0 | have k0 := ltF h0); (first | have k1 := eqT h1 | have k1 := eqF h1 | have k1 := ltT h1 | have k1 := ltF h1); simp only [E.eval] at k0 k1; omega
    · rcases Fact.em Val.σ true x520 (.const 0) with h2 | h2
      · exact run63 (holds_cons h0 (holds_cons h1 (holds_cons h2 (holds_nil _))))
      · exact run64 (holds_cons h0 (holds_cons h1 (holds_cons h2 (holds_nil _))))
  · rcases Fact.em Val.σ true (.const 1) (.rem (.var 13 1040 65535) 2) with h1 | h1
    · rcases Fact.em Val.σ true x520 (.const 0) with h2 | h2
      · exfalso; have b := nb; (first | have k0 := eqT h0 | have k0 := eqF h0 | have k0 := ltT h0 | have k0 := ltF h0); (first | have k1 := eqT h1 | have k1 := eqF h1 | have k1 := ltT h1 | have k1 := ltF h1); (first | have k2 := eqT h2 | have k2 := eqF h2 | have k2 := ltT h2 | have k2 := ltF h2); simp only [E.eval, x520] at k0 k1 k2; have hx : clampI 1040 65535 (Val.σ 13) = 10790 := (by clear k0 k1; omega); clear k2; omega
      · exact run65 (holds_cons h0 (holds_cons h1 (holds_cons h2 (holds_nil _))))
    · exfalso; have b := nb; (first | have k0 := eqT h0 | have k0 := eqF h0 | have k0 := ltT h0 | have k0 := ltF h0); (first | have k1 := eqT h1 | have k1 := eqF h1 | have k1 := ltT h1 | have k1 := ltF h1); simp only [E.eval] at k0 k1; omega
theorem cls33 [Val] : Fine a33 := by
  rcases Fact.em Val.σ true (.const 0) (.rem (.var 13 0 1023) 2) with h0 | h0
  · rcases Fact.em Val.σ true (.const 1) (.rem (.var 13 0 1023) 2) with h1 | h1
    · exfalso; have b := nb; (first | have k0 := eqT h0 | have k0 := eqF h0 | have k0 := ltT h0 | have k0 := ltF h0); (first | have k1 := eqT h1 | have k1 := eqF h1 | have k1 := ltT h1 | have k1 := ltF h1); simp only [E.eval] at k0 k1; omega
    · exact run66 (holds_cons h0 (holds_cons h1 (holds_nil _)))
  · rcases Fact.em Val.σ true (.const 1) (.rem (.var 13 0 1023) 2) with h1 | h1
    · exact run67 (holds_cons h0 (holds_cons h1 (holds_nil _)))
    · exfalso; have b := nb; (first | have k0 := eqT h0 | have k0 := eqF h0 | have k0 := ltT h0 | have k0 := ltF h0); (first | have k1 := eqT h1 | have k1 := eqF h1 | have k1 := ltT h1 | have k1 := ltF h1); simp only [E.eval] at k0 k1; omega
theorem cls34 [Val] : Fine a34 := by
  rcases Fact.em Val.σ true (.add (.rem (.add (.add (.sub (.const 65535) (.add (.rem (.add (.var 13 1024 1039) (.const 54744)) 65535) (.const 1))) x519) (.const 55768)) 65535) (.const 1)) (.const 65535) with h0 | h0
  · rcases Fact.em Val.σ true (.add x519 (.const 1024)) (.var 13 1024 1039) with h1 | h1
    · rcases Fact.em Val.σ true (.add (.rem (.add (.add (.sub (.const 65535) (.add (.rem (.add (.var 13 1024 1039) (.const 52696)) 65535) (.const 1))) x519) (.const 53720)) 65535) (.const 1)) (.const 65535) with h2 | h2
      · exact run68 (holds_cons h0 (holds_cons h1 (holds_cons h2 (holds_nil _))))
      · exfalso; have b := nb; (first | have k0 := eqT h0 | have k0 := eqF h0 | have k0 := ltT h0 | have k0 := ltF h0); (first | have k1 := eqT h1 | have k1 := eqF h1 | have k1 := ltT h1 | have k1 := ltF h1); (first | have k2 := eqT h2 | have k2 := eqF h2 | have k2 := ltT h2 | have k2 := ltF h2); simp only [E.eval, x519] at k0 k1 k2; omega
    · exfalso; have b := nb; (first | have k0 := eqT h0 | have k0 := eqF h0 | have k0 := ltT h0 | have k0 := ltF h0); (first | have k1 := eqT h1 | have k1 := eqF h1 | have k1 := ltT h1 | have k1 := ltF h1); simp only [E.eval, x519] at k0 k1; omega
  · exfalso; have b := nb; (first | have k0 := eqT h0 | have k0 := eqF h0 | have k0 := ltT h0 | have k0 := ltF h0); simp only [E.eval, x519] at k0; omega
theorem cls35 [Val] : Fine a35 := by
  rcases Fact.em Val.σ true (.const 0) (.rem (.var 13 1040 65535) 2) with h0 | h0
  · rcases Fact.em Val.σ true (.const 1) (.rem (.var 13 1040 65535) 2) with h1 | h1
    · exfalso; have b := nb; (first | have k0 := eqT h0 | have k0 := eqF h0 | have k0 := ltT h0 | have k0 := ltF h0); (first | have k1 := eqT h1 | have k1 := eqF h1 | have k1 := ltT h1 | have k1 := ltF h1); simp only [E.eval] at k0 k1; omega
    · rcases Fact.em Val.σ true x520 (.const 0) with h2 | h2
      · exact run69 (holds_cons h0 (holds_cons h1 (holds_cons h2 (holds_nil _))))
      · exact run70 (holds_cons h0 (holds_cons h1 (holds_cons h2 (holds_nil _))))
  · rcases Fact.em Val.σ true (.const 1) (.rem (.var 13 1040 65535) 2) with h1 | h1
    · rcases Fact.em Val.σ true x520 (.const 0) with h2 | h2
      · exfalso; have b := nb; (first | have k0 := eqT h0 | have k0 := eqF h0 | have k0 := ltT h0 | have k0 := ltF h0); (first | have k1 := eqT h1 | have k1 := eqF h1 | have k1 := ltT h1 | have k1 := ltF h1); (first | have k2 := eqT h2 | have k2 := eqF h2 | have k2 := ltT h2 | have k2 := ltF h2); simp only [E.eval, x520] at k0 k1 k2; have hx : clampI 1040 65535 (Val.σ 13) = 10790 := (by clear k0 k1; omega); clear k2; omega
      · exact run71 (holds_cons h0 (holds_cons h1 (holds_cons h2 (holds_nil _))))
    · exfalso; have b := nb; (first | have k0 := eqT h0 | have k0 := eqF h0 | have k0 := ltT h0 | have k0 := ltF h0); (first | have k1 := eqT h1 | have k1 := eqF h1 | have k1 := ltT h1 | have k1 := ltF h1); simp only [E.eval] at k0 k1; omega
abbrev vals (o c b2 b3 b4 b5 b6 b7 b8 b9 b10 b11 z : Int) : Val := ⟨fun i => match i with
  | 2 => b2
  | 3 => b3
  | 4 => b4
  | 5 => b5
  | 6 => b6
  | 7 => b7
  | 8 => b8
  | 9 => b9
  | 10 => b10
  | 11 => b11
  | 13 => z
  | 20 => o / 3
  | 21 => c / 4
  | _ => 0⟩

theorem shape_vr [Val] {φ : Phi} {tv : AV} {t : Bool} (ht : VR φ tv (.bool t)) {o c b2 b3 b4 b5 b6 b7 b8 b9 b10 b11 : Int} (lo : 0 ≤ o) (ho : o ≤ 255) (lc : 0 ≤ c) (hc : c ≤ 255) (lb2 : 0 ≤ b2) (hb2 : b2 ≤ 255) (lb3 : 0 ≤ b3) (hb3 : b3 ≤ 255) (lb4 : 0 ≤ b4) (hb4 : b4 ≤ 255) (lb5 : 0 ≤ b5) (hb5 : b5 ≤ 255) (lb6 : 0 ≤ b6) (hb6 : b6 ≤ 255) (lb7 : 0 ≤ b7) (hb7 : b7 ≤ 255) (lb8 : 0 ≤ b8) (hb8 : b8 ≤ 255) (lb9 : 0 ≤ b9) (hb9 : b9 ≤ 255) (lb10 : 0 ≤ b10) (hb10 : b10 ≤ 255) (lb11 : 0 ≤ b11) (hb11 : b11 ≤ 255) (r0 q0 h0 r1 h1 : Int)
    (e20 : Val.σ 20 = o / 3) (e21 : Val.σ 21 = c / 4) (e2 : Val.σ 2 = b2) (e3 : Val.σ 3 = b3) (e4 : Val.σ 4 = b4) (e5 : Val.σ 5 = b5) (e6 : Val.σ 6 = b6) (e7 : Val.σ 7 = b7) (e8 : Val.σ 8 = b8) (e9 : Val.σ 9 = b9) (e10 : Val.σ 10 = b10) (e11 : Val.σ 11 = b11) (m0 : o % 3 = r0) (m1 : c % 4 = r1) (g0 : o / 3 ≤ q0) (g1 : r0 ≤ o ∧ o ≤ h0) (g2 : r1 ≤ c ∧ c ≤ h1) :
    VR φ (.agg 13 4 .junk (setFrom 4 .e 0 [.sym .u8 r0 h0 (.add (.mul (.const 3) (.var 20 0 q0)) (.const r0)), .sym .u8 r1 h1 (.add (.mul (.const 4) (.var 21 0 63)) (.const r1)),
      .sym .u8 0 255 (.var 2 0 255), .sym .u8 0 255 (.var 3 0 255), .sym .u8 0 255 (.var 4 0 255), .sym .u8 0 255 (.var 5 0 255), .sym .u8 0 255 (.var 6 0 255), .sym .u8 0 255 (.var 7 0 255), .sym .u8 0 255 (.var 8 0 255), .sym .u8 0 255 (.var 9 0 255), .sym .u8 0 255 (.var 10 0 255), .sym .u8 0 255 (.var 11 0 255), tv])) (.agg #[.int .u8 o, .int .u8 c, .int .u8 b2, .int .u8 b3, .int .u8 b4, .int .u8 b5, .int .u8 b6, .int .u8 b7, .int .u8 b8, .int .u8 b9, .int .u8 b10, .int .u8 b11, .bool t]) := by
  refine VRs.agg (m := [.int .u8 o, .int .u8 c, .int .u8 b2, .int .u8 b3, .int .u8 b4, .int .u8 b5, .int .u8 b6, .int .u8 b7, .int .u8 b8, .int .u8 b9, .int .u8 b10, .int .u8 b11, .bool t]) (.cons (.sym ?_ g1.1 g1.2) (.cons (.sym ?_ g2.1 g2.2) (.cons (vr_var 2 e2 lb2 hb2) (.cons (vr_var 3 e3 lb3 hb3) (.cons (vr_var 4 e4 lb4 hb4) (.cons (vr_var 5 e5 lb5 hb5) (.cons (vr_var 6 e6 lb6 hb6) (.cons (vr_var 7 e7 lb7 hb7) (.cons (vr_var 8 e8 lb8 hb8) (.cons (vr_var 9 e9 lb9 hb9) (.cons (vr_var 10 e10 lb10 hb10) (.cons (vr_var 11 e11 lb11 hb11) (.cons ht .nil))))))))))))) rfl rfl (by decide)
  · show 3 * clampI 0 q0 (Val.σ 20) + r0 = o
    rw [e20, clampI_id (by omega) g0]; omega
  · show 4 * clampI 0 63 (Val.σ 21) + r1 = c
    rw [e21, clampI_id (by omega) (by omega)]; omega

theorem law (o c b2 b3 b4 b5 b6 b7 b8 b9 b10 b11 : Int) (t : Bool) (num : Int) (lo : 0 ≤ o) (ho : o ≤ 255) (lc : 0 ≤ c) (hc : c ≤ 255) (lb2 : 0 ≤ b2) (hb2 : b2 ≤ 255) (lb3 : 0 ≤ b3) (hb3 : b3 ≤ 255) (lb4 : 0 ≤ b4) (hb4 : b4 ≤ 255) (lb5 : 0 ≤ b5) (hb5 : b5 ≤ 255) (lb6 : 0 ≤ b6) (hb6 : b6 ≤ 255) (lb7 : 0 ≤ b7) (hb7 : b7 ≤ 255) (lb8 : 0 ≤ b8) (hb8 : b8 ≤ 255) (lb9 : 0 ≤ b9) (hb9 : b9 ≤ 255) (lb10 : 0 ≤ b10) (hb10 : b10 ≤ 255) (lb11 : 0 ≤ b11) (hb11 : b11 ≤ 255) (ln : 0 ≤ num) (hn : num ≤ 65535) (w : World) (hG : Tryz.prog.globals.size ≤ w.heap.size) (hro : Ro0 Tryz.prog.globals.size w) :
    Calls Tryz.prog 4 #[.agg #[.int .u8 o, .int .u8 c, .int .u8 b2, .int .u8 b3, .int .u8 b4, .int .u8 b5, .int .u8 b6, .int .u8 b7, .int .u8 b8, .int .u8 b9, .int .u8 b10, .int .u8 b11, .bool t], .int .u16 num] w fun e w' => e = .returned (.bool true) ∧ Below w.heap.size w w' := by
  have m0 : o % 3 = 0 ∨ o % 3 = 1 ∨ o % 3 = 2 := by omega
  have m1 : c % 4 = 0 ∨ c % 4 = 1 ∨ c % 4 = 2 ∨ c % 4 = 3 := by omega
  letI : Val := vals o c b2 b3 b4 b5 b6 b7 b8 b9 b10 b11 num
  have mn : (0 ≤ num ∧ num ≤ 1023) ∨ (1024 ≤ num ∧ num ≤ 1039) ∨ (1040 ≤ num ∧ num ≤ 65535) := by omega
  rcases m0 with m0 | m0 | m0
  · rcases m1 with m1 | m1 | m1 | m1
    · have s {φ : Phi} := shape_vr (φ := φ) (.anyb t) lo ho lc hc lb2 hb2 lb3 hb3 lb4 hb4 lb5 hb5 lb6 hb6 lb7 hb7 lb8 hb8 lb9 hb9 lb10 hb10 lb11 hb11 0 85 255 0 252 rfl rfl rfl rfl rfl rfl rfl rfl rfl rfl rfl rfl m0 m1 (by omega) (by omega) (by omega)
      rcases mn with mn | mn | mn
      · exact cls0 w hG hro _ (VRs.lr (m := [.agg #[.int .u8 o, .int .u8 c, .int .u8 b2, .int .u8 b3, .int .u8 b4, .int .u8 b5, .int .u8 b6, .int .u8 b7, .int .u8 b8, .int .u8 b9, .int .u8 b10, .int .u8 b11, .bool t], .int .u16 num]) (.cons s (.cons (vr_var 13 rfl mn.1 mn.2) .nil)))
      · exact cls1 w hG hro _ (VRs.lr (m := [.agg #[.int .u8 o, .int .u8 c, .int .u8 b2, .int .u8 b3, .int .u8 b4, .int .u8 b5, .int .u8 b6, .int .u8 b7, .int .u8 b8, .int .u8 b9, .int .u8 b10, .int .u8 b11, .bool t], .int .u16 num]) (.cons s (.cons (vr_var 13 rfl mn.1 mn.2) .nil)))
      · exact cls2 w hG hro _ (VRs.lr (m := [.agg #[.int .u8 o, .int .u8 c, .int .u8 b2, .int .u8 b3, .int .u8 b4, .int .u8 b5, .int .u8 b6, .int .u8 b7, .int .u8 b8, .int .u8 b9, .int .u8 b10, .int .u8 b11, .bool t], .int .u16 num]) (.cons s (.cons (vr_var 13 rfl mn.1 mn.2) .nil)))
    · have s {φ : Phi} := shape_vr (φ := φ) (.anyb t) lo ho lc hc lb2 hb2 lb3 hb3 lb4 hb4 lb5 hb5 lb6 hb6 lb7 hb7 lb8 hb8 lb9 hb9 lb10 hb10 lb11 hb11 0 85 255 1 253 rfl rfl rfl rfl rfl rfl rfl rfl rfl rfl rfl rfl m0 m1 (by omega) (by omega) (by omega)
      rcases mn with mn | mn | mn
      · exact cls3 w hG hro _ (VRs.lr (m := [.agg #[.int .u8 o, .int .u8 c, .int .u8 b2, .int .u8 b3, .int .u8 b4, .int .u8 b5, .int .u8 b6, .int .u8 b7, .int .u8 b8, .int .u8 b9, .int .u8 b10, .int .u8 b11, .bool t], .int .u16 num]) (.cons s (.cons (vr_var 13 rfl mn.1 mn.2) .nil)))
      · exact cls4 w hG hro _ (VRs.lr (m := [.agg #[.int .u8 o, .int .u8 c, .int .u8 b2, .int .u8 b3, .int .u8 b4, .int .u8 b5, .int .u8 b6, .int .u8 b7, .int .u8 b8, .int .u8 b9, .int .u8 b10, .int .u8 b11, .bool t], .int .u16 num]) (.cons s (.cons (vr_var 13 rfl mn.1 mn.2) .nil)))
      · exact cls5 w hG hro _ (VRs.lr (m := [.agg #[.int .u8 o, .int .u8 c, .int .u8 b2, .int .u8 b3, .int .u8 b4, .int .u8 b5, .int .u8 b6, .int .u8 b7, .int .u8 b8, .int .u8 b9, .int .u8 b10, .int .u8 b11, .bool t], .int .u16 num]) (.cons s (.cons (vr_var 13 rfl mn.1 mn.2) .nil)))
    · have s {φ : Phi} := shape_vr (φ := φ) (.anyb t) lo ho lc hc lb2 hb2 lb3 hb3 lb4 hb4 lb5 hb5 lb6 hb6 lb7 hb7 lb8 hb8 lb9 hb9 lb10 hb10 lb11 hb11 0 85 255 2 254 rfl rfl rfl rfl rfl rfl rfl rfl rfl rfl rfl rfl m0 m1 (by omega) (by omega) (by omega)
      rcases mn with mn | mn | mn
      · exact cls6 w hG hro _ (VRs.lr (m := [.agg #[.int .u8 o, .int .u8 c, .int .u8 b2, .int .u8 b3, .int .u8 b4, .int .u8 b5, .int .u8 b6, .int .u8 b7, .int .u8 b8, .int .u8 b9, .int .u8 b10, .int .u8 b11, .bool t], .int .u16 num]) (.cons s (.cons (vr_var 13 rfl mn.1 mn.2) .nil)))
      · exact cls7 w hG hro _ (VRs.lr (m := [.agg #[.int .u8 o, .int .u8 c, .int .u8 b2, .int .u8 b3, .int .u8 b4, .int .u8 b5, .int .u8 b6, .int .u8 b7, .int .u8 b8, .int .u8 b9, .int .u8 b10, .int .u8 b11, .bool t], .int .u16 num]) (.cons s (.cons (vr_var 13 rfl mn.1 mn.2) .nil)))
      · exact cls8 w hG hro _ (VRs.lr (m := [.agg #[.int .u8 o, .int .u8 c, .int .u8 b2, .int .u8 b3, .int .u8 b4, .int .u8 b5, .int .u8 b6, .int .u8 b7, .int .u8 b8, .int .u8 b9, .int .u8 b10, .int .u8 b11, .bool t], .int .u16 num]) (.cons s (.cons (vr_var 13 rfl mn.1 mn.2) .nil)))
    · have s {φ : Phi} := shape_vr (φ := φ) (.anyb t) lo ho lc hc lb2 hb2 lb3 hb3 lb4 hb4 lb5 hb5 lb6 hb6 lb7 hb7 lb8 hb8 lb9 hb9 lb10 hb10 lb11 hb11 0 85 255 3 255 rfl rfl rfl rfl rfl rfl rfl rfl rfl rfl rfl rfl m0 m1 (by omega) (by omega) (by omega)
      rcases mn with mn | mn | mn
      · exact cls9 w hG hro _ (VRs.lr (m := [.agg #[.int .u8 o, .int .u8 c, .int .u8 b2, .int .u8 b3, .int .u8 b4, .int .u8 b5, .int .u8 b6, .int .u8 b7, .int .u8 b8, .int .u8 b9, .int .u8 b10, .int .u8 b11, .bool t], .int .u16 num]) (.cons s (.cons (vr_var 13 rfl mn.1 mn.2) .nil)))
      · exact cls10 w hG hro _ (VRs.lr (m := [.agg #[.int .u8 o, .int .u8 c, .int .u8 b2, .int .u8 b3, .int .u8 b4, .int .u8 b5, .int .u8 b6, .int .u8 b7, .int .u8 b8, .int .u8 b9, .int .u8 b10, .int .u8 b11, .bool t], .int .u16 num]) (.cons s (.cons (vr_var 13 rfl mn.1 mn.2) .nil)))
      · exact cls11 w hG hro _ (VRs.lr (m := [.agg #[.int .u8 o, .int .u8 c, .int .u8 b2, .int .u8 b3, .int .u8 b4, .int .u8 b5, .int .u8 b6, .int .u8 b7, .int .u8 b8, .int .u8 b9, .int .u8 b10, .int .u8 b11, .bool t], .int .u16 num]) (.cons s (.cons (vr_var 13 rfl mn.1 mn.2) .nil)))
  · rcases m1 with m1 | m1 | m1 | m1
    · have s {φ : Phi} := shape_vr (φ := φ) (.anyb t) lo ho lc hc lb2 hb2 lb3 hb3 lb4 hb4 lb5 hb5 lb6 hb6 lb7 hb7 lb8 hb8 lb9 hb9 lb10 hb10 lb11 hb11 1 84 253 0 252 rfl rfl rfl rfl rfl rfl rfl rfl rfl rfl rfl rfl m0 m1 (by omega) (by omega) (by omega)
      rcases mn with mn | mn | mn
      · exact cls12 w hG hro _ (VRs.lr (m := [.agg #[.int .u8 o, .int .u8 c, .int .u8 b2, .int .u8 b3, .int .u8 b4, .int .u8 b5, .int .u8 b6, .int .u8 b7, .int .u8 b8, .int .u8 b9, .int .u8 b10, .int .u8 b11, .bool t], .int .u16 num]) (.cons s (.cons (vr_var 13 rfl mn.1 mn.2) .nil)))
      · exact cls13 w hG hro _ (VRs.lr (m := [.agg #[.int .u8 o, .int .u8 c, .int .u8 b2, .int .u8 b3, .int .u8 b4, .int .u8 b5, .int .u8 b6, .int .u8 b7, .int .u8 b8, .int .u8 b9, .int .u8 b10, .int .u8 b11, .bool t], .int .u16 num]) (.cons s (.cons (vr_var 13 rfl mn.1 mn.2) .nil)))
      · exact cls14 w hG hro _ (VRs.lr (m := [.agg #[.int .u8 o, .int .u8 c, .int .u8 b2, .int .u8 b3, .int .u8 b4, .int .u8 b5, .int .u8 b6, .int .u8 b7, .int .u8 b8, .int .u8 b9, .int .u8 b10, .int .u8 b11, .bool t], .int .u16 num]) (.cons s (.cons (vr_var 13 rfl mn.1 mn.2) .nil)))
    · have s {φ : Phi} := shape_vr (φ := φ) (.anyb t) lo ho lc hc lb2 hb2 lb3 hb3 lb4 hb4 lb5 hb5 lb6 hb6 lb7 hb7 lb8 hb8 lb9 hb9 lb10 hb10 lb11 hb11 1 84 253 1 253 rfl rfl rfl rfl rfl rfl rfl rfl rfl rfl rfl rfl m0 m1 (by omega) (by omega) (by omega)
      rcases mn with mn | mn | mn
      · exact cls15 w hG hro _ (VRs.lr (m := [.agg #[.int .u8 o, .int .u8 c, .int .u8 b2, .int .u8 b3, .int .u8 b4, .int .u8 b5, .int .u8 b6, .int .u8 b7, .int .u8 b8, .int .u8 b9, .int .u8 b10, .int .u8 b11, .bool t], .int .u16 num]) (.cons s (.cons (vr_var 13 rfl mn.1 mn.2) .nil)))
      · exact cls16 w hG hro _ (VRs.lr (m := [.agg #[.int .u8 o, .int .u8 c, .int .u8 b2, .int .u8 b3, .int .u8 b4, .int .u8 b5, .int .u8 b6, .int .u8 b7, .int .u8 b8, .int .u8 b9, .int .u8 b10, .int .u8 b11, .bool t], .int .u16 num]) (.cons s (.cons (vr_var 13 rfl mn.1 mn.2) .nil)))
      · exact cls17 w hG hro _ (VRs.lr (m := [.agg #[.int .u8 o, .int .u8 c, .int .u8 b2, .int .u8 b3, .int .u8 b4, .int .u8 b5, .int .u8 b6, .int .u8 b7, .int .u8 b8, .int .u8 b9, .int .u8 b10, .int .u8 b11, .bool t], .int .u16 num]) (.cons s (.cons (vr_var 13 rfl mn.1 mn.2) .nil)))
    · have s {φ : Phi} := shape_vr (φ := φ) (.anyb t) lo ho lc hc lb2 hb2 lb3 hb3 lb4 hb4 lb5 hb5 lb6 hb6 lb7 hb7 lb8 hb8 lb9 hb9 lb10 hb10 lb11 hb11 1 84 253 2 254 rfl rfl rfl rfl rfl rfl rfl rfl rfl rfl rfl rfl m0 m1 (by omega) (by omega) (by omega)
      rcases mn with mn | mn | mn
      · exact cls18 w hG hro _ (VRs.lr (m := [.agg #[.int .u8 o, .int .u8 c, .int .u8 b2, .int .u8 b3, .int .u8 b4, .int .u8 b5, .int .u8 b6, .int .u8 b7, .int .u8 b8, .int .u8 b9, .int .u8 b10, .int .u8 b11, .bool t], .int .u16 num]) (.cons s (.cons (vr_var 13 rfl mn.1 mn.2) .nil)))
      · exact cls19 w hG hro _ (VRs.lr (m := [.agg #[.int .u8 o, .int .u8 c, .int .u8 b2, .int .u8 b3, .int .u8 b4, .int .u8 b5, .int .u8 b6, .int .u8 b7, .int .u8 b8, .int .u8 b9, .int .u8 b10, .int .u8 b11, .bool t], .int .u16 num]) (.cons s (.cons (vr_var 13 rfl mn.1 mn.2) .nil)))
      · exact cls20 w hG hro _ (VRs.lr (m := [.agg #[.int .u8 o, .int .u8 c, .int .u8 b2, .int .u8 b3, .int .u8 b4, .int .u8 b5, .int .u8 b6, .int .u8 b7, .int .u8 b8, .int .u8 b9, .int .u8 b10, .int .u8 b11, .bool t], .int .u16 num]) (.cons s (.cons (vr_var 13 rfl mn.1 mn.2) .nil)))
    · have s {φ : Phi} := shape_vr (φ := φ) (.anyb t) lo ho lc hc lb2 hb2 lb3 hb3 lb4 hb4 lb5 hb5 lb6 hb6 lb7 hb7 lb8 hb8 lb9 hb9 lb10 hb10 lb11 hb11 1 84 253 3 255 rfl rfl rfl rfl rfl rfl rfl rfl rfl rfl rfl rfl m0 m1 (by omega) (by omega) (by omega)
      rcases mn with mn | mn | mn
      · exact cls21 w hG hro _ (VRs.lr (m := [.agg #[.int .u8 o, .int .u8 c, .int .u8 b2, .int .u8 b3, .int .u8 b4, .int .u8 b5, .int .u8 b6, .int .u8 b7, .int .u8 b8, .int .u8 b9, .int .u8 b10, .int .u8 b11, .bool t], .int .u16 num]) (.cons s (.cons (vr_var 13 rfl mn.1 mn.2) .nil)))
      · exact cls22 w hG hro _ (VRs.lr (m := [.agg #[.int .u8 o, .int .u8 c, .int .u8 b2, .int .u8 b3, .int .u8 b4, .int .u8 b5, .int .u8 b6, .int .u8 b7, .int .u8 b8, .int .u8 b9, .int .u8 b10, .int .u8 b11, .bool t], .int .u16 num]) (.cons s (.cons (vr_var 13 rfl mn.1 mn.2) .nil)))
      · exact cls23 w hG hro _ (VRs.lr (m := [.agg #[.int .u8 o, .int .u8 c, .int .u8 b2, .int .u8 b3, .int .u8 b4, .int .u8 b5, .int .u8 b6, .int .u8 b7, .int .u8 b8, .int .u8 b9, .int .u8 b10, .int .u8 b11, .bool t], .int .u16 num]) (.cons s (.cons (vr_var 13 rfl mn.1 mn.2) .nil)))
  · rcases m1 with m1 | m1 | m1 | m1
    · have s {φ : Phi} := shape_vr (φ := φ) (.anyb t) lo ho lc hc lb2 hb2 lb3 hb3 lb4 hb4 lb5 hb5 lb6 hb6 lb7 hb7 lb8 hb8 lb9 hb9 lb10 hb10 lb11 hb11 2 84 254 0 252 rfl rfl rfl rfl rfl rfl rfl rfl rfl rfl rfl rfl m0 m1 (by omega) (by omega) (by omega)
      rcases mn with mn | mn | mn
      · exact cls24 w hG hro _ (VRs.lr (m := [.agg #[.int .u8 o, .int .u8 c, .int .u8 b2, .int .u8 b3, .int .u8 b4, .int .u8 b5, .int .u8 b6, .int .u8 b7, .int .u8 b8, .int .u8 b9, .int .u8 b10, .int .u8 b11, .bool t], .int .u16 num]) (.cons s (.cons (vr_var 13 rfl mn.1 mn.2) .nil)))
      · exact cls25 w hG hro _ (VRs.lr (m := [.agg #[.int .u8 o, .int .u8 c, .int .u8 b2, .int .u8 b3, .int .u8 b4, .int .u8 b5, .int .u8 b6, .int .u8 b7, .int .u8 b8, .int .u8 b9, .int .u8 b10, .int .u8 b11, .bool t], .int .u16 num]) (.cons s (.cons (vr_var 13 rfl mn.1 mn.2) .nil)))
      · exact cls26 w hG hro _ (VRs.lr (m := [.agg #[.int .u8 o, .int .u8 c, .int .u8 b2, .int .u8 b3, .int .u8 b4, .int .u8 b5, .int .u8 b6, .int .u8 b7, .int .u8 b8, .int .u8 b9, .int .u8 b10, .int .u8 b11, .bool t], .int .u16 num]) (.cons s (.cons (vr_var 13 rfl mn.1 mn.2) .nil)))
    · have s {φ : Phi} := shape_vr (φ := φ) (.anyb t) lo ho lc hc lb2 hb2 lb3 hb3 lb4 hb4 lb5 hb5 lb6 hb6 lb7 hb7 lb8 hb8 lb9 hb9 lb10 hb10 lb11 hb11 2 84 254 1 253 rfl rfl rfl rfl rfl rfl rfl rfl rfl rfl rfl rfl m0 m1 (by omega) (by omega) (by omega)
      rcases mn with mn | mn | mn
      · exact cls27 w hG hro _ (VRs.lr (m := [.agg #[.int .u8 o, .int .u8 c, .int .u8 b2, .int .u8 b3, .int .u8 b4, .int .u8 b5, .int .u8 b6, .int .u8 b7, .int .u8 b8, .int .u8 b9, .int .u8 b10, .int .u8 b11, .bool t], .int .u16 num]) (.cons s (.cons (vr_var 13 rfl mn.1 mn.2) .nil)))
      · exact cls28 w hG hro _ (VRs.lr (m := [.agg #[.int .u8 o, .int .u8 c, .int .u8 b2, .int .u8 b3, .int .u8 b4, .int .u8 b5, .int .u8 b6, .int .u8 b7, .int .u8 b8, .int .u8 b9, .int .u8 b10, .int .u8 b11, .bool t], .int .u16 num]) (.cons s (.cons (vr_var 13 rfl mn.1 mn.2) .nil)))
      · exact cls29 w hG hro _ (VRs.lr (m := [.agg #[.int .u8 o, .int .u8 c, .int .u8 b2, .int .u8 b3, .int .u8 b4, .int .u8 b5, .int .u8 b6, .int .u8 b7, .int .u8 b8, .int .u8 b9, .int .u8 b10, .int .u8 b11, .bool t], .int .u16 num]) (.cons s (.cons (vr_var 13 rfl mn.1 mn.2) .nil)))
    · have s {φ : Phi} := shape_vr (φ := φ) (.anyb t) lo ho lc hc lb2 hb2 lb3 hb3 lb4 hb4 lb5 hb5 lb6 hb6 lb7 hb7 lb8 hb8 lb9 hb9 lb10 hb10 lb11 hb11 2 84 254 2 254 rfl rfl rfl rfl rfl rfl rfl rfl rfl rfl rfl rfl m0 m1 (by omega) (by omega) (by omega)
      rcases mn with mn | mn | mn
      · exact cls30 w hG hro _ (VRs.lr (m := [.agg #[.int .u8 o, .int .u8 c, .int .u8 b2, .int .u8 b3, .int .u8 b4, .int .u8 b5, .int .u8 b6, .int .u8 b7, .int .u8 b8, .int .u8 b9, .int .u8 b10, .int .u8 b11, .bool t], .int .u16 num]) (.cons s (.cons (vr_var 13 rfl mn.1 mn.2) .nil)))
      · exact cls31 w hG hro _ (VRs.lr (m := [.agg #[.int .u8 o, .int .u8 c, .int .u8 b2, .int .u8 b3, .int .u8 b4, .int .u8 b5, .int .u8 b6, .int .u8 b7, .int .u8 b8, .int .u8 b9, .int .u8 b10, .int .u8 b11, .bool t], .int .u16 num]) (.cons s (.cons (vr_var 13 rfl mn.1 mn.2) .nil)))
      · exact cls32 w hG hro _ (VRs.lr (m := [.agg #[.int .u8 o, .int .u8 c, .int .u8 b2, .int .u8 b3, .int .u8 b4, .int .u8 b5, .int .u8 b6, .int .u8 b7, .int .u8 b8, .int .u8 b9, .int .u8 b10, .int .u8 b11, .bool t], .int .u16 num]) (.cons s (.cons (vr_var 13 rfl mn.1 mn.2) .nil)))
    · have s {φ : Phi} := shape_vr (φ := φ) (.anyb t) lo ho lc hc lb2 hb2 lb3 hb3 lb4 hb4 lb5 hb5 lb6 hb6 lb7 hb7 lb8 hb8 lb9 hb9 lb10 hb10 lb11 hb11 2 84 254 3 255 rfl rfl rfl rfl rfl rfl rfl rfl rfl rfl rfl rfl m0 m1 (by omega) (by omega) (by omega)
      rcases mn with mn | mn | mn
      · exact cls33 w hG hro _ (VRs.lr (m := [.agg #[.int .u8 o, .int .u8 c, .int .u8 b2, .int .u8 b3, .int .u8 b4, .int .u8 b5, .int .u8 b6, .int .u8 b7, .int .u8 b8, .int .u8 b9, .int .u8 b10, .int .u8 b11, .bool t], .int .u16 num]) (.cons s (.cons (vr_var 13 rfl mn.1 mn.2) .nil)))
      · exact cls34 w hG hro _ (VRs.lr (m := [.agg #[.int .u8 o, .int .u8 c, .int .u8 b2, .int .u8 b3, .int .u8 b4, .int .u8 b5, .int .u8 b6, .int .u8 b7, .int .u8 b8, .int .u8 b9, .int .u8 b10, .int .u8 b11, .bool t], .int .u16 num]) (.cons s (.cons (vr_var 13 rfl mn.1 mn.2) .nil)))
      · exact cls35 w hG hro _ (VRs.lr (m := [.agg #[.int .u8 o, .int .u8 c, .int .u8 b2, .int .u8 b3, .int .u8 b4, .int .u8 b5, .int .u8 b6, .int .u8 b7, .int .u8 b8, .int .u8 b9, .int .u8 b10, .int .u8 b11, .bool t], .int .u16 num]) (.cons s (.cons (vr_var 13 rfl mn.1 mn.2) .nil)))
end
end Go.Proofs.YtjclnmkdkbmjlaaGreatDoor
