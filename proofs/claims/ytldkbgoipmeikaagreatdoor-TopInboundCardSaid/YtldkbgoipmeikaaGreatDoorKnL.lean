/-
  The law, for all inputs: its classes are all that there is.
  Conditions: the inputs' kinds.
-/
import Derived.Test.YtldkbgoipmeikaaGreatDoorKnE00
import Derived.Test.YtldkbgoipmeikaaGreatDoorKnE01
import Derived.Test.YtldkbgoipmeikaaGreatDoorKnE02
import Derived.Test.YtldkbgoipmeikaaGreatDoorKnE03
import Derived.Test.YtldkbgoipmeikaaGreatDoorKnE04
import Derived.Test.YtldkbgoipmeikaaGreatDoorKnE05
import Derived.Test.YtldkbgoipmeikaaGreatDoorKnE06
import Derived.Test.YtldkbgoipmeikaaGreatDoorKnE07
import Derived.Test.YtldkbgoipmeikaaGreatDoorKnE08
import Derived.Test.YtldkbgoipmeikaaGreatDoorKnE09
import Derived.Test.YtldkbgoipmeikaaGreatDoorKnE10
import Derived.Test.YtldkbgoipmeikaaGreatDoorKnE11
import Derived.Test.YtldkbgoipmeikaaGreatDoorKnR00
import Derived.Test.YtldkbgoipmeikaaGreatDoorKnR01
import Derived.Test.YtldkbgoipmeikaaGreatDoorKnR02
import Derived.Test.YtldkbgoipmeikaaGreatDoorKnR03
import Derived.Test.YtldkbgoipmeikaaGreatDoorKnR04
import Derived.Test.YtldkbgoipmeikaaGreatDoorKnR05
import Derived.Test.YtldkbgoipmeikaaGreatDoorKnR06
import Derived.Test.YtldkbgoipmeikaaGreatDoorKnR07
import Derived.Test.YtldkbgoipmeikaaGreatDoorKnR08
import Derived.Test.YtldkbgoipmeikaaGreatDoorKnR09
import Derived.Test.YtldkbgoipmeikaaGreatDoorKnR10
import Derived.Test.YtldkbgoipmeikaaGreatDoorKnR11
import Derived.Test.YtldkbgoipmeikaaGreatDoorKnR12
import Derived.Test.YtldkbgoipmeikaaGreatDoorKnR13
import Derived.Test.YtldkbgoipmeikaaGreatDoorKnR14
import Derived.Test.YtldkbgoipmeikaaGreatDoorKnC
open Go Go.Ab Go.ChangeShapes Go.WideShapes Go.ChangeAt Go.RowKit
namespace Go.Proofs.YtldkbgoipmeikaaGreatDoor
noncomputable section
/-- An entry that was run over what was known before it. -/
theorem mk {e : Ent} {m : List Ent} (hm : AllGoodF Tryz.prog kb m) (h : e.ok Tryz.prog (knWith kb 6 m) 6 1000 60 = true) : AllGoodF Tryz.prog kb [e] := .one hm (fuel := 1000) (n := 60) (by rw [g0]; exact h)
theorem mkF {e : Ent} {m : List Ent} {x : FCert} (hm : AllGoodF Tryz.prog kb m) (h : e.okF Tryz.prog (knWith kb 6 m) 6 1000 60 x = true) : AllGoodF Tryz.prog kb [e] := .oneF hm (fuel := 1000) (n := 60) (x := x) (by rw [g0]; exact h)
abbrev B (e : Ent) : Prop := AllGoodF Tryz.prog kb [e]
theorem app {e : Ent} {l : List Ent} (he : B e) (hl : AllGoodF Tryz.prog kb l) : AllGoodF Tryz.prog kb (e :: l) := he.app hl
theorem nl : AllGoodF Tryz.prog kb [] := .nil
theorem known {m : List Ent} (hm : AllGoodF Tryz.prog kb m) : ∀ V : Val, Inv V → @KnownSim V Tryz.prog (knWith kb 6 m) := by
  have h := knWith_allF keeps kbSim hm
  rwa [g0] at h
/-- The patterns of a loop: from each all is well. -/
theorem wells {m : List Ent} {T : List Tgt} (hm : AllGoodF Tryz.prog kb m) (h : ∀ t ∈ T, ∃ c, chkL Tryz.prog (knWith kb 6 m) 1000 60 3 2 [] T c t = true) : ∀ t ∈ T, Well Inv Tryz.prog 3 2 t := well_of keeps (T := []) (known hm) (fun _ h => absurd h (by simp)) h
theorem none_well : ∀ t ∈ ([] : List Tgt), Well Inv Tryz.prog 3 2 t := fun _ h => absurd h (by simp)
theorem all1 {p : Tgt → Prop} {a : Tgt} (h : p a) : ∀ t ∈ [a], p t := fun t ht => by
  rcases List.mem_cons.mp ht with rfl | ht
  · exact h
  · exact absurd ht (by simp)
theorem allC {p : Tgt → Prop} {a : Tgt} {l : List Tgt} (h : p a) (hl : ∀ t ∈ l, p t) : ∀ t ∈ a :: l, p t := fun t ht => by
  rcases List.mem_cons.mp ht with rfl | ht
  · exact h
  · exact hl t ht
/-- The law answers true for every input of a class, and leaves what was there as it was. -/
def Fine [V : Val] (a : List AV) : Prop := Inv V → ∀ (w : World) (φ : Phi) (x : Array Value), HR Tryz.prog.globals.size φ (hIn 6 false []) w → Bel w φ (hIn 6 false []) w → LR φ a x → Calls Tryz.prog 3 x w fun e w' => e = .returned (.bool true) ∧ Below w.heap.size w w'
theorem fin [V : Val] {m : List Ent} {a : List AV} {T : List Tgt} {c : Cert} (hm : AllGoodF Tryz.prog kb m) (hT : ∀ t ∈ T, Well Inv Tryz.prog 3 a.length t) (h : chkAt Tryz.prog (knWith kb 6 m) 1000 60 3 a.length T [] (.const 0) c [.code []] (enterS Tryz.prog 3 a (hIn 6 false [])) = true) : Fine a :=
  fun hV _ _ _ hr hb ha => calls_of_chk keeps (known hm) hT h hV hr hb ha
theorem gd0 : B e0 := mk nl ok0
theorem gd1 : B e1 := mk nl ok1
theorem gd2 : B e2 := mk nl ok2
theorem gd3 : B e3 := mk (app gdEmpty (app gdScan nl)) ok3
theorem gd4 : B e4 := mk nl ok4
theorem gd5 : B e5 := mk (app gd3 (app gd4 nl)) ok5
theorem gd6 : B e6 := mk nl ok6
theorem gd7 : B e7 := mk nl ok7
theorem gd8 : B e8 := mk nl ok8
theorem gd9 : B e9 := mk (app gd8 nl) ok9
theorem gd10 : B e10 := mk (app gd2 nl) ok10
theorem gd11 : B e11 := mk (app gd2 (app gd9 (app gd10 nl))) ok11
theorem gd12 : B e12 := mk (app gd2 (app gd11 nl)) ok12
theorem gd13 : B e13 := mk (app gd2 nl) ok13
theorem gd14 : B e14 := mk nl ok14
theorem gd15 : B e15 := mk nl ok15
theorem gd16 : B e16 := mk (app gd6 (app gd7 (app gd14 (app gd15 nl)))) ok16
theorem gd17 : B e17 := mk nl ok17
theorem gd18 : B e18 := mk nl ok18
theorem gd19 : B e19 := mk nl ok19
theorem gd20 : B e20 := mk (app gd12 (app gd13 (app gd16 (app gd17 (app gd18 (app gd19 nl)))))) ok20
theorem gd21 : B e21 := mk (app gd2 (app gd6 (app gd7 (app gd20 nl)))) ok21
theorem gd22 : B e22 := mk (app gd2 (app gd6 (app gd7 (app gd21 nl)))) ok22
theorem gd23 : B e23 := mk nl ok23
theorem gd24 : B e24 := mk (app gd6 (app gd7 (app gd18 (app gd23 nl)))) ok24
theorem gd25 : B e25 := mk (app gd2 (app gd5 (app gd22 (app gd24 nl)))) ok25
theorem gd26 : B e26 := mk (app gd4 (app gd8 (app gdScan nl))) ok26
theorem gd2000000 : B e2000000 := mk (app gd0 (app gd1 (app gd2 (app gd25 (app gd26 nl))))) ok2000000
theorem gd28 : B e28 := mk nl ok28
theorem gd29 : B e29 := mk (app gd4 (app gdOpen nl)) ok29
theorem gd30 : B e30 := mk nl ok30
theorem gd31 : B e31 := mk nl ok31
theorem gd32 : B e32 := mk nl ok32
theorem gd33 : B e33 := mk nl ok33
theorem gd34 : B e34 := mk nl ok34
theorem gd35 : B e35 := mk (app gd34 nl) ok35
theorem gd36 : B e36 := mk (app gd28 nl) ok36
theorem gd37 : B e37 := mk (app gd28 (app gd35 (app gd36 nl))) ok37
theorem gd38 : B e38 := mk (app gd28 (app gd37 nl)) ok38
theorem gd39 : B e39 := mk (app gd28 nl) ok39
theorem gd40 : B e40 := mk nl ok40
theorem gd41 : B e41 := mk nl ok41
theorem gd42 : B e42 := mk nl ok42
theorem gd43 : B e43 := mk nl ok43
theorem gd44 : B e44 := mk nl ok44
theorem gd45 : B e45 := mk (app gd32 (app gd33 (app gd38 (app gd39 (app gd40 (app gd41 (app gd42 (app gd43 (app gd44 nl))))))))) ok45
theorem gd46 : B e46 := mk (app gd28 (app gd32 (app gd33 (app gd45 nl)))) ok46
theorem gd47 : B e47 := mk (app gd28 nl) ok47
theorem gd48 : B e48 := mk nl ok48
theorem gd49 : B e49 := mk nl ok49
theorem gd50 : B e50 := mk nl ok50
theorem gd51 : B e51 := mk nl ok51
theorem gd52 : B e52 := mk nl ok52
theorem gd53 : B e53 := mk nl ok53
theorem gd54 : B e54 := mk nl ok54
theorem gd55 : B e55 := mk nl ok55
theorem gd56 : B e56 := mk nl ok56
theorem gd57 : B e57 := mk (app gd50 (app gd51 (app gd52 (app gd53 (app gd54 (app gd55 (app gd56 nl))))))) ok57
theorem gd59 : B e59 := mk nl ok59
theorem gd60 : B e60 := mk nl ok60
theorem gd61 : B e61 := mk nl ok61
theorem gd62 : B e62 := mk nl ok62
theorem gd63 : B e63 := mk nl ok63
theorem gd64 : B e64 := mk nl ok64
theorem gd65 : B e65 := mk nl ok65
theorem gd66 : B e66 := mk nl ok66
theorem gd67 : B e67 := mk nl ok67
theorem gd70 : B e70 := mk (app gd28 nl) ok70
theorem gd71 : B e71 := mk nl ok71
theorem gd72 : B e72 := mk (app gd71 nl) ok72
theorem gd73 : B e73 := mk (app gd72 nl) ok73
theorem gd74 : B e74 := mk (app gd28 nl) ok74
theorem gd75 : B e75 := mk (app gd28 (app gd61 (app gd62 (app gd63 (app gd64 (app gd65 (app gd66 (app gd67 nl)))))))) ok75
theorem gd76 : B e76 := mkF nl ok76
theorem gd78 : B e78 := mk nl ok78
theorem gd79 : B e79 := mk nl ok79
theorem gd80 : B e80 := mk nl ok80
theorem gd81 : B e81 := mk nl ok81
theorem gd82 : B e82 := mk nl ok82
theorem gd83 : B e83 := mk nl ok83
theorem gd84 : B e84 := mk nl ok84
theorem gd85 : B e85 := mk nl ok85
theorem gd86 : B e86 := mk nl ok86
theorem gd88 : B e88 := mk (app gd28 (app gd80 (app gd81 nl))) ok88
theorem gd89 : B e89 := mkF nl ok89
theorem gd90 : B e90 := mk (app gd28 (app gd89 nl)) ok90
theorem gd92 : B e92 := mk nl ok92
theorem gd93 : B e93 := mk (app gd92 nl) ok93
theorem gd94 : B e94 := mkF nl ok94
theorem gd95 : B e95 := mk (app gd28 (app gd94 nl)) ok95
theorem gd96 : B e96 := mk (app gd28 (app gd76 nl)) ok96
theorem gd97 : B e97 := mk (app gd28 (app gd80 (app gd81 (app gd82 (app gd83 (app gd84 (app gd85 (app gd86 nl)))))))) ok97
theorem gd98 : B e98 := mkF nl ok98
theorem gd100 : B e100 := mk (app gd50 (app gd51 (app gd52 (app gd53 (app gd54 (app gd55 (app gd56 nl))))))) ok100
theorem gd101 : B e101 := mkF nl ok101
theorem gd102 : B e102 := mkF nl ok102
theorem gd103 : B e103 := mk (app gd28 (app gd102 nl)) ok103
theorem gd104 : B e104 := mk (app gd92 nl) ok104
theorem gd106 : B e106 := mk (app gd28 (app gd98 nl)) ok106
theorem gd108 : B e108 := mk (app gd61 (app gd62 (app gd63 (app gd64 (app gd65 (app gd66 (app gd67 nl))))))) ok108
theorem gd110 : B e110 := mkF nl ok110
theorem gd111 : B e111 := mk (app gd28 (app gd110 nl)) ok111
theorem gd112 : B e112 := mk (app gd28 (app gd98 nl)) ok112
theorem gd114 : B e114 := mk (app gd80 (app gd81 (app gd82 (app gd83 (app gd84 (app gd85 (app gd86 nl))))))) ok114
theorem gd116 : B e116 := mk (app gd28 (app gd98 nl)) ok116
theorem gd117 : B e117 := mk (app gd28 (app gd101 (app gd103 (app gd104 nl)))) ok117
theorem gd118 : B e118 := mkF nl ok118
theorem gd119 : B e119 := mk (app gd28 (app gd118 nl)) ok119
theorem gd120 : B e120 := mkF nl ok120
theorem gd121 : B e121 := mk (app gd28 (app gd120 nl)) ok121
theorem gd123 : B e123 := mk (app gd50 (app gd51 (app gd52 (app gd53 (app gd54 (app gd55 (app gd56 nl))))))) ok123
theorem gd124 : B e124 := mk (app gd28 (app gd76 nl)) ok124
theorem gd126 : B e126 := mk (app gd61 (app gd62 (app gd63 (app gd64 (app gd65 (app gd66 (app gd67 nl))))))) ok126
theorem gd127 : B e127 := mk (app gd28 (app gd76 nl)) ok127
theorem gd128 : B e128 := mk (app gd28 (app gd61 (app gd62 nl))) ok128
theorem gd130 : B e130 := mk (app gd28 (app gd80 (app gd81 nl))) ok130
theorem gd131 : B e131 := mk (app gd28 nl) ok131
theorem gd132 : B e132 := mk (app gd92 nl) ok132
theorem gd133 : B e133 := mk (app gd28 nl) ok133
theorem gd135 : B e135 := mk (app gd50 (app gd51 (app gd52 (app gd53 (app gd54 (app gd55 (app gd56 nl))))))) ok135
theorem gd136 : B e136 := mk (app gd28 nl) ok136
theorem gd137 : B e137 := mk (app gd28 (app gd35 (app gd36 nl))) ok137
theorem gd138 : B e138 := mk (app gd28 (app gd137 nl)) ok138
theorem gd139 : B e139 := mk (app gd32 (app gd33 (app gd39 (app gd40 (app gd41 (app gd42 (app gd43 (app gd44 (app gd138 nl))))))))) ok139
theorem gd140 : B e140 := mk (app gd28 (app gd32 (app gd33 (app gd139 nl)))) ok140
theorem gd141 : B e141 := mk (app gd28 nl) ok141
theorem gd143 : B e143 := mk (app gd72 nl) ok143
theorem gd144 : B e144 := mk (app gd28 nl) ok144
theorem gd145 : B e145 := mk (app gd28 (app gd61 (app gd62 (app gd63 (app gd64 (app gd65 (app gd66 (app gd67 nl)))))))) ok145
theorem gd148 : B e148 := mk (app gd92 nl) ok148
theorem gd149 : B e149 := mk (app gd28 (app gd76 nl)) ok149
theorem gd150 : B e150 := mk (app gd28 (app gd80 (app gd81 (app gd82 (app gd83 (app gd84 (app gd85 (app gd86 nl)))))))) ok150
theorem gd152 : B e152 := mk (app gd92 nl) ok152
theorem gd154 : B e154 := mk (app gd28 (app gd98 nl)) ok154
theorem gd157 : B e157 := mk (app gd28 (app gd98 nl)) ok157
theorem gd160 : B e160 := mk (app gd28 (app gd98 nl)) ok160
theorem gd161 : B e161 := mk (app gd28 (app gd101 (app gd103 (app gd152 nl)))) ok161
theorem gd163 : B e163 := mk (app gd28 (app gd76 nl)) ok163
theorem gd165 : B e165 := mk (app gd28 (app gd76 nl)) ok165
theorem gd167 : B e167 := mk (app gd92 nl) ok167
theorem gd168 : B e168 := mk (app gd28 nl) ok168
theorem gd170 : B e170 := mk (app gd28 nl) ok170
theorem gd171 : B e171 := mk (app gd28 (app gd35 (app gd36 nl))) ok171
theorem gd172 : B e172 := mk (app gd28 (app gd171 nl)) ok172
theorem gd173 : B e173 := mk (app gd32 (app gd33 (app gd39 (app gd40 (app gd41 (app gd42 (app gd43 (app gd44 (app gd172 nl))))))))) ok173
theorem gd174 : B e174 := mk (app gd28 (app gd32 (app gd33 (app gd173 nl)))) ok174
theorem gd175 : B e175 := mk (app gd28 nl) ok175
theorem gd177 : B e177 := mk (app gd72 nl) ok177
theorem gd178 : B e178 := mk (app gd28 nl) ok178
theorem gd179 : B e179 := mk (app gd28 (app gd61 (app gd62 (app gd63 (app gd64 (app gd65 (app gd66 (app gd67 nl)))))))) ok179
theorem gd182 : B e182 := mk (app gd92 nl) ok182
theorem gd183 : B e183 := mk (app gd28 (app gd76 nl)) ok183
theorem gd184 : B e184 := mk (app gd28 (app gd80 (app gd81 (app gd82 (app gd83 (app gd84 (app gd85 (app gd86 nl)))))))) ok184
theorem gd186 : B e186 := mk (app gd92 nl) ok186
theorem gd188 : B e188 := mk (app gd28 (app gd98 nl)) ok188
theorem gd191 : B e191 := mk (app gd28 (app gd98 nl)) ok191
theorem gd194 : B e194 := mk (app gd28 (app gd98 nl)) ok194
theorem gd195 : B e195 := mk (app gd28 (app gd101 (app gd103 (app gd186 nl)))) ok195
theorem gd197 : B e197 := mk (app gd28 (app gd76 nl)) ok197
theorem gd199 : B e199 := mk (app gd28 (app gd76 nl)) ok199
theorem gd201 : B e201 := mk (app gd28 nl) ok201
theorem gd203 : B e203 := mk (app gd92 nl) ok203
theorem gd204 : B e204 := mk (app gd28 nl) ok204
theorem gd205 : B e205 := mk (app gd28 (app gd29 nl)) ok205
theorem gd206 : B e206 := mk (app gd28 (app gd35 (app gd36 nl))) ok206
theorem gd207 : B e207 := mk (app gd28 (app gd206 nl)) ok207
theorem gd208 : B e208 := mk (app gd32 (app gd33 (app gd39 (app gd40 (app gd41 (app gd42 (app gd43 (app gd44 (app gd207 nl))))))))) ok208
theorem gd209 : B e209 := mk (app gd28 (app gd32 (app gd33 (app gd208 nl)))) ok209
theorem gd210 : B e210 := mk (app gd28 nl) ok210
theorem gd212 : B e212 := mk (app gd72 nl) ok212
theorem gd213 : B e213 := mk (app gd28 nl) ok213
theorem gd214 : B e214 := mk (app gd28 (app gd61 (app gd62 (app gd63 (app gd64 (app gd65 (app gd66 (app gd67 nl)))))))) ok214
theorem gd217 : B e217 := mk (app gd92 nl) ok217
theorem gd218 : B e218 := mk (app gd28 (app gd76 nl)) ok218
theorem gd219 : B e219 := mk (app gd28 (app gd80 (app gd81 (app gd82 (app gd83 (app gd84 (app gd85 (app gd86 nl)))))))) ok219
theorem gd221 : B e221 := mk (app gd92 nl) ok221
theorem gd223 : B e223 := mk (app gd28 (app gd98 nl)) ok223
theorem gd226 : B e226 := mk (app gd28 (app gd98 nl)) ok226
theorem gd229 : B e229 := mk (app gd28 (app gd98 nl)) ok229
theorem gd230 : B e230 := mk (app gd28 (app gd101 (app gd103 (app gd221 nl)))) ok230
theorem gd232 : B e232 := mk (app gd28 (app gd76 nl)) ok232
theorem gd234 : B e234 := mk (app gd28 (app gd76 nl)) ok234
theorem gd236 : B e236 := mk (app gd92 nl) ok236
theorem gd237 : B e237 := mk (app gd28 nl) ok237
theorem gd239 : B e239 := mk (app gd28 nl) ok239
theorem gd240 : B e240 := mk nl ok240
theorem gd241 : B e241 := mk (app gd29 (app gd240 nl)) ok241
theorem gd242 : B e242 := mk (app gd240 nl) ok242
theorem gd243 : B e243 := mk (app gd35 (app gd240 (app gd242 nl))) ok243
theorem gd244 : B e244 := mk (app gd240 (app gd243 nl)) ok244
theorem gd245 : B e245 := mk (app gd240 nl) ok245
theorem gd246 : B e246 := mk (app gd32 (app gd33 (app gd40 (app gd41 (app gd42 (app gd43 (app gd44 (app gd244 (app gd245 nl))))))))) ok246
theorem gd247 : B e247 := mk (app gd32 (app gd33 (app gd240 (app gd246 nl)))) ok247
theorem gd248 : B e248 := mk (app gd240 nl) ok248
theorem gd249 : B e249 := mk (app gd50 (app gd51 (app gd52 (app gd53 (app gd54 (app gd55 (app gd56 nl))))))) ok249
theorem gd253 : B e253 := mk (app gd240 nl) ok253
theorem gd254 : B e254 := mk (app gd72 nl) ok254
theorem gd255 : B e255 := mk (app gd240 nl) ok255
theorem gd256 : B e256 := mk (app gd61 (app gd62 (app gd63 (app gd64 (app gd65 (app gd66 (app gd67 (app gd240 nl)))))))) ok256
theorem gd259 : B e259 := mk (app gd80 (app gd81 (app gd240 nl))) ok259
theorem gd260 : B e260 := mk (app gd89 (app gd240 nl)) ok260
theorem gd261 : B e261 := mk (app gd92 nl) ok261
theorem gd262 : B e262 := mk (app gd94 (app gd240 nl)) ok262
theorem gd263 : B e263 := mk (app gd76 (app gd240 nl)) ok263
theorem gd264 : B e264 := mk (app gd80 (app gd81 (app gd82 (app gd83 (app gd84 (app gd85 (app gd86 (app gd240 nl)))))))) ok264
theorem gd266 : B e266 := mk (app gd50 (app gd51 (app gd52 (app gd53 (app gd54 (app gd55 (app gd56 nl))))))) ok266
theorem gd267 : B e267 := mk (app gd102 (app gd240 nl)) ok267
theorem gd268 : B e268 := mk (app gd92 nl) ok268
theorem gd270 : B e270 := mk (app gd110 (app gd240 nl)) ok270
theorem gd271 : B e271 := mk (app gd98 (app gd240 nl)) ok271
theorem gd273 : B e273 := mk (app gd61 (app gd62 (app gd63 (app gd64 (app gd65 (app gd66 (app gd67 nl))))))) ok273
theorem gd275 : B e275 := mk (app gd98 (app gd240 nl)) ok275
theorem gd277 : B e277 := mk (app gd80 (app gd81 (app gd82 (app gd83 (app gd84 (app gd85 (app gd86 nl))))))) ok277
theorem gd279 : B e279 := mk (app gd98 (app gd240 nl)) ok279
theorem gd280 : B e280 := mk (app gd101 (app gd240 (app gd267 (app gd268 nl)))) ok280
theorem gd281 : B e281 := mk (app gd118 (app gd240 nl)) ok281
theorem gd282 : B e282 := mk (app gd120 (app gd240 nl)) ok282
theorem gd284 : B e284 := mk (app gd50 (app gd51 (app gd52 (app gd53 (app gd54 (app gd55 (app gd56 nl))))))) ok284
theorem gd285 : B e285 := mk (app gd76 (app gd240 nl)) ok285
theorem gd287 : B e287 := mk (app gd61 (app gd62 (app gd63 (app gd64 (app gd65 (app gd66 (app gd67 nl))))))) ok287
theorem gd288 : B e288 := mk (app gd76 (app gd240 nl)) ok288
theorem gd289 : B e289 := mk (app gd61 (app gd62 (app gd240 nl))) ok289
theorem gd291 : B e291 := mk (app gd80 (app gd81 (app gd240 nl))) ok291
theorem gd292 : B e292 := mk (app gd240 nl) ok292
theorem gd293 : B e293 := mk (app gd92 nl) ok293
theorem gd294 : B e294 := mk (app gd240 nl) ok294
theorem gd296 : B e296 := mk (app gd50 (app gd51 (app gd52 (app gd53 (app gd54 (app gd55 (app gd56 nl))))))) ok296
theorem gd297 : B e297 := mk (app gd240 nl) ok297
theorem gd298 : B e298 := mk (app gd29 (app gd240 nl)) ok298
theorem gd299 : B e299 := mk (app gd35 (app gd240 (app gd242 nl))) ok299
theorem gd300 : B e300 := mk (app gd240 (app gd299 nl)) ok300
theorem gd301 : B e301 := mk (app gd32 (app gd33 (app gd40 (app gd41 (app gd42 (app gd43 (app gd44 (app gd245 (app gd300 nl))))))))) ok301
theorem gd302 : B e302 := mk (app gd32 (app gd33 (app gd240 (app gd301 nl)))) ok302
theorem gd303 : B e303 := mk (app gd240 nl) ok303
theorem gd305 : B e305 := mk (app gd72 nl) ok305
theorem gd306 : B e306 := mk (app gd240 nl) ok306
theorem gd307 : B e307 := mk (app gd61 (app gd62 (app gd63 (app gd64 (app gd65 (app gd66 (app gd67 (app gd240 nl)))))))) ok307
theorem gd310 : B e310 := mk (app gd92 nl) ok310
theorem gd311 : B e311 := mk (app gd76 (app gd240 nl)) ok311
theorem gd312 : B e312 := mk (app gd80 (app gd81 (app gd82 (app gd83 (app gd84 (app gd85 (app gd86 (app gd240 nl)))))))) ok312
theorem gd314 : B e314 := mk (app gd92 nl) ok314
theorem gd316 : B e316 := mk (app gd98 (app gd240 nl)) ok316
theorem gd319 : B e319 := mk (app gd98 (app gd240 nl)) ok319
theorem gd322 : B e322 := mk (app gd98 (app gd240 nl)) ok322
theorem gd323 : B e323 := mk (app gd101 (app gd240 (app gd267 (app gd314 nl)))) ok323
theorem gd325 : B e325 := mk (app gd76 (app gd240 nl)) ok325
theorem gd327 : B e327 := mk (app gd76 (app gd240 nl)) ok327
theorem gd329 : B e329 := mk (app gd92 nl) ok329
theorem gd330 : B e330 := mk (app gd240 nl) ok330
theorem gd332 : B e332 := mk (app gd240 nl) ok332
theorem gd333 : B e333 := mk (app gd29 (app gd240 nl)) ok333
theorem gd334 : B e334 := mk (app gd35 (app gd240 (app gd242 nl))) ok334
theorem gd335 : B e335 := mk (app gd240 (app gd334 nl)) ok335
theorem gd336 : B e336 := mk (app gd32 (app gd33 (app gd40 (app gd41 (app gd42 (app gd43 (app gd44 (app gd245 (app gd335 nl))))))))) ok336
theorem gd337 : B e337 := mk (app gd32 (app gd33 (app gd240 (app gd336 nl)))) ok337
theorem gd338 : B e338 := mk (app gd240 nl) ok338
theorem gd340 : B e340 := mk (app gd72 nl) ok340
theorem gd341 : B e341 := mk (app gd240 nl) ok341
theorem gd342 : B e342 := mk (app gd61 (app gd62 (app gd63 (app gd64 (app gd65 (app gd66 (app gd67 (app gd240 nl)))))))) ok342
theorem gd345 : B e345 := mk (app gd92 nl) ok345
theorem gd346 : B e346 := mk (app gd76 (app gd240 nl)) ok346
theorem gd347 : B e347 := mk (app gd80 (app gd81 (app gd82 (app gd83 (app gd84 (app gd85 (app gd86 (app gd240 nl)))))))) ok347
theorem gd349 : B e349 := mk (app gd92 nl) ok349
theorem gd351 : B e351 := mk (app gd98 (app gd240 nl)) ok351
theorem gd354 : B e354 := mk (app gd98 (app gd240 nl)) ok354
theorem gd357 : B e357 := mk (app gd98 (app gd240 nl)) ok357
theorem gd358 : B e358 := mk (app gd101 (app gd240 (app gd267 (app gd349 nl)))) ok358
theorem gd360 : B e360 := mk (app gd76 (app gd240 nl)) ok360
theorem gd362 : B e362 := mk (app gd76 (app gd240 nl)) ok362
theorem gd364 : B e364 := mk (app gd92 nl) ok364
theorem gd365 : B e365 := mk (app gd240 nl) ok365
theorem gd367 : B e367 := mk (app gd240 nl) ok367
theorem gd368 : B e368 := mk (app gd29 (app gd240 nl)) ok368
theorem gd369 : B e369 := mk (app gd35 (app gd240 (app gd242 nl))) ok369
theorem gd370 : B e370 := mk (app gd240 (app gd369 nl)) ok370
theorem gd371 : B e371 := mk (app gd32 (app gd33 (app gd40 (app gd41 (app gd42 (app gd43 (app gd44 (app gd245 (app gd370 nl))))))))) ok371
theorem gd372 : B e372 := mk (app gd32 (app gd33 (app gd240 (app gd371 nl)))) ok372
theorem gd373 : B e373 := mk (app gd240 nl) ok373
theorem gd375 : B e375 := mk (app gd72 nl) ok375
theorem gd376 : B e376 := mk (app gd240 nl) ok376
theorem gd377 : B e377 := mk (app gd61 (app gd62 (app gd63 (app gd64 (app gd65 (app gd66 (app gd67 (app gd240 nl)))))))) ok377
theorem gd380 : B e380 := mk (app gd92 nl) ok380
theorem gd381 : B e381 := mk (app gd76 (app gd240 nl)) ok381
theorem gd382 : B e382 := mk (app gd80 (app gd81 (app gd82 (app gd83 (app gd84 (app gd85 (app gd86 (app gd240 nl)))))))) ok382
theorem gd384 : B e384 := mk (app gd92 nl) ok384
theorem gd386 : B e386 := mk (app gd98 (app gd240 nl)) ok386
theorem gd389 : B e389 := mk (app gd98 (app gd240 nl)) ok389
theorem gd392 : B e392 := mk (app gd98 (app gd240 nl)) ok392
theorem gd393 : B e393 := mk (app gd101 (app gd240 (app gd267 (app gd384 nl)))) ok393
theorem gd395 : B e395 := mk (app gd76 (app gd240 nl)) ok395
theorem gd397 : B e397 := mk (app gd76 (app gd240 nl)) ok397
theorem gd399 : B e399 := mk (app gd92 nl) ok399
theorem gd400 : B e400 := mk (app gd240 nl) ok400
theorem gd402 : B e402 := mk (app gd240 nl) ok402
theorem gd403 : B e403 := mk nl ok403
theorem gd404 : B e404 := mk (app gd29 (app gd403 nl)) ok404
theorem gd405 : B e405 := mk (app gd403 nl) ok405
theorem gd406 : B e406 := mk (app gd35 (app gd403 (app gd405 nl))) ok406
theorem gd407 : B e407 := mk (app gd403 (app gd406 nl)) ok407
theorem gd408 : B e408 := mk (app gd403 nl) ok408
theorem gd409 : B e409 := mk (app gd32 (app gd33 (app gd40 (app gd41 (app gd42 (app gd43 (app gd44 (app gd407 (app gd408 nl))))))))) ok409
theorem gd410 : B e410 := mk (app gd32 (app gd33 (app gd403 (app gd409 nl)))) ok410
theorem gd411 : B e411 := mk (app gd403 nl) ok411
theorem gd412 : B e412 := mk (app gd50 (app gd51 (app gd52 (app gd53 (app gd54 (app gd55 (app gd56 nl))))))) ok412
theorem gd416 : B e416 := mk (app gd403 nl) ok416
theorem gd417 : B e417 := mk (app gd72 nl) ok417
theorem gd418 : B e418 := mk (app gd403 nl) ok418
theorem gd419 : B e419 := mk (app gd61 (app gd62 (app gd63 (app gd64 (app gd65 (app gd66 (app gd67 (app gd403 nl)))))))) ok419
theorem gd422 : B e422 := mk (app gd80 (app gd81 (app gd403 nl))) ok422
theorem gd423 : B e423 := mk (app gd89 (app gd403 nl)) ok423
theorem gd424 : B e424 := mk (app gd92 nl) ok424
theorem gd425 : B e425 := mk (app gd94 (app gd403 nl)) ok425
theorem gd426 : B e426 := mk (app gd76 (app gd403 nl)) ok426
theorem gd427 : B e427 := mk (app gd80 (app gd81 (app gd82 (app gd83 (app gd84 (app gd85 (app gd86 (app gd403 nl)))))))) ok427
theorem gd429 : B e429 := mk (app gd50 (app gd51 (app gd52 (app gd53 (app gd54 (app gd55 (app gd56 nl))))))) ok429
theorem gd430 : B e430 := mk (app gd102 (app gd403 nl)) ok430
theorem gd431 : B e431 := mk (app gd92 nl) ok431
theorem gd433 : B e433 := mk (app gd110 (app gd403 nl)) ok433
theorem gd434 : B e434 := mk (app gd98 (app gd403 nl)) ok434
theorem gd436 : B e436 := mk (app gd61 (app gd62 (app gd63 (app gd64 (app gd65 (app gd66 (app gd67 nl))))))) ok436
theorem gd438 : B e438 := mk (app gd98 (app gd403 nl)) ok438
theorem gd440 : B e440 := mk (app gd80 (app gd81 (app gd82 (app gd83 (app gd84 (app gd85 (app gd86 nl))))))) ok440
theorem gd442 : B e442 := mk (app gd98 (app gd403 nl)) ok442
theorem gd443 : B e443 := mk (app gd101 (app gd403 (app gd430 (app gd431 nl)))) ok443
theorem gd444 : B e444 := mk (app gd118 (app gd403 nl)) ok444
theorem gd445 : B e445 := mk (app gd120 (app gd403 nl)) ok445
theorem gd447 : B e447 := mk (app gd50 (app gd51 (app gd52 (app gd53 (app gd54 (app gd55 (app gd56 nl))))))) ok447
theorem gd448 : B e448 := mk (app gd76 (app gd403 nl)) ok448
theorem gd450 : B e450 := mk (app gd61 (app gd62 (app gd63 (app gd64 (app gd65 (app gd66 (app gd67 nl))))))) ok450
theorem gd451 : B e451 := mk (app gd76 (app gd403 nl)) ok451
theorem gd452 : B e452 := mk (app gd61 (app gd62 (app gd403 nl))) ok452
theorem gd454 : B e454 := mk (app gd80 (app gd81 (app gd403 nl))) ok454
theorem gd455 : B e455 := mk (app gd403 nl) ok455
theorem gd456 : B e456 := mk (app gd92 nl) ok456
theorem gd457 : B e457 := mk (app gd403 nl) ok457
theorem gd459 : B e459 := mk (app gd50 (app gd51 (app gd52 (app gd53 (app gd54 (app gd55 (app gd56 nl))))))) ok459
theorem gd460 : B e460 := mk (app gd403 nl) ok460
theorem gd461 : B e461 := mk (app gd29 (app gd403 nl)) ok461
theorem gd462 : B e462 := mk (app gd35 (app gd403 (app gd405 nl))) ok462
theorem gd463 : B e463 := mk (app gd403 (app gd462 nl)) ok463
theorem gd464 : B e464 := mk (app gd32 (app gd33 (app gd40 (app gd41 (app gd42 (app gd43 (app gd44 (app gd408 (app gd463 nl))))))))) ok464
theorem gd465 : B e465 := mk (app gd32 (app gd33 (app gd403 (app gd464 nl)))) ok465
theorem gd466 : B e466 := mk (app gd403 nl) ok466
theorem gd468 : B e468 := mk (app gd72 nl) ok468
theorem gd469 : B e469 := mk (app gd403 nl) ok469
theorem gd470 : B e470 := mk (app gd61 (app gd62 (app gd63 (app gd64 (app gd65 (app gd66 (app gd67 (app gd403 nl)))))))) ok470
theorem gd473 : B e473 := mk (app gd92 nl) ok473
theorem gd474 : B e474 := mk (app gd76 (app gd403 nl)) ok474
theorem gd475 : B e475 := mk (app gd80 (app gd81 (app gd82 (app gd83 (app gd84 (app gd85 (app gd86 (app gd403 nl)))))))) ok475
theorem gd477 : B e477 := mk (app gd92 nl) ok477
theorem gd479 : B e479 := mk (app gd98 (app gd403 nl)) ok479
theorem gd482 : B e482 := mk (app gd98 (app gd403 nl)) ok482
theorem gd485 : B e485 := mk (app gd98 (app gd403 nl)) ok485
theorem gd486 : B e486 := mk (app gd101 (app gd403 (app gd430 (app gd477 nl)))) ok486
theorem gd488 : B e488 := mk (app gd76 (app gd403 nl)) ok488
theorem gd490 : B e490 := mk (app gd76 (app gd403 nl)) ok490
theorem gd492 : B e492 := mk (app gd92 nl) ok492
theorem gd493 : B e493 := mk (app gd403 nl) ok493
theorem gd495 : B e495 := mk (app gd403 nl) ok495
theorem gd496 : B e496 := mk (app gd29 (app gd403 nl)) ok496
theorem gd497 : B e497 := mk (app gd35 (app gd403 (app gd405 nl))) ok497
theorem gd498 : B e498 := mk (app gd403 (app gd497 nl)) ok498
theorem gd499 : B e499 := mk (app gd32 (app gd33 (app gd40 (app gd41 (app gd42 (app gd43 (app gd44 (app gd408 (app gd498 nl))))))))) ok499
theorem gd500 : B e500 := mk (app gd32 (app gd33 (app gd403 (app gd499 nl)))) ok500
theorem gd501 : B e501 := mk (app gd403 nl) ok501
theorem gd503 : B e503 := mk (app gd72 nl) ok503
theorem gd504 : B e504 := mk (app gd403 nl) ok504
theorem gd505 : B e505 := mk (app gd61 (app gd62 (app gd63 (app gd64 (app gd65 (app gd66 (app gd67 (app gd403 nl)))))))) ok505
theorem gd508 : B e508 := mk (app gd92 nl) ok508
theorem gd509 : B e509 := mk (app gd76 (app gd403 nl)) ok509
theorem gd510 : B e510 := mk (app gd80 (app gd81 (app gd82 (app gd83 (app gd84 (app gd85 (app gd86 (app gd403 nl)))))))) ok510
theorem gd512 : B e512 := mk (app gd92 nl) ok512
theorem gd514 : B e514 := mk (app gd98 (app gd403 nl)) ok514
theorem gd517 : B e517 := mk (app gd98 (app gd403 nl)) ok517
theorem gd520 : B e520 := mk (app gd98 (app gd403 nl)) ok520
theorem gd521 : B e521 := mk (app gd101 (app gd403 (app gd430 (app gd512 nl)))) ok521
theorem gd523 : B e523 := mk (app gd76 (app gd403 nl)) ok523
theorem gd525 : B e525 := mk (app gd76 (app gd403 nl)) ok525
theorem gd527 : B e527 := mk (app gd92 nl) ok527
theorem gd528 : B e528 := mk (app gd403 nl) ok528
theorem gd530 : B e530 := mk (app gd403 nl) ok530
theorem gd531 : B e531 := mk (app gd29 (app gd403 nl)) ok531
theorem gd532 : B e532 := mk (app gd35 (app gd403 (app gd405 nl))) ok532
theorem gd533 : B e533 := mk (app gd403 (app gd532 nl)) ok533
theorem gd534 : B e534 := mk (app gd32 (app gd33 (app gd40 (app gd41 (app gd42 (app gd43 (app gd44 (app gd408 (app gd533 nl))))))))) ok534
theorem gd535 : B e535 := mk (app gd32 (app gd33 (app gd403 (app gd534 nl)))) ok535
theorem gd536 : B e536 := mk (app gd403 nl) ok536
theorem gd538 : B e538 := mk (app gd72 nl) ok538
theorem gd539 : B e539 := mk (app gd403 nl) ok539
theorem gd540 : B e540 := mk (app gd61 (app gd62 (app gd63 (app gd64 (app gd65 (app gd66 (app gd67 (app gd403 nl)))))))) ok540
theorem gd543 : B e543 := mk (app gd92 nl) ok543
theorem gd544 : B e544 := mk (app gd76 (app gd403 nl)) ok544
theorem gd545 : B e545 := mk (app gd80 (app gd81 (app gd82 (app gd83 (app gd84 (app gd85 (app gd86 (app gd403 nl)))))))) ok545
theorem gd547 : B e547 := mk (app gd92 nl) ok547
theorem gd549 : B e549 := mk (app gd98 (app gd403 nl)) ok549
theorem gd552 : B e552 := mk (app gd98 (app gd403 nl)) ok552
theorem gd555 : B e555 := mk (app gd98 (app gd403 nl)) ok555
theorem gd556 : B e556 := mk (app gd101 (app gd403 (app gd430 (app gd547 nl)))) ok556
theorem gd558 : B e558 := mk (app gd76 (app gd403 nl)) ok558
theorem gd560 : B e560 := mk (app gd76 (app gd403 nl)) ok560
theorem gd562 : B e562 := mk (app gd92 nl) ok562
theorem gd563 : B e563 := mk (app gd403 nl) ok563
theorem gd565 : B e565 := mk (app gd403 nl) ok565
theorem w0 : ∀ t ∈ T0, Well Inv Tryz.prog 3 2 t := wells (app gd28 (app gd48 (app gd49 (app gd50 (app gd51 (app gd59 (app gd60 (app gd61 (app gd62 (app gd74 (app gd75 (app gd78 (app gd79 (app gd80 (app gd81 (app gd88 (app gd90 (app gd93 (app gd95 (app gd96 (app gd97 (app gd100 (app gd104 (app gd106 (app gd108 (app gd111 (app gd112 (app gd114 (app gd116 (app gd117 (app gd119 (app gd121 (app gd123 (app gd124 (app gd126 (app gd127 (app gd128 (app gd130 (app gd131 (app gd132 (app gd133 (app gd135 (app gd136 nl))))))))))))))))))))))))))))))))))))))))))) (allC ⟨_, l0_0_0⟩ (allC ⟨_, l0_0_1⟩ (allC ⟨_, l0_0_2⟩ (allC ⟨_, l0_0_3⟩ (allC ⟨_, l0_0_4⟩ (allC ⟨_, l0_0_5⟩ (allC ⟨_, l0_0_6⟩ (allC ⟨_, l0_0_7⟩ (all1 ⟨_, l0_0_8⟩)))))))))
theorem cls0 [Val] : Fine a0 := fin (app gd28 (app gd29 (app gd30 (app gd31 (app gd46 (app gd47 (app gd48 (app gd49 (app gd50 (app gd51 (app gd57 (app gd70 (app gd73 (app gd2000000 nl)))))))))))))) w0 s0
theorem w1 : ∀ t ∈ T1, Well Inv Tryz.prog 3 2 t := wells (app gd28 (app gd48 (app gd49 (app gd50 (app gd51 (app gd59 (app gd60 (app gd61 (app gd62 (app gd78 (app gd79 (app gd80 (app gd81 (app gd88 (app gd90 (app gd95 (app gd100 (app gd108 (app gd111 (app gd114 (app gd119 (app gd121 (app gd123 (app gd126 (app gd128 (app gd130 (app gd131 (app gd135 (app gd144 (app gd145 (app gd148 (app gd149 (app gd150 (app gd152 (app gd154 (app gd157 (app gd160 (app gd161 (app gd163 (app gd165 (app gd167 (app gd168 (app gd170 nl))))))))))))))))))))))))))))))))))))))))))) (allC ⟨_, l1_0_0⟩ (allC ⟨_, l1_0_1⟩ (allC ⟨_, l1_0_2⟩ (allC ⟨_, l1_0_3⟩ (allC ⟨_, l1_0_4⟩ (allC ⟨_, l1_0_5⟩ (allC ⟨_, l1_0_6⟩ (allC ⟨_, l1_0_7⟩ (all1 ⟨_, l1_0_8⟩)))))))))
theorem cls1 [Val] : Fine a1 := fin (app gd28 (app gd29 (app gd30 (app gd31 (app gd48 (app gd49 (app gd50 (app gd51 (app gd57 (app gd70 (app gd140 (app gd141 (app gd143 (app gd2000000 nl)))))))))))))) w1 s1
theorem w2 : ∀ t ∈ T2, Well Inv Tryz.prog 3 2 t := wells (app gd28 (app gd48 (app gd49 (app gd50 (app gd51 (app gd59 (app gd60 (app gd61 (app gd62 (app gd78 (app gd79 (app gd80 (app gd81 (app gd88 (app gd90 (app gd95 (app gd100 (app gd108 (app gd111 (app gd114 (app gd119 (app gd121 (app gd123 (app gd126 (app gd128 (app gd130 (app gd131 (app gd135 (app gd178 (app gd179 (app gd182 (app gd183 (app gd184 (app gd186 (app gd188 (app gd191 (app gd194 (app gd195 (app gd197 (app gd199 (app gd201 (app gd203 (app gd204 nl))))))))))))))))))))))))))))))))))))))))))) (allC ⟨_, l2_0_0⟩ (allC ⟨_, l2_0_1⟩ (allC ⟨_, l2_0_2⟩ (allC ⟨_, l2_0_3⟩ (allC ⟨_, l2_0_4⟩ (allC ⟨_, l2_0_5⟩ (allC ⟨_, l2_0_6⟩ (allC ⟨_, l2_0_7⟩ (all1 ⟨_, l2_0_8⟩)))))))))
theorem cls2 [Val] : Fine a2 := fin (app gd28 (app gd29 (app gd30 (app gd31 (app gd48 (app gd49 (app gd50 (app gd51 (app gd57 (app gd70 (app gd174 (app gd175 (app gd177 (app gd2000000 nl)))))))))))))) w2 s2
theorem w3 : ∀ t ∈ T3, Well Inv Tryz.prog 3 2 t := wells (app gd28 (app gd48 (app gd49 (app gd50 (app gd51 (app gd59 (app gd60 (app gd61 (app gd62 (app gd78 (app gd79 (app gd80 (app gd81 (app gd88 (app gd90 (app gd95 (app gd100 (app gd108 (app gd111 (app gd114 (app gd119 (app gd121 (app gd123 (app gd126 (app gd128 (app gd130 (app gd131 (app gd135 (app gd213 (app gd214 (app gd217 (app gd218 (app gd219 (app gd221 (app gd223 (app gd226 (app gd229 (app gd230 (app gd232 (app gd234 (app gd236 (app gd237 (app gd239 nl))))))))))))))))))))))))))))))))))))))))))) (allC ⟨_, l3_0_0⟩ (allC ⟨_, l3_0_1⟩ (allC ⟨_, l3_0_2⟩ (allC ⟨_, l3_0_3⟩ (allC ⟨_, l3_0_4⟩ (allC ⟨_, l3_0_5⟩ (allC ⟨_, l3_0_6⟩ (allC ⟨_, l3_0_7⟩ (all1 ⟨_, l3_0_8⟩)))))))))
theorem cls3 [Val] : Fine a3 := fin (app gd28 (app gd30 (app gd31 (app gd48 (app gd49 (app gd50 (app gd51 (app gd57 (app gd70 (app gd205 (app gd209 (app gd210 (app gd212 (app gd2000000 nl)))))))))))))) w3 s3
theorem w4 : ∀ t ∈ T4, Well Inv Tryz.prog 3 2 t := wells (app gd48 (app gd49 (app gd50 (app gd51 (app gd59 (app gd60 (app gd61 (app gd62 (app gd78 (app gd79 (app gd80 (app gd81 (app gd240 (app gd255 (app gd256 (app gd259 (app gd260 (app gd261 (app gd262 (app gd263 (app gd264 (app gd266 (app gd268 (app gd270 (app gd271 (app gd273 (app gd275 (app gd277 (app gd279 (app gd280 (app gd281 (app gd282 (app gd284 (app gd285 (app gd287 (app gd288 (app gd289 (app gd291 (app gd292 (app gd293 (app gd294 (app gd296 (app gd297 nl))))))))))))))))))))))))))))))))))))))))))) (allC ⟨_, l4_0_0⟩ (allC ⟨_, l4_0_1⟩ (allC ⟨_, l4_0_2⟩ (allC ⟨_, l4_0_3⟩ (allC ⟨_, l4_0_4⟩ (allC ⟨_, l4_0_5⟩ (allC ⟨_, l4_0_6⟩ (allC ⟨_, l4_0_7⟩ (all1 ⟨_, l4_0_8⟩)))))))))
theorem cls4 [Val] : Fine a4 := fin (app gd30 (app gd31 (app gd48 (app gd49 (app gd50 (app gd51 (app gd240 (app gd241 (app gd247 (app gd248 (app gd249 (app gd253 (app gd254 (app gd2000000 nl)))))))))))))) w4 s4
theorem w5 : ∀ t ∈ T5, Well Inv Tryz.prog 3 2 t := wells (app gd48 (app gd49 (app gd50 (app gd51 (app gd59 (app gd60 (app gd61 (app gd62 (app gd78 (app gd79 (app gd80 (app gd81 (app gd240 (app gd259 (app gd260 (app gd262 (app gd266 (app gd270 (app gd273 (app gd277 (app gd281 (app gd282 (app gd284 (app gd287 (app gd289 (app gd291 (app gd292 (app gd296 (app gd306 (app gd307 (app gd310 (app gd311 (app gd312 (app gd314 (app gd316 (app gd319 (app gd322 (app gd323 (app gd325 (app gd327 (app gd329 (app gd330 (app gd332 nl))))))))))))))))))))))))))))))))))))))))))) (allC ⟨_, l5_0_0⟩ (allC ⟨_, l5_0_1⟩ (allC ⟨_, l5_0_2⟩ (allC ⟨_, l5_0_3⟩ (allC ⟨_, l5_0_4⟩ (allC ⟨_, l5_0_5⟩ (allC ⟨_, l5_0_6⟩ (allC ⟨_, l5_0_7⟩ (all1 ⟨_, l5_0_8⟩)))))))))
theorem cls5 [Val] : Fine a5 := fin (app gd30 (app gd31 (app gd48 (app gd49 (app gd50 (app gd51 (app gd240 (app gd249 (app gd253 (app gd298 (app gd302 (app gd303 (app gd305 (app gd2000000 nl)))))))))))))) w5 s5
theorem w6 : ∀ t ∈ T6, Well Inv Tryz.prog 3 2 t := wells (app gd48 (app gd49 (app gd50 (app gd51 (app gd59 (app gd60 (app gd61 (app gd62 (app gd78 (app gd79 (app gd80 (app gd81 (app gd240 (app gd259 (app gd260 (app gd262 (app gd266 (app gd270 (app gd273 (app gd277 (app gd281 (app gd282 (app gd284 (app gd287 (app gd289 (app gd291 (app gd292 (app gd296 (app gd341 (app gd342 (app gd345 (app gd346 (app gd347 (app gd349 (app gd351 (app gd354 (app gd357 (app gd358 (app gd360 (app gd362 (app gd364 (app gd365 (app gd367 nl))))))))))))))))))))))))))))))))))))))))))) (allC ⟨_, l6_0_0⟩ (allC ⟨_, l6_0_1⟩ (allC ⟨_, l6_0_2⟩ (allC ⟨_, l6_0_3⟩ (allC ⟨_, l6_0_4⟩ (allC ⟨_, l6_0_5⟩ (allC ⟨_, l6_0_6⟩ (allC ⟨_, l6_0_7⟩ (all1 ⟨_, l6_0_8⟩)))))))))
theorem cls6 [Val] : Fine a6 := fin (app gd30 (app gd31 (app gd48 (app gd49 (app gd50 (app gd51 (app gd240 (app gd249 (app gd253 (app gd333 (app gd337 (app gd338 (app gd340 (app gd2000000 nl)))))))))))))) w6 s6
theorem w7 : ∀ t ∈ T7, Well Inv Tryz.prog 3 2 t := wells (app gd48 (app gd49 (app gd50 (app gd51 (app gd59 (app gd60 (app gd61 (app gd62 (app gd78 (app gd79 (app gd80 (app gd81 (app gd240 (app gd259 (app gd260 (app gd262 (app gd266 (app gd270 (app gd273 (app gd277 (app gd281 (app gd282 (app gd284 (app gd287 (app gd289 (app gd291 (app gd292 (app gd296 (app gd376 (app gd377 (app gd380 (app gd381 (app gd382 (app gd384 (app gd386 (app gd389 (app gd392 (app gd393 (app gd395 (app gd397 (app gd399 (app gd400 (app gd402 nl))))))))))))))))))))))))))))))))))))))))))) (allC ⟨_, l7_0_0⟩ (allC ⟨_, l7_0_1⟩ (allC ⟨_, l7_0_2⟩ (allC ⟨_, l7_0_3⟩ (allC ⟨_, l7_0_4⟩ (allC ⟨_, l7_0_5⟩ (allC ⟨_, l7_0_6⟩ (allC ⟨_, l7_0_7⟩ (all1 ⟨_, l7_0_8⟩)))))))))
theorem cls7 [Val] : Fine a7 := fin (app gd30 (app gd31 (app gd48 (app gd49 (app gd50 (app gd51 (app gd240 (app gd249 (app gd253 (app gd368 (app gd372 (app gd373 (app gd375 (app gd2000000 nl)))))))))))))) w7 s7
theorem w8 : ∀ t ∈ T8, Well Inv Tryz.prog 3 2 t := wells (app gd48 (app gd49 (app gd50 (app gd51 (app gd59 (app gd60 (app gd61 (app gd62 (app gd78 (app gd79 (app gd80 (app gd81 (app gd403 (app gd418 (app gd419 (app gd422 (app gd423 (app gd424 (app gd425 (app gd426 (app gd427 (app gd429 (app gd431 (app gd433 (app gd434 (app gd436 (app gd438 (app gd440 (app gd442 (app gd443 (app gd444 (app gd445 (app gd447 (app gd448 (app gd450 (app gd451 (app gd452 (app gd454 (app gd455 (app gd456 (app gd457 (app gd459 (app gd460 nl))))))))))))))))))))))))))))))))))))))))))) (allC ⟨_, l8_0_0⟩ (allC ⟨_, l8_0_1⟩ (allC ⟨_, l8_0_2⟩ (allC ⟨_, l8_0_3⟩ (allC ⟨_, l8_0_4⟩ (allC ⟨_, l8_0_5⟩ (allC ⟨_, l8_0_6⟩ (allC ⟨_, l8_0_7⟩ (all1 ⟨_, l8_0_8⟩)))))))))
theorem cls8 [Val] : Fine a8 := fin (app gd30 (app gd31 (app gd48 (app gd49 (app gd50 (app gd51 (app gd403 (app gd404 (app gd410 (app gd411 (app gd412 (app gd416 (app gd417 (app gd2000000 nl)))))))))))))) w8 s8
theorem w9 : ∀ t ∈ T9, Well Inv Tryz.prog 3 2 t := wells (app gd48 (app gd49 (app gd50 (app gd51 (app gd59 (app gd60 (app gd61 (app gd62 (app gd78 (app gd79 (app gd80 (app gd81 (app gd403 (app gd422 (app gd423 (app gd425 (app gd429 (app gd433 (app gd436 (app gd440 (app gd444 (app gd445 (app gd447 (app gd450 (app gd452 (app gd454 (app gd455 (app gd459 (app gd469 (app gd470 (app gd473 (app gd474 (app gd475 (app gd477 (app gd479 (app gd482 (app gd485 (app gd486 (app gd488 (app gd490 (app gd492 (app gd493 (app gd495 nl))))))))))))))))))))))))))))))))))))))))))) (allC ⟨_, l9_0_0⟩ (allC ⟨_, l9_0_1⟩ (allC ⟨_, l9_0_2⟩ (allC ⟨_, l9_0_3⟩ (allC ⟨_, l9_0_4⟩ (allC ⟨_, l9_0_5⟩ (allC ⟨_, l9_0_6⟩ (allC ⟨_, l9_0_7⟩ (all1 ⟨_, l9_0_8⟩)))))))))
theorem cls9 [Val] : Fine a9 := fin (app gd30 (app gd31 (app gd48 (app gd49 (app gd50 (app gd51 (app gd403 (app gd412 (app gd416 (app gd461 (app gd465 (app gd466 (app gd468 (app gd2000000 nl)))))))))))))) w9 s9
theorem w10 : ∀ t ∈ T10, Well Inv Tryz.prog 3 2 t := wells (app gd48 (app gd49 (app gd50 (app gd51 (app gd59 (app gd60 (app gd61 (app gd62 (app gd78 (app gd79 (app gd80 (app gd81 (app gd403 (app gd422 (app gd423 (app gd425 (app gd429 (app gd433 (app gd436 (app gd440 (app gd444 (app gd445 (app gd447 (app gd450 (app gd452 (app gd454 (app gd455 (app gd459 (app gd504 (app gd505 (app gd508 (app gd509 (app gd510 (app gd512 (app gd514 (app gd517 (app gd520 (app gd521 (app gd523 (app gd525 (app gd527 (app gd528 (app gd530 nl))))))))))))))))))))))))))))))))))))))))))) (allC ⟨_, l10_0_0⟩ (allC ⟨_, l10_0_1⟩ (allC ⟨_, l10_0_2⟩ (allC ⟨_, l10_0_3⟩ (allC ⟨_, l10_0_4⟩ (allC ⟨_, l10_0_5⟩ (allC ⟨_, l10_0_6⟩ (allC ⟨_, l10_0_7⟩ (all1 ⟨_, l10_0_8⟩)))))))))
theorem cls10 [Val] : Fine a10 := fin (app gd30 (app gd31 (app gd48 (app gd49 (app gd50 (app gd51 (app gd403 (app gd412 (app gd416 (app gd496 (app gd500 (app gd501 (app gd503 (app gd2000000 nl)))))))))))))) w10 s10
theorem w11 : ∀ t ∈ T11, Well Inv Tryz.prog 3 2 t := wells (app gd48 (app gd49 (app gd50 (app gd51 (app gd59 (app gd60 (app gd61 (app gd62 (app gd78 (app gd79 (app gd80 (app gd81 (app gd403 (app gd422 (app gd423 (app gd425 (app gd429 (app gd433 (app gd436 (app gd440 (app gd444 (app gd445 (app gd447 (app gd450 (app gd452 (app gd454 (app gd455 (app gd459 (app gd539 (app gd540 (app gd543 (app gd544 (app gd545 (app gd547 (app gd549 (app gd552 (app gd555 (app gd556 (app gd558 (app gd560 (app gd562 (app gd563 (app gd565 nl))))))))))))))))))))))))))))))))))))))))))) (allC ⟨_, l11_0_0⟩ (allC ⟨_, l11_0_1⟩ (allC ⟨_, l11_0_2⟩ (allC ⟨_, l11_0_3⟩ (allC ⟨_, l11_0_4⟩ (allC ⟨_, l11_0_5⟩ (allC ⟨_, l11_0_6⟩ (allC ⟨_, l11_0_7⟩ (all1 ⟨_, l11_0_8⟩)))))))))
theorem cls11 [Val] : Fine a11 := fin (app gd30 (app gd31 (app gd48 (app gd49 (app gd50 (app gd51 (app gd403 (app gd412 (app gd416 (app gd531 (app gd535 (app gd536 (app gd538 (app gd2000000 nl)))))))))))))) w11 s11
theorem cls12 [Val] : Fine a12 := fin (app gd2000000 nl) none_well s12
abbrev vals (o c b2 b3 b4 b5 b6 b7 b8 b9 b10 b11 : Int) (n : Nat) (Z : Nat → Int) : Val := ⟨fun i => if 1000 ≤ i then Z (i - 1000) else match i with
  | 2 => b2
  | 3 => b3
  | 4 => b4
  | 5 => b5
  | 6 => b6
  | 7 => b7
  | 8 => b8
  | 9 => b9
  | 10 => b10
  | 11 => b11
  | 20 => o / 3
  | 21 => c / 4
  | 30 => n
  | _ => 0⟩

theorem shape_vr [Val] {φ : Phi} {tv : AV} {t : Bool} (ht : VR φ tv (.bool t)) {o c b2 b3 b4 b5 b6 b7 b8 b9 b10 b11 : Int} (lo : 0 ≤ o) (ho : o ≤ 255) (lc : 0 ≤ c) (hc : c ≤ 255) (lb2 : 0 ≤ b2) (hb2 : b2 ≤ 255) (lb3 : 0 ≤ b3) (hb3 : b3 ≤ 255) (lb4 : 0 ≤ b4) (hb4 : b4 ≤ 255) (lb5 : 0 ≤ b5) (hb5 : b5 ≤ 255) (lb6 : 0 ≤ b6) (hb6 : b6 ≤ 255) (lb7 : 0 ≤ b7) (hb7 : b7 ≤ 255) (lb8 : 0 ≤ b8) (hb8 : b8 ≤ 255) (lb9 : 0 ≤ b9) (hb9 : b9 ≤ 255) (lb10 : 0 ≤ b10) (hb10 : b10 ≤ 255) (lb11 : 0 ≤ b11) (hb11 : b11 ≤ 255) (r0 q0 h0 r1 h1 : Int)
    (e20 : Val.σ 20 = o / 3) (e21 : Val.σ 21 = c / 4) (e2 : Val.σ 2 = b2) (e3 : Val.σ 3 = b3) (e4 : Val.σ 4 = b4) (e5 : Val.σ 5 = b5) (e6 : Val.σ 6 = b6) (e7 : Val.σ 7 = b7) (e8 : Val.σ 8 = b8) (e9 : Val.σ 9 = b9) (e10 : Val.σ 10 = b10) (e11 : Val.σ 11 = b11) (m0 : o % 3 = r0) (m1 : c % 4 = r1) (g0 : o / 3 ≤ q0) (g1 : r0 ≤ o ∧ o ≤ h0) (g2 : r1 ≤ c ∧ c ≤ h1) :
    VR φ (.agg 13 4 .junk (setFrom 4 .e 0 [.sym .u8 r0 h0 (.add (.mul (.const 3) (.var 20 0 q0)) (.const r0)), .sym .u8 r1 h1 (.add (.mul (.const 4) (.var 21 0 63)) (.const r1)),
      .sym .u8 0 255 (.var 2 0 255), .sym .u8 0 255 (.var 3 0 255), .sym .u8 0 255 (.var 4 0 255), .sym .u8 0 255 (.var 5 0 255), .sym .u8 0 255 (.var 6 0 255), .sym .u8 0 255 (.var 7 0 255), .sym .u8 0 255 (.var 8 0 255), .sym .u8 0 255 (.var 9 0 255), .sym .u8 0 255 (.var 10 0 255), .sym .u8 0 255 (.var 11 0 255), tv])) (.agg #[.int .u8 o, .int .u8 c, .int .u8 b2, .int .u8 b3, .int .u8 b4, .int .u8 b5, .int .u8 b6, .int .u8 b7, .int .u8 b8, .int .u8 b9, .int .u8 b10, .int .u8 b11, .bool t]) := by
  refine VRs.agg (m := [.int .u8 o, .int .u8 c, .int .u8 b2, .int .u8 b3, .int .u8 b4, .int .u8 b5, .int .u8 b6, .int .u8 b7, .int .u8 b8, .int .u8 b9, .int .u8 b10, .int .u8 b11, .bool t]) (.cons (.sym ?_ g1.1 g1.2) (.cons (.sym ?_ g2.1 g2.2) (.cons (vr_var 2 e2 lb2 hb2) (.cons (vr_var 3 e3 lb3 hb3) (.cons (vr_var 4 e4 lb4 hb4) (.cons (vr_var 5 e5 lb5 hb5) (.cons (vr_var 6 e6 lb6 hb6) (.cons (vr_var 7 e7 lb7 hb7) (.cons (vr_var 8 e8 lb8 hb8) (.cons (vr_var 9 e9 lb9 hb9) (.cons (vr_var 10 e10 lb10 hb10) (.cons (vr_var 11 e11 lb11 hb11) (.cons ht .nil))))))))))))) rfl rfl (by decide)
  · show 3 * clampI 0 q0 (Val.σ 20) + r0 = o
    rw [e20, clampI_id (by omega) g0]; omega
  · show 4 * clampI 0 63 (Val.σ 21) + r1 = c
    rw [e21, clampI_id (by omega) (by omega)]; omega

theorem lr2 [Val] {φ : Phi} {a b : AV} {x y : Value} (h : VR φ a x) (h' : VR φ b y) : LR φ [a, b] #[x, y] := VRs.lr (m := [x, y]) (.cons h (.cons h' .nil))
theorem uses_eq {w : World} {ao : Option Addr} {n : Nat} {Z : Nat → Int} [Val] (hz : ∀ j, Val.σ (VB + j) = Z j) (hs : Holds w ao n fun j v => v = .int .u8 (Z j) ∧ 0 ≤ Z j ∧ Z j ≤ 255) : Holds w ao n fun j v => v = rawV Val.σ VB false j := by
  rcases hs with h | ⟨b, o, e, h⟩
  · exact .inl h
  · refine .inr ⟨b, o, e, fun j hj => ?_⟩
    obtain ⟨v, h1, h2, h3, h4⟩ := h j hj
    refine ⟨v, h1, ?_⟩
    rw [h2]
    show Value.int .u8 (Z j) = Value.int .u8 (clampI 0 255 (Val.σ (VB + j)))
    rw [hz, clampI_id h3 h4]
theorem law (o c b2 b3 b4 b5 b6 b7 b8 b9 b10 b11 : Int) (t : Bool) (ao : Option Addr) (n cap : Nat) (Z : Nat → Int) (lo : 0 ≤ o) (ho : o ≤ 255) (lc : 0 ≤ c) (hc : c ≤ 255) (lb2 : 0 ≤ b2) (hb2 : b2 ≤ 255) (lb3 : 0 ≤ b3) (hb3 : b3 ≤ 255) (lb4 : 0 ≤ b4) (hb4 : b4 ≤ 255) (lb5 : 0 ≤ b5) (hb5 : b5 ≤ 255) (lb6 : 0 ≤ b6) (hb6 : b6 ≤ 255) (lb7 : 0 ≤ b7) (hb7 : b7 ≤ 255) (lb8 : 0 ≤ b8) (hb8 : b8 ≤ 255) (lb9 : 0 ≤ b9) (hb9 : b9 ≤ 255) (lb10 : 0 ≤ b10) (hb10 : b10 ≤ 255) (lb11 : 0 ≤ b11) (hb11 : b11 ≤ 255) (hnc : n ≤ cap) (hcm : cap ≤ 9223372036854775807) (w : World) (hG : Tryz.prog.globals.size ≤ w.heap.size) (hro : Ro0 Tryz.prog.globals.size w)
    (hs : Holds w ao n fun j v => v = .int .u8 (Z j) ∧ 0 ≤ Z j ∧ Z j ≤ 255) :
    Calls Tryz.prog 3 #[.agg #[.int .u8 o, .int .u8 c, .int .u8 b2, .int .u8 b3, .int .u8 b4, .int .u8 b5, .int .u8 b6, .int .u8 b7, .int .u8 b8, .int .u8 b9, .int .u8 b10, .int .u8 b11, .bool t], .slice ao n cap] w fun e w' => e = .returned (.bool true) ∧ Below w.heap.size w w' := by
  letI V : Val := vals o c b2 b3 b4 b5 b6 b7 b8 b9 b10 b11 n Z
  have hz : ∀ j, V.σ (VB + j) = Z j := fun j => by
    show (if 1000 ≤ 1000 + j then Z (1000 + j - 1000) else _) = Z j
    rw [if_pos (by omega), Nat.add_sub_cancel_left]
  have hs' := uses_eq hz hs
  rw [g0] at hG hro
  have start : ∀ l₁ h₁ : Int, l₁ ≤ n → (n : Int) ≤ h₁ → ∃ φ, HR Tryz.prog.globals.size φ (hIn 6 false []) w ∧ Bel w φ (hIn 6 false []) w ∧ VR φ (.vsl 6 (.const 0) (.var 30 l₁ h₁)) (.slice ao n cap) := by
    intro l₁ h₁ g1 g2
    have h := hr_in (G := 6) (w := w) (by decide) hG hro (tb := []) (by simp) (isB := false) (ao := ao) (n := n) (c := cap) hnc (len := .var 30 l₁ h₁) (clampI_id g1 g2) hs'
    rwa [← g0] at h
  have hV : Inv V := trivial
  rcases Nat.lt_or_ge n 61 with hn | hn
  · obtain ⟨φ, hr, hb, hv⟩ := start 0 60 (by omega) (by omega)
    have sv := fun (r0 q0 h0 r1 h1 : Int) => @shape_vr V φ .anyb t (@VR.anyb V _ _) o c b2 b3 b4 b5 b6 b7 b8 b9 b10 b11 lo ho lc hc lb2 hb2 lb3 hb3 lb4 hb4 lb5 hb5 lb6 hb6 lb7 hb7 lb8 hb8 lb9 hb9 lb10 hb10 lb11 hb11 r0 q0 h0 r1 h1 rfl rfl rfl rfl rfl rfl rfl rfl rfl rfl rfl rfl
    have m0 : o % 3 = 0 ∨ o % 3 = 1 ∨ o % 3 = 2 := by omega
    have m1 : c % 4 = 0 ∨ c % 4 = 1 ∨ c % 4 = 2 ∨ c % 4 = 3 := by omega
    rcases m0 with m0 | m0 | m0
    · rcases m1 with m1 | m1 | m1 | m1
      · exact cls0 hV w φ _ hr hb (lr2 (sv 0 85 255 0 252 m0 m1 (by omega) (by omega) (by omega)) hv)
      · exact cls1 hV w φ _ hr hb (lr2 (sv 0 85 255 1 253 m0 m1 (by omega) (by omega) (by omega)) hv)
      · exact cls2 hV w φ _ hr hb (lr2 (sv 0 85 255 2 254 m0 m1 (by omega) (by omega) (by omega)) hv)
      · exact cls3 hV w φ _ hr hb (lr2 (sv 0 85 255 3 255 m0 m1 (by omega) (by omega) (by omega)) hv)
    · rcases m1 with m1 | m1 | m1 | m1
      · exact cls4 hV w φ _ hr hb (lr2 (sv 1 84 253 0 252 m0 m1 (by omega) (by omega) (by omega)) hv)
      · exact cls5 hV w φ _ hr hb (lr2 (sv 1 84 253 1 253 m0 m1 (by omega) (by omega) (by omega)) hv)
      · exact cls6 hV w φ _ hr hb (lr2 (sv 1 84 253 2 254 m0 m1 (by omega) (by omega) (by omega)) hv)
      · exact cls7 hV w φ _ hr hb (lr2 (sv 1 84 253 3 255 m0 m1 (by omega) (by omega) (by omega)) hv)
    · rcases m1 with m1 | m1 | m1 | m1
      · exact cls8 hV w φ _ hr hb (lr2 (sv 2 84 254 0 252 m0 m1 (by omega) (by omega) (by omega)) hv)
      · exact cls9 hV w φ _ hr hb (lr2 (sv 2 84 254 1 253 m0 m1 (by omega) (by omega) (by omega)) hv)
      · exact cls10 hV w φ _ hr hb (lr2 (sv 2 84 254 2 254 m0 m1 (by omega) (by omega) (by omega)) hv)
      · exact cls11 hV w φ _ hr hb (lr2 (sv 2 84 254 3 255 m0 m1 (by omega) (by omega) (by omega)) hv)
  · obtain ⟨φ, hr, hb, hv⟩ := start 61 9223372036854775807 (by omega) (by omega)
    exact cls12 hV w φ _ hr hb (lr2 (VRs.agg (m := [.int .u8 o, .int .u8 c, .int .u8 b2, .int .u8 b3, .int .u8 b4, .int .u8 b5, .int .u8 b6, .int .u8 b7, .int .u8 b8, .int .u8 b9, .int .u8 b10, .int .u8 b11, .bool t]) (.cons (.any _ _) (.cons (.any _ _) (.cons (.any _ _) (.cons (.any _ _) (.cons (.any _ _) (.cons (.any _ _) (.cons (.any _ _) (.cons (.any _ _) (.cons (.any _ _) (.cons (.any _ _) (.cons (.any _ _) (.cons (.any _ _) (.cons (.anyb _) .nil))))))))))))) rfl rfl (by decide)) hv)
end
end Go.Proofs.YtldkbgoipmeikaaGreatDoor
