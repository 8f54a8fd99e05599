/-
  The law, for all inputs: its classes are all that there is.
  Conditions: the inputs' kinds.
-/
import Derived.Test.YtekgfgignkihmaaGreatKnE00
import Derived.Test.YtekgfgignkihmaaGreatKnE01
import Derived.Test.YtekgfgignkihmaaGreatKnE02
import Derived.Test.YtekgfgignkihmaaGreatKnE03
import Derived.Test.YtekgfgignkihmaaGreatKnE04
import Derived.Test.YtekgfgignkihmaaGreatKnE05
import Derived.Test.YtekgfgignkihmaaGreatKnE06
import Derived.Test.YtekgfgignkihmaaGreatKnE07
import Derived.Test.YtekgfgignkihmaaGreatKnE08
import Derived.Test.YtekgfgignkihmaaGreatKnE09
import Derived.Test.YtekgfgignkihmaaGreatKnE10
import Derived.Test.YtekgfgignkihmaaGreatKnE11
import Derived.Test.YtekgfgignkihmaaGreatKnE12
import Derived.Test.YtekgfgignkihmaaGreatKnE13
import Derived.Test.YtekgfgignkihmaaGreatKnE14
import Derived.Test.YtekgfgignkihmaaGreatKnE15
import Derived.Test.YtekgfgignkihmaaGreatKnE16
import Derived.Test.YtekgfgignkihmaaGreatKnE17
import Derived.Test.YtekgfgignkihmaaGreatKnR00
import Derived.Test.YtekgfgignkihmaaGreatKnR01
import Derived.Test.YtekgfgignkihmaaGreatKnR02
import Derived.Test.YtekgfgignkihmaaGreatKnR03
import Derived.Test.YtekgfgignkihmaaGreatKnR04
import Derived.Test.YtekgfgignkihmaaGreatKnR05
import Derived.Test.YtekgfgignkihmaaGreatKnR06
import Derived.Test.YtekgfgignkihmaaGreatKnR07
import Derived.Test.YtekgfgignkihmaaGreatKnR08
import Derived.Test.YtekgfgignkihmaaGreatKnR09
import Derived.Test.YtekgfgignkihmaaGreatKnR10
import Derived.Test.YtekgfgignkihmaaGreatKnR11
import Derived.Test.YtekgfgignkihmaaGreatKnR12
import Derived.Test.YtekgfgignkihmaaGreatKnR13
import Derived.Test.YtekgfgignkihmaaGreatKnR14
import Derived.Test.YtekgfgignkihmaaGreatKnR15
import Derived.Test.YtekgfgignkihmaaGreatKnR16
import Derived.Test.YtekgfgignkihmaaGreatKnR17
import Derived.Test.YtekgfgignkihmaaGreatKnR18
import Derived.Test.YtekgfgignkihmaaGreatKnR19
import Derived.Test.YtekgfgignkihmaaGreatKnR20
import Derived.Test.YtekgfgignkihmaaGreatKnR21
import Derived.Test.YtekgfgignkihmaaGreatKnC
open Go Go.Ab Go.ChangeShapes Go.WideShapes Go.ChangeAt Go.RowKit
namespace Go.Proofs.YtekgfgignkihmaaGreat
noncomputable section
/-- An entry that was run over what was known before it. -/
theorem mk {e : Ent} {m : List Ent} (hm : AllGoodW Tryz.prog kb m) (h : e.ok Tryz.prog (knWith kb 0 m) 0 1000 60 = true) : AllGoodW Tryz.prog kb [e] := .one hm (fuel := 1000) (n := 60) (by rw [g0]; exact h)
abbrev B (e : Ent) : Prop := AllGoodW Tryz.prog kb [e]
theorem app {e : Ent} {l : List Ent} (he : B e) (hl : AllGoodW Tryz.prog kb l) : AllGoodW Tryz.prog kb (e :: l) := he.app hl
theorem nl : AllGoodW Tryz.prog kb [] := .nil
theorem known {m : List Ent} (hm : AllGoodW Tryz.prog kb m) : ∀ V : Val, @KnownSim V Tryz.prog (knWith kb 0 m) := by
  have h := knWith_all kbSim hm
  rwa [g0] at h
/-- The patterns of a loop: from each all is well. -/
theorem wells {m : List Ent} {T : List Tgt} (hm : AllGoodW Tryz.prog kb m) (h : ∀ t ∈ T, ∃ c, chkL Tryz.prog (knWith kb 0 m) 1000 60 5 3 [] T c t = true) : ∀ t ∈ T, Well Tryz.prog 5 3 t := well_of (T := []) (known hm) (fun _ h => absurd h (by simp)) h
theorem none_well : ∀ t ∈ ([] : List Tgt), Well Tryz.prog 5 3 t := fun _ h => absurd h (by simp)
theorem all1 {p : Tgt → Prop} {a : Tgt} (h : p a) : ∀ t ∈ [a], p t := fun t ht => by
  rcases List.mem_cons.mp ht with rfl | ht
  · exact h
  · exact absurd ht (by simp)
theorem allC {p : Tgt → Prop} {a : Tgt} {l : List Tgt} (h : p a) (hl : ∀ t ∈ l, p t) : ∀ t ∈ a :: l, p t := fun t ht => by
  rcases List.mem_cons.mp ht with rfl | ht
  · exact h
  · exact hl t ht
/-- The law answers true for every input of a class, and leaves what was there as it was. -/
def Fine [Val] (a : List AV) : Prop := ∀ (w : World) (φ : Phi) (x : Array Value), HR Tryz.prog.globals.size φ (hIn 0 false []) w → Bel w φ (hIn 0 false []) w → LR φ a x → Calls Tryz.prog 5 x w fun e w' => e = .returned (.bool true) ∧ Below w.heap.size w w'
theorem fin [Val] {m : List Ent} {a : List AV} {T : List Tgt} {c : Cert} (hm : AllGoodW Tryz.prog kb m) (hT : ∀ t ∈ T, Well Tryz.prog 5 a.length t) (h : chkAt Tryz.prog (knWith kb 0 m) 1000 60 5 a.length T [] (.const 0) c [.code []] (enterS Tryz.prog 5 a (hIn 0 false [])) = true) : Fine a :=
  fun _ _ _ hr hb ha => calls_of_chk (known hm) hT h hr hb ha
theorem gd0 : B e0 := mk nl ok0
theorem gd1 : B e1 := mk (app gd0 (app gdOpen nl)) ok1
theorem gd2 : B e2 := mk nl ok2
theorem gd3 : B e3 := mk nl ok3
theorem gd4 : B e4 := mk nl ok4
theorem gd5 : B e5 := mk (app gd4 nl) ok5
theorem gd6 : B e6 := mk (app gd3 nl) ok6
theorem gd7 : B e7 := mk (app gd3 (app gd5 (app gd6 nl))) ok7
theorem gd8 : B e8 := mk (app gd3 (app gd7 nl)) ok8
theorem gd9 : B e9 := mk nl ok9
theorem gd10 : B e10 := mk (app gd9 nl) ok10
theorem gd11 : B e11 := mk (app gd10 nl) ok11
theorem gd12 : B e12 := mk (app gd3 (app gd11 nl)) ok12
theorem gd2000000 : B e2000000 := mk (app gd1 (app gd2 (app gd3 (app gd8 (app gd12 nl))))) ok2000000
theorem gd14 : B e14 := mk nl ok14
theorem gd15 : B e15 := mk (app gd14 nl) ok15
theorem gd17 : B e17 := mk (app gd5 (app gd14 (app gd15 nl))) ok17
theorem gd18 : B e18 := mk (app gd14 nl) ok18
theorem gd24 : B e24 := mk (app gd14 nl) ok24
theorem gd25 : B e25 := mk (app gd14 nl) ok25
theorem gd26 : B e26 := mk nl ok26
theorem gd27 : B e27 := mk (app gd26 nl) ok27
theorem gd28 : B e28 := mk (app gd27 nl) ok28
theorem gd29 : B e29 := mk (app gd14 nl) ok29
theorem gd31 : B e31 := mk (app gd5 (app gd14 (app gd29 nl))) ok31
theorem gd32 : B e32 := mk (app gd14 nl) ok32
theorem gd35 : B e35 := mk (app gd14 nl) ok35
theorem gd36 : B e36 := mk (app gd14 nl) ok36
theorem gd37 : B e37 := mk (app gd14 nl) ok37
theorem gd38 : B e38 := mk (app gd5 (app gd14 (app gd37 nl))) ok38
theorem gd39 : B e39 := mk (app gd14 (app gd38 nl)) ok39
theorem gd40 : B e40 := mk (app gd14 nl) ok40
theorem gd43 : B e43 := mk (app gd14 nl) ok43
theorem gd44 : B e44 := mk (app gd14 nl) ok44
theorem gd46 : B e46 := mk (app gd5 (app gd14 (app gd15 nl))) ok46
theorem gd49 : B e49 := mk (app gd14 nl) ok49
theorem gd50 : B e50 := mk (app gd27 nl) ok50
theorem gd52 : B e52 := mk (app gd5 (app gd14 (app gd29 nl))) ok52
theorem gd54 : B e54 := mk (app gd14 nl) ok54
theorem gd55 : B e55 := mk (app gd14 nl) ok55
theorem gd56 : B e56 := mk (app gd5 (app gd14 (app gd55 nl))) ok56
theorem gd57 : B e57 := mk (app gd14 (app gd56 nl)) ok57
theorem gd59 : B e59 := mk (app gd14 nl) ok59
theorem gd61 : B e61 := mk (app gd5 (app gd14 (app gd15 nl))) ok61
theorem gd64 : B e64 := mk (app gd14 nl) ok64
theorem gd65 : B e65 := mk (app gd27 nl) ok65
theorem gd67 : B e67 := mk (app gd5 (app gd14 (app gd29 nl))) ok67
theorem gd69 : B e69 := mk (app gd14 nl) ok69
theorem gd70 : B e70 := mk (app gd14 nl) ok70
theorem gd71 : B e71 := mk (app gd5 (app gd14 (app gd70 nl))) ok71
theorem gd72 : B e72 := mk (app gd14 (app gd71 nl)) ok72
theorem gd74 : B e74 := mk (app gd14 nl) ok74
theorem gd76 : B e76 := mk (app gd5 (app gd14 (app gd15 nl))) ok76
theorem gd79 : B e79 := mk (app gd14 nl) ok79
theorem gd80 : B e80 := mk (app gd27 nl) ok80
theorem gd82 : B e82 := mk (app gd5 (app gd14 (app gd29 nl))) ok82
theorem gd84 : B e84 := mk (app gd14 nl) ok84
theorem gd85 : B e85 := mk (app gd14 nl) ok85
theorem gd86 : B e86 := mk (app gd5 (app gd14 (app gd85 nl))) ok86
theorem gd87 : B e87 := mk (app gd14 (app gd86 nl)) ok87
theorem gd89 : B e89 := mk (app gd14 nl) ok89
theorem gd90 : B e90 := mk nl ok90
theorem gd91 : B e91 := mk (app gd90 nl) ok91
theorem gd93 : B e93 := mk (app gd5 (app gd90 (app gd91 nl))) ok93
theorem gd94 : B e94 := mk (app gd90 nl) ok94
theorem gd98 : B e98 := mk (app gd90 nl) ok98
theorem gd99 : B e99 := mk (app gd90 nl) ok99
theorem gd100 : B e100 := mk (app gd27 nl) ok100
theorem gd101 : B e101 := mk (app gd90 nl) ok101
theorem gd103 : B e103 := mk (app gd5 (app gd90 (app gd101 nl))) ok103
theorem gd104 : B e104 := mk (app gd90 nl) ok104
theorem gd107 : B e107 := mk (app gd90 nl) ok107
theorem gd108 : B e108 := mk (app gd90 nl) ok108
theorem gd109 : B e109 := mk (app gd90 nl) ok109
theorem gd110 : B e110 := mk (app gd5 (app gd90 (app gd109 nl))) ok110
theorem gd111 : B e111 := mk (app gd90 (app gd110 nl)) ok111
theorem gd112 : B e112 := mk (app gd90 nl) ok112
theorem gd115 : B e115 := mk (app gd90 nl) ok115
theorem gd116 : B e116 := mk (app gd90 nl) ok116
theorem gd118 : B e118 := mk (app gd5 (app gd90 (app gd91 nl))) ok118
theorem gd121 : B e121 := mk (app gd90 nl) ok121
theorem gd122 : B e122 := mk (app gd27 nl) ok122
theorem gd124 : B e124 := mk (app gd5 (app gd90 (app gd101 nl))) ok124
theorem gd126 : B e126 := mk (app gd90 nl) ok126
theorem gd127 : B e127 := mk (app gd90 nl) ok127
theorem gd128 : B e128 := mk (app gd5 (app gd90 (app gd127 nl))) ok128
theorem gd129 : B e129 := mk (app gd90 (app gd128 nl)) ok129
theorem gd131 : B e131 := mk (app gd90 nl) ok131
theorem gd133 : B e133 := mk (app gd5 (app gd90 (app gd91 nl))) ok133
theorem gd136 : B e136 := mk (app gd90 nl) ok136
theorem gd137 : B e137 := mk (app gd27 nl) ok137
theorem gd139 : B e139 := mk (app gd5 (app gd90 (app gd101 nl))) ok139
theorem gd141 : B e141 := mk (app gd90 nl) ok141
theorem gd142 : B e142 := mk (app gd90 nl) ok142
theorem gd143 : B e143 := mk (app gd5 (app gd90 (app gd142 nl))) ok143
theorem gd144 : B e144 := mk (app gd90 (app gd143 nl)) ok144
theorem gd146 : B e146 := mk (app gd90 nl) ok146
theorem gd148 : B e148 := mk (app gd5 (app gd90 (app gd91 nl))) ok148
theorem gd151 : B e151 := mk (app gd90 nl) ok151
theorem gd152 : B e152 := mk (app gd27 nl) ok152
theorem gd154 : B e154 := mk (app gd5 (app gd90 (app gd101 nl))) ok154
theorem gd156 : B e156 := mk (app gd90 nl) ok156
theorem gd157 : B e157 := mk (app gd90 nl) ok157
theorem gd158 : B e158 := mk (app gd5 (app gd90 (app gd157 nl))) ok158
theorem gd159 : B e159 := mk (app gd90 (app gd158 nl)) ok159
theorem gd161 : B e161 := mk (app gd90 nl) ok161
theorem gd162 : B e162 := mk nl ok162
theorem gd163 : B e163 := mk (app gd162 nl) ok163
theorem gd165 : B e165 := mk (app gd5 (app gd162 (app gd163 nl))) ok165
theorem gd166 : B e166 := mk (app gd162 nl) ok166
theorem gd170 : B e170 := mk (app gd162 nl) ok170
theorem gd171 : B e171 := mk (app gd162 nl) ok171
theorem gd172 : B e172 := mk (app gd27 nl) ok172
theorem gd173 : B e173 := mk (app gd162 nl) ok173
theorem gd175 : B e175 := mk (app gd5 (app gd162 (app gd173 nl))) ok175
theorem gd176 : B e176 := mk (app gd162 nl) ok176
theorem gd179 : B e179 := mk (app gd162 nl) ok179
theorem gd180 : B e180 := mk (app gd162 nl) ok180
theorem gd181 : B e181 := mk (app gd162 nl) ok181
theorem gd182 : B e182 := mk (app gd5 (app gd162 (app gd181 nl))) ok182
theorem gd183 : B e183 := mk (app gd162 (app gd182 nl)) ok183
theorem gd184 : B e184 := mk (app gd162 nl) ok184
theorem gd187 : B e187 := mk (app gd162 nl) ok187
theorem gd188 : B e188 := mk (app gd162 nl) ok188
theorem gd190 : B e190 := mk (app gd5 (app gd162 (app gd163 nl))) ok190
theorem gd193 : B e193 := mk (app gd162 nl) ok193
theorem gd194 : B e194 := mk (app gd27 nl) ok194
theorem gd196 : B e196 := mk (app gd5 (app gd162 (app gd173 nl))) ok196
theorem gd198 : B e198 := mk (app gd162 nl) ok198
theorem gd199 : B e199 := mk (app gd162 nl) ok199
theorem gd200 : B e200 := mk (app gd5 (app gd162 (app gd199 nl))) ok200
theorem gd201 : B e201 := mk (app gd162 (app gd200 nl)) ok201
theorem gd203 : B e203 := mk (app gd162 nl) ok203
theorem gd205 : B e205 := mk (app gd5 (app gd162 (app gd163 nl))) ok205
theorem gd208 : B e208 := mk (app gd162 nl) ok208
theorem gd209 : B e209 := mk (app gd27 nl) ok209
theorem gd211 : B e211 := mk (app gd5 (app gd162 (app gd173 nl))) ok211
theorem gd213 : B e213 := mk (app gd162 nl) ok213
theorem gd214 : B e214 := mk (app gd162 nl) ok214
theorem gd215 : B e215 := mk (app gd5 (app gd162 (app gd214 nl))) ok215
theorem gd216 : B e216 := mk (app gd162 (app gd215 nl)) ok216
theorem gd218 : B e218 := mk (app gd162 nl) ok218
theorem gd220 : B e220 := mk (app gd5 (app gd162 (app gd163 nl))) ok220
theorem gd224 : B e224 := mk (app gd162 nl) ok224
theorem gd225 : B e225 := mk (app gd27 nl) ok225
theorem gd226 : B e226 := mk nl ok226
theorem gd228 : B e228 := mk (app gd5 (app gd162 (app gd173 nl))) ok228
theorem gd230 : B e230 := mk (app gd162 nl) ok230
theorem gd231 : B e231 := mk (app gd162 nl) ok231
theorem gd232 : B e232 := mk (app gd5 (app gd162 (app gd231 nl))) ok232
theorem gd233 : B e233 := mk (app gd162 (app gd232 nl)) ok233
theorem gd235 : B e235 := mk (app gd162 nl) ok235
theorem w0 : ∀ t ∈ T0, Well Tryz.prog 5 3 t := wells (app gd24 (app gd25 (app gd28 (app gd35 (app gd36 nl))))) (allC ⟨_, l0_0_0⟩ (all1 ⟨_, l0_0_1⟩))
theorem cls0 [Val] : Fine a0 := fin (app gd1 (app gd14 (app gd17 (app gd18 (app gd31 (app gd32 (app gd2000000 nl))))))) w0 s0
theorem w1 : ∀ t ∈ T1, Well Tryz.prog 5 3 t := wells (app gd28 (app gd43 (app gd44 nl))) (all1 ⟨_, l1_0_0⟩)
theorem cls1 [Val] : Fine a1 := fin (app gd1 (app gd14 (app gd39 (app gd40 (app gd2000000 nl))))) w1 s1
theorem w2 : ∀ t ∈ T2, Well Tryz.prog 5 3 t := wells (app gd24 (app gd25 (app gd28 (app gd35 (app gd36 nl))))) (allC ⟨_, l2_0_0⟩ (all1 ⟨_, l2_0_1⟩))
theorem cls2 [Val] : Fine a2 := fin (app gd1 (app gd14 (app gd17 (app gd18 (app gd31 (app gd32 (app gd2000000 nl))))))) w2 s2
theorem w3 : ∀ t ∈ T3, Well Tryz.prog 5 3 t := wells (app gd25 (app gd36 (app gd49 (app gd50 (app gd54 nl))))) (allC ⟨_, l3_0_0⟩ (all1 ⟨_, l3_0_1⟩))
theorem cls3 [Val] : Fine a3 := fin (app gd1 (app gd14 (app gd18 (app gd32 (app gd46 (app gd52 (app gd2000000 nl))))))) w3 s3
theorem w4 : ∀ t ∈ T4, Well Tryz.prog 5 3 t := wells (app gd44 (app gd50 (app gd59 nl))) (all1 ⟨_, l4_0_0⟩)
theorem cls4 [Val] : Fine a4 := fin (app gd1 (app gd14 (app gd40 (app gd57 (app gd2000000 nl))))) w4 s4
theorem w5 : ∀ t ∈ T5, Well Tryz.prog 5 3 t := wells (app gd25 (app gd36 (app gd49 (app gd50 (app gd54 nl))))) (allC ⟨_, l5_0_0⟩ (all1 ⟨_, l5_0_1⟩))
theorem cls5 [Val] : Fine a5 := fin (app gd1 (app gd14 (app gd18 (app gd32 (app gd46 (app gd52 (app gd2000000 nl))))))) w5 s5
theorem w6 : ∀ t ∈ T6, Well Tryz.prog 5 3 t := wells (app gd25 (app gd36 (app gd64 (app gd65 (app gd69 nl))))) (allC ⟨_, l6_0_0⟩ (all1 ⟨_, l6_0_1⟩))
theorem cls6 [Val] : Fine a6 := fin (app gd1 (app gd14 (app gd18 (app gd32 (app gd61 (app gd67 (app gd2000000 nl))))))) w6 s6
theorem w7 : ∀ t ∈ T7, Well Tryz.prog 5 3 t := wells (app gd44 (app gd65 (app gd74 nl))) (all1 ⟨_, l7_0_0⟩)
theorem cls7 [Val] : Fine a7 := fin (app gd1 (app gd14 (app gd40 (app gd72 (app gd2000000 nl))))) w7 s7
theorem w8 : ∀ t ∈ T8, Well Tryz.prog 5 3 t := wells (app gd25 (app gd36 (app gd64 (app gd65 (app gd69 nl))))) (allC ⟨_, l8_0_0⟩ (all1 ⟨_, l8_0_1⟩))
theorem cls8 [Val] : Fine a8 := fin (app gd1 (app gd14 (app gd18 (app gd32 (app gd61 (app gd67 (app gd2000000 nl))))))) w8 s8
theorem w9 : ∀ t ∈ T9, Well Tryz.prog 5 3 t := wells (app gd25 (app gd36 (app gd79 (app gd80 (app gd84 nl))))) (allC ⟨_, l9_0_0⟩ (all1 ⟨_, l9_0_1⟩))
theorem cls9 [Val] : Fine a9 := fin (app gd1 (app gd14 (app gd18 (app gd32 (app gd76 (app gd82 (app gd2000000 nl))))))) w9 s9
theorem w10 : ∀ t ∈ T10, Well Tryz.prog 5 3 t := wells (app gd44 (app gd80 (app gd89 nl))) (all1 ⟨_, l10_0_0⟩)
theorem cls10 [Val] : Fine a10 := fin (app gd1 (app gd14 (app gd40 (app gd87 (app gd2000000 nl))))) w10 s10
theorem w11 : ∀ t ∈ T11, Well Tryz.prog 5 3 t := wells (app gd25 (app gd36 (app gd79 (app gd80 (app gd84 nl))))) (allC ⟨_, l11_0_0⟩ (all1 ⟨_, l11_0_1⟩))
theorem cls11 [Val] : Fine a11 := fin (app gd1 (app gd14 (app gd18 (app gd32 (app gd76 (app gd82 (app gd2000000 nl))))))) w11 s11
theorem w12 : ∀ t ∈ T12, Well Tryz.prog 5 3 t := wells (app gd98 (app gd99 (app gd100 (app gd107 (app gd108 nl))))) (allC ⟨_, l12_0_0⟩ (all1 ⟨_, l12_0_1⟩))
theorem cls12 [Val] : Fine a12 := fin (app gd1 (app gd90 (app gd93 (app gd94 (app gd103 (app gd104 (app gd2000000 nl))))))) w12 s12
theorem w13 : ∀ t ∈ T13, Well Tryz.prog 5 3 t := wells (app gd100 (app gd115 (app gd116 nl))) (all1 ⟨_, l13_0_0⟩)
theorem cls13 [Val] : Fine a13 := fin (app gd1 (app gd90 (app gd111 (app gd112 (app gd2000000 nl))))) w13 s13
theorem w14 : ∀ t ∈ T14, Well Tryz.prog 5 3 t := wells (app gd98 (app gd99 (app gd100 (app gd107 (app gd108 nl))))) (allC ⟨_, l14_0_0⟩ (all1 ⟨_, l14_0_1⟩))
theorem cls14 [Val] : Fine a14 := fin (app gd1 (app gd90 (app gd93 (app gd94 (app gd103 (app gd104 (app gd2000000 nl))))))) w14 s14
theorem w15 : ∀ t ∈ T15, Well Tryz.prog 5 3 t := wells (app gd99 (app gd108 (app gd121 (app gd122 (app gd126 nl))))) (allC ⟨_, l15_0_0⟩ (all1 ⟨_, l15_0_1⟩))
theorem cls15 [Val] : Fine a15 := fin (app gd1 (app gd90 (app gd94 (app gd104 (app gd118 (app gd124 (app gd2000000 nl))))))) w15 s15
theorem w16 : ∀ t ∈ T16, Well Tryz.prog 5 3 t := wells (app gd116 (app gd122 (app gd131 nl))) (all1 ⟨_, l16_0_0⟩)
theorem cls16 [Val] : Fine a16 := fin (app gd1 (app gd90 (app gd112 (app gd129 (app gd2000000 nl))))) w16 s16
theorem w17 : ∀ t ∈ T17, Well Tryz.prog 5 3 t := wells (app gd99 (app gd108 (app gd121 (app gd122 (app gd126 nl))))) (allC ⟨_, l17_0_0⟩ (all1 ⟨_, l17_0_1⟩))
theorem cls17 [Val] : Fine a17 := fin (app gd1 (app gd90 (app gd94 (app gd104 (app gd118 (app gd124 (app gd2000000 nl))))))) w17 s17
theorem w18 : ∀ t ∈ T18, Well Tryz.prog 5 3 t := wells (app gd99 (app gd108 (app gd136 (app gd137 (app gd141 nl))))) (allC ⟨_, l18_0_0⟩ (all1 ⟨_, l18_0_1⟩))
theorem cls18 [Val] : Fine a18 := fin (app gd1 (app gd90 (app gd94 (app gd104 (app gd133 (app gd139 (app gd2000000 nl))))))) w18 s18
theorem w19 : ∀ t ∈ T19, Well Tryz.prog 5 3 t := wells (app gd116 (app gd137 (app gd146 nl))) (all1 ⟨_, l19_0_0⟩)
theorem cls19 [Val] : Fine a19 := fin (app gd1 (app gd90 (app gd112 (app gd144 (app gd2000000 nl))))) w19 s19
theorem w20 : ∀ t ∈ T20, Well Tryz.prog 5 3 t := wells (app gd99 (app gd108 (app gd136 (app gd137 (app gd141 nl))))) (allC ⟨_, l20_0_0⟩ (all1 ⟨_, l20_0_1⟩))
theorem cls20 [Val] : Fine a20 := fin (app gd1 (app gd90 (app gd94 (app gd104 (app gd133 (app gd139 (app gd2000000 nl))))))) w20 s20
theorem w21 : ∀ t ∈ T21, Well Tryz.prog 5 3 t := wells (app gd99 (app gd108 (app gd151 (app gd152 (app gd156 nl))))) (allC ⟨_, l21_0_0⟩ (all1 ⟨_, l21_0_1⟩))
theorem cls21 [Val] : Fine a21 := fin (app gd1 (app gd90 (app gd94 (app gd104 (app gd148 (app gd154 (app gd2000000 nl))))))) w21 s21
theorem w22 : ∀ t ∈ T22, Well Tryz.prog 5 3 t := wells (app gd116 (app gd152 (app gd161 nl))) (all1 ⟨_, l22_0_0⟩)
theorem cls22 [Val] : Fine a22 := fin (app gd1 (app gd90 (app gd112 (app gd159 (app gd2000000 nl))))) w22 s22
theorem w23 : ∀ t ∈ T23, Well Tryz.prog 5 3 t := wells (app gd99 (app gd108 (app gd151 (app gd152 (app gd156 nl))))) (allC ⟨_, l23_0_0⟩ (all1 ⟨_, l23_0_1⟩))
theorem cls23 [Val] : Fine a23 := fin (app gd1 (app gd90 (app gd94 (app gd104 (app gd148 (app gd154 (app gd2000000 nl))))))) w23 s23
theorem w24 : ∀ t ∈ T24, Well Tryz.prog 5 3 t := wells (app gd170 (app gd171 (app gd172 (app gd179 (app gd180 nl))))) (allC ⟨_, l24_0_0⟩ (all1 ⟨_, l24_0_1⟩))
theorem cls24 [Val] : Fine a24 := fin (app gd1 (app gd162 (app gd165 (app gd166 (app gd175 (app gd176 (app gd2000000 nl))))))) w24 s24
theorem w25 : ∀ t ∈ T25, Well Tryz.prog 5 3 t := wells (app gd172 (app gd187 (app gd188 nl))) (all1 ⟨_, l25_0_0⟩)
theorem cls25 [Val] : Fine a25 := fin (app gd1 (app gd162 (app gd183 (app gd184 (app gd2000000 nl))))) w25 s25
theorem w26 : ∀ t ∈ T26, Well Tryz.prog 5 3 t := wells (app gd170 (app gd171 (app gd172 (app gd179 (app gd180 nl))))) (allC ⟨_, l26_0_0⟩ (all1 ⟨_, l26_0_1⟩))
theorem cls26 [Val] : Fine a26 := fin (app gd1 (app gd162 (app gd165 (app gd166 (app gd175 (app gd176 (app gd2000000 nl))))))) w26 s26
theorem w27 : ∀ t ∈ T27, Well Tryz.prog 5 3 t := wells (app gd171 (app gd180 (app gd193 (app gd194 (app gd198 nl))))) (allC ⟨_, l27_0_0⟩ (all1 ⟨_, l27_0_1⟩))
theorem cls27 [Val] : Fine a27 := fin (app gd1 (app gd162 (app gd166 (app gd176 (app gd190 (app gd196 (app gd2000000 nl))))))) w27 s27
theorem w28 : ∀ t ∈ T28, Well Tryz.prog 5 3 t := wells (app gd188 (app gd194 (app gd203 nl))) (all1 ⟨_, l28_0_0⟩)
theorem cls28 [Val] : Fine a28 := fin (app gd1 (app gd162 (app gd184 (app gd201 (app gd2000000 nl))))) w28 s28
theorem w29 : ∀ t ∈ T29, Well Tryz.prog 5 3 t := wells (app gd171 (app gd180 (app gd193 (app gd194 (app gd198 nl))))) (allC ⟨_, l29_0_0⟩ (all1 ⟨_, l29_0_1⟩))
theorem cls29 [Val] : Fine a29 := fin (app gd1 (app gd162 (app gd166 (app gd176 (app gd190 (app gd196 (app gd2000000 nl))))))) w29 s29
theorem w30 : ∀ t ∈ T30, Well Tryz.prog 5 3 t := wells (app gd171 (app gd180 (app gd208 (app gd209 (app gd213 nl))))) (allC ⟨_, l30_0_0⟩ (all1 ⟨_, l30_0_1⟩))
theorem cls30 [Val] : Fine a30 := fin (app gd1 (app gd162 (app gd166 (app gd176 (app gd205 (app gd211 (app gd2000000 nl))))))) w30 s30
theorem w31 : ∀ t ∈ T31, Well Tryz.prog 5 3 t := wells (app gd188 (app gd209 (app gd218 nl))) (all1 ⟨_, l31_0_0⟩)
theorem cls31 [Val] : Fine a31 := fin (app gd1 (app gd162 (app gd184 (app gd216 (app gd2000000 nl))))) w31 s31
theorem w32 : ∀ t ∈ T32, Well Tryz.prog 5 3 t := wells (app gd171 (app gd180 (app gd208 (app gd209 (app gd213 nl))))) (allC ⟨_, l32_0_0⟩ (all1 ⟨_, l32_0_1⟩))
theorem cls32 [Val] : Fine a32 := fin (app gd1 (app gd162 (app gd166 (app gd176 (app gd205 (app gd211 (app gd2000000 nl))))))) w32 s32
theorem w33 : ∀ t ∈ T33, Well Tryz.prog 5 3 t := wells (app gd171 (app gd180 (app gd224 (app gd225 (app gd226 (app gd230 nl)))))) (allC ⟨_, l33_0_0⟩ (all1 ⟨_, l33_0_1⟩))
theorem cls33 [Val] : Fine a33 := fin (app gd1 (app gd162 (app gd166 (app gd176 (app gd220 (app gd228 (app gd2000000 nl))))))) w33 s33
theorem w34 : ∀ t ∈ T34, Well Tryz.prog 5 3 t := wells (app gd188 (app gd225 (app gd226 (app gd235 nl)))) (all1 ⟨_, l34_0_0⟩)
theorem cls34 [Val] : Fine a34 := fin (app gd1 (app gd162 (app gd184 (app gd233 (app gd2000000 nl))))) w34 s34
theorem w35 : ∀ t ∈ T35, Well Tryz.prog 5 3 t := wells (app gd171 (app gd180 (app gd224 (app gd225 (app gd226 (app gd230 nl)))))) (allC ⟨_, l35_0_0⟩ (all1 ⟨_, l35_0_1⟩))
theorem cls35 [Val] : Fine a35 := fin (app gd1 (app gd162 (app gd166 (app gd176 (app gd220 (app gd228 (app gd2000000 nl))))))) w35 s35
theorem cls36 [Val] : Fine a36 := fin (app gd2000000 nl) none_well s36
abbrev vals (o c b2 b3 b4 b5 b6 b7 b8 b9 b10 b11 p : Int) (n : Nat) (Z : Nat → Int) : Val := ⟨fun i => if 1000 ≤ i then Z (i - 1000) else match i with
  | 2 => b2
  | 3 => b3
  | 4 => b4
  | 5 => b5
  | 6 => b6
  | 7 => b7
  | 8 => b8
  | 9 => b9
  | 10 => b10
  | 11 => b11
  | 20 => o / 3
  | 21 => c / 4
  | 30 => n
  | 31 => p / 65536
  | 32 => p % 65536
  | _ => 0⟩

theorem shape_vr [Val] {φ : Phi} {tv : AV} {t : Bool} (ht : VR φ tv (.bool t)) {o c b2 b3 b4 b5 b6 b7 b8 b9 b10 b11 : Int} (lo : 0 ≤ o) (ho : o ≤ 255) (lc : 0 ≤ c) (hc : c ≤ 255) (lb2 : 0 ≤ b2) (hb2 : b2 ≤ 255) (lb3 : 0 ≤ b3) (hb3 : b3 ≤ 255) (lb4 : 0 ≤ b4) (hb4 : b4 ≤ 255) (lb5 : 0 ≤ b5) (hb5 : b5 ≤ 255) (lb6 : 0 ≤ b6) (hb6 : b6 ≤ 255) (lb7 : 0 ≤ b7) (hb7 : b7 ≤ 255) (lb8 : 0 ≤ b8) (hb8 : b8 ≤ 255) (lb9 : 0 ≤ b9) (hb9 : b9 ≤ 255) (lb10 : 0 ≤ b10) (hb10 : b10 ≤ 255) (lb11 : 0 ≤ b11) (hb11 : b11 ≤ 255) (r0 q0 h0 r1 h1 : Int)
    (e20 : Val.σ 20 = o / 3) (e21 : Val.σ 21 = c / 4) (e2 : Val.σ 2 = b2) (e3 : Val.σ 3 = b3) (e4 : Val.σ 4 = b4) (e5 : Val.σ 5 = b5) (e6 : Val.σ 6 = b6) (e7 : Val.σ 7 = b7) (e8 : Val.σ 8 = b8) (e9 : Val.σ 9 = b9) (e10 : Val.σ 10 = b10) (e11 : Val.σ 11 = b11) (m0 : o % 3 = r0) (m1 : c % 4 = r1) (g0 : o / 3 ≤ q0) (g1 : r0 ≤ o ∧ o ≤ h0) (g2 : r1 ≤ c ∧ c ≤ h1) :
    VR φ (.agg 13 4 .junk (setFrom 4 .e 0 [.sym .u8 r0 h0 (.add (.mul (.const 3) (.var 20 0 q0)) (.const r0)), .sym .u8 r1 h1 (.add (.mul (.const 4) (.var 21 0 63)) (.const r1)),
      .sym .u8 0 255 (.var 2 0 255), .sym .u8 0 255 (.var 3 0 255), .sym .u8 0 255 (.var 4 0 255), .sym .u8 0 255 (.var 5 0 255), .sym .u8 0 255 (.var 6 0 255), .sym .u8 0 255 (.var 7 0 255), .sym .u8 0 255 (.var 8 0 255), .sym .u8 0 255 (.var 9 0 255), .sym .u8 0 255 (.var 10 0 255), .sym .u8 0 255 (.var 11 0 255), tv])) (.agg #[.int .u8 o, .int .u8 c, .int .u8 b2, .int .u8 b3, .int .u8 b4, .int .u8 b5, .int .u8 b6, .int .u8 b7, .int .u8 b8, .int .u8 b9, .int .u8 b10, .int .u8 b11, .bool t]) := by
  refine VRs.agg (m := [.int .u8 o, .int .u8 c, .int .u8 b2, .int .u8 b3, .int .u8 b4, .int .u8 b5, .int .u8 b6, .int .u8 b7, .int .u8 b8, .int .u8 b9, .int .u8 b10, .int .u8 b11, .bool t]) (.cons (.sym ?_ g1.1 g1.2) (.cons (.sym ?_ g2.1 g2.2) (.cons (vr_var 2 e2 lb2 hb2) (.cons (vr_var 3 e3 lb3 hb3) (.cons (vr_var 4 e4 lb4 hb4) (.cons (vr_var 5 e5 lb5 hb5) (.cons (vr_var 6 e6 lb6 hb6) (.cons (vr_var 7 e7 lb7 hb7) (.cons (vr_var 8 e8 lb8 hb8) (.cons (vr_var 9 e9 lb9 hb9) (.cons (vr_var 10 e10 lb10 hb10) (.cons (vr_var 11 e11 lb11 hb11) (.cons ht .nil))))))))))))) rfl rfl (by decide)
  · show 3 * clampI 0 q0 (Val.σ 20) + r0 = o
    rw [e20, clampI_id (by omega) g0]; omega
  · show 4 * clampI 0 63 (Val.σ 21) + r1 = c
    rw [e21, clampI_id (by omega) (by omega)]; omega

theorem lr3 [Val] {φ : Phi} {a b c : AV} {x y z : Value} (h : VR φ a x) (h' : VR φ b y) (h'' : VR φ c z) : LR φ [a, b, c] #[x, y, z] := VRs.lr (m := [x, y, z]) (.cons h (.cons h' (.cons h'' .nil)))

theorem uses_eq {w : World} {ao : Option Addr} {n : Nat} {Z : Nat → Int} [Val] (hz : ∀ j, Val.σ (VB + j) = Z j) (hs : Holds w ao n fun j v => v = .int .u8 (Z j) ∧ 0 ≤ Z j ∧ Z j ≤ 255) : Holds w ao n fun j v => v = rawV Val.σ VB false j := by
  rcases hs with h | ⟨b, o, e, h⟩
  · exact .inl h
  · refine .inr ⟨b, o, e, fun j hj => ?_⟩
    obtain ⟨v, h1, h2, h3, h4⟩ := h j hj
    refine ⟨v, h1, ?_⟩
    rw [h2]
    show Value.int .u8 (Z j) = Value.int .u8 (clampI 0 255 (Val.σ (VB + j)))
    rw [hz, clampI_id h3 h4]
theorem law (o c b2 b3 b4 b5 b6 b7 b8 b9 b10 b11 : Int) (t : Bool) (p : Int) (ao : Option Addr) (n cap : Nat) (Z : Nat → Int) (lo : 0 ≤ o) (ho : o ≤ 255) (lc : 0 ≤ c) (hc : c ≤ 255) (lb2 : 0 ≤ b2) (hb2 : b2 ≤ 255) (lb3 : 0 ≤ b3) (hb3 : b3 ≤ 255) (lb4 : 0 ≤ b4) (hb4 : b4 ≤ 255) (lb5 : 0 ≤ b5) (hb5 : b5 ≤ 255) (lb6 : 0 ≤ b6) (hb6 : b6 ≤ 255) (lb7 : 0 ≤ b7) (hb7 : b7 ≤ 255) (lb8 : 0 ≤ b8) (hb8 : b8 ≤ 255) (lb9 : 0 ≤ b9) (hb9 : b9 ≤ 255) (lb10 : 0 ≤ b10) (hb10 : b10 ≤ 255) (lb11 : 0 ≤ b11) (hb11 : b11 ≤ 255) (lp : -9223372036854775808 ≤ p) (hp : p ≤ 9223372036854775807) (hnc : n ≤ cap) (hcm : cap ≤ 9223372036854775807) (w : World)
    (hs : Holds w ao n fun j v => v = .int .u8 (Z j) ∧ 0 ≤ Z j ∧ Z j ≤ 255) :
    Calls Tryz.prog 5 #[.agg #[.int .u8 o, .int .u8 c, .int .u8 b2, .int .u8 b3, .int .u8 b4, .int .u8 b5, .int .u8 b6, .int .u8 b7, .int .u8 b8, .int .u8 b9, .int .u8 b10, .int .u8 b11, .bool t], .int .i64 p, .slice ao n cap] w fun e w' => e = .returned (.bool true) ∧ Below w.heap.size w w' := by
  letI V : Val := vals o c b2 b3 b4 b5 b6 b7 b8 b9 b10 b11 p n Z
  have hz : ∀ j, V.σ (VB + j) = Z j := fun j => by
    show (if 1000 ≤ 1000 + j then Z (1000 + j - 1000) else _) = Z j
    rw [if_pos (by omega), Nat.add_sub_cancel_left]
  have hs' := uses_eq hz hs
  have hro : Ro0 0 w := fun _ _ _ _ h => by simp [roTab] at h
  rcases Nat.lt_or_ge n 61 with hn | hn
  · obtain ⟨φ, hr, hb, hv⟩ := hr_in (G := 0) (w := w) (by decide) (Nat.zero_le _) hro (tb := []) (by simp) (isB := false) (ao := ao) (n := n) (c := cap) hnc (len := .var 30 0 60) (by show clampI 0 60 (n : Int) = n; exact clampI_id (by omega) (by omega)) hs'
    rw [← g0] at hr
    have sv := fun (r0 q0 h0 r1 h1 : Int) => @shape_vr V φ .anyb t (@VR.anyb V _ _) o c b2 b3 b4 b5 b6 b7 b8 b9 b10 b11 lo ho lc hc lb2 hb2 lb3 hb3 lb4 hb4 lb5 hb5 lb6 hb6 lb7 hb7 lb8 hb8 lb9 hb9 lb10 hb10 lb11 hb11 r0 q0 h0 r1 h1 rfl rfl rfl rfl rfl rfl rfl rfl rfl rfl rfl rfl
    have pv : ∀ l h : Int, l ≤ p % 65536 → p % 65536 ≤ h → VR φ (.sym .i64 (-9223372036854775808) 9223372036854775807 (.add (.mul (.const 65536) (.var 31 (-140737488355328) 140737488355327)) (.var 32 l h))) (.int .i64 p) := fun l h g1 g2 => by
      refine .sym ?_ lp hp
      show 65536 * clampI (-140737488355328) 140737488355327 (p / 65536) + clampI l h (p % 65536) = p
      rw [clampI_id (by omega) (by omega), clampI_id g1 g2]; omega
    have m0 : o % 3 = 0 ∨ o % 3 = 1 ∨ o % 3 = 2 := by omega
    have m1 : c % 4 = 0 ∨ c % 4 = 1 ∨ c % 4 = 2 ∨ c % 4 = 3 := by omega
    have mp : p % 65536 ≤ 1023 ∨ (1024 ≤ p % 65536 ∧ p % 65536 ≤ 1039) ∨ 1040 ≤ p % 65536 := by omega
    rcases m0 with m0 | m0 | m0
    · rcases m1 with m1 | m1 | m1 | m1
      · rcases mp with g | ⟨g, g'⟩ | g
        · exact cls0 w φ _ hr hb (lr3 (sv 0 85 255 0 252 m0 m1 (by omega) (by omega) (by omega)) (pv 0 1023 (by omega) (by omega)) hv)
        · exact cls1 w φ _ hr hb (lr3 (sv 0 85 255 0 252 m0 m1 (by omega) (by omega) (by omega)) (pv 1024 1039 (by omega) (by omega)) hv)
        · exact cls2 w φ _ hr hb (lr3 (sv 0 85 255 0 252 m0 m1 (by omega) (by omega) (by omega)) (pv 1040 65535 (by omega) (by omega)) hv)
      · rcases mp with g | ⟨g, g'⟩ | g
        · exact cls3 w φ _ hr hb (lr3 (sv 0 85 255 1 253 m0 m1 (by omega) (by omega) (by omega)) (pv 0 1023 (by omega) (by omega)) hv)
        · exact cls4 w φ _ hr hb (lr3 (sv 0 85 255 1 253 m0 m1 (by omega) (by omega) (by omega)) (pv 1024 1039 (by omega) (by omega)) hv)
        · exact cls5 w φ _ hr hb (lr3 (sv 0 85 255 1 253 m0 m1 (by omega) (by omega) (by omega)) (pv 1040 65535 (by omega) (by omega)) hv)
      · rcases mp with g | ⟨g, g'⟩ | g
        · exact cls6 w φ _ hr hb (lr3 (sv 0 85 255 2 254 m0 m1 (by omega) (by omega) (by omega)) (pv 0 1023 (by omega) (by omega)) hv)
        · exact cls7 w φ _ hr hb (lr3 (sv 0 85 255 2 254 m0 m1 (by omega) (by omega) (by omega)) (pv 1024 1039 (by omega) (by omega)) hv)
        · exact cls8 w φ _ hr hb (lr3 (sv 0 85 255 2 254 m0 m1 (by omega) (by omega) (by omega)) (pv 1040 65535 (by omega) (by omega)) hv)
      · rcases mp with g | ⟨g, g'⟩ | g
        · exact cls9 w φ _ hr hb (lr3 (sv 0 85 255 3 255 m0 m1 (by omega) (by omega) (by omega)) (pv 0 1023 (by omega) (by omega)) hv)
        · exact cls10 w φ _ hr hb (lr3 (sv 0 85 255 3 255 m0 m1 (by omega) (by omega) (by omega)) (pv 1024 1039 (by omega) (by omega)) hv)
        · exact cls11 w φ _ hr hb (lr3 (sv 0 85 255 3 255 m0 m1 (by omega) (by omega) (by omega)) (pv 1040 65535 (by omega) (by omega)) hv)
    · rcases m1 with m1 | m1 | m1 | m1
      · rcases mp with g | ⟨g, g'⟩ | g
        · exact cls12 w φ _ hr hb (lr3 (sv 1 84 253 0 252 m0 m1 (by omega) (by omega) (by omega)) (pv 0 1023 (by omega) (by omega)) hv)
        · exact cls13 w φ _ hr hb (lr3 (sv 1 84 253 0 252 m0 m1 (by omega) (by omega) (by omega)) (pv 1024 1039 (by omega) (by omega)) hv)
        · exact cls14 w φ _ hr hb (lr3 (sv 1 84 253 0 252 m0 m1 (by omega) (by omega) (by omega)) (pv 1040 65535 (by omega) (by omega)) hv)
      · rcases mp with g | ⟨g, g'⟩ | g
        · exact cls15 w φ _ hr hb (lr3 (sv 1 84 253 1 253 m0 m1 (by omega) (by omega) (by omega)) (pv 0 1023 (by omega) (by omega)) hv)
        · exact cls16 w φ _ hr hb (lr3 (sv 1 84 253 1 253 m0 m1 (by omega) (by omega) (by omega)) (pv 1024 1039 (by omega) (by omega)) hv)
        · exact cls17 w φ _ hr hb (lr3 (sv 1 84 253 1 253 m0 m1 (by omega) (by omega) (by omega)) (pv 1040 65535 (by omega) (by omega)) hv)
      · rcases mp with g | ⟨g, g'⟩ | g
        · exact cls18 w φ _ hr hb (lr3 (sv 1 84 253 2 254 m0 m1 (by omega) (by omega) (by omega)) (pv 0 1023 (by omega) (by omega)) hv)
        · exact cls19 w φ _ hr hb (lr3 (sv 1 84 253 2 254 m0 m1 (by omega) (by omega) (by omega)) (pv 1024 1039 (by omega) (by omega)) hv)
        · exact cls20 w φ _ hr hb (lr3 (sv 1 84 253 2 254 m0 m1 (by omega) (by omega) (by omega)) (pv 1040 65535 (by omega) (by omega)) hv)
      · rcases mp with g | ⟨g, g'⟩ | g
        · exact cls21 w φ _ hr hb (lr3 (sv 1 84 253 3 255 m0 m1 (by omega) (by omega) (by omega)) (pv 0 1023 (by omega) (by omega)) hv)
        · exact cls22 w φ _ hr hb (lr3 (sv 1 84 253 3 255 m0 m1 (by omega) (by omega) (by omega)) (pv 1024 1039 (by omega) (by omega)) hv)
        · exact cls23 w φ _ hr hb (lr3 (sv 1 84 253 3 255 m0 m1 (by omega) (by omega) (by omega)) (pv 1040 65535 (by omega) (by omega)) hv)
    · rcases m1 with m1 | m1 | m1 | m1
      · rcases mp with g | ⟨g, g'⟩ | g
        · exact cls24 w φ _ hr hb (lr3 (sv 2 84 254 0 252 m0 m1 (by omega) (by omega) (by omega)) (pv 0 1023 (by omega) (by omega)) hv)
        · exact cls25 w φ _ hr hb (lr3 (sv 2 84 254 0 252 m0 m1 (by omega) (by omega) (by omega)) (pv 1024 1039 (by omega) (by omega)) hv)
        · exact cls26 w φ _ hr hb (lr3 (sv 2 84 254 0 252 m0 m1 (by omega) (by omega) (by omega)) (pv 1040 65535 (by omega) (by omega)) hv)
      · rcases mp with g | ⟨g, g'⟩ | g
        · exact cls27 w φ _ hr hb (lr3 (sv 2 84 254 1 253 m0 m1 (by omega) (by omega) (by omega)) (pv 0 1023 (by omega) (by omega)) hv)
        · exact cls28 w φ _ hr hb (lr3 (sv 2 84 254 1 253 m0 m1 (by omega) (by omega) (by omega)) (pv 1024 1039 (by omega) (by omega)) hv)
        · exact cls29 w φ _ hr hb (lr3 (sv 2 84 254 1 253 m0 m1 (by omega) (by omega) (by omega)) (pv 1040 65535 (by omega) (by omega)) hv)
      · rcases mp with g | ⟨g, g'⟩ | g
        · exact cls30 w φ _ hr hb (lr3 (sv 2 84 254 2 254 m0 m1 (by omega) (by omega) (by omega)) (pv 0 1023 (by omega) (by omega)) hv)
        · exact cls31 w φ _ hr hb (lr3 (sv 2 84 254 2 254 m0 m1 (by omega) (by omega) (by omega)) (pv 1024 1039 (by omega) (by omega)) hv)
        · exact cls32 w φ _ hr hb (lr3 (sv 2 84 254 2 254 m0 m1 (by omega) (by omega) (by omega)) (pv 1040 65535 (by omega) (by omega)) hv)
      · rcases mp with g | ⟨g, g'⟩ | g
        · exact cls33 w φ _ hr hb (lr3 (sv 2 84 254 3 255 m0 m1 (by omega) (by omega) (by omega)) (pv 0 1023 (by omega) (by omega)) hv)
        · exact cls34 w φ _ hr hb (lr3 (sv 2 84 254 3 255 m0 m1 (by omega) (by omega) (by omega)) (pv 1024 1039 (by omega) (by omega)) hv)
        · exact cls35 w φ _ hr hb (lr3 (sv 2 84 254 3 255 m0 m1 (by omega) (by omega) (by omega)) (pv 1040 65535 (by omega) (by omega)) hv)
  · obtain ⟨φ, hr, hb, hv⟩ := hr_in (G := 0) (w := w) (by decide) (Nat.zero_le _) hro (tb := []) (by simp) (isB := false) (ao := ao) (n := n) (c := cap) hnc (len := .var 30 61 9223372036854775807) (by show clampI 61 9223372036854775807 (n : Int) = n; exact clampI_id (by omega) (by omega)) hs'
    rw [← g0] at hr
    exact cls36 w φ _ hr hb (lr3 (VRs.agg (m := [.int .u8 o, .int .u8 c, .int .u8 b2, .int .u8 b3, .int .u8 b4, .int .u8 b5, .int .u8 b6, .int .u8 b7, .int .u8 b8, .int .u8 b9, .int .u8 b10, .int .u8 b11, .bool t]) (.cons (.any _ _) (.cons (.any _ _) (.cons (.any _ _) (.cons (.any _ _) (.cons (.any _ _) (.cons (.any _ _) (.cons (.any _ _) (.cons (.any _ _) (.cons (.any _ _) (.cons (.any _ _) (.cons (.any _ _) (.cons (.any _ _) (.cons (.anyb _) .nil))))))))))))) rfl rfl (by decide)) (.any _ _) hv)
end
end Go.Proofs.YtekgfgignkihmaaGreat
