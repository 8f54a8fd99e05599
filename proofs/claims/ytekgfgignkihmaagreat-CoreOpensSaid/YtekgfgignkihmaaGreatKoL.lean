/-
  The law, for all inputs: its classes are all that there is.
  Conditions: the inputs' kinds.
-/
import Derived.Test.YtekgfgignkihmaaGreatKoE00
import Derived.Test.YtekgfgignkihmaaGreatKoE01
import Derived.Test.YtekgfgignkihmaaGreatKoE02
import Derived.Test.YtekgfgignkihmaaGreatKoE03
import Derived.Test.YtekgfgignkihmaaGreatKoE04
import Derived.Test.YtekgfgignkihmaaGreatKoE05
import Derived.Test.YtekgfgignkihmaaGreatKoE06
import Derived.Test.YtekgfgignkihmaaGreatKoE07
import Derived.Test.YtekgfgignkihmaaGreatKoE08
import Derived.Test.YtekgfgignkihmaaGreatKoE09
import Derived.Test.YtekgfgignkihmaaGreatKoE10
import Derived.Test.YtekgfgignkihmaaGreatKoE11
import Derived.Test.YtekgfgignkihmaaGreatKoE12
import Derived.Test.YtekgfgignkihmaaGreatKoR00
import Derived.Test.YtekgfgignkihmaaGreatKoR01
import Derived.Test.YtekgfgignkihmaaGreatKoR02
import Derived.Test.YtekgfgignkihmaaGreatKoR03
import Derived.Test.YtekgfgignkihmaaGreatKoR04
import Derived.Test.YtekgfgignkihmaaGreatKoR05
import Derived.Test.YtekgfgignkihmaaGreatKoR06
import Derived.Test.YtekgfgignkihmaaGreatKoR07
import Derived.Test.YtekgfgignkihmaaGreatKoR08
import Derived.Test.YtekgfgignkihmaaGreatKoR09
import Derived.Test.YtekgfgignkihmaaGreatKoR10
import Derived.Test.YtekgfgignkihmaaGreatKoR11
import Derived.Test.YtekgfgignkihmaaGreatKoR12
import Derived.Test.YtekgfgignkihmaaGreatKoR13
import Derived.Test.YtekgfgignkihmaaGreatKoR14
import Derived.Test.YtekgfgignkihmaaGreatKoR15
import Derived.Test.YtekgfgignkihmaaGreatKoR16
import Derived.Test.YtekgfgignkihmaaGreatKoR17
import Derived.Test.YtekgfgignkihmaaGreatKoR18
import Derived.Test.YtekgfgignkihmaaGreatKoC
open Go Go.Ab Go.ChangeShapes Go.WideShapes Go.ChangeAt Go.RowKit
namespace Go.Proofs.YtekgfgignkihmaaGreat
noncomputable section
/-- An entry that was run over what was known before it. -/
theorem mk {e : Ent} {m : List Ent} (hm : AllGoodW Tryz.prog kb m) (h : e.ok Tryz.prog (knWith kb 0 m) 0 1000 60 = true) : AllGoodW Tryz.prog kb [e] := .one hm (fuel := 1000) (n := 60) (by rw [g0]; exact h)
abbrev B (e : Ent) : Prop := AllGoodW Tryz.prog kb [e]
theorem app {e : Ent} {l : List Ent} (he : B e) (hl : AllGoodW Tryz.prog kb l) : AllGoodW Tryz.prog kb (e :: l) := he.app hl
theorem nl : AllGoodW Tryz.prog kb [] := .nil
theorem known {m : List Ent} (hm : AllGoodW Tryz.prog kb m) : ∀ V : Val, Inv V → @KnownSim V Tryz.prog (knWith kb 0 m) := by
  have h := knWith_allI keeps kbSim hm
  rwa [g0] at h
/-- The patterns of a loop: from each all is well. -/
theorem wells {m : List Ent} {T : List Tgt} (hm : AllGoodW Tryz.prog kb m) (h : ∀ t ∈ T, ∃ c, chkL Tryz.prog (knWith kb 0 m) 1000 60 4 3 [] T c t = true) : ∀ t ∈ T, Well Inv Tryz.prog 4 3 t := well_of keeps (T := []) (known hm) (fun _ h => absurd h (by simp)) h
theorem none_well : ∀ t ∈ ([] : List Tgt), Well Inv Tryz.prog 4 3 t := fun _ h => absurd h (by simp)
theorem all1 {p : Tgt → Prop} {a : Tgt} (h : p a) : ∀ t ∈ [a], p t := fun t ht => by
  rcases List.mem_cons.mp ht with rfl | ht
  · exact h
  · exact absurd ht (by simp)
theorem allC {p : Tgt → Prop} {a : Tgt} {l : List Tgt} (h : p a) (hl : ∀ t ∈ l, p t) : ∀ t ∈ a :: l, p t := fun t ht => by
  rcases List.mem_cons.mp ht with rfl | ht
  · exact h
  · exact hl t ht
/-- The law answers true for every input of a class, and leaves what was there as it was. -/
def Fine [V : Val] (a : List AV) : Prop := Inv V → ∀ (w : World) (φ : Phi) (x : Array Value), HR Tryz.prog.globals.size φ (hIn2 0 []) w → Bel w φ (hIn2 0 []) w → LR φ a x → Calls Tryz.prog 4 x w fun e w' => e = .returned (.bool true) ∧ Below w.heap.size w w'
theorem fin [V : Val] {m : List Ent} {a : List AV} {T : List Tgt} {c : Cert} (hm : AllGoodW Tryz.prog kb m) (hT : ∀ t ∈ T, Well Inv Tryz.prog 4 a.length t) (h : chkAt Tryz.prog (knWith kb 0 m) 1000 60 4 a.length T [] (.const 0) c [.code []] (enterS Tryz.prog 4 a (hIn2 0 [])) = true) : Fine a :=
  fun hV _ _ _ hr hb ha => calls_of_chk keeps (known hm) hT h hV hr hb ha
theorem gd0 : B e0 := mk nl ok0
theorem gd1 : B e1 := mk (app gd0 (app gdOpen nl)) ok1
theorem gd2 : B e2 := mk nl ok2
theorem gd3 : B e3 := mk nl ok3
theorem gd4 : B e4 := mk nl ok4
theorem gd5 : B e5 := mk (app gd4 nl) ok5
theorem gd6 : B e6 := mk (app gd3 nl) ok6
theorem gd7 : B e7 := mk (app gd3 (app gd5 (app gd6 nl))) ok7
theorem gd8 : B e8 := mk (app gd3 (app gd7 nl)) ok8
theorem gd9 : B e9 := mk nl ok9
theorem gd10 : B e10 := mk (app gd9 nl) ok10
theorem gd11 : B e11 := mk (app gd10 nl) ok11
theorem gd12 : B e12 := mk (app gd3 (app gd11 nl)) ok12
theorem gd2000000 : B e2000000 := mk (app gd1 (app gd2 (app gd3 (app gd8 (app gd12 nl))))) ok2000000
theorem gd14 : B e14 := mk nl ok14
theorem gd15 : B e15 := mk (app gd14 nl) ok15
theorem gd16 : B e16 := mk (app gd5 (app gd14 (app gd15 nl))) ok16
theorem gd17 : B e17 := mk (app gd14 (app gd16 nl)) ok17
theorem gd18 : B e18 := mk (app gd14 nl) ok18
theorem gd19 : B e19 := mk (app gd14 nl) ok19
theorem gd20 : B e20 := mk (app gd14 nl) ok20
theorem gd21 : B e21 := mk (app gd14 nl) ok21
theorem gd22 : B e22 := mk nl ok22
theorem gd23 : B e23 := mk (app gd22 nl) ok23
theorem gd24 : B e24 := mk (app gd23 nl) ok24
theorem gd25 : B e25 := mk (app gd14 nl) ok25
theorem gd26 : B e26 := mk (app gd14 nl) ok26
theorem gd27 : B e27 := mk (app gd14 nl) ok27
theorem gd28 : B e28 := mk (app gd23 nl) ok28
theorem gd29 : B e29 := mk (app gd14 nl) ok29
theorem gd30 : B e30 := mk (app gd5 (app gd14 (app gd15 nl))) ok30
theorem gd31 : B e31 := mk (app gd14 (app gd30 nl)) ok31
theorem gd32 : B e32 := mk (app gd14 nl) ok32
theorem gd33 : B e33 := mk (app gd14 nl) ok33
theorem gd34 : B e34 := mk (app gd23 nl) ok34
theorem gd35 : B e35 := mk (app gd14 nl) ok35
theorem gd36 : B e36 := mk (app gd14 nl) ok36
theorem gd37 : B e37 := mk (app gd23 nl) ok37
theorem gd38 : B e38 := mk (app gd5 (app gd14 (app gd15 nl))) ok38
theorem gd39 : B e39 := mk (app gd14 (app gd38 nl)) ok39
theorem gd40 : B e40 := mk (app gd14 nl) ok40
theorem gd41 : B e41 := mk (app gd14 nl) ok41
theorem gd42 : B e42 := mk (app gd23 nl) ok42
theorem gd43 : B e43 := mk (app gd14 nl) ok43
theorem gd44 : B e44 := mk (app gd14 nl) ok44
theorem gd45 : B e45 := mk (app gd23 nl) ok45
theorem gd46 : B e46 := mk (app gd5 (app gd14 (app gd15 nl))) ok46
theorem gd47 : B e47 := mk (app gd14 (app gd46 nl)) ok47
theorem gd48 : B e48 := mk (app gd14 nl) ok48
theorem gd49 : B e49 := mk (app gd14 nl) ok49
theorem gd50 : B e50 := mk (app gd23 nl) ok50
theorem gd51 : B e51 := mk (app gd14 nl) ok51
theorem gd52 : B e52 := mk (app gd14 nl) ok52
theorem gd53 : B e53 := mk (app gd23 nl) ok53
theorem gd54 : B e54 := mk nl ok54
theorem gd55 : B e55 := mk (app gd54 nl) ok55
theorem gd56 : B e56 := mk (app gd5 (app gd54 (app gd55 nl))) ok56
theorem gd57 : B e57 := mk (app gd54 (app gd56 nl)) ok57
theorem gd58 : B e58 := mk (app gd54 nl) ok58
theorem gd59 : B e59 := mk (app gd54 nl) ok59
theorem gd60 : B e60 := mk (app gd54 nl) ok60
theorem gd61 : B e61 := mk (app gd54 nl) ok61
theorem gd62 : B e62 := mk (app gd23 nl) ok62
theorem gd63 : B e63 := mk (app gd54 nl) ok63
theorem gd64 : B e64 := mk (app gd54 nl) ok64
theorem gd65 : B e65 := mk (app gd54 nl) ok65
theorem gd66 : B e66 := mk (app gd23 nl) ok66
theorem gd67 : B e67 := mk (app gd54 nl) ok67
theorem gd68 : B e68 := mk (app gd5 (app gd54 (app gd55 nl))) ok68
theorem gd69 : B e69 := mk (app gd54 (app gd68 nl)) ok69
theorem gd70 : B e70 := mk (app gd54 nl) ok70
theorem gd71 : B e71 := mk (app gd54 nl) ok71
theorem gd72 : B e72 := mk (app gd23 nl) ok72
theorem gd73 : B e73 := mk (app gd54 nl) ok73
theorem gd74 : B e74 := mk (app gd54 nl) ok74
theorem gd75 : B e75 := mk (app gd23 nl) ok75
theorem gd76 : B e76 := mk (app gd5 (app gd54 (app gd55 nl))) ok76
theorem gd77 : B e77 := mk (app gd54 (app gd76 nl)) ok77
theorem gd78 : B e78 := mk (app gd54 nl) ok78
theorem gd79 : B e79 := mk (app gd54 nl) ok79
theorem gd80 : B e80 := mk (app gd23 nl) ok80
theorem gd81 : B e81 := mk (app gd54 nl) ok81
theorem gd82 : B e82 := mk (app gd54 nl) ok82
theorem gd83 : B e83 := mk (app gd23 nl) ok83
theorem gd84 : B e84 := mk (app gd5 (app gd54 (app gd55 nl))) ok84
theorem gd85 : B e85 := mk (app gd54 (app gd84 nl)) ok85
theorem gd86 : B e86 := mk (app gd54 nl) ok86
theorem gd87 : B e87 := mk (app gd54 nl) ok87
theorem gd88 : B e88 := mk (app gd23 nl) ok88
theorem gd89 : B e89 := mk (app gd54 nl) ok89
theorem gd90 : B e90 := mk (app gd54 nl) ok90
theorem gd91 : B e91 := mk (app gd23 nl) ok91
theorem gd92 : B e92 := mk nl ok92
theorem gd93 : B e93 := mk (app gd92 nl) ok93
theorem gd94 : B e94 := mk (app gd5 (app gd92 (app gd93 nl))) ok94
theorem gd95 : B e95 := mk (app gd92 (app gd94 nl)) ok95
theorem gd96 : B e96 := mk (app gd92 nl) ok96
theorem gd97 : B e97 := mk (app gd92 nl) ok97
theorem gd98 : B e98 := mk (app gd92 nl) ok98
theorem gd99 : B e99 := mk (app gd92 nl) ok99
theorem gd100 : B e100 := mk (app gd23 nl) ok100
theorem gd101 : B e101 := mk (app gd92 nl) ok101
theorem gd102 : B e102 := mk (app gd92 nl) ok102
theorem gd103 : B e103 := mk (app gd92 nl) ok103
theorem gd104 : B e104 := mk (app gd23 nl) ok104
theorem gd105 : B e105 := mk (app gd92 nl) ok105
theorem gd106 : B e106 := mk (app gd5 (app gd92 (app gd93 nl))) ok106
theorem gd107 : B e107 := mk (app gd92 (app gd106 nl)) ok107
theorem gd108 : B e108 := mk (app gd92 nl) ok108
theorem gd109 : B e109 := mk (app gd92 nl) ok109
theorem gd110 : B e110 := mk (app gd23 nl) ok110
theorem gd111 : B e111 := mk (app gd92 nl) ok111
theorem gd112 : B e112 := mk (app gd92 nl) ok112
theorem gd113 : B e113 := mk (app gd23 nl) ok113
theorem gd114 : B e114 := mk (app gd5 (app gd92 (app gd93 nl))) ok114
theorem gd115 : B e115 := mk (app gd92 (app gd114 nl)) ok115
theorem gd116 : B e116 := mk (app gd92 nl) ok116
theorem gd117 : B e117 := mk (app gd92 nl) ok117
theorem gd118 : B e118 := mk (app gd23 nl) ok118
theorem gd119 : B e119 := mk (app gd92 nl) ok119
theorem gd120 : B e120 := mk (app gd92 nl) ok120
theorem gd121 : B e121 := mk (app gd23 nl) ok121
theorem gd122 : B e122 := mk (app gd5 (app gd92 (app gd93 nl))) ok122
theorem gd123 : B e123 := mk (app gd92 (app gd122 nl)) ok123
theorem gd124 : B e124 := mk (app gd92 nl) ok124
theorem gd125 : B e125 := mk (app gd92 nl) ok125
theorem gd126 : B e126 := mk (app gd23 nl) ok126
theorem gd127 : B e127 := mk (app gd92 nl) ok127
theorem gd128 : B e128 := mk (app gd92 nl) ok128
theorem gd129 : B e129 := mk (app gd23 nl) ok129
theorem w0 : ∀ t ∈ T0, Well Inv Tryz.prog 4 3 t := wells (app gd19 (app gd20 (app gd21 (app gd24 (app gd25 (app gd26 (app gd27 (app gd28 nl)))))))) (allC ⟨_, l0_0_0⟩ (allC ⟨_, l0_0_1⟩ (all1 ⟨_, l0_0_2⟩)))
theorem cls0 [Val] : Fine a0 := fin (app gd1 (app gd14 (app gd17 (app gd18 (app gd29 (app gd2000000 nl)))))) w0 s0
theorem w1 : ∀ t ∈ T1, Well Inv Tryz.prog 4 3 t := wells (app gd21 (app gd27 (app gd32 (app gd33 (app gd34 (app gd35 (app gd36 (app gd37 nl)))))))) (allC ⟨_, l1_0_0⟩ (allC ⟨_, l1_0_1⟩ (all1 ⟨_, l1_0_2⟩)))
theorem cls1 [Val] : Fine a1 := fin (app gd1 (app gd14 (app gd18 (app gd29 (app gd31 (app gd2000000 nl)))))) w1 s1
theorem w2 : ∀ t ∈ T2, Well Inv Tryz.prog 4 3 t := wells (app gd21 (app gd27 (app gd40 (app gd41 (app gd42 (app gd43 (app gd44 (app gd45 nl)))))))) (allC ⟨_, l2_0_0⟩ (allC ⟨_, l2_0_1⟩ (all1 ⟨_, l2_0_2⟩)))
theorem cls2 [Val] : Fine a2 := fin (app gd1 (app gd14 (app gd18 (app gd29 (app gd39 (app gd2000000 nl)))))) w2 s2
theorem w3 : ∀ t ∈ T3, Well Inv Tryz.prog 4 3 t := wells (app gd21 (app gd27 (app gd48 (app gd49 (app gd50 (app gd51 (app gd52 (app gd53 nl)))))))) (allC ⟨_, l3_0_0⟩ (allC ⟨_, l3_0_1⟩ (all1 ⟨_, l3_0_2⟩)))
theorem cls3 [Val] : Fine a3 := fin (app gd1 (app gd14 (app gd18 (app gd29 (app gd47 (app gd2000000 nl)))))) w3 s3
theorem w4 : ∀ t ∈ T4, Well Inv Tryz.prog 4 3 t := wells (app gd59 (app gd60 (app gd61 (app gd62 (app gd63 (app gd64 (app gd65 (app gd66 nl)))))))) (allC ⟨_, l4_0_0⟩ (allC ⟨_, l4_0_1⟩ (all1 ⟨_, l4_0_2⟩)))
theorem cls4 [Val] : Fine a4 := fin (app gd1 (app gd54 (app gd57 (app gd58 (app gd67 (app gd2000000 nl)))))) w4 s4
theorem w5 : ∀ t ∈ T5, Well Inv Tryz.prog 4 3 t := wells (app gd61 (app gd65 (app gd70 (app gd71 (app gd72 (app gd73 (app gd74 (app gd75 nl)))))))) (allC ⟨_, l5_0_0⟩ (allC ⟨_, l5_0_1⟩ (all1 ⟨_, l5_0_2⟩)))
theorem cls5 [Val] : Fine a5 := fin (app gd1 (app gd54 (app gd58 (app gd67 (app gd69 (app gd2000000 nl)))))) w5 s5
theorem w6 : ∀ t ∈ T6, Well Inv Tryz.prog 4 3 t := wells (app gd61 (app gd65 (app gd78 (app gd79 (app gd80 (app gd81 (app gd82 (app gd83 nl)))))))) (allC ⟨_, l6_0_0⟩ (allC ⟨_, l6_0_1⟩ (all1 ⟨_, l6_0_2⟩)))
theorem cls6 [Val] : Fine a6 := fin (app gd1 (app gd54 (app gd58 (app gd67 (app gd77 (app gd2000000 nl)))))) w6 s6
theorem w7 : ∀ t ∈ T7, Well Inv Tryz.prog 4 3 t := wells (app gd61 (app gd65 (app gd86 (app gd87 (app gd88 (app gd89 (app gd90 (app gd91 nl)))))))) (allC ⟨_, l7_0_0⟩ (allC ⟨_, l7_0_1⟩ (all1 ⟨_, l7_0_2⟩)))
theorem cls7 [Val] : Fine a7 := fin (app gd1 (app gd54 (app gd58 (app gd67 (app gd85 (app gd2000000 nl)))))) w7 s7
theorem w8 : ∀ t ∈ T8, Well Inv Tryz.prog 4 3 t := wells (app gd97 (app gd98 (app gd99 (app gd100 (app gd101 (app gd102 (app gd103 (app gd104 nl)))))))) (allC ⟨_, l8_0_0⟩ (allC ⟨_, l8_0_1⟩ (all1 ⟨_, l8_0_2⟩)))
theorem cls8 [Val] : Fine a8 := fin (app gd1 (app gd92 (app gd95 (app gd96 (app gd105 (app gd2000000 nl)))))) w8 s8
theorem w9 : ∀ t ∈ T9, Well Inv Tryz.prog 4 3 t := wells (app gd99 (app gd103 (app gd108 (app gd109 (app gd110 (app gd111 (app gd112 (app gd113 nl)))))))) (allC ⟨_, l9_0_0⟩ (allC ⟨_, l9_0_1⟩ (all1 ⟨_, l9_0_2⟩)))
theorem cls9 [Val] : Fine a9 := fin (app gd1 (app gd92 (app gd96 (app gd105 (app gd107 (app gd2000000 nl)))))) w9 s9
theorem w10 : ∀ t ∈ T10, Well Inv Tryz.prog 4 3 t := wells (app gd99 (app gd103 (app gd116 (app gd117 (app gd118 (app gd119 (app gd120 (app gd121 nl)))))))) (allC ⟨_, l10_0_0⟩ (allC ⟨_, l10_0_1⟩ (all1 ⟨_, l10_0_2⟩)))
theorem cls10 [Val] : Fine a10 := fin (app gd1 (app gd92 (app gd96 (app gd105 (app gd115 (app gd2000000 nl)))))) w10 s10
theorem w11 : ∀ t ∈ T11, Well Inv Tryz.prog 4 3 t := wells (app gd99 (app gd103 (app gd124 (app gd125 (app gd126 (app gd127 (app gd128 (app gd129 nl)))))))) (allC ⟨_, l11_0_0⟩ (allC ⟨_, l11_0_1⟩ (all1 ⟨_, l11_0_2⟩)))
theorem cls11 [Val] : Fine a11 := fin (app gd1 (app gd92 (app gd96 (app gd105 (app gd123 (app gd2000000 nl)))))) w11 s11
theorem cls12 [Val] : Fine a12 := fin (app gd2000000 nl) none_well s12
theorem cls13 [Val] : Fine a13 := fin (app gd2000000 nl) none_well s13
def sig0 (Y Z : Nat → Int) (i : Nat) : Int := if VB2 ≤ i then Z (i - VB2) else Y (i - 1000)
def rowS (Y Z : Nat → Int) : Nat → Int
  | 0 => nx 0 true 2
  | j + 1 => nx (rowS Y Z j) (decide (clampI 0 1 (sig0 Y Z (VB + j)) = 1)) (clampI 0 255 (sig0 Y Z (VB2 + j)))
theorem rowS_in (Y Z : Nat → Int) : ∀ j, 0 ≤ rowS Y Z j ∧ rowS Y Z j ≤ 8
  | 0 => show 0 ≤ nx 0 true 2 ∧ nx 0 true 2 ≤ 8 from by decide
  | j + 1 => nx_in _ _ (rowS_in Y Z j).1 (rowS_in Y Z j).2
abbrev vals (o c b2 b3 b4 b5 b6 b7 b8 b9 b10 b11 : Int) (n m : Nat) (Y Z : Nat → Int) : Val := ⟨fun i => if 36893488147419103232 ≤ i then rowS Y Z (i - 36893488147419103232) else if 1000 ≤ i then sig0 Y Z i else match i with
  | 2 => b2
  | 3 => b3
  | 4 => b4
  | 5 => b5
  | 6 => b6
  | 7 => b7
  | 8 => b8
  | 9 => b9
  | 10 => b10
  | 11 => b11
  | 20 => o / 3
  | 21 => c / 4
  | 30 => n
  | 31 => m
  | _ => 0⟩

theorem shape_vr [Val] {φ : Phi} {tv : AV} {t : Bool} (ht : VR φ tv (.bool t)) {o c b2 b3 b4 b5 b6 b7 b8 b9 b10 b11 : Int} (lo : 0 ≤ o) (ho : o ≤ 255) (lc : 0 ≤ c) (hc : c ≤ 255) (lb2 : 0 ≤ b2) (hb2 : b2 ≤ 255) (lb3 : 0 ≤ b3) (hb3 : b3 ≤ 255) (lb4 : 0 ≤ b4) (hb4 : b4 ≤ 255) (lb5 : 0 ≤ b5) (hb5 : b5 ≤ 255) (lb6 : 0 ≤ b6) (hb6 : b6 ≤ 255) (lb7 : 0 ≤ b7) (hb7 : b7 ≤ 255) (lb8 : 0 ≤ b8) (hb8 : b8 ≤ 255) (lb9 : 0 ≤ b9) (hb9 : b9 ≤ 255) (lb10 : 0 ≤ b10) (hb10 : b10 ≤ 255) (lb11 : 0 ≤ b11) (hb11 : b11 ≤ 255) (r0 q0 h0 r1 h1 : Int)
    (e20 : Val.σ 20 = o / 3) (e21 : Val.σ 21 = c / 4) (e2 : Val.σ 2 = b2) (e3 : Val.σ 3 = b3) (e4 : Val.σ 4 = b4) (e5 : Val.σ 5 = b5) (e6 : Val.σ 6 = b6) (e7 : Val.σ 7 = b7) (e8 : Val.σ 8 = b8) (e9 : Val.σ 9 = b9) (e10 : Val.σ 10 = b10) (e11 : Val.σ 11 = b11) (m0 : o % 3 = r0) (m1 : c % 4 = r1) (g0 : o / 3 ≤ q0) (g1 : r0 ≤ o ∧ o ≤ h0) (g2 : r1 ≤ c ∧ c ≤ h1) :
    VR φ (.agg 13 4 .junk (setFrom 4 .e 0 [.sym .u8 r0 h0 (.add (.mul (.const 3) (.var 20 0 q0)) (.const r0)), .sym .u8 r1 h1 (.add (.mul (.const 4) (.var 21 0 63)) (.const r1)),
      .sym .u8 0 255 (.var 2 0 255), .sym .u8 0 255 (.var 3 0 255), .sym .u8 0 255 (.var 4 0 255), .sym .u8 0 255 (.var 5 0 255), .sym .u8 0 255 (.var 6 0 255), .sym .u8 0 255 (.var 7 0 255), .sym .u8 0 255 (.var 8 0 255), .sym .u8 0 255 (.var 9 0 255), .sym .u8 0 255 (.var 10 0 255), .sym .u8 0 255 (.var 11 0 255), tv])) (.agg #[.int .u8 o, .int .u8 c, .int .u8 b2, .int .u8 b3, .int .u8 b4, .int .u8 b5, .int .u8 b6, .int .u8 b7, .int .u8 b8, .int .u8 b9, .int .u8 b10, .int .u8 b11, .bool t]) := by
  refine VRs.agg (m := [.int .u8 o, .int .u8 c, .int .u8 b2, .int .u8 b3, .int .u8 b4, .int .u8 b5, .int .u8 b6, .int .u8 b7, .int .u8 b8, .int .u8 b9, .int .u8 b10, .int .u8 b11, .bool t]) (.cons (.sym ?_ g1.1 g1.2) (.cons (.sym ?_ g2.1 g2.2) (.cons (vr_var 2 e2 lb2 hb2) (.cons (vr_var 3 e3 lb3 hb3) (.cons (vr_var 4 e4 lb4 hb4) (.cons (vr_var 5 e5 lb5 hb5) (.cons (vr_var 6 e6 lb6 hb6) (.cons (vr_var 7 e7 lb7 hb7) (.cons (vr_var 8 e8 lb8 hb8) (.cons (vr_var 9 e9 lb9 hb9) (.cons (vr_var 10 e10 lb10 hb10) (.cons (vr_var 11 e11 lb11 hb11) (.cons ht .nil))))))))))))) rfl rfl (by decide)
  · show 3 * clampI 0 q0 (Val.σ 20) + r0 = o
    rw [e20, clampI_id (by omega) g0]; omega
  · show 4 * clampI 0 63 (Val.σ 21) + r1 = c
    rw [e21, clampI_id (by omega) (by omega)]; omega

theorem lr3 [Val] {φ : Phi} {a b c : AV} {x y z : Value} (h : VR φ a x) (h' : VR φ b y) (h'' : VR φ c z) : LR φ [a, b, c] #[x, y, z] := VRs.lr (m := [x, y, z]) (.cons h (.cons h' (.cons h'' .nil)))

theorem sides_eq {w : World} {ao : Option Addr} {n : Nat} {Y : Nat → Int} [Val] (hz : ∀ j, j < n → Val.σ (VB + j) = Y j) (hs : Holds w ao n fun j v => v = .bool (decide (Y j = 1)) ∧ 0 ≤ Y j ∧ Y j ≤ 1) : Holds w ao n fun j v => v = rawV Val.σ VB true j := by
  rcases hs with h | ⟨b, o, e, h⟩
  · exact .inl h
  · refine .inr ⟨b, o, e, fun j hj => ?_⟩
    obtain ⟨v, h1, h2, h3, h4⟩ := h j hj
    refine ⟨v, h1, ?_⟩
    rw [h2]
    show Value.bool (decide (Y j = 1)) = Value.bool (decide (clampI 0 1 (Val.σ (VB + j)) = 1))
    rw [hz j hj, clampI_id h3 h4]
theorem flags_eq {w : World} {ao : Option Addr} {n : Nat} {Z : Nat → Int} [Val] (hz : ∀ j, j < n → Val.σ (VB2 + j) = Z j) (hs : Holds w ao n fun j v => v = .int .u8 (Z j) ∧ 0 ≤ Z j ∧ Z j ≤ 255) : Holds w ao n fun j v => v = rawV Val.σ VB2 false j := by
  rcases hs with h | ⟨b, o, e, h⟩
  · exact .inl h
  · refine .inr ⟨b, o, e, fun j hj => ?_⟩
    obtain ⟨v, h1, h2, h3, h4⟩ := h j hj
    refine ⟨v, h1, ?_⟩
    rw [h2]
    show Value.int .u8 (Z j) = Value.int .u8 (clampI 0 255 (Val.σ (VB2 + j)))
    rw [hz j hj, clampI_id h3 h4]
theorem law (o c b2 b3 b4 b5 b6 b7 b8 b9 b10 b11 : Int) (t : Bool) (ao ap : Option Addr) (n cap m cap2 : Nat) (Y Z : Nat → Int) (lo : 0 ≤ o) (ho : o ≤ 255) (lc : 0 ≤ c) (hc : c ≤ 255) (lb2 : 0 ≤ b2) (hb2 : b2 ≤ 255) (lb3 : 0 ≤ b3) (hb3 : b3 ≤ 255) (lb4 : 0 ≤ b4) (hb4 : b4 ≤ 255) (lb5 : 0 ≤ b5) (hb5 : b5 ≤ 255) (lb6 : 0 ≤ b6) (hb6 : b6 ≤ 255) (lb7 : 0 ≤ b7) (hb7 : b7 ≤ 255) (lb8 : 0 ≤ b8) (hb8 : b8 ≤ 255) (lb9 : 0 ≤ b9) (hb9 : b9 ≤ 255) (lb10 : 0 ≤ b10) (hb10 : b10 ≤ 255) (lb11 : 0 ≤ b11) (hb11 : b11 ≤ 255) (hnc : n ≤ cap) (hcm : cap ≤ 9223372036854775807) (hmc : m ≤ cap2) (hcm2 : cap2 ≤ 9223372036854775807) (w : World)
    (hs : Holds w ao n fun j v => v = .bool (decide (Y j = 1)) ∧ 0 ≤ Y j ∧ Y j ≤ 1) (ht : Holds w ap m fun j v => v = .int .u8 (Z j) ∧ 0 ≤ Z j ∧ Z j ≤ 255) :
    Calls Tryz.prog 4 #[.agg #[.int .u8 o, .int .u8 c, .int .u8 b2, .int .u8 b3, .int .u8 b4, .int .u8 b5, .int .u8 b6, .int .u8 b7, .int .u8 b8, .int .u8 b9, .int .u8 b10, .int .u8 b11, .bool t], .slice ao n cap, .slice ap m cap2] w fun e w' => e = .returned (.bool true) ∧ Below w.heap.size w w' := by
  letI V : Val := vals o c b2 b3 b4 b5 b6 b7 b8 b9 b10 b11 n m Y Z
  have hlow : ∀ i, 1000 ≤ i → i < 36893488147419103232 → V.σ i = sig0 Y Z i := fun i h1 h2 => by
    show (if 36893488147419103232 ≤ i then rowS Y Z (i - 36893488147419103232) else if 1000 ≤ i then sig0 Y Z i else _) = _
    rw [if_neg (by omega), if_pos h1]
  have hrow : ∀ j, V.σ (36893488147419103232 + j) = rowS Y Z j := fun j => by
    show (if 36893488147419103232 ≤ 36893488147419103232 + j then rowS Y Z (36893488147419103232 + j - 36893488147419103232) else _) = _
    rw [if_pos (by omega), Nat.add_sub_cancel_left]
  have hy : ∀ j, j < n → V.σ (VB + j) = Y j := fun j hj => by
    show V.σ (1000 + j) = Y j
    rw [hlow _ (by omega) (by omega)]
    unfold sig0
    rw [if_neg (by show ¬ 18446744073709551616 ≤ 1000 + j; omega), Nat.add_sub_cancel_left]
  have hz : ∀ j, j < m → V.σ (VB2 + j) = Z j := fun j hj => by
    rw [hlow _ (by show 1000 ≤ 18446744073709551616 + j; omega) (by show 18446744073709551616 + j < 36893488147419103232; omega)]
    unfold sig0
    rw [if_pos (by omega), Nat.add_sub_cancel_left]
  have hV : Inv V := by
    refine ⟨?_, fun j hj => ?_⟩
    · have := hrow 0
      rw [Nat.add_zero] at this
      rw [this]
      exact clampI_id (rowS_in Y Z 0).1 (rowS_in Y Z 0).2
    · have h1 := rowS_in Y Z j
      have h2 := rowS_in Y Z (j + 1)
      rw [hrow, hrow, clampI_id h1.1 h1.2, clampI_id h2.1 h2.2, hlow _ (by show 1000 ≤ 1000 + j; omega) (by show 1000 + j < 36893488147419103232; omega), hlow _ (by show 1000 ≤ 18446744073709551616 + j; omega) (by show 18446744073709551616 + j < 36893488147419103232; omega)]
      rfl
  have hs' := sides_eq hy hs
  have ht' := flags_eq hz ht
  have hro : Ro0 0 w := fun _ _ _ _ h => by simp [roTab] at h
  have start : ∀ l₁ h₁ l₂ h₂ : Int, l₁ ≤ n → (n : Int) ≤ h₁ → l₂ ≤ m → (m : Int) ≤ h₂ → ∃ φ, HR Tryz.prog.globals.size φ (hIn2 0 []) w ∧ Bel w φ (hIn2 0 []) w ∧ VR φ (.vsl 0 (.const 0) (.var 30 l₁ h₁)) (.slice ao n cap) ∧ VR φ (.vsl 1 (.const 0) (.var 31 l₂ h₂)) (.slice ap m cap2) := by
    intro l₁ h₁ l₂ h₂ g1 g2 g3 g4
    have h := hr_in2 (G := 0) (w := w) (by decide) (Nat.zero_le _) hro (tb := []) (by simp) hnc hmc (len := .var 30 l₁ h₁) (len2 := .var 31 l₂ h₂) (clampI_id g1 g2) (clampI_id g3 g4) hs' ht'
    rwa [← g0] at h
  rcases Nat.lt_or_ge n 61 with hn | hn
  · rcases Nat.lt_or_ge m 61 with hm | hm
    · obtain ⟨φ, hr, hb, hv, hv2⟩ := start 0 60 0 60 (by omega) (by omega) (by omega) (by omega)
      have sv := fun (r0 q0 h0 r1 h1 : Int) => @shape_vr V φ .anyb t (@VR.anyb V _ _) o c b2 b3 b4 b5 b6 b7 b8 b9 b10 b11 lo ho lc hc lb2 hb2 lb3 hb3 lb4 hb4 lb5 hb5 lb6 hb6 lb7 hb7 lb8 hb8 lb9 hb9 lb10 hb10 lb11 hb11 r0 q0 h0 r1 h1 rfl rfl rfl rfl rfl rfl rfl rfl rfl rfl rfl rfl
      have m0 : o % 3 = 0 ∨ o % 3 = 1 ∨ o % 3 = 2 := by omega
      have m1 : c % 4 = 0 ∨ c % 4 = 1 ∨ c % 4 = 2 ∨ c % 4 = 3 := by omega
      rcases m0 with m0 | m0 | m0
      · rcases m1 with m1 | m1 | m1 | m1
        · exact cls0 hV w φ _ hr hb (lr3 (sv 0 85 255 0 252 m0 m1 (by omega) (by omega) (by omega)) hv hv2)
        · exact cls1 hV w φ _ hr hb (lr3 (sv 0 85 255 1 253 m0 m1 (by omega) (by omega) (by omega)) hv hv2)
        · exact cls2 hV w φ _ hr hb (lr3 (sv 0 85 255 2 254 m0 m1 (by omega) (by omega) (by omega)) hv hv2)
        · exact cls3 hV w φ _ hr hb (lr3 (sv 0 85 255 3 255 m0 m1 (by omega) (by omega) (by omega)) hv hv2)
      · rcases m1 with m1 | m1 | m1 | m1
        · exact cls4 hV w φ _ hr hb (lr3 (sv 1 84 253 0 252 m0 m1 (by omega) (by omega) (by omega)) hv hv2)
        · exact cls5 hV w φ _ hr hb (lr3 (sv 1 84 253 1 253 m0 m1 (by omega) (by omega) (by omega)) hv hv2)
        · exact cls6 hV w φ _ hr hb (lr3 (sv 1 84 253 2 254 m0 m1 (by omega) (by omega) (by omega)) hv hv2)
        · exact cls7 hV w φ _ hr hb (lr3 (sv 1 84 253 3 255 m0 m1 (by omega) (by omega) (by omega)) hv hv2)
      · rcases m1 with m1 | m1 | m1 | m1
        · exact cls8 hV w φ _ hr hb (lr3 (sv 2 84 254 0 252 m0 m1 (by omega) (by omega) (by omega)) hv hv2)
        · exact cls9 hV w φ _ hr hb (lr3 (sv 2 84 254 1 253 m0 m1 (by omega) (by omega) (by omega)) hv hv2)
        · exact cls10 hV w φ _ hr hb (lr3 (sv 2 84 254 2 254 m0 m1 (by omega) (by omega) (by omega)) hv hv2)
        · exact cls11 hV w φ _ hr hb (lr3 (sv 2 84 254 3 255 m0 m1 (by omega) (by omega) (by omega)) hv hv2)
    · obtain ⟨φ, hr, hb, hv, hv2⟩ := start 0 60 61 9223372036854775807 (by omega) (by omega) (by omega) (by omega)
      exact cls13 hV w φ _ hr hb (lr3 (VRs.agg (m := [.int .u8 o, .int .u8 c, .int .u8 b2, .int .u8 b3, .int .u8 b4, .int .u8 b5, .int .u8 b6, .int .u8 b7, .int .u8 b8, .int .u8 b9, .int .u8 b10, .int .u8 b11, .bool t]) (.cons (.any _ _) (.cons (.any _ _) (.cons (.any _ _) (.cons (.any _ _) (.cons (.any _ _) (.cons (.any _ _) (.cons (.any _ _) (.cons (.any _ _) (.cons (.any _ _) (.cons (.any _ _) (.cons (.any _ _) (.cons (.any _ _) (.cons (.anyb _) .nil))))))))))))) rfl rfl (by decide)) hv hv2)
  · obtain ⟨φ, hr, hb, hv, hv2⟩ := start 61 9223372036854775807 0 9223372036854775807 (by omega) (by omega) (by omega) (by omega)
    exact cls12 hV w φ _ hr hb (lr3 (VRs.agg (m := [.int .u8 o, .int .u8 c, .int .u8 b2, .int .u8 b3, .int .u8 b4, .int .u8 b5, .int .u8 b6, .int .u8 b7, .int .u8 b8, .int .u8 b9, .int .u8 b10, .int .u8 b11, .bool t]) (.cons (.any _ _) (.cons (.any _ _) (.cons (.any _ _) (.cons (.any _ _) (.cons (.any _ _) (.cons (.any _ _) (.cons (.any _ _) (.cons (.any _ _) (.cons (.any _ _) (.cons (.any _ _) (.cons (.any _ _) (.cons (.any _ _) (.cons (.anyb _) .nil))))))))))))) rfl rfl (by decide)) hv hv2)
end
end Go.Proofs.YtekgfgignkihmaaGreat
