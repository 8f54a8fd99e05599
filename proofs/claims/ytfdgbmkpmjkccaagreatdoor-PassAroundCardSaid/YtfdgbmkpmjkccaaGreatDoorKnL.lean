/-
  The law, for all inputs: its classes are all that there is.
  Conditions: the inputs' kinds.
-/
import Derived.Test.YtfdgbmkpmjkccaaGreatDoorKnE00
import Derived.Test.YtfdgbmkpmjkccaaGreatDoorKnE01
import Derived.Test.YtfdgbmkpmjkccaaGreatDoorKnE02
import Derived.Test.YtfdgbmkpmjkccaaGreatDoorKnE03
import Derived.Test.YtfdgbmkpmjkccaaGreatDoorKnE04
import Derived.Test.YtfdgbmkpmjkccaaGreatDoorKnE05
import Derived.Test.YtfdgbmkpmjkccaaGreatDoorKnE06
import Derived.Test.YtfdgbmkpmjkccaaGreatDoorKnE07
import Derived.Test.YtfdgbmkpmjkccaaGreatDoorKnE08
import Derived.Test.YtfdgbmkpmjkccaaGreatDoorKnE09
import Derived.Test.YtfdgbmkpmjkccaaGreatDoorKnE10
import Derived.Test.YtfdgbmkpmjkccaaGreatDoorKnE11
import Derived.Test.YtfdgbmkpmjkccaaGreatDoorKnE12
import Derived.Test.YtfdgbmkpmjkccaaGreatDoorKnE13
import Derived.Test.YtfdgbmkpmjkccaaGreatDoorKnE14
import Derived.Test.YtfdgbmkpmjkccaaGreatDoorKnE15
import Derived.Test.YtfdgbmkpmjkccaaGreatDoorKnE16
import Derived.Test.YtfdgbmkpmjkccaaGreatDoorKnE17
import Derived.Test.YtfdgbmkpmjkccaaGreatDoorKnE18
import Derived.Test.YtfdgbmkpmjkccaaGreatDoorKnE19
import Derived.Test.YtfdgbmkpmjkccaaGreatDoorKnE20
import Derived.Test.YtfdgbmkpmjkccaaGreatDoorKnE21
import Derived.Test.YtfdgbmkpmjkccaaGreatDoorKnE22
import Derived.Test.YtfdgbmkpmjkccaaGreatDoorKnE23
import Derived.Test.YtfdgbmkpmjkccaaGreatDoorKnE24
import Derived.Test.YtfdgbmkpmjkccaaGreatDoorKnE25
import Derived.Test.YtfdgbmkpmjkccaaGreatDoorKnE26
import Derived.Test.YtfdgbmkpmjkccaaGreatDoorKnE27
import Derived.Test.YtfdgbmkpmjkccaaGreatDoorKnE28
import Derived.Test.YtfdgbmkpmjkccaaGreatDoorKnR00
import Derived.Test.YtfdgbmkpmjkccaaGreatDoorKnR01
import Derived.Test.YtfdgbmkpmjkccaaGreatDoorKnR02
import Derived.Test.YtfdgbmkpmjkccaaGreatDoorKnR03
import Derived.Test.YtfdgbmkpmjkccaaGreatDoorKnR04
import Derived.Test.YtfdgbmkpmjkccaaGreatDoorKnR05
import Derived.Test.YtfdgbmkpmjkccaaGreatDoorKnR06
import Derived.Test.YtfdgbmkpmjkccaaGreatDoorKnR07
import Derived.Test.YtfdgbmkpmjkccaaGreatDoorKnC
open Go Go.Ab Go.ChangeShapes Go.WideShapes Go.ChangeAt Go.RowKit
namespace Go.Proofs.YtfdgbmkpmjkccaaGreatDoor
noncomputable section
/-- An entry that was run over what was known before it. -/
theorem mk {e : Ent} {m : List Ent} (hm : AllGoodF Tryz.prog kb m) (h : e.ok Tryz.prog (knWith kb 6 m) 6 1000 60 = true) : AllGoodF Tryz.prog kb [e] := .one hm (fuel := 1000) (n := 60) (by rw [g0]; exact h)
theorem mkF {e : Ent} {m : List Ent} {x : FCert} (hm : AllGoodF Tryz.prog kb m) (h : e.okF Tryz.prog (knWith kb 6 m) 6 1000 60 x = true) : AllGoodF Tryz.prog kb [e] := .oneF hm (fuel := 1000) (n := 60) (x := x) (by rw [g0]; exact h)
abbrev B (e : Ent) : Prop := AllGoodF Tryz.prog kb [e]
theorem app {e : Ent} {l : List Ent} (he : B e) (hl : AllGoodF Tryz.prog kb l) : AllGoodF Tryz.prog kb (e :: l) := he.app hl
theorem nl : AllGoodF Tryz.prog kb [] := .nil
theorem known {m : List Ent} (hm : AllGoodF Tryz.prog kb m) : ∀ V : Val, Inv V → @KnownSim V Tryz.prog (knWith kb 6 m) := by
  have h := knWith_allF keeps kbSim hm
  rwa [g0] at h
/-- The patterns of a loop: from each all is well. -/
theorem wells {m : List Ent} {T : List Tgt} (hm : AllGoodF Tryz.prog kb m) (h : ∀ t ∈ T, ∃ c, chkL Tryz.prog (knWith kb 6 m) 1000 60 3 3 [] T c t = true) : ∀ t ∈ T, Well Inv Tryz.prog 3 3 t := well_of keeps (T := []) (known hm) (fun _ h => absurd h (by simp)) h
theorem none_well : ∀ t ∈ ([] : List Tgt), Well Inv Tryz.prog 3 3 t := fun _ h => absurd h (by simp)
theorem all1 {p : Tgt → Prop} {a : Tgt} (h : p a) : ∀ t ∈ [a], p t := fun t ht => by
  rcases List.mem_cons.mp ht with rfl | ht
  · exact h
  · exact absurd ht (by simp)
theorem allC {p : Tgt → Prop} {a : Tgt} {l : List Tgt} (h : p a) (hl : ∀ t ∈ l, p t) : ∀ t ∈ a :: l, p t := fun t ht => by
  rcases List.mem_cons.mp ht with rfl | ht
  · exact h
  · exact hl t ht
/-- The law answers true for every input of a class, and leaves what was there as it was. -/
def Fine [V : Val] (h : H) (a : List AV) : Prop := Inv V → ∀ (w : World) (φ : Phi) (x : Array Value), HR Tryz.prog.globals.size φ h w → Bel w φ h w → LR φ a x → Calls Tryz.prog 3 x w fun e w' => e = .returned (.bool true) ∧ Below w.heap.size w w'
theorem fin [V : Val] {m : List Ent} {h0 : H} {a : List AV} {T : List Tgt} {c : Cert} (hm : AllGoodF Tryz.prog kb m) (hT : ∀ t ∈ T, Well Inv Tryz.prog 3 a.length t) (h : chkAt Tryz.prog (knWith kb 6 m) 1000 60 3 a.length T [] (.const 0) c [.code []] (enterS Tryz.prog 3 a h0) = true) : Fine h0 a :=
  fun hV _ _ _ hr hb ha => calls_of_chk keeps (known hm) hT h hV hr hb ha
theorem p1 {e0 : Ent} (h0 : B e0) : AllGoodF Tryz.prog kb [e0] := (app h0 nl)
theorem p2 {e0 e1 : Ent} (h0 : B e0) (h1 : B e1) : AllGoodF Tryz.prog kb [e0, e1] := (app h0 (app h1 nl))
theorem p3 {e0 e1 e2 : Ent} (h0 : B e0) (h1 : B e1) (h2 : B e2) : AllGoodF Tryz.prog kb [e0, e1, e2] := (app h0 (app h1 (app h2 nl)))
theorem p4 {e0 e1 e2 e3 : Ent} (h0 : B e0) (h1 : B e1) (h2 : B e2) (h3 : B e3) : AllGoodF Tryz.prog kb [e0, e1, e2, e3] := (app h0 (app h1 (app h2 (app h3 nl))))
theorem p7 {e0 e1 e2 e3 e4 e5 e6 : Ent} (h0 : B e0) (h1 : B e1) (h2 : B e2) (h3 : B e3) (h4 : B e4) (h5 : B e5) (h6 : B e6) : AllGoodF Tryz.prog kb [e0, e1, e2, e3, e4, e5, e6] := (app h0 (app h1 (app h2 (app h3 (app h4 (app h5 (app h6 nl)))))))
theorem p8 {e0 e1 e2 e3 e4 e5 e6 e7 : Ent} (h0 : B e0) (h1 : B e1) (h2 : B e2) (h3 : B e3) (h4 : B e4) (h5 : B e5) (h6 : B e6) (h7 : B e7) : AllGoodF Tryz.prog kb [e0, e1, e2, e3, e4, e5, e6, e7] := (app h0 (app h1 (app h2 (app h3 (app h4 (app h5 (app h6 (app h7 nl))))))))
theorem p9 {e0 e1 e2 e3 e4 e5 e6 e7 e8 : Ent} (h0 : B e0) (h1 : B e1) (h2 : B e2) (h3 : B e3) (h4 : B e4) (h5 : B e5) (h6 : B e6) (h7 : B e7) (h8 : B e8) : AllGoodF Tryz.prog kb [e0, e1, e2, e3, e4, e5, e6, e7, e8] := (app h0 (app h1 (app h2 (app h3 (app h4 (app h5 (app h6 (app h7 (app h8 nl)))))))))
theorem p10 {e0 e1 e2 e3 e4 e5 e6 e7 e8 e9 : Ent} (h0 : B e0) (h1 : B e1) (h2 : B e2) (h3 : B e3) (h4 : B e4) (h5 : B e5) (h6 : B e6) (h7 : B e7) (h8 : B e8) (h9 : B e9) : AllGoodF Tryz.prog kb [e0, e1, e2, e3, e4, e5, e6, e7, e8, e9] := (app h0 (app h1 (app h2 (app h3 (app h4 (app h5 (app h6 (app h7 (app h8 (app h9 nl))))))))))
theorem p14 {e0 e1 e2 e3 e4 e5 e6 e7 e8 e9 e10 e11 e12 e13 : Ent} (h0 : B e0) (h1 : B e1) (h2 : B e2) (h3 : B e3) (h4 : B e4) (h5 : B e5) (h6 : B e6) (h7 : B e7) (h8 : B e8) (h9 : B e9) (h10 : B e10) (h11 : B e11) (h12 : B e12) (h13 : B e13) : AllGoodF Tryz.prog kb [e0, e1, e2, e3, e4, e5, e6, e7, e8, e9, e10, e11, e12, e13] := (app h0 (app h1 (app h2 (app h3 (app h4 (app h5 (app h6 (app h7 (app h8 (app h9 (app h10 (app h11 (app h12 (app h13 nl))))))))))))))
theorem p15 {e0 e1 e2 e3 e4 e5 e6 e7 e8 e9 e10 e11 e12 e13 e14 : Ent} (h0 : B e0) (h1 : B e1) (h2 : B e2) (h3 : B e3) (h4 : B e4) (h5 : B e5) (h6 : B e6) (h7 : B e7) (h8 : B e8) (h9 : B e9) (h10 : B e10) (h11 : B e11) (h12 : B e12) (h13 : B e13) (h14 : B e14) : AllGoodF Tryz.prog kb [e0, e1, e2, e3, e4, e5, e6, e7, e8, e9, e10, e11, e12, e13, e14] := (app h0 (app h1 (app h2 (app h3 (app h4 (app h5 (app h6 (app h7 (app h8 (app h9 (app h10 (app h11 (app h12 (app h13 (app h14 nl)))))))))))))))
theorem p16 {e0 e1 e2 e3 e4 e5 e6 e7 e8 e9 e10 e11 e12 e13 e14 e15 : Ent} (h0 : B e0) (h1 : B e1) (h2 : B e2) (h3 : B e3) (h4 : B e4) (h5 : B e5) (h6 : B e6) (h7 : B e7) (h8 : B e8) (h9 : B e9) (h10 : B e10) (h11 : B e11) (h12 : B e12) (h13 : B e13) (h14 : B e14) (h15 : B e15) : AllGoodF Tryz.prog kb [e0, e1, e2, e3, e4, e5, e6, e7, e8, e9, e10, e11, e12, e13, e14, e15] := (app h0 (app h1 (app h2 (app h3 (app h4 (app h5 (app h6 (app h7 (app h8 (app h9 (app h10 (app h11 (app h12 (app h13 (app h14 (app h15 nl))))))))))))))))
theorem p21 {e0 e1 e2 e3 e4 e5 e6 e7 e8 e9 e10 e11 e12 e13 e14 e15 e16 e17 e18 e19 e20 : Ent} (h0 : B e0) (h1 : B e1) (h2 : B e2) (h3 : B e3) (h4 : B e4) (h5 : B e5) (h6 : B e6) (h7 : B e7) (h8 : B e8) (h9 : B e9) (h10 : B e10) (h11 : B e11) (h12 : B e12) (h13 : B e13) (h14 : B e14) (h15 : B e15) (h16 : B e16) (h17 : B e17) (h18 : B e18) (h19 : B e19) (h20 : B e20) : AllGoodF Tryz.prog kb [e0, e1, e2, e3, e4, e5, e6, e7, e8, e9, e10, e11, e12, e13, e14, e15, e16, e17, e18, e19, e20] := (app h0 (app h1 (app h2 (app h3 (app h4 (app h5 (app h6 (app h7 (app h8 (app h9 (app h10 (app h11 (app h12 (app h13 (app h14 (app h15 (app h16 (app h17 (app h18 (app h19 (app h20 nl)))))))))))))))))))))
theorem p22 {e0 e1 e2 e3 e4 e5 e6 e7 e8 e9 e10 e11 e12 e13 e14 e15 e16 e17 e18 e19 e20 e21 : Ent} (h0 : B e0) (h1 : B e1) (h2 : B e2) (h3 : B e3) (h4 : B e4) (h5 : B e5) (h6 : B e6) (h7 : B e7) (h8 : B e8) (h9 : B e9) (h10 : B e10) (h11 : B e11) (h12 : B e12) (h13 : B e13) (h14 : B e14) (h15 : B e15) (h16 : B e16) (h17 : B e17) (h18 : B e18) (h19 : B e19) (h20 : B e20) (h21 : B e21) : AllGoodF Tryz.prog kb [e0, e1, e2, e3, e4, e5, e6, e7, e8, e9, e10, e11, e12, e13, e14, e15, e16, e17, e18, e19, e20, e21] := (app h0 (app h1 (app h2 (app h3 (app h4 (app h5 (app h6 (app h7 (app h8 (app h9 (app h10 (app h11 (app h12 (app h13 (app h14 (app h15 (app h16 (app h17 (app h18 (app h19 (app h20 (app h21 nl))))))))))))))))))))))
theorem p23 {e0 e1 e2 e3 e4 e5 e6 e7 e8 e9 e10 e11 e12 e13 e14 e15 e16 e17 e18 e19 e20 e21 e22 : Ent} (h0 : B e0) (h1 : B e1) (h2 : B e2) (h3 : B e3) (h4 : B e4) (h5 : B e5) (h6 : B e6) (h7 : B e7) (h8 : B e8) (h9 : B e9) (h10 : B e10) (h11 : B e11) (h12 : B e12) (h13 : B e13) (h14 : B e14) (h15 : B e15) (h16 : B e16) (h17 : B e17) (h18 : B e18) (h19 : B e19) (h20 : B e20) (h21 : B e21) (h22 : B e22) : AllGoodF Tryz.prog kb [e0, e1, e2, e3, e4, e5, e6, e7, e8, e9, e10, e11, e12, e13, e14, e15, e16, e17, e18, e19, e20, e21, e22] := (app h0 (app h1 (app h2 (app h3 (app h4 (app h5 (app h6 (app h7 (app h8 (app h9 (app h10 (app h11 (app h12 (app h13 (app h14 (app h15 (app h16 (app h17 (app h18 (app h19 (app h20 (app h21 (app h22 nl)))))))))))))))))))))))
theorem p24 {e0 e1 e2 e3 e4 e5 e6 e7 e8 e9 e10 e11 e12 e13 e14 e15 e16 e17 e18 e19 e20 e21 e22 e23 : Ent} (h0 : B e0) (h1 : B e1) (h2 : B e2) (h3 : B e3) (h4 : B e4) (h5 : B e5) (h6 : B e6) (h7 : B e7) (h8 : B e8) (h9 : B e9) (h10 : B e10) (h11 : B e11) (h12 : B e12) (h13 : B e13) (h14 : B e14) (h15 : B e15) (h16 : B e16) (h17 : B e17) (h18 : B e18) (h19 : B e19) (h20 : B e20) (h21 : B e21) (h22 : B e22) (h23 : B e23) : AllGoodF Tryz.prog kb [e0, e1, e2, e3, e4, e5, e6, e7, e8, e9, e10, e11, e12, e13, e14, e15, e16, e17, e18, e19, e20, e21, e22, e23] := (app h0 (app h1 (app h2 (app h3 (app h4 (app h5 (app h6 (app h7 (app h8 (app h9 (app h10 (app h11 (app h12 (app h13 (app h14 (app h15 (app h16 (app h17 (app h18 (app h19 (app h20 (app h21 (app h22 (app h23 nl))))))))))))))))))))))))
theorem p29 {e0 e1 e2 e3 e4 e5 e6 e7 e8 e9 e10 e11 e12 e13 e14 e15 e16 e17 e18 e19 e20 e21 e22 e23 e24 e25 e26 e27 e28 : Ent} (h0 : B e0) (h1 : B e1) (h2 : B e2) (h3 : B e3) (h4 : B e4) (h5 : B e5) (h6 : B e6) (h7 : B e7) (h8 : B e8) (h9 : B e9) (h10 : B e10) (h11 : B e11) (h12 : B e12) (h13 : B e13) (h14 : B e14) (h15 : B e15) (h16 : B e16) (h17 : B e17) (h18 : B e18) (h19 : B e19) (h20 : B e20) (h21 : B e21) (h22 : B e22) (h23 : B e23) (h24 : B e24) (h25 : B e25) (h26 : B e26) (h27 : B e27) (h28 : B e28) : AllGoodF Tryz.prog kb [e0, e1, e2, e3, e4, e5, e6, e7, e8, e9, e10, e11, e12, e13, e14, e15, e16, e17, e18, e19, e20, e21, e22, e23, e24, e25, e26, e27, e28] := (app h0 (app h1 (app h2 (app h3 (app h4 (app h5 (app h6 (app h7 (app h8 (app h9 (app h10 (app h11 (app h12 (app h13 (app h14 (app h15 (app h16 (app h17 (app h18 (app h19 (app h20 (app h21 (app h22 (app h23 (app h24 (app h25 (app h26 (app h27 (app h28 nl)))))))))))))))))))))))))))))
theorem u0:B e0:=mk (p2 gdEmpty gdScan) j0
theorem u1:B e1:=mk nl j1
theorem u2:B e2:=mk (p1 u1) j2
theorem u3:B e3:=mk nl j3
theorem u4:B e4:=mk nl j4
theorem u5:B e5:=mk (p4 u0 u2 u3 u4) j5
theorem u6:B e6:=mk nl j6
theorem u7:B e7:=mk nl j7
theorem u8:B e8:=mk nl j8
theorem u9:B e9:=mk nl j9
theorem u10:B e10:=mk (p2 u8 u9) j10
theorem u11:B e11:=mk nl j11
theorem u12:B e12:=mk (p1 u11) j12
theorem u13:B e13:=mk (p1 u4) j13
theorem u14:B e14:=mk (p3 u4 u12 u13) j14
theorem u15:B e15:=mk (p2 u4 u14) j15
theorem u16:B e16:=mk (p1 u4) j16
theorem u17:B e17:=mk nl j17
theorem u18:B e18:=mk (p1 u17) j18
theorem u19:B e19:=mk nl j19
theorem u20:B e20:=mk nl j20
theorem u21:B e21:=mk nl j21
theorem u22:B e22:=mk (p2 u20 u21) j22
theorem u23:B e23:=mk nl j23
theorem u24:B e24:=mk (p7 u10 u15 u16 u18 u19 u22 u23) j24
theorem u25:B e25:=mk nl j25
theorem u26:B e26:=mk (p2 u21 u25) j26
theorem u2000000:B e2000000:=mk (p8 u3 u4 u5 u6 u7 u10 u24 u26) j2000000
theorem u28:B e28:=mk nl j28
theorem u29:B e29:=mk (p3 u0 u2 u28) j29
theorem u30:B e30:=mkF nl j30
theorem u31:B e31:=mk nl j31
theorem u32:B e32:=mk nl j32
theorem u33:B e33:=mk nl j33
theorem u34:B e34:=mk (p2 u32 u33) j34
theorem u35:B e35:=mk (p1 u28) j35
theorem u36:B e36:=mk (p3 u12 u28 u35) j36
theorem u37:B e37:=mk (p2 u28 u36) j37
theorem u38:B e38:=mk (p1 u28) j38
theorem u39:B e39:=mk nl j39
theorem u40:B e40:=mk (p1 u39) j40
theorem u41:B e41:=mk nl j41
theorem u42:B e42:=mk nl j42
theorem u43:B e43:=mk nl j43
theorem u44:B e44:=mk (p2 u42 u43) j44
theorem u45:B e45:=mk nl j45
theorem u46:B e46:=mk (p7 u34 u37 u38 u40 u41 u44 u45) j46
theorem u47:B e47:=mk nl j47
theorem u48:B e48:=mk nl j48
theorem u49:B e49:=mk nl j49
theorem u50:B e50:=mk nl j50
theorem u51:B e51:=mk (p2 u49 u50) j51
theorem u52:B e52:=mk nl j52
theorem u53:B e53:=mk (p1 u52) j53
theorem u54:B e54:=mk (p1 u28) j54
theorem u55:B e55:=mk (p3 u28 u53 u54) j55
theorem u56:B e56:=mk (p2 u28 u55) j56
theorem u59:B e59:=mk nl j59
theorem u60:B e60:=mk (p1 u59) j60
theorem u61:B e61:=mk nl j61
theorem u62:B e62:=mk nl j62
theorem u63:B e63:=mk nl j63
theorem u64:B e64:=mk (p2 u62 u63) j64
theorem u65:B e65:=mk nl j65
theorem u66:B e66:=mk (p1 u65) j66
theorem u67:B e67:=mk nl j67
theorem u68:B e68:=mk nl j68
theorem u69:B e69:=mk nl j69
theorem u70:B e70:=mk (p2 u68 u69) j70
theorem u71:B e71:=mk nl j71
theorem u73:B e73:=mk (p10 u28 u51 u56 u60 u61 u64 u66 u67 u70 u71) j73
theorem u74:B e74:=mk nl j74
theorem u75:B e75:=mk (p2 u69 u74) j75
theorem u76:B e76:=mk nl j76
theorem u77:B e77:=mk nl j77
theorem u78:B e78:=mk (p2 u76 u77) j78
theorem u79:B e79:=mk nl j79
theorem u80:B e80:=mk nl j80
theorem u81:B e81:=mk (p2 u79 u80) j81
theorem u82:B e82:=mk (p1 u28) j82
theorem u83:B e83:=mk nl j83
theorem u84:B e84:=mk (p1 u83) j84
theorem u85:B e85:=mk nl j85
theorem u86:B e86:=mk nl j86
theorem u87:B e87:=mk nl j87
theorem u88:B e88:=mk (p2 u86 u87) j88
theorem u89:B e89:=mk nl j89
theorem u90:B e90:=mk (p1 u89) j90
theorem u91:B e91:=mk nl j91
theorem u92:B e92:=mk nl j92
theorem u93:B e93:=mk nl j93
theorem u94:B e94:=mk (p2 u92 u93) j94
theorem u95:B e95:=mk nl j95
theorem u96:B e96:=mk (p9 u81 u82 u84 u85 u88 u90 u91 u94 u95) j96
theorem u97:B e97:=mk nl j97
theorem u98:B e98:=mk (p2 u93 u97) j98
theorem u100:B e100:=mkF nl j100
theorem u101:B e101:=mk nl j101
theorem u102:B e102:=mk nl j102
theorem u103:B e103:=mk nl j103
theorem u104:B e104:=mk (p2 u102 u103) j104
theorem u105:B e105:=mk (p1 u28) j105
theorem u106:B e106:=mk (p3 u28 u53 u105) j106
theorem u107:B e107:=mk (p2 u28 u106) j107
theorem u108:B e108:=mk (p1 u28) j108
theorem u109:B e109:=mk (p3 u28 u107 u108) j109
theorem u110:B e110:=mk (p1 u59) j110
theorem u111:B e111:=mk (p9 u61 u64 u66 u67 u70 u71 u104 u109 u110) j111
theorem u112:B e112:=mk (p3 u28 u104 u111) j112
theorem u113:B e113:=mk (p1 u28) j113
theorem u114:B e114:=mk nl j114
theorem u115:B e115:=mkF (p1 u114) j115
theorem u116:B e116:=mk nl j116
theorem u117:B e117:=mk nl j117
theorem u118:B e118:=mk nl j118
theorem u119:B e119:=mk (p2 u117 u118) j119
theorem u120:B e120:=mk nl j120
theorem u121:B e121:=mk (p9 u81 u84 u85 u88 u113 u115 u116 u119 u120) j121
theorem u122:B e122:=mk nl j122
theorem u123:B e123:=mk (p2 u118 u122) j123
theorem u124:B e124:=mk (p1 u28) j124
theorem u125:B e125:=mk (p3 u28 u53 u124) j125
theorem u126:B e126:=mk (p2 u28 u125) j126
theorem u127:B e127:=mk (p1 u28) j127
theorem u128:B e128:=mk (p3 u28 u126 u127) j128
theorem u129:B e129:=mk (p1 u59) j129
theorem u130:B e130:=mk (p1 u28) j130
theorem u131:B e131:=mkF (p1 u114) j131
theorem u132:B e132:=mk (p9 u81 u84 u85 u88 u116 u119 u120 u130 u131) j132
theorem u133:B e133:=mk nl j133
theorem u134:B e134:=mk nl j134
theorem u135:B e135:=mk nl j135
theorem u136:B e136:=mk (p2 u134 u135) j136
theorem u137:B e137:=mk (p1 u28) j137
theorem u138:B e138:=mk (p3 u12 u28 u137) j138
theorem u139:B e139:=mk (p2 u28 u138) j139
theorem u140:B e140:=mk (p1 u28) j140
theorem u141:B e141:=mk (p1 u39) j141
theorem u142:B e142:=mk (p7 u41 u44 u45 u136 u139 u140 u141) j142
theorem u143:B e143:=mk (p3 u28 u53 u54) j143
theorem u144:B e144:=mk (p2 u28 u143) j144
theorem u145:B e145:=mk (p1 u28) j145
theorem u146:B e146:=mk (p3 u28 u144 u145) j146
theorem u147:B e147:=mk nl j147
theorem u148:B e148:=mkF (p1 u147) j148
theorem u149:B e149:=mk nl j149
theorem u150:B e150:=mk nl j150
theorem u151:B e151:=mk nl j151
theorem u152:B e152:=mk (p2 u150 u151) j152
theorem u153:B e153:=mk nl j153
theorem u154:B e154:=mk (p9 u51 u60 u61 u64 u146 u148 u149 u152 u153) j154
theorem u155:B e155:=mk (p3 u28 u51 u154) j155
theorem u156:B e156:=mk nl j156
theorem u157:B e157:=mk (p2 u151 u156) j157
theorem u159:B e159:=mkF nl j159
theorem u160:B e160:=mk nl j160
theorem u161:B e161:=mk nl j161
theorem u162:B e162:=mk nl j162
theorem u163:B e163:=mk (p2 u161 u162) j163
theorem u164:B e164:=mk (p1 u28) j164
theorem u165:B e165:=mk (p1 u83) j165
theorem u166:B e166:=mk (p9 u85 u88 u90 u91 u94 u95 u163 u164 u165) j166
theorem u167:B e167:=mk (p1 u28) j167
theorem u168:B e168:=mk (p3 u28 u53 u167) j168
theorem u169:B e169:=mk (p2 u28 u168) j169
theorem u170:B e170:=mk (p1 u28) j170
theorem u171:B e171:=mk (p3 u28 u169 u170) j171
theorem u172:B e172:=mk (p9 u61 u64 u104 u110 u148 u149 u152 u153 u171) j172
theorem u173:B e173:=mk (p3 u28 u104 u172) j173
theorem u174:B e174:=mk (p1 u28) j174
theorem u175:B e175:=mk (p9 u85 u88 u115 u116 u119 u120 u163 u165 u174) j175
theorem u176:B e176:=mk (p1 u28) j176
theorem u177:B e177:=mk (p3 u28 u53 u176) j177
theorem u178:B e178:=mk (p2 u28 u177) j178
theorem u179:B e179:=mk (p1 u28) j179
theorem u180:B e180:=mk (p3 u28 u178 u179) j180
theorem u181:B e181:=mk (p1 u28) j181
theorem u182:B e182:=mk (p9 u85 u88 u116 u119 u120 u131 u163 u165 u181) j182
theorem u183:B e183:=mk (p1 u28) j183
theorem u184:B e184:=mk (p3 u12 u28 u183) j184
theorem u185:B e185:=mk (p2 u28 u184) j185
theorem u186:B e186:=mk (p1 u28) j186
theorem u187:B e187:=mk (p1 u39) j187
theorem u188:B e188:=mk (p3 u28 u53 u54) j188
theorem u189:B e189:=mk (p2 u28 u188) j189
theorem u190:B e190:=mk (p1 u28) j190
theorem u191:B e191:=mk (p3 u28 u189 u190) j191
theorem u192:B e192:=mkF (p1 u147) j192
theorem u193:B e193:=mk (p9 u51 u60 u61 u64 u149 u152 u153 u191 u192) j193
theorem u194:B e194:=mk (p3 u28 u51 u193) j194
theorem u195:B e195:=mk (p1 u28) j195
theorem u196:B e196:=mk (p1 u83) j196
theorem u197:B e197:=mk (p9 u85 u88 u90 u91 u94 u95 u163 u195 u196) j197
theorem u198:B e198:=mk (p1 u28) j198
theorem u199:B e199:=mk (p3 u28 u53 u198) j199
theorem u200:B e200:=mk (p2 u28 u199) j200
theorem u201:B e201:=mk (p1 u28) j201
theorem u202:B e202:=mk (p3 u28 u200 u201) j202
theorem u203:B e203:=mk (p9 u61 u64 u104 u110 u149 u152 u153 u192 u202) j203
theorem u204:B e204:=mk (p3 u28 u104 u203) j204
theorem u205:B e205:=mk (p1 u28) j205
theorem u206:B e206:=mk (p9 u85 u88 u115 u116 u119 u120 u163 u196 u205) j206
theorem u207:B e207:=mk (p1 u28) j207
theorem u208:B e208:=mk (p3 u28 u53 u207) j208
theorem u209:B e209:=mk (p2 u28 u208) j209
theorem u210:B e210:=mk (p1 u28) j210
theorem u211:B e211:=mk (p3 u28 u209 u210) j211
theorem u212:B e212:=mk (p1 u28) j212
theorem u213:B e213:=mk (p9 u85 u88 u116 u119 u120 u131 u163 u196 u212) j213
theorem u214:B e214:=mk (p3 u0 u2 u28) j214
theorem u215:B e215:=mk (p1 u28) j215
theorem u216:B e216:=mk (p3 u12 u28 u215) j216
theorem u217:B e217:=mk (p2 u28 u216) j217
theorem u218:B e218:=mk (p7 u34 u38 u40 u41 u44 u45 u217) j218
theorem u219:B e219:=mk (p1 u28) j219
theorem u220:B e220:=mk (p3 u28 u53 u219) j220
theorem u221:B e221:=mk (p2 u28 u220) j221
theorem u224:B e224:=mk (p10 u28 u51 u60 u61 u64 u66 u67 u70 u71 u221) j224
theorem u225:B e225:=mk (p9 u81 u82 u84 u85 u88 u90 u91 u94 u95) j225
theorem u226:B e226:=mk (p1 u28) j226
theorem u227:B e227:=mk (p3 u28 u53 u226) j227
theorem u228:B e228:=mk (p2 u28 u227) j228
theorem u229:B e229:=mk (p3 u28 u108 u228) j229
theorem u230:B e230:=mk (p9 u61 u64 u66 u67 u70 u71 u104 u110 u229) j230
theorem u231:B e231:=mk (p3 u28 u104 u230) j231
theorem u232:B e232:=mk (p9 u81 u84 u85 u88 u113 u115 u116 u119 u120) j232
theorem u233:B e233:=mk (p1 u28) j233
theorem u234:B e234:=mk (p3 u28 u53 u233) j234
theorem u235:B e235:=mk (p2 u28 u234) j235
theorem u236:B e236:=mk (p3 u28 u127 u235) j236
theorem u237:B e237:=mk (p9 u81 u84 u85 u88 u116 u119 u120 u130 u131) j237
theorem u238:B e238:=mk (p1 u28) j238
theorem u239:B e239:=mk (p3 u12 u28 u238) j239
theorem u240:B e240:=mk (p2 u28 u239) j240
theorem u241:B e241:=mk (p7 u41 u44 u45 u136 u140 u141 u240) j241
theorem u242:B e242:=mk (p3 u28 u53 u219) j242
theorem u243:B e243:=mk (p2 u28 u242) j243
theorem u244:B e244:=mk (p3 u28 u145 u243) j244
theorem u245:B e245:=mk (p9 u51 u60 u61 u64 u148 u149 u152 u153 u244) j245
theorem u246:B e246:=mk (p3 u28 u51 u245) j246
theorem u247:B e247:=mk (p9 u85 u88 u90 u91 u94 u95 u163 u164 u165) j247
theorem u248:B e248:=mk (p1 u28) j248
theorem u249:B e249:=mk (p3 u28 u53 u248) j249
theorem u250:B e250:=mk (p2 u28 u249) j250
theorem u251:B e251:=mk (p3 u28 u170 u250) j251
theorem u252:B e252:=mk (p9 u61 u64 u104 u110 u148 u149 u152 u153 u251) j252
theorem u253:B e253:=mk (p3 u28 u104 u252) j253
theorem u254:B e254:=mk (p1 u28) j254
theorem u255:B e255:=mk (p3 u28 u53 u254) j255
theorem u256:B e256:=mk (p2 u28 u255) j256
theorem u257:B e257:=mk (p3 u28 u179 u256) j257
theorem u258:B e258:=mk (p1 u28) j258
theorem u259:B e259:=mk (p3 u12 u28 u258) j259
theorem u260:B e260:=mk (p2 u28 u259) j260
theorem u261:B e261:=mk (p3 u28 u53 u219) j261
theorem u262:B e262:=mk (p2 u28 u261) j262
theorem u263:B e263:=mk (p3 u28 u190 u262) j263
theorem u264:B e264:=mk (p9 u51 u60 u61 u64 u149 u152 u153 u192 u263) j264
theorem u265:B e265:=mk (p3 u28 u51 u264) j265
theorem u266:B e266:=mk (p9 u85 u88 u90 u91 u94 u95 u163 u195 u196) j266
theorem u267:B e267:=mk (p1 u28) j267
theorem u268:B e268:=mk (p3 u28 u53 u267) j268
theorem u269:B e269:=mk (p2 u28 u268) j269
theorem u270:B e270:=mk (p3 u28 u201 u269) j270
theorem u271:B e271:=mk (p9 u61 u64 u104 u110 u149 u152 u153 u192 u270) j271
theorem u272:B e272:=mk (p3 u28 u104 u271) j272
theorem u273:B e273:=mk (p1 u28) j273
theorem u274:B e274:=mk (p3 u28 u53 u273) j274
theorem u275:B e275:=mk (p2 u28 u274) j275
theorem u276:B e276:=mk (p3 u28 u210 u275) j276
theorem u277:B e277:=mk (p3 u0 u2 u28) j277
theorem u278:B e278:=mk (p1 u28) j278
theorem u279:B e279:=mk (p3 u12 u28 u278) j279
theorem u280:B e280:=mk (p2 u28 u279) j280
theorem u281:B e281:=mk (p7 u34 u38 u40 u41 u44 u45 u280) j281
theorem u282:B e282:=mk (p1 u28) j282
theorem u283:B e283:=mk (p3 u28 u53 u282) j283
theorem u284:B e284:=mk (p2 u28 u283) j284
theorem u287:B e287:=mk (p10 u28 u51 u60 u61 u64 u66 u67 u70 u71 u284) j287
theorem u288:B e288:=mk (p9 u81 u82 u84 u85 u88 u90 u91 u94 u95) j288
theorem u289:B e289:=mk (p1 u28) j289
theorem u290:B e290:=mk (p3 u28 u53 u289) j290
theorem u291:B e291:=mk (p2 u28 u290) j291
theorem u292:B e292:=mk (p3 u28 u108 u291) j292
theorem u293:B e293:=mk (p9 u61 u64 u66 u67 u70 u71 u104 u110 u292) j293
theorem u294:B e294:=mk (p3 u28 u104 u293) j294
theorem u295:B e295:=mk (p9 u81 u84 u85 u88 u113 u115 u116 u119 u120) j295
theorem u296:B e296:=mk (p1 u28) j296
theorem u297:B e297:=mk (p3 u28 u53 u296) j297
theorem u298:B e298:=mk (p2 u28 u297) j298
theorem u299:B e299:=mk (p3 u28 u127 u298) j299
theorem u300:B e300:=mk (p9 u81 u84 u85 u88 u116 u119 u120 u130 u131) j300
theorem u301:B e301:=mk (p1 u28) j301
theorem u302:B e302:=mk (p3 u12 u28 u301) j302
theorem u303:B e303:=mk (p2 u28 u302) j303
theorem u304:B e304:=mk (p7 u41 u44 u45 u136 u140 u141 u303) j304
theorem u305:B e305:=mk (p3 u28 u53 u282) j305
theorem u306:B e306:=mk (p2 u28 u305) j306
theorem u307:B e307:=mk (p3 u28 u145 u306) j307
theorem u308:B e308:=mk (p9 u51 u60 u61 u64 u148 u149 u152 u153 u307) j308
theorem u309:B e309:=mk (p3 u28 u51 u308) j309
theorem u310:B e310:=mk (p9 u85 u88 u90 u91 u94 u95 u163 u164 u165) j310
theorem u311:B e311:=mk (p1 u28) j311
theorem u312:B e312:=mk (p3 u28 u53 u311) j312
theorem u313:B e313:=mk (p2 u28 u312) j313
theorem u314:B e314:=mk (p3 u28 u170 u313) j314
theorem u315:B e315:=mk (p9 u61 u64 u104 u110 u148 u149 u152 u153 u314) j315
theorem u316:B e316:=mk (p3 u28 u104 u315) j316
theorem u317:B e317:=mk (p1 u28) j317
theorem u318:B e318:=mk (p3 u28 u53 u317) j318
theorem u319:B e319:=mk (p2 u28 u318) j319
theorem u320:B e320:=mk (p3 u28 u179 u319) j320
theorem u321:B e321:=mk (p1 u28) j321
theorem u322:B e322:=mk (p3 u12 u28 u321) j322
theorem u323:B e323:=mk (p2 u28 u322) j323
theorem u324:B e324:=mk (p3 u28 u53 u282) j324
theorem u325:B e325:=mk (p2 u28 u324) j325
theorem u326:B e326:=mk (p3 u28 u190 u325) j326
theorem u327:B e327:=mk (p9 u51 u60 u61 u64 u149 u152 u153 u192 u326) j327
theorem u328:B e328:=mk (p3 u28 u51 u327) j328
theorem u329:B e329:=mk (p9 u85 u88 u90 u91 u94 u95 u163 u195 u196) j329
theorem u330:B e330:=mk (p1 u28) j330
theorem u331:B e331:=mk (p3 u28 u53 u330) j331
theorem u332:B e332:=mk (p2 u28 u331) j332
theorem u333:B e333:=mk (p3 u28 u201 u332) j333
theorem u334:B e334:=mk (p9 u61 u64 u104 u110 u149 u152 u153 u192 u333) j334
theorem u335:B e335:=mk (p3 u28 u104 u334) j335
theorem u336:B e336:=mk (p1 u28) j336
theorem u337:B e337:=mk (p3 u28 u53 u336) j337
theorem u338:B e338:=mk (p2 u28 u337) j338
theorem u339:B e339:=mk (p3 u28 u210 u338) j339
theorem u340:B e340:=mk nl j340
theorem u341:B e341:=mk (p3 u0 u2 u340) j341
theorem u342:B e342:=mk (p1 u340) j342
theorem u343:B e343:=mk (p3 u12 u340 u342) j343
theorem u344:B e344:=mk (p2 u340 u343) j344
theorem u345:B e345:=mk (p1 u340) j345
theorem u346:B e346:=mk (p7 u34 u40 u41 u44 u45 u344 u345) j346
theorem u347:B e347:=mk nl j347
theorem u348:B e348:=mk (p1 u347) j348
theorem u349:B e349:=mk (p3 u340 u342 u348) j349
theorem u350:B e350:=mk (p2 u340 u349) j350
theorem u353:B e353:=mk nl j353
theorem u354:B e354:=mk (p1 u353) j354
theorem u355:B e355:=mk nl j355
theorem u356:B e356:=mk nl j356
theorem u357:B e357:=mk nl j357
theorem u358:B e358:=mk (p2 u356 u357) j358
theorem u359:B e359:=mk nl j359
theorem u360:B e360:=mk (p1 u359) j360
theorem u361:B e361:=mk nl j361
theorem u362:B e362:=mk nl j362
theorem u363:B e363:=mk nl j363
theorem u364:B e364:=mk (p2 u362 u363) j364
theorem u365:B e365:=mk nl j365
theorem u367:B e367:=mk (p10 u51 u340 u350 u354 u355 u358 u360 u361 u364 u365) j367
theorem u368:B e368:=mk nl j368
theorem u369:B e369:=mk (p2 u363 u368) j369
theorem u370:B e370:=mk nl j370
theorem u371:B e371:=mk nl j371
theorem u372:B e372:=mk (p2 u370 u371) j372
theorem u373:B e373:=mk nl j373
theorem u374:B e374:=mk nl j374
theorem u375:B e375:=mk (p2 u373 u374) j375
theorem u376:B e376:=mk (p1 u340) j376
theorem u377:B e377:=mk nl j377
theorem u378:B e378:=mk (p1 u377) j378
theorem u379:B e379:=mk nl j379
theorem u380:B e380:=mk nl j380
theorem u381:B e381:=mk nl j381
theorem u382:B e382:=mk (p2 u380 u381) j382
theorem u383:B e383:=mk nl j383
theorem u384:B e384:=mk (p1 u383) j384
theorem u385:B e385:=mk (p9 u91 u94 u95 u375 u376 u378 u379 u382 u384) j385
theorem u386:B e386:=mk (p1 u340) j386
theorem u387:B e387:=mk (p3 u340 u348 u386) j387
theorem u388:B e388:=mk (p2 u340 u387) j388
theorem u389:B e389:=mk (p1 u340) j389
theorem u390:B e390:=mk (p3 u340 u388 u389) j390
theorem u391:B e391:=mk (p1 u353) j391
theorem u392:B e392:=mk (p9 u104 u355 u358 u360 u361 u364 u365 u390 u391) j392
theorem u393:B e393:=mk (p3 u104 u340 u392) j393
theorem u394:B e394:=mk (p1 u340) j394
theorem u395:B e395:=mk nl j395
theorem u396:B e396:=mkF (p1 u395) j396
theorem u397:B e397:=mk (p9 u116 u119 u120 u375 u378 u379 u382 u394 u396) j397
theorem u398:B e398:=mk (p1 u340) j398
theorem u399:B e399:=mk (p3 u340 u348 u398) j399
theorem u400:B e400:=mk (p2 u340 u399) j400
theorem u401:B e401:=mk (p1 u340) j401
theorem u402:B e402:=mk (p3 u340 u400 u401) j402
theorem u403:B e403:=mk (p1 u353) j403
theorem u404:B e404:=mk (p1 u340) j404
theorem u405:B e405:=mkF (p1 u395) j405
theorem u406:B e406:=mk (p9 u116 u119 u120 u375 u378 u379 u382 u404 u405) j406
theorem u407:B e407:=mk (p1 u340) j407
theorem u408:B e408:=mk (p3 u12 u340 u407) j408
theorem u409:B e409:=mk (p2 u340 u408) j409
theorem u410:B e410:=mk (p1 u340) j410
theorem u411:B e411:=mk (p7 u41 u44 u45 u136 u141 u409 u410) j411
theorem u412:B e412:=mk (p3 u340 u342 u348) j412
theorem u413:B e413:=mk (p2 u340 u412) j413
theorem u414:B e414:=mk (p1 u340) j414
theorem u415:B e415:=mk (p3 u340 u413 u414) j415
theorem u416:B e416:=mk nl j416
theorem u417:B e417:=mkF (p1 u416) j417
theorem u418:B e418:=mk nl j418
theorem u419:B e419:=mk nl j419
theorem u420:B e420:=mk nl j420
theorem u421:B e421:=mk (p2 u419 u420) j421
theorem u422:B e422:=mk nl j422
theorem u423:B e423:=mk (p9 u51 u354 u355 u358 u415 u417 u418 u421 u422) j423
theorem u424:B e424:=mk (p3 u51 u340 u423) j424
theorem u425:B e425:=mk nl j425
theorem u426:B e426:=mk (p2 u420 u425) j426
theorem u428:B e428:=mkF nl j428
theorem u429:B e429:=mk nl j429
theorem u430:B e430:=mk nl j430
theorem u431:B e431:=mk nl j431
theorem u432:B e432:=mk (p2 u430 u431) j432
theorem u433:B e433:=mk (p1 u340) j433
theorem u434:B e434:=mk (p1 u377) j434
theorem u435:B e435:=mk (p9 u91 u94 u95 u379 u382 u384 u432 u433 u434) j435
theorem u436:B e436:=mk (p3 u340 u348 u386) j436
theorem u437:B e437:=mk (p2 u340 u436) j437
theorem u438:B e438:=mk (p1 u340) j438
theorem u439:B e439:=mk (p3 u340 u437 u438) j439
theorem u440:B e440:=mk (p9 u104 u355 u358 u391 u417 u418 u421 u422 u439) j440
theorem u441:B e441:=mk (p3 u104 u340 u440) j441
theorem u442:B e442:=mk (p1 u340) j442
theorem u443:B e443:=mk (p9 u116 u119 u120 u379 u382 u396 u432 u434 u442) j443
theorem u444:B e444:=mk (p3 u340 u348 u398) j444
theorem u445:B e445:=mk (p2 u340 u444) j445
theorem u446:B e446:=mk (p1 u340) j446
theorem u447:B e447:=mk (p3 u340 u445 u446) j447
theorem u448:B e448:=mk (p1 u340) j448
theorem u449:B e449:=mk (p9 u116 u119 u120 u379 u382 u405 u432 u434 u448) j449
theorem u450:B e450:=mk (p1 u340) j450
theorem u451:B e451:=mk (p3 u12 u340 u450) j451
theorem u452:B e452:=mk (p2 u340 u451) j452
theorem u453:B e453:=mk (p1 u340) j453
theorem u454:B e454:=mk (p3 u340 u342 u348) j454
theorem u455:B e455:=mk (p2 u340 u454) j455
theorem u456:B e456:=mk (p1 u340) j456
theorem u457:B e457:=mk (p3 u340 u455 u456) j457
theorem u458:B e458:=mkF (p1 u416) j458
theorem u459:B e459:=mk (p9 u51 u354 u355 u358 u418 u421 u422 u457 u458) j459
theorem u460:B e460:=mk (p3 u51 u340 u459) j460
theorem u461:B e461:=mk (p1 u340) j461
theorem u462:B e462:=mk (p1 u377) j462
theorem u463:B e463:=mk (p9 u91 u94 u95 u379 u382 u384 u432 u461 u462) j463
theorem u464:B e464:=mk (p3 u340 u348 u386) j464
theorem u465:B e465:=mk (p2 u340 u464) j465
theorem u466:B e466:=mk (p1 u340) j466
theorem u467:B e467:=mk (p3 u340 u465 u466) j467
theorem u468:B e468:=mk (p9 u104 u355 u358 u391 u418 u421 u422 u458 u467) j468
theorem u469:B e469:=mk (p3 u104 u340 u468) j469
theorem u470:B e470:=mk (p1 u340) j470
theorem u471:B e471:=mk (p9 u116 u119 u120 u379 u382 u396 u432 u462 u470) j471
theorem u472:B e472:=mk (p3 u340 u348 u398) j472
theorem u473:B e473:=mk (p2 u340 u472) j473
theorem u474:B e474:=mk (p1 u340) j474
theorem u475:B e475:=mk (p3 u340 u473 u474) j475
theorem u476:B e476:=mk (p1 u340) j476
theorem u477:B e477:=mk (p9 u116 u119 u120 u379 u382 u405 u432 u462 u476) j477
theorem u478:B e478:=mk (p3 u0 u2 u340) j478
theorem u479:B e479:=mk (p1 u340) j479
theorem u480:B e480:=mk (p3 u12 u340 u479) j480
theorem u481:B e481:=mk (p2 u340 u480) j481
theorem u482:B e482:=mk (p7 u34 u40 u41 u44 u45 u345 u481) j482
theorem u483:B e483:=mk (p1 u340) j483
theorem u484:B e484:=mk (p3 u53 u340 u483) j484
theorem u485:B e485:=mk (p2 u340 u484) j485
theorem u489:B e489:=mk (p10 u51 u60 u61 u64 u66 u67 u70 u71 u340 u485) j489
theorem u490:B e490:=mk (p1 u340) j490
theorem u491:B e491:=mk (p9 u81 u84 u85 u88 u90 u91 u94 u95 u490) j491
theorem u492:B e492:=mk (p1 u340) j492
theorem u493:B e493:=mk (p3 u53 u340 u492) j493
theorem u494:B e494:=mk (p2 u340 u493) j494
theorem u495:B e495:=mk (p1 u340) j495
theorem u496:B e496:=mk (p3 u340 u494 u495) j496
theorem u497:B e497:=mk (p9 u61 u64 u66 u67 u70 u71 u104 u110 u496) j497
theorem u498:B e498:=mk (p3 u104 u340 u497) j498
theorem u499:B e499:=mk (p1 u340) j499
theorem u500:B e500:=mk (p9 u81 u84 u85 u88 u115 u116 u119 u120 u499) j500
theorem u501:B e501:=mk (p1 u340) j501
theorem u502:B e502:=mk (p3 u53 u340 u501) j502
theorem u503:B e503:=mk (p2 u340 u502) j503
theorem u504:B e504:=mk (p1 u340) j504
theorem u505:B e505:=mk (p3 u340 u503 u504) j505
theorem u506:B e506:=mk (p1 u340) j506
theorem u507:B e507:=mk (p9 u81 u84 u85 u88 u116 u119 u120 u131 u506) j507
theorem u508:B e508:=mk (p1 u340) j508
theorem u509:B e509:=mk (p3 u12 u340 u508) j509
theorem u510:B e510:=mk (p2 u340 u509) j510
theorem u511:B e511:=mk (p7 u41 u44 u45 u136 u141 u410 u510) j511
theorem u512:B e512:=mk (p3 u53 u340 u483) j512
theorem u513:B e513:=mk (p2 u340 u512) j513
theorem u514:B e514:=mk (p1 u340) j514
theorem u515:B e515:=mk (p3 u340 u513 u514) j515
theorem u516:B e516:=mk (p9 u51 u60 u61 u64 u148 u149 u152 u153 u515) j516
theorem u517:B e517:=mk (p3 u51 u340 u516) j517
theorem u518:B e518:=mk (p1 u340) j518
theorem u519:B e519:=mk (p9 u85 u88 u90 u91 u94 u95 u163 u165 u518) j519
theorem u520:B e520:=mk (p1 u340) j520
theorem u521:B e521:=mk (p3 u53 u340 u520) j521
theorem u522:B e522:=mk (p2 u340 u521) j522
theorem u523:B e523:=mk (p1 u340) j523
theorem u524:B e524:=mk (p3 u340 u522 u523) j524
theorem u525:B e525:=mk (p9 u61 u64 u104 u110 u148 u149 u152 u153 u524) j525
theorem u526:B e526:=mk (p3 u104 u340 u525) j526
theorem u527:B e527:=mk (p1 u340) j527
theorem u528:B e528:=mk (p9 u85 u88 u115 u116 u119 u120 u163 u165 u527) j528
theorem u529:B e529:=mk (p1 u340) j529
theorem u530:B e530:=mk (p3 u53 u340 u529) j530
theorem u531:B e531:=mk (p2 u340 u530) j531
theorem u532:B e532:=mk (p1 u340) j532
theorem u533:B e533:=mk (p3 u340 u531 u532) j533
theorem u534:B e534:=mk (p1 u340) j534
theorem u535:B e535:=mk (p9 u85 u88 u116 u119 u120 u131 u163 u165 u534) j535
theorem u536:B e536:=mk (p1 u340) j536
theorem u537:B e537:=mk (p3 u12 u340 u536) j537
theorem u538:B e538:=mk (p2 u340 u537) j538
theorem u539:B e539:=mk (p3 u53 u340 u483) j539
theorem u540:B e540:=mk (p2 u340 u539) j540
theorem u541:B e541:=mk (p1 u340) j541
theorem u542:B e542:=mk (p3 u340 u540 u541) j542
theorem u543:B e543:=mk (p9 u51 u60 u61 u64 u149 u152 u153 u192 u542) j543
theorem u544:B e544:=mk (p3 u51 u340 u543) j544
theorem u545:B e545:=mk (p1 u340) j545
theorem u546:B e546:=mk (p9 u85 u88 u90 u91 u94 u95 u163 u196 u545) j546
theorem u547:B e547:=mk (p1 u340) j547
theorem u548:B e548:=mk (p3 u53 u340 u547) j548
theorem u549:B e549:=mk (p2 u340 u548) j549
theorem u550:B e550:=mk (p1 u340) j550
theorem u551:B e551:=mk (p3 u340 u549 u550) j551
theorem u552:B e552:=mk (p9 u61 u64 u104 u110 u149 u152 u153 u192 u551) j552
theorem u553:B e553:=mk (p3 u104 u340 u552) j553
theorem u554:B e554:=mk (p1 u340) j554
theorem u555:B e555:=mk (p9 u85 u88 u115 u116 u119 u120 u163 u196 u554) j555
theorem u556:B e556:=mk (p1 u340) j556
theorem u557:B e557:=mk (p3 u53 u340 u556) j557
theorem u558:B e558:=mk (p2 u340 u557) j558
theorem u559:B e559:=mk (p1 u340) j559
theorem u560:B e560:=mk (p3 u340 u558 u559) j560
theorem u561:B e561:=mk (p1 u340) j561
theorem u562:B e562:=mk (p9 u85 u88 u116 u119 u120 u131 u163 u196 u561) j562
theorem u563:B e563:=mk (p3 u0 u2 u340) j563
theorem u564:B e564:=mk (p1 u340) j564
theorem u565:B e565:=mk (p3 u12 u340 u564) j565
theorem u566:B e566:=mk (p2 u340 u565) j566
theorem u567:B e567:=mk (p7 u34 u40 u41 u44 u45 u345 u566) j567
theorem u568:B e568:=mk (p1 u340) j568
theorem u569:B e569:=mk (p3 u53 u340 u568) j569
theorem u570:B e570:=mk (p2 u340 u569) j570
theorem u573:B e573:=mk (p10 u51 u60 u61 u64 u66 u67 u70 u71 u340 u570) j573
theorem u574:B e574:=mk (p9 u81 u84 u85 u88 u90 u91 u94 u95 u490) j574
theorem u575:B e575:=mk (p1 u340) j575
theorem u576:B e576:=mk (p3 u53 u340 u575) j576
theorem u577:B e577:=mk (p2 u340 u576) j577
theorem u578:B e578:=mk (p3 u340 u495 u577) j578
theorem u579:B e579:=mk (p9 u61 u64 u66 u67 u70 u71 u104 u110 u578) j579
theorem u580:B e580:=mk (p3 u104 u340 u579) j580
theorem u581:B e581:=mk (p9 u81 u84 u85 u88 u115 u116 u119 u120 u499) j581
theorem u582:B e582:=mk (p1 u340) j582
theorem u583:B e583:=mk (p3 u53 u340 u582) j583
theorem u584:B e584:=mk (p2 u340 u583) j584
theorem u585:B e585:=mk (p3 u340 u504 u584) j585
theorem u586:B e586:=mk (p9 u81 u84 u85 u88 u116 u119 u120 u131 u506) j586
theorem u587:B e587:=mk (p1 u340) j587
theorem u588:B e588:=mk (p3 u12 u340 u587) j588
theorem u589:B e589:=mk (p2 u340 u588) j589
theorem u590:B e590:=mk (p7 u41 u44 u45 u136 u141 u410 u589) j590
theorem u591:B e591:=mk (p3 u53 u340 u568) j591
theorem u592:B e592:=mk (p2 u340 u591) j592
theorem u593:B e593:=mk (p3 u340 u514 u592) j593
theorem u594:B e594:=mk (p9 u51 u60 u61 u64 u148 u149 u152 u153 u593) j594
theorem u595:B e595:=mk (p3 u51 u340 u594) j595
theorem u596:B e596:=mk (p9 u85 u88 u90 u91 u94 u95 u163 u165 u518) j596
theorem u597:B e597:=mk (p1 u340) j597
theorem u598:B e598:=mk (p3 u53 u340 u597) j598
theorem u599:B e599:=mk (p2 u340 u598) j599
theorem u600:B e600:=mk (p3 u340 u523 u599) j600
theorem u601:B e601:=mk (p9 u61 u64 u104 u110 u148 u149 u152 u153 u600) j601
theorem u602:B e602:=mk (p3 u104 u340 u601) j602
theorem u603:B e603:=mk (p1 u340) j603
theorem u604:B e604:=mk (p3 u53 u340 u603) j604
theorem u605:B e605:=mk (p2 u340 u604) j605
theorem u606:B e606:=mk (p3 u340 u532 u605) j606
theorem u607:B e607:=mk (p1 u340) j607
theorem u608:B e608:=mk (p3 u12 u340 u607) j608
theorem u609:B e609:=mk (p2 u340 u608) j609
theorem u610:B e610:=mk (p3 u53 u340 u568) j610
theorem u611:B e611:=mk (p2 u340 u610) j611
theorem u612:B e612:=mk (p3 u340 u541 u611) j612
theorem u613:B e613:=mk (p9 u51 u60 u61 u64 u149 u152 u153 u192 u612) j613
theorem u614:B e614:=mk (p3 u51 u340 u613) j614
theorem u615:B e615:=mk (p9 u85 u88 u90 u91 u94 u95 u163 u196 u545) j615
theorem u616:B e616:=mk (p1 u340) j616
theorem u617:B e617:=mk (p3 u53 u340 u616) j617
theorem u618:B e618:=mk (p2 u340 u617) j618
theorem u619:B e619:=mk (p3 u340 u550 u618) j619
theorem u620:B e620:=mk (p9 u61 u64 u104 u110 u149 u152 u153 u192 u619) j620
theorem u621:B e621:=mk (p3 u104 u340 u620) j621
theorem u622:B e622:=mk (p1 u340) j622
theorem u623:B e623:=mk (p3 u53 u340 u622) j623
theorem u624:B e624:=mk (p2 u340 u623) j624
theorem u625:B e625:=mk (p3 u340 u559 u624) j625
theorem u626:B e626:=mk (p3 u0 u2 u340) j626
theorem u627:B e627:=mk (p1 u340) j627
theorem u628:B e628:=mk (p3 u12 u340 u627) j628
theorem u629:B e629:=mk (p2 u340 u628) j629
theorem u630:B e630:=mk (p7 u34 u40 u41 u44 u45 u345 u629) j630
theorem u631:B e631:=mk (p1 u340) j631
theorem u632:B e632:=mk (p3 u53 u340 u631) j632
theorem u633:B e633:=mk (p2 u340 u632) j633
theorem u636:B e636:=mk (p10 u51 u60 u61 u64 u66 u67 u70 u71 u340 u633) j636
theorem u637:B e637:=mk (p9 u81 u84 u85 u88 u90 u91 u94 u95 u490) j637
theorem u638:B e638:=mk (p1 u340) j638
theorem u639:B e639:=mk (p3 u53 u340 u638) j639
theorem u640:B e640:=mk (p2 u340 u639) j640
theorem u641:B e641:=mk (p3 u340 u495 u640) j641
theorem u642:B e642:=mk (p9 u61 u64 u66 u67 u70 u71 u104 u110 u641) j642
theorem u643:B e643:=mk (p3 u104 u340 u642) j643
theorem u644:B e644:=mk (p9 u81 u84 u85 u88 u115 u116 u119 u120 u499) j644
theorem u645:B e645:=mk (p1 u340) j645
theorem u646:B e646:=mk (p3 u53 u340 u645) j646
theorem u647:B e647:=mk (p2 u340 u646) j647
theorem u648:B e648:=mk (p3 u340 u504 u647) j648
theorem u649:B e649:=mk (p9 u81 u84 u85 u88 u116 u119 u120 u131 u506) j649
theorem u650:B e650:=mk (p1 u340) j650
theorem u651:B e651:=mk (p3 u12 u340 u650) j651
theorem u652:B e652:=mk (p2 u340 u651) j652
theorem u653:B e653:=mk (p7 u41 u44 u45 u136 u141 u410 u652) j653
theorem u654:B e654:=mk (p3 u53 u340 u631) j654
theorem u655:B e655:=mk (p2 u340 u654) j655
theorem u656:B e656:=mk (p3 u340 u514 u655) j656
theorem u657:B e657:=mk (p9 u51 u60 u61 u64 u148 u149 u152 u153 u656) j657
theorem u658:B e658:=mk (p3 u51 u340 u657) j658
theorem u659:B e659:=mk (p9 u85 u88 u90 u91 u94 u95 u163 u165 u518) j659
theorem u660:B e660:=mk (p1 u340) j660
theorem u661:B e661:=mk (p3 u53 u340 u660) j661
theorem u662:B e662:=mk (p2 u340 u661) j662
theorem u663:B e663:=mk (p3 u340 u523 u662) j663
theorem u664:B e664:=mk (p9 u61 u64 u104 u110 u148 u149 u152 u153 u663) j664
theorem u665:B e665:=mk (p3 u104 u340 u664) j665
theorem u666:B e666:=mk (p1 u340) j666
theorem u667:B e667:=mk (p3 u53 u340 u666) j667
theorem u668:B e668:=mk (p2 u340 u667) j668
theorem u669:B e669:=mk (p3 u340 u532 u668) j669
theorem u670:B e670:=mk (p1 u340) j670
theorem u671:B e671:=mk (p3 u12 u340 u670) j671
theorem u672:B e672:=mk (p2 u340 u671) j672
theorem u673:B e673:=mk (p3 u53 u340 u631) j673
theorem u674:B e674:=mk (p2 u340 u673) j674
theorem u675:B e675:=mk (p3 u340 u541 u674) j675
theorem u676:B e676:=mk (p9 u51 u60 u61 u64 u149 u152 u153 u192 u675) j676
theorem u677:B e677:=mk (p3 u51 u340 u676) j677
theorem u678:B e678:=mk (p9 u85 u88 u90 u91 u94 u95 u163 u196 u545) j678
theorem u679:B e679:=mk (p1 u340) j679
theorem u680:B e680:=mk (p3 u53 u340 u679) j680
theorem u681:B e681:=mk (p2 u340 u680) j681
theorem u682:B e682:=mk (p3 u340 u550 u681) j682
theorem u683:B e683:=mk (p9 u61 u64 u104 u110 u149 u152 u153 u192 u682) j683
theorem u684:B e684:=mk (p3 u104 u340 u683) j684
theorem u685:B e685:=mk (p1 u340) j685
theorem u686:B e686:=mk (p3 u53 u340 u685) j686
theorem u687:B e687:=mk (p2 u340 u686) j687
theorem u688:B e688:=mk (p3 u340 u559 u687) j688
theorem u689:B e689:=mk nl j689
theorem u690:B e690:=mk (p3 u0 u2 u689) j690
theorem u691:B e691:=mk (p1 u689) j691
theorem u692:B e692:=mk (p3 u12 u689 u691) j692
theorem u693:B e693:=mk (p2 u689 u692) j693
theorem u694:B e694:=mk (p1 u689) j694
theorem u695:B e695:=mk (p7 u34 u40 u41 u44 u45 u693 u694) j695
theorem u696:B e696:=mk (p3 u34 u689 u695) j696
theorem u697:B e697:=mk (p3 u348 u689 u691) j697
theorem u698:B e698:=mk (p2 u689 u697) j698
theorem u702:B e702:=mk (p10 u51 u354 u355 u358 u360 u361 u364 u365 u689 u698) j702
theorem u703:B e703:=mk (p1 u689) j703
theorem u704:B e704:=mk (p9 u91 u94 u95 u375 u378 u379 u382 u384 u703) j704
theorem u705:B e705:=mk (p1 u689) j705
theorem u706:B e706:=mk (p3 u348 u689 u705) j706
theorem u707:B e707:=mk (p2 u689 u706) j707
theorem u708:B e708:=mk (p1 u689) j708
theorem u709:B e709:=mk (p3 u689 u707 u708) j709
theorem u710:B e710:=mk (p9 u104 u355 u358 u360 u361 u364 u365 u391 u709) j710
theorem u711:B e711:=mk (p3 u104 u689 u710) j711
theorem u712:B e712:=mk (p1 u689) j712
theorem u713:B e713:=mk (p9 u116 u119 u120 u375 u378 u379 u382 u396 u712) j713
theorem u714:B e714:=mk (p1 u689) j714
theorem u715:B e715:=mk (p3 u348 u689 u714) j715
theorem u716:B e716:=mk (p2 u689 u715) j716
theorem u717:B e717:=mk (p1 u689) j717
theorem u718:B e718:=mk (p3 u689 u716 u717) j718
theorem u719:B e719:=mk (p1 u689) j719
theorem u720:B e720:=mk (p9 u116 u119 u120 u375 u378 u379 u382 u405 u719) j720
theorem u721:B e721:=mk (p1 u689) j721
theorem u722:B e722:=mk (p3 u12 u689 u721) j722
theorem u723:B e723:=mk (p2 u689 u722) j723
theorem u724:B e724:=mk (p1 u689) j724
theorem u725:B e725:=mk (p7 u41 u44 u45 u136 u141 u723 u724) j725
theorem u726:B e726:=mk (p3 u136 u689 u725) j726
theorem u727:B e727:=mk (p3 u348 u689 u691) j727
theorem u728:B e728:=mk (p2 u689 u727) j728
theorem u729:B e729:=mk (p1 u689) j729
theorem u730:B e730:=mk (p3 u689 u728 u729) j730
theorem u731:B e731:=mk (p9 u51 u354 u355 u358 u417 u418 u421 u422 u730) j731
theorem u732:B e732:=mk (p3 u51 u689 u731) j732
theorem u733:B e733:=mk (p1 u689) j733
theorem u734:B e734:=mk (p9 u91 u94 u95 u379 u382 u384 u432 u434 u733) j734
theorem u735:B e735:=mk (p3 u348 u689 u705) j735
theorem u736:B e736:=mk (p2 u689 u735) j736
theorem u737:B e737:=mk (p1 u689) j737
theorem u738:B e738:=mk (p3 u689 u736 u737) j738
theorem u739:B e739:=mk (p9 u104 u355 u358 u391 u417 u418 u421 u422 u738) j739
theorem u740:B e740:=mk (p3 u104 u689 u739) j740
theorem u741:B e741:=mk (p1 u689) j741
theorem u742:B e742:=mk (p9 u116 u119 u120 u379 u382 u396 u432 u434 u741) j742
theorem u743:B e743:=mk (p3 u348 u689 u714) j743
theorem u744:B e744:=mk (p2 u689 u743) j744
theorem u745:B e745:=mk (p1 u689) j745
theorem u746:B e746:=mk (p3 u689 u744 u745) j746
theorem u747:B e747:=mk (p1 u689) j747
theorem u748:B e748:=mk (p9 u116 u119 u120 u379 u382 u405 u432 u434 u747) j748
theorem u749:B e749:=mk (p1 u689) j749
theorem u750:B e750:=mk (p3 u12 u689 u749) j750
theorem u751:B e751:=mk (p2 u689 u750) j751
theorem u752:B e752:=mk (p1 u689) j752
theorem u753:B e753:=mk (p3 u348 u689 u691) j753
theorem u754:B e754:=mk (p2 u689 u753) j754
theorem u755:B e755:=mk (p1 u689) j755
theorem u756:B e756:=mk (p3 u689 u754 u755) j756
theorem u757:B e757:=mk (p9 u51 u354 u355 u358 u418 u421 u422 u458 u756) j757
theorem u758:B e758:=mk (p3 u51 u689 u757) j758
theorem u759:B e759:=mk (p1 u689) j759
theorem u760:B e760:=mk (p9 u91 u94 u95 u379 u382 u384 u432 u462 u759) j760
theorem u761:B e761:=mk (p3 u348 u689 u705) j761
theorem u762:B e762:=mk (p2 u689 u761) j762
theorem u763:B e763:=mk (p1 u689) j763
theorem u764:B e764:=mk (p3 u689 u762 u763) j764
theorem u765:B e765:=mk (p9 u104 u355 u358 u391 u418 u421 u422 u458 u764) j765
theorem u766:B e766:=mk (p3 u104 u689 u765) j766
theorem u767:B e767:=mk (p1 u689) j767
theorem u768:B e768:=mk (p9 u116 u119 u120 u379 u382 u396 u432 u462 u767) j768
theorem u769:B e769:=mk (p3 u348 u689 u714) j769
theorem u770:B e770:=mk (p2 u689 u769) j770
theorem u771:B e771:=mk (p1 u689) j771
theorem u772:B e772:=mk (p3 u689 u770 u771) j772
theorem u773:B e773:=mk (p1 u689) j773
theorem u774:B e774:=mk (p9 u116 u119 u120 u379 u382 u405 u432 u462 u773) j774
theorem u775:B e775:=mk (p3 u0 u2 u689) j775
theorem u776:B e776:=mk (p1 u689) j776
theorem u777:B e777:=mk (p3 u12 u689 u776) j777
theorem u778:B e778:=mk (p2 u689 u777) j778
theorem u779:B e779:=mk (p7 u34 u40 u41 u44 u45 u694 u778) j779
theorem u780:B e780:=mk (p3 u34 u689 u779) j780
theorem u781:B e781:=mk (p1 u689) j781
theorem u782:B e782:=mk (p3 u53 u689 u781) j782
theorem u783:B e783:=mk (p2 u689 u782) j783
theorem u787:B e787:=mk (p10 u51 u60 u61 u64 u66 u67 u70 u71 u689 u783) j787
theorem u788:B e788:=mk (p1 u689) j788
theorem u789:B e789:=mk (p9 u81 u84 u85 u88 u90 u91 u94 u95 u788) j789
theorem u790:B e790:=mk (p1 u689) j790
theorem u791:B e791:=mk (p3 u53 u689 u790) j791
theorem u792:B e792:=mk (p2 u689 u791) j792
theorem u793:B e793:=mk (p1 u689) j793
theorem u794:B e794:=mk (p3 u689 u792 u793) j794
theorem u795:B e795:=mk (p9 u61 u64 u66 u67 u70 u71 u104 u110 u794) j795
theorem u796:B e796:=mk (p3 u104 u689 u795) j796
theorem u797:B e797:=mk (p1 u689) j797
theorem u798:B e798:=mk (p9 u81 u84 u85 u88 u115 u116 u119 u120 u797) j798
theorem u799:B e799:=mk (p1 u689) j799
theorem u800:B e800:=mk (p3 u53 u689 u799) j800
theorem u801:B e801:=mk (p2 u689 u800) j801
theorem u802:B e802:=mk (p1 u689) j802
theorem u803:B e803:=mk (p3 u689 u801 u802) j803
theorem u804:B e804:=mk (p1 u689) j804
theorem u805:B e805:=mk (p9 u81 u84 u85 u88 u116 u119 u120 u131 u804) j805
theorem u806:B e806:=mk (p1 u689) j806
theorem u807:B e807:=mk (p3 u12 u689 u806) j807
theorem u808:B e808:=mk (p2 u689 u807) j808
theorem u809:B e809:=mk (p7 u41 u44 u45 u136 u141 u724 u808) j809
theorem u810:B e810:=mk (p3 u136 u689 u809) j810
theorem u811:B e811:=mk (p3 u53 u689 u781) j811
theorem u812:B e812:=mk (p2 u689 u811) j812
theorem u813:B e813:=mk (p1 u689) j813
theorem u814:B e814:=mk (p3 u689 u812 u813) j814
theorem u815:B e815:=mk (p9 u51 u60 u61 u64 u148 u149 u152 u153 u814) j815
theorem u816:B e816:=mk (p3 u51 u689 u815) j816
theorem u817:B e817:=mk (p1 u689) j817
theorem u818:B e818:=mk (p9 u85 u88 u90 u91 u94 u95 u163 u165 u817) j818
theorem u819:B e819:=mk (p1 u689) j819
theorem u820:B e820:=mk (p3 u53 u689 u819) j820
theorem u821:B e821:=mk (p2 u689 u820) j821
theorem u822:B e822:=mk (p1 u689) j822
theorem u823:B e823:=mk (p3 u689 u821 u822) j823
theorem u824:B e824:=mk (p9 u61 u64 u104 u110 u148 u149 u152 u153 u823) j824
theorem u825:B e825:=mk (p3 u104 u689 u824) j825
theorem u826:B e826:=mk (p1 u689) j826
theorem u827:B e827:=mk (p9 u85 u88 u115 u116 u119 u120 u163 u165 u826) j827
theorem u828:B e828:=mk (p1 u689) j828
theorem u829:B e829:=mk (p3 u53 u689 u828) j829
theorem u830:B e830:=mk (p2 u689 u829) j830
theorem u831:B e831:=mk (p1 u689) j831
theorem u832:B e832:=mk (p3 u689 u830 u831) j832
theorem u833:B e833:=mk (p1 u689) j833
theorem u834:B e834:=mk (p9 u85 u88 u116 u119 u120 u131 u163 u165 u833) j834
theorem u835:B e835:=mk (p1 u689) j835
theorem u836:B e836:=mk (p3 u12 u689 u835) j836
theorem u837:B e837:=mk (p2 u689 u836) j837
theorem u838:B e838:=mk (p3 u53 u689 u781) j838
theorem u839:B e839:=mk (p2 u689 u838) j839
theorem u840:B e840:=mk (p1 u689) j840
theorem u841:B e841:=mk (p3 u689 u839 u840) j841
theorem u842:B e842:=mk (p9 u51 u60 u61 u64 u149 u152 u153 u192 u841) j842
theorem u843:B e843:=mk (p3 u51 u689 u842) j843
theorem u844:B e844:=mk (p1 u689) j844
theorem u845:B e845:=mk (p9 u85 u88 u90 u91 u94 u95 u163 u196 u844) j845
theorem u846:B e846:=mk (p1 u689) j846
theorem u847:B e847:=mk (p3 u53 u689 u846) j847
theorem u848:B e848:=mk (p2 u689 u847) j848
theorem u849:B e849:=mk (p1 u689) j849
theorem u850:B e850:=mk (p3 u689 u848 u849) j850
theorem u851:B e851:=mk (p9 u61 u64 u104 u110 u149 u152 u153 u192 u850) j851
theorem u852:B e852:=mk (p3 u104 u689 u851) j852
theorem u853:B e853:=mk (p1 u689) j853
theorem u854:B e854:=mk (p9 u85 u88 u115 u116 u119 u120 u163 u196 u853) j854
theorem u855:B e855:=mk (p1 u689) j855
theorem u856:B e856:=mk (p3 u53 u689 u855) j856
theorem u857:B e857:=mk (p2 u689 u856) j857
theorem u858:B e858:=mk (p1 u689) j858
theorem u859:B e859:=mk (p3 u689 u857 u858) j859
theorem u860:B e860:=mk (p1 u689) j860
theorem u861:B e861:=mk (p9 u85 u88 u116 u119 u120 u131 u163 u196 u860) j861
theorem u862:B e862:=mk (p3 u0 u2 u689) j862
theorem u863:B e863:=mk nl j863
theorem u864:B e864:=mk (p1 u689) j864
theorem u865:B e865:=mk (p4 u12 u689 u863 u864) j865
theorem u866:B e866:=mk (p2 u689 u865) j866
theorem u867:B e867:=mk (p7 u34 u40 u41 u44 u45 u694 u866) j867
theorem u868:B e868:=mk (p3 u34 u689 u867) j868
theorem u869:B e869:=mk (p1 u689) j869
theorem u870:B e870:=mk (p3 u53 u689 u869) j870
theorem u871:B e871:=mk (p2 u689 u870) j871
theorem u874:B e874:=mk (p10 u51 u60 u61 u64 u66 u67 u70 u71 u689 u871) j874
theorem u875:B e875:=mk (p9 u81 u84 u85 u88 u90 u91 u94 u95 u788) j875
theorem u876:B e876:=mk (p1 u689) j876
theorem u877:B e877:=mk (p3 u53 u689 u876) j877
theorem u878:B e878:=mk (p2 u689 u877) j878
theorem u879:B e879:=mk (p3 u689 u793 u878) j879
theorem u880:B e880:=mk (p9 u61 u64 u66 u67 u70 u71 u104 u110 u879) j880
theorem u881:B e881:=mk (p3 u104 u689 u880) j881
theorem u882:B e882:=mk (p9 u81 u84 u85 u88 u115 u116 u119 u120 u797) j882
theorem u883:B e883:=mk (p1 u689) j883
theorem u884:B e884:=mk (p3 u53 u689 u883) j884
theorem u885:B e885:=mk (p2 u689 u884) j885
theorem u886:B e886:=mk (p3 u689 u802 u885) j886
theorem u887:B e887:=mk (p9 u81 u84 u85 u88 u116 u119 u120 u131 u804) j887
theorem u888:B e888:=mk (p1 u689) j888
theorem u889:B e889:=mk (p4 u12 u689 u863 u888) j889
theorem u890:B e890:=mk (p2 u689 u889) j890
theorem u891:B e891:=mk (p7 u41 u44 u45 u136 u141 u724 u890) j891
theorem u892:B e892:=mk (p3 u136 u689 u891) j892
theorem u893:B e893:=mk (p3 u53 u689 u869) j893
theorem u894:B e894:=mk (p2 u689 u893) j894
theorem u895:B e895:=mk (p3 u689 u813 u894) j895
theorem u896:B e896:=mk (p9 u51 u60 u61 u64 u148 u149 u152 u153 u895) j896
theorem u897:B e897:=mk (p3 u51 u689 u896) j897
theorem u898:B e898:=mk (p9 u85 u88 u90 u91 u94 u95 u163 u165 u817) j898
theorem u899:B e899:=mk (p1 u689) j899
theorem u900:B e900:=mk (p3 u53 u689 u899) j900
theorem u901:B e901:=mk (p2 u689 u900) j901
theorem u902:B e902:=mk (p3 u689 u822 u901) j902
theorem u903:B e903:=mk (p9 u61 u64 u104 u110 u148 u149 u152 u153 u902) j903
theorem u904:B e904:=mk (p3 u104 u689 u903) j904
theorem u905:B e905:=mk (p1 u689) j905
theorem u906:B e906:=mk (p3 u53 u689 u905) j906
theorem u907:B e907:=mk (p2 u689 u906) j907
theorem u908:B e908:=mk (p3 u689 u831 u907) j908
theorem u909:B e909:=mk (p1 u689) j909
theorem u910:B e910:=mk (p4 u12 u689 u863 u909) j910
theorem u911:B e911:=mk (p2 u689 u910) j911
theorem u912:B e912:=mk (p3 u53 u689 u869) j912
theorem u913:B e913:=mk (p2 u689 u912) j913
theorem u914:B e914:=mk (p3 u689 u840 u913) j914
theorem u915:B e915:=mk (p9 u51 u60 u61 u64 u149 u152 u153 u192 u914) j915
theorem u916:B e916:=mk (p3 u51 u689 u915) j916
theorem u917:B e917:=mk (p9 u85 u88 u90 u91 u94 u95 u163 u196 u844) j917
theorem u918:B e918:=mk (p1 u689) j918
theorem u919:B e919:=mk (p3 u53 u689 u918) j919
theorem u920:B e920:=mk (p2 u689 u919) j920
theorem u921:B e921:=mk (p3 u689 u849 u920) j921
theorem u922:B e922:=mk (p9 u61 u64 u104 u110 u149 u152 u153 u192 u921) j922
theorem u923:B e923:=mk (p3 u104 u689 u922) j923
theorem u924:B e924:=mk (p1 u689) j924
theorem u925:B e925:=mk (p3 u53 u689 u924) j925
theorem u926:B e926:=mk (p2 u689 u925) j926
theorem u927:B e927:=mk (p3 u689 u858 u926) j927
theorem u928:B e928:=mk (p3 u0 u2 u689) j928
theorem u929:B e929:=mk nl j929
theorem u930:B e930:=mk (p1 u689) j930
theorem u931:B e931:=mk (p4 u12 u689 u929 u930) j931
theorem u932:B e932:=mk (p2 u689 u931) j932
theorem u933:B e933:=mk (p7 u34 u40 u41 u44 u45 u694 u932) j933
theorem u934:B e934:=mk (p3 u34 u689 u933) j934
theorem u935:B e935:=mk nl j935
theorem u936:B e936:=mk (p1 u689) j936
theorem u937:B e937:=mk (p4 u53 u689 u935 u936) j937
theorem u938:B e938:=mk (p2 u689 u937) j938
theorem u941:B e941:=mk (p10 u51 u60 u61 u64 u66 u67 u70 u71 u689 u938) j941
theorem u942:B e942:=mk (p9 u81 u84 u85 u88 u90 u91 u94 u95 u788) j942
theorem u943:B e943:=mk (p1 u689) j943
theorem u944:B e944:=mk (p4 u53 u689 u935 u943) j944
theorem u945:B e945:=mk (p2 u689 u944) j945
theorem u946:B e946:=mk (p3 u689 u793 u945) j946
theorem u947:B e947:=mk (p9 u61 u64 u66 u67 u70 u71 u104 u110 u946) j947
theorem u948:B e948:=mk (p3 u104 u689 u947) j948
theorem u949:B e949:=mk (p9 u81 u84 u85 u88 u115 u116 u119 u120 u797) j949
theorem u950:B e950:=mk (p1 u689) j950
theorem u951:B e951:=mk (p4 u53 u689 u935 u950) j951
theorem u952:B e952:=mk (p2 u689 u951) j952
theorem u953:B e953:=mk (p3 u689 u802 u952) j953
theorem u954:B e954:=mk (p9 u81 u84 u85 u88 u116 u119 u120 u131 u804) j954
theorem u955:B e955:=mk (p1 u689) j955
theorem u956:B e956:=mk (p4 u12 u689 u929 u955) j956
theorem u957:B e957:=mk (p2 u689 u956) j957
theorem u958:B e958:=mk (p7 u41 u44 u45 u136 u141 u724 u957) j958
theorem u959:B e959:=mk (p3 u136 u689 u958) j959
theorem u960:B e960:=mk (p4 u53 u689 u935 u936) j960
theorem u961:B e961:=mk (p2 u689 u960) j961
theorem u962:B e962:=mk (p3 u689 u813 u961) j962
theorem u963:B e963:=mk (p9 u51 u60 u61 u64 u148 u149 u152 u153 u962) j963
theorem u964:B e964:=mk (p3 u51 u689 u963) j964
theorem u965:B e965:=mk (p9 u85 u88 u90 u91 u94 u95 u163 u165 u817) j965
theorem u966:B e966:=mk (p1 u689) j966
theorem u967:B e967:=mk (p4 u53 u689 u935 u966) j967
theorem u968:B e968:=mk (p2 u689 u967) j968
theorem u969:B e969:=mk (p3 u689 u822 u968) j969
theorem u970:B e970:=mk (p9 u61 u64 u104 u110 u148 u149 u152 u153 u969) j970
theorem u971:B e971:=mk (p3 u104 u689 u970) j971
theorem u972:B e972:=mk (p1 u689) j972
theorem u973:B e973:=mk (p4 u53 u689 u935 u972) j973
theorem u974:B e974:=mk (p2 u689 u973) j974
theorem u975:B e975:=mk (p3 u689 u831 u974) j975
theorem u976:B e976:=mk (p1 u689) j976
theorem u977:B e977:=mk (p4 u12 u689 u929 u976) j977
theorem u978:B e978:=mk (p2 u689 u977) j978
theorem u979:B e979:=mk (p4 u53 u689 u935 u936) j979
theorem u980:B e980:=mk (p2 u689 u979) j980
theorem u981:B e981:=mk (p3 u689 u840 u980) j981
theorem u982:B e982:=mk (p9 u51 u60 u61 u64 u149 u152 u153 u192 u981) j982
theorem u983:B e983:=mk (p3 u51 u689 u982) j983
theorem u984:B e984:=mk (p9 u85 u88 u90 u91 u94 u95 u163 u196 u844) j984
theorem u985:B e985:=mk (p1 u689) j985
theorem u986:B e986:=mk (p4 u53 u689 u935 u985) j986
theorem u987:B e987:=mk (p2 u689 u986) j987
theorem u988:B e988:=mk (p3 u689 u849 u987) j988
theorem u989:B e989:=mk (p9 u61 u64 u104 u110 u149 u152 u153 u192 u988) j989
theorem u990:B e990:=mk (p3 u104 u689 u989) j990
theorem u991:B e991:=mk (p1 u689) j991
theorem u992:B e992:=mk (p4 u53 u689 u935 u991) j992
theorem u993:B e993:=mk (p2 u689 u992) j993
theorem u994:B e994:=mk (p3 u689 u858 u993) j994
theorem cls0 [Val]:Fine i0 a0:=fin (p1 u2000000) none_well s0
theorem cls1 [Val]:Fine i1 a1:=fin (p1 u2000000) none_well s1
theorem cls2 [Val]:Fine i1 a2:=fin (p1 u2000000) none_well s2
theorem cls3 [Val]:Fine i3 a3:=fin (p1 u2000000) none_well s3
theorem cls4 [Val]:Fine i4 a4:=fin (p1 u2000000) none_well s4
theorem cls5 [Val]:Fine i4 a5:=fin (p1 u2000000) none_well s5
theorem cls6 [Val]:Fine i3 a6:=fin (p1 u2000000) none_well s6
theorem cls7 [Val]:Fine i4 a7:=fin (p1 u2000000) none_well s7
theorem cls8 [Val]:Fine i4 a8:=fin (p1 u2000000) none_well s8
theorem cls9 [Val]:Fine i0 a9:=fin (p15 u28 u29 u30 u31 u34 u46 u47 u48 u73 u75 u78 u81 u96 u98 u2000000) none_well s9
theorem cls10 [Val]:Fine i10 a10:=fin (p15 u28 u29 u30 u31 u34 u46 u75 u78 u81 u100 u101 u112 u121 u123 u2000000) none_well s10
theorem cls11 [Val]:Fine i10 a11:=fin (p23 u28 u29 u30 u31 u34 u46 u61 u64 u66 u67 u70 u71 u75 u78 u81 u100 u101 u104 u123 u128 u129 u132 u2000000) none_well s11
theorem cls12 [Val]:Fine i3 a12:=fin (p16 u28 u29 u30 u48 u98 u100 u133 u136 u142 u155 u157 u159 u160 u163 u166 u2000000) none_well s12
theorem cls13 [Val]:Fine i13 a13:=fin (p16 u28 u29 u30 u100 u101 u123 u133 u136 u142 u157 u159 u160 u163 u173 u175 u2000000) none_well s13
theorem cls14 [Val]:Fine i13 a14:=fin (p24 u28 u29 u30 u61 u64 u100 u101 u104 u123 u129 u133 u136 u142 u148 u149 u152 u153 u157 u159 u160 u163 u180 u182 u2000000) none_well s14
theorem cls15 [Val]:Fine i3 a15:=fin (p21 u28 u29 u30 u41 u44 u45 u48 u98 u100 u133 u136 u157 u159 u160 u163 u185 u186 u187 u194 u197 u2000000) none_well s15
theorem cls16 [Val]:Fine i13 a16:=fin (p21 u28 u29 u30 u41 u44 u45 u100 u101 u123 u133 u136 u157 u159 u160 u163 u185 u186 u187 u204 u206 u2000000) none_well s16
theorem cls17 [Val]:Fine i13 a17:=fin (p29 u28 u29 u30 u41 u44 u45 u61 u64 u100 u101 u104 u123 u129 u133 u136 u149 u152 u153 u157 u159 u160 u163 u185 u186 u187 u192 u211 u213 u2000000) none_well s17
theorem cls18 [Val]:Fine i0 a18:=fin (p15 u28 u30 u31 u34 u48 u75 u78 u81 u98 u100 u214 u218 u224 u225 u2000000) none_well s18
theorem cls19 [Val]:Fine i10 a19:=fin (p15 u28 u30 u31 u34 u75 u78 u81 u100 u101 u123 u214 u218 u231 u232 u2000000) none_well s19
theorem cls20 [Val]:Fine i10 a20:=fin (p23 u28 u30 u31 u34 u61 u64 u66 u67 u70 u71 u75 u78 u81 u100 u101 u104 u123 u129 u214 u218 u236 u237 u2000000) none_well s20
theorem cls21 [Val]:Fine i3 a21:=fin (p16 u28 u30 u48 u98 u100 u133 u136 u157 u159 u160 u163 u214 u241 u246 u247 u2000000) none_well s21
theorem cls22 [Val]:Fine i13 a22:=fin (p16 u28 u30 u100 u101 u123 u133 u136 u157 u159 u160 u163 u175 u214 u241 u253 u2000000) none_well s22
theorem cls23 [Val]:Fine i13 a23:=fin (p24 u28 u30 u61 u64 u100 u101 u104 u123 u129 u133 u136 u148 u149 u152 u153 u157 u159 u160 u163 u182 u214 u241 u257 u2000000) none_well s23
theorem cls24 [Val]:Fine i3 a24:=fin (p21 u28 u30 u41 u44 u45 u48 u98 u100 u133 u136 u157 u159 u160 u163 u186 u187 u214 u260 u265 u266 u2000000) none_well s24
theorem cls25 [Val]:Fine i13 a25:=fin (p21 u28 u30 u41 u44 u45 u100 u101 u123 u133 u136 u157 u159 u160 u163 u186 u187 u206 u214 u260 u272 u2000000) none_well s25
theorem cls26 [Val]:Fine i13 a26:=fin (p29 u28 u30 u41 u44 u45 u61 u64 u100 u101 u104 u123 u129 u133 u136 u149 u152 u153 u157 u159 u160 u163 u186 u187 u192 u213 u214 u260 u276 u2000000) none_well s26
theorem cls27 [Val]:Fine i0 a27:=fin (p15 u28 u30 u31 u34 u48 u75 u78 u81 u98 u100 u277 u281 u287 u288 u2000000) none_well s27
theorem cls28 [Val]:Fine i10 a28:=fin (p15 u28 u30 u31 u34 u75 u78 u81 u100 u101 u123 u277 u281 u294 u295 u2000000) none_well s28
theorem cls29 [Val]:Fine i10 a29:=fin (p23 u28 u30 u31 u34 u61 u64 u66 u67 u70 u71 u75 u78 u81 u100 u101 u104 u123 u129 u277 u281 u299 u300 u2000000) none_well s29
theorem cls30 [Val]:Fine i3 a30:=fin (p16 u28 u30 u48 u98 u100 u133 u136 u157 u159 u160 u163 u277 u304 u309 u310 u2000000) none_well s30
theorem cls31 [Val]:Fine i13 a31:=fin (p16 u28 u30 u100 u101 u123 u133 u136 u157 u159 u160 u163 u175 u277 u304 u316 u2000000) none_well s31
theorem cls32 [Val]:Fine i13 a32:=fin (p24 u28 u30 u61 u64 u100 u101 u104 u123 u129 u133 u136 u148 u149 u152 u153 u157 u159 u160 u163 u182 u277 u304 u320 u2000000) none_well s32
theorem cls33 [Val]:Fine i3 a33:=fin (p21 u28 u30 u41 u44 u45 u48 u98 u100 u133 u136 u157 u159 u160 u163 u186 u187 u277 u323 u328 u329 u2000000) none_well s33
theorem cls34 [Val]:Fine i13 a34:=fin (p21 u28 u30 u41 u44 u45 u100 u101 u123 u133 u136 u157 u159 u160 u163 u186 u187 u206 u277 u323 u335 u2000000) none_well s34
theorem cls35 [Val]:Fine i13 a35:=fin (p29 u28 u30 u41 u44 u45 u61 u64 u100 u101 u104 u123 u129 u133 u136 u149 u152 u153 u157 u159 u160 u163 u186 u187 u192 u213 u277 u323 u339 u2000000) none_well s35
theorem cls36 [Val]:Fine i0 a36:=fin (p15 u30 u31 u34 u48 u98 u100 u340 u341 u346 u367 u369 u372 u375 u385 u2000000) none_well s36
theorem cls37 [Val]:Fine i1 a37:=fin (p15 u30 u31 u34 u100 u101 u123 u340 u341 u346 u369 u372 u375 u393 u397 u2000000) none_well s37
theorem cls38 [Val]:Fine i1 a38:=fin (p23 u30 u31 u34 u100 u101 u104 u123 u340 u341 u346 u355 u358 u360 u361 u364 u365 u369 u372 u375 u402 u403 u406 u2000000) none_well s38
theorem cls39 [Val]:Fine i3 a39:=fin (p16 u30 u48 u98 u100 u133 u136 u340 u341 u411 u424 u426 u428 u429 u432 u435 u2000000) none_well s39
theorem cls40 [Val]:Fine i4 a40:=fin (p16 u30 u100 u101 u123 u133 u136 u340 u341 u411 u426 u428 u429 u432 u441 u443 u2000000) none_well s40
theorem cls41 [Val]:Fine i4 a41:=fin (p24 u30 u100 u101 u104 u123 u133 u136 u340 u341 u355 u358 u403 u411 u417 u418 u421 u422 u426 u428 u429 u432 u447 u449 u2000000) none_well s41
theorem cls42 [Val]:Fine i3 a42:=fin (p21 u30 u41 u44 u45 u48 u98 u100 u133 u136 u187 u340 u341 u426 u428 u429 u432 u452 u453 u460 u463 u2000000) none_well s42
theorem cls43 [Val]:Fine i4 a43:=fin (p21 u30 u41 u44 u45 u100 u101 u123 u133 u136 u187 u340 u341 u426 u428 u429 u432 u452 u453 u469 u471 u2000000) none_well s43
theorem cls44 [Val]:Fine i4 a44:=fin (p29 u30 u41 u44 u45 u100 u101 u104 u123 u133 u136 u187 u340 u341 u355 u358 u403 u418 u421 u422 u426 u428 u429 u432 u452 u453 u458 u475 u477 u2000000) none_well s44
theorem cls45 [Val]:Fine i0 a45:=fin (p15 u30 u31 u34 u48 u75 u78 u81 u98 u100 u340 u478 u482 u489 u491 u2000000) none_well s45
theorem cls46 [Val]:Fine i10 a46:=fin (p15 u30 u31 u34 u75 u78 u81 u100 u101 u123 u340 u478 u482 u498 u500 u2000000) none_well s46
theorem cls47 [Val]:Fine i10 a47:=fin (p23 u30 u31 u34 u61 u64 u66 u67 u70 u71 u75 u78 u81 u100 u101 u104 u123 u129 u340 u478 u482 u505 u507 u2000000) none_well s47
theorem cls48 [Val]:Fine i3 a48:=fin (p16 u30 u48 u98 u100 u133 u136 u157 u159 u160 u163 u340 u478 u511 u517 u519 u2000000) none_well s48
theorem cls49 [Val]:Fine i13 a49:=fin (p16 u30 u100 u101 u123 u133 u136 u157 u159 u160 u163 u340 u478 u511 u526 u528 u2000000) none_well s49
theorem cls50 [Val]:Fine i13 a50:=fin (p24 u30 u61 u64 u100 u101 u104 u123 u129 u133 u136 u148 u149 u152 u153 u157 u159 u160 u163 u340 u478 u511 u533 u535 u2000000) none_well s50
theorem cls51 [Val]:Fine i3 a51:=fin (p21 u30 u41 u44 u45 u48 u98 u100 u133 u136 u157 u159 u160 u163 u187 u340 u453 u478 u538 u544 u546 u2000000) none_well s51
theorem cls52 [Val]:Fine i13 a52:=fin (p21 u30 u41 u44 u45 u100 u101 u123 u133 u136 u157 u159 u160 u163 u187 u340 u453 u478 u538 u553 u555 u2000000) none_well s52
theorem cls53 [Val]:Fine i13 a53:=fin (p29 u30 u41 u44 u45 u61 u64 u100 u101 u104 u123 u129 u133 u136 u149 u152 u153 u157 u159 u160 u163 u187 u192 u340 u453 u478 u538 u560 u562 u2000000) none_well s53
theorem cls54 [Val]:Fine i0 a54:=fin (p15 u30 u31 u34 u48 u75 u78 u81 u98 u100 u340 u563 u567 u573 u574 u2000000) none_well s54
theorem cls55 [Val]:Fine i10 a55:=fin (p15 u30 u31 u34 u75 u78 u81 u100 u101 u123 u340 u563 u567 u580 u581 u2000000) none_well s55
theorem cls56 [Val]:Fine i10 a56:=fin (p23 u30 u31 u34 u61 u64 u66 u67 u70 u71 u75 u78 u81 u100 u101 u104 u123 u129 u340 u563 u567 u585 u586 u2000000) none_well s56
theorem cls57 [Val]:Fine i3 a57:=fin (p16 u30 u48 u98 u100 u133 u136 u157 u159 u160 u163 u340 u563 u590 u595 u596 u2000000) none_well s57
theorem cls58 [Val]:Fine i13 a58:=fin (p16 u30 u100 u101 u123 u133 u136 u157 u159 u160 u163 u340 u528 u563 u590 u602 u2000000) none_well s58
theorem cls59 [Val]:Fine i13 a59:=fin (p24 u30 u61 u64 u100 u101 u104 u123 u129 u133 u136 u148 u149 u152 u153 u157 u159 u160 u163 u340 u535 u563 u590 u606 u2000000) none_well s59
theorem cls60 [Val]:Fine i3 a60:=fin (p21 u30 u41 u44 u45 u48 u98 u100 u133 u136 u157 u159 u160 u163 u187 u340 u453 u563 u609 u614 u615 u2000000) none_well s60
theorem cls61 [Val]:Fine i13 a61:=fin (p21 u30 u41 u44 u45 u100 u101 u123 u133 u136 u157 u159 u160 u163 u187 u340 u453 u555 u563 u609 u621 u2000000) none_well s61
theorem cls62 [Val]:Fine i13 a62:=fin (p29 u30 u41 u44 u45 u61 u64 u100 u101 u104 u123 u129 u133 u136 u149 u152 u153 u157 u159 u160 u163 u187 u192 u340 u453 u562 u563 u609 u625 u2000000) none_well s62
theorem cls63 [Val]:Fine i0 a63:=fin (p15 u30 u31 u34 u48 u75 u78 u81 u98 u100 u340 u626 u630 u636 u637 u2000000) none_well s63
theorem cls64 [Val]:Fine i10 a64:=fin (p15 u30 u31 u34 u75 u78 u81 u100 u101 u123 u340 u626 u630 u643 u644 u2000000) none_well s64
theorem cls65 [Val]:Fine i10 a65:=fin (p23 u30 u31 u34 u61 u64 u66 u67 u70 u71 u75 u78 u81 u100 u101 u104 u123 u129 u340 u626 u630 u648 u649 u2000000) none_well s65
theorem cls66 [Val]:Fine i3 a66:=fin (p16 u30 u48 u98 u100 u133 u136 u157 u159 u160 u163 u340 u626 u653 u658 u659 u2000000) none_well s66
theorem cls67 [Val]:Fine i13 a67:=fin (p16 u30 u100 u101 u123 u133 u136 u157 u159 u160 u163 u340 u528 u626 u653 u665 u2000000) none_well s67
theorem cls68 [Val]:Fine i13 a68:=fin (p24 u30 u61 u64 u100 u101 u104 u123 u129 u133 u136 u148 u149 u152 u153 u157 u159 u160 u163 u340 u535 u626 u653 u669 u2000000) none_well s68
theorem cls69 [Val]:Fine i3 a69:=fin (p21 u30 u41 u44 u45 u48 u98 u100 u133 u136 u157 u159 u160 u163 u187 u340 u453 u626 u672 u677 u678 u2000000) none_well s69
theorem cls70 [Val]:Fine i13 a70:=fin (p21 u30 u41 u44 u45 u100 u101 u123 u133 u136 u157 u159 u160 u163 u187 u340 u453 u555 u626 u672 u684 u2000000) none_well s70
theorem cls71 [Val]:Fine i13 a71:=fin (p29 u30 u41 u44 u45 u61 u64 u100 u101 u104 u123 u129 u133 u136 u149 u152 u153 u157 u159 u160 u163 u187 u192 u340 u453 u562 u626 u672 u688 u2000000) none_well s71
theorem cls72 [Val]:Fine i0 a72:=fin (p14 u30 u31 u48 u98 u100 u369 u372 u375 u689 u690 u696 u702 u704 u2000000) none_well s72
theorem cls73 [Val]:Fine i1 a73:=fin (p14 u30 u31 u100 u101 u123 u369 u372 u375 u689 u690 u696 u711 u713 u2000000) none_well s73
theorem cls74 [Val]:Fine i1 a74:=fin (p22 u30 u31 u100 u101 u104 u123 u355 u358 u360 u361 u364 u365 u369 u372 u375 u403 u689 u690 u696 u718 u720 u2000000) none_well s74
theorem cls75 [Val]:Fine i3 a75:=fin (p15 u30 u48 u98 u100 u133 u426 u428 u429 u432 u689 u690 u726 u732 u734 u2000000) none_well s75
theorem cls76 [Val]:Fine i4 a76:=fin (p15 u30 u100 u101 u123 u133 u426 u428 u429 u432 u689 u690 u726 u740 u742 u2000000) none_well s76
theorem cls77 [Val]:Fine i4 a77:=fin (p23 u30 u100 u101 u104 u123 u133 u355 u358 u403 u417 u418 u421 u422 u426 u428 u429 u432 u689 u690 u726 u746 u748 u2000000) none_well s77
theorem cls78 [Val]:Fine i3 a78:=fin (p21 u30 u41 u44 u45 u48 u98 u100 u133 u136 u187 u426 u428 u429 u432 u689 u690 u751 u752 u758 u760 u2000000) none_well s78
theorem cls79 [Val]:Fine i4 a79:=fin (p21 u30 u41 u44 u45 u100 u101 u123 u133 u136 u187 u426 u428 u429 u432 u689 u690 u751 u752 u766 u768 u2000000) none_well s79
theorem cls80 [Val]:Fine i4 a80:=fin (p29 u30 u41 u44 u45 u100 u101 u104 u123 u133 u136 u187 u355 u358 u403 u418 u421 u422 u426 u428 u429 u432 u458 u689 u690 u751 u752 u772 u774 u2000000) none_well s80
theorem cls81 [Val]:Fine i0 a81:=fin (p14 u30 u31 u48 u75 u78 u81 u98 u100 u689 u775 u780 u787 u789 u2000000) none_well s81
theorem cls82 [Val]:Fine i10 a82:=fin (p14 u30 u31 u75 u78 u81 u100 u101 u123 u689 u775 u780 u796 u798 u2000000) none_well s82
theorem cls83 [Val]:Fine i10 a83:=fin (p22 u30 u31 u61 u64 u66 u67 u70 u71 u75 u78 u81 u100 u101 u104 u123 u129 u689 u775 u780 u803 u805 u2000000) none_well s83
theorem cls84 [Val]:Fine i3 a84:=fin (p15 u30 u48 u98 u100 u133 u157 u159 u160 u163 u689 u775 u810 u816 u818 u2000000) none_well s84
theorem cls85 [Val]:Fine i13 a85:=fin (p15 u30 u100 u101 u123 u133 u157 u159 u160 u163 u689 u775 u810 u825 u827 u2000000) none_well s85
theorem cls86 [Val]:Fine i13 a86:=fin (p23 u30 u61 u64 u100 u101 u104 u123 u129 u133 u148 u149 u152 u153 u157 u159 u160 u163 u689 u775 u810 u832 u834 u2000000) none_well s86
theorem cls87 [Val]:Fine i3 a87:=fin (p21 u30 u41 u44 u45 u48 u98 u100 u133 u136 u157 u159 u160 u163 u187 u689 u752 u775 u837 u843 u845 u2000000) none_well s87
theorem cls88 [Val]:Fine i13 a88:=fin (p21 u30 u41 u44 u45 u100 u101 u123 u133 u136 u157 u159 u160 u163 u187 u689 u752 u775 u837 u852 u854 u2000000) none_well s88
theorem cls89 [Val]:Fine i13 a89:=fin (p29 u30 u41 u44 u45 u61 u64 u100 u101 u104 u123 u129 u133 u136 u149 u152 u153 u157 u159 u160 u163 u187 u192 u689 u752 u775 u837 u859 u861 u2000000) none_well s89
theorem cls90 [Val]:Fine i0 a90:=fin (p14 u30 u31 u48 u75 u78 u81 u98 u100 u689 u862 u868 u874 u875 u2000000) none_well s90
theorem cls91 [Val]:Fine i10 a91:=fin (p14 u30 u31 u75 u78 u81 u100 u101 u123 u689 u862 u868 u881 u882 u2000000) none_well s91
theorem cls92 [Val]:Fine i10 a92:=fin (p22 u30 u31 u61 u64 u66 u67 u70 u71 u75 u78 u81 u100 u101 u104 u123 u129 u689 u862 u868 u886 u887 u2000000) none_well s92
theorem cls93 [Val]:Fine i3 a93:=fin (p15 u30 u48 u98 u100 u133 u157 u159 u160 u163 u689 u862 u892 u897 u898 u2000000) none_well s93
theorem cls94 [Val]:Fine i13 a94:=fin (p15 u30 u100 u101 u123 u133 u157 u159 u160 u163 u689 u827 u862 u892 u904 u2000000) none_well s94
theorem cls95 [Val]:Fine i13 a95:=fin (p23 u30 u61 u64 u100 u101 u104 u123 u129 u133 u148 u149 u152 u153 u157 u159 u160 u163 u689 u834 u862 u892 u908 u2000000) none_well s95
theorem cls96 [Val]:Fine i3 a96:=fin (p21 u30 u41 u44 u45 u48 u98 u100 u133 u136 u157 u159 u160 u163 u187 u689 u752 u862 u911 u916 u917 u2000000) none_well s96
theorem cls97 [Val]:Fine i13 a97:=fin (p21 u30 u41 u44 u45 u100 u101 u123 u133 u136 u157 u159 u160 u163 u187 u689 u752 u854 u862 u911 u923 u2000000) none_well s97
theorem cls98 [Val]:Fine i13 a98:=fin (p29 u30 u41 u44 u45 u61 u64 u100 u101 u104 u123 u129 u133 u136 u149 u152 u153 u157 u159 u160 u163 u187 u192 u689 u752 u861 u862 u911 u927 u2000000) none_well s98
theorem cls99 [Val]:Fine i0 a99:=fin (p14 u30 u31 u48 u75 u78 u81 u98 u100 u689 u928 u934 u941 u942 u2000000) none_well s99
theorem cls100 [Val]:Fine i10 a100:=fin (p14 u30 u31 u75 u78 u81 u100 u101 u123 u689 u928 u934 u948 u949 u2000000) none_well s100
theorem cls101 [Val]:Fine i10 a101:=fin (p22 u30 u31 u61 u64 u66 u67 u70 u71 u75 u78 u81 u100 u101 u104 u123 u129 u689 u928 u934 u953 u954 u2000000) none_well s101
theorem cls102 [Val]:Fine i3 a102:=fin (p15 u30 u48 u98 u100 u133 u157 u159 u160 u163 u689 u928 u959 u964 u965 u2000000) none_well s102
theorem cls103 [Val]:Fine i13 a103:=fin (p15 u30 u100 u101 u123 u133 u157 u159 u160 u163 u689 u827 u928 u959 u971 u2000000) none_well s103
theorem cls104 [Val]:Fine i13 a104:=fin (p23 u30 u61 u64 u100 u101 u104 u123 u129 u133 u148 u149 u152 u153 u157 u159 u160 u163 u689 u834 u928 u959 u975 u2000000) none_well s104
theorem cls105 [Val]:Fine i3 a105:=fin (p21 u30 u41 u44 u45 u48 u98 u100 u133 u136 u157 u159 u160 u163 u187 u689 u752 u928 u978 u983 u984 u2000000) none_well s105
theorem cls106 [Val]:Fine i13 a106:=fin (p21 u30 u41 u44 u45 u100 u101 u123 u133 u136 u157 u159 u160 u163 u187 u689 u752 u854 u928 u978 u990 u2000000) none_well s106
theorem cls107 [Val]:Fine i13 a107:=fin (p29 u30 u41 u44 u45 u61 u64 u100 u101 u104 u123 u129 u133 u136 u149 u152 u153 u157 u159 u160 u163 u187 u192 u689 u752 u861 u928 u978 u994 u2000000) none_well s107

def pv (b p : Int) : Int := if b ≤ p ∧ p ≤ b + 15 then p - 1024 else p / 256
theorem port0 [Val] {φ : Phi} (v : Nat) {b p l h : Int} (e : Val.σ v = pv b p) (hp : b ≤ p ∧ p ≤ b + 15) (hl : l = b - 1024) (hh : h = b - 1009) {b' : Int} (hb : b' = b + 15) :
    VR φ (.sym .u16 b b' (.add (.mul (.const 256) (.const 4)) (.var v l h))) (.int .u16 p) := by
  subst hb
  refine .sym ?_ hp.1 hp.2
  show 256 * 4 + clampI l h (Val.σ v) = p
  rw [e, pv, if_pos hp, clampI_id (by omega) (by omega)]; omega
theorem port1 [Val] {φ : Phi} (v : Nat) {b p : Int} (e : Val.σ v = pv b p) (e' : Val.σ (v + 2) = p % 256 / 2) (h0 : 0 ≤ p) (h1 : p ≤ 65535) (hp : ¬ (b ≤ p ∧ p ≤ b + 15) ∧ p % 2 = 0) :
    VR φ (.sym .u16 0 65534 (.add (.mul (.const 256) (.var v 0 255)) (.mul (.const 2) (.var (v + 2) 0 127)))) (.int .u16 p) := by
  refine .sym ?_ h0 (by omega)
  show 256 * clampI 0 255 (Val.σ v) + 2 * clampI 0 127 (Val.σ (v + 2)) = p
  rw [e, e', pv, if_neg hp.1, clampI_id (by omega) (by omega), clampI_id (by omega) (by omega)]; omega
theorem port2 [Val] {φ : Phi} (v : Nat) {b p : Int} (e : Val.σ v = pv b p) (e' : Val.σ (v + 2) = p % 256 / 2) (h0 : 0 ≤ p) (h1 : p ≤ 65535) (hp : ¬ (b ≤ p ∧ p ≤ b + 15) ∧ p % 2 = 1) :
    VR φ (.sym .u16 1 65535 (.add (.mul (.const 256) (.var v 0 255)) (.add (.mul (.const 2) (.var (v + 2) 0 127)) (.const 1)))) (.int .u16 p) := by
  refine .sym ?_ (by omega) h1
  show 256 * clampI 0 255 (Val.σ v) + (2 * clampI 0 127 (Val.σ (v + 2)) + 1) = p
  rw [e, e', pv, if_neg hp.1, clampI_id (by omega) (by omega), clampI_id (by omega) (by omega)]; omega
theorem outF [Val] (v : Nat) {b p a : Int} (e : Val.σ v = pv b p) (e' : Val.σ (v + 2) = p % 256 / 2) (h0 : 0 ≤ p) (h1 : p ≤ 65535) (hp : ¬ (b ≤ p ∧ p ≤ b + 15)) (ha : 2 * a = -b) (hm : b % 16 = 0) :
    Fact.holds Val.σ (⟨true, .quo (.add (.add (.mul (.const 128) (.var v 0 255)) (.var (v + 2) 0 127)) (.const a)) 8, .const 0, false⟩ : Fact) := by
  show decide ((128 * clampI 0 255 (Val.σ v) + clampI 0 127 (Val.σ (v + 2)) + a) / 8 = 0) = false
  rw [e, e', pv, if_neg hp, clampI_id (by omega) (by omega), clampI_id (by omega) (by omega)]
  exact decide_eq_false (by omega)
theorem st0 [Val] {G g : Nat} {w : World} (hg : g = G) (hd : G ≤ 2 ^ HD) (hw : g ≤ w.heap.size) (hro : Ro0 g w) {tb : List Fact} (hT : ∀ f ∈ tb, f.holds Val.σ) : HR g (phi0 G) ⟨G, .e, [], tb⟩ w ∧ Bel w (phi0 G) ⟨G, .e, [], tb⟩ w := by
  subst hg
  exact ⟨Go.Ab.hr0 hd hw hro hT, ⟨rfl, rfl, rfl, Nat.le_refl _, fun _ _ => ⟨rfl, Go.Ab.own0⟩⟩⟩
theorem fcons {p : Fact → Prop} {a : Fact} {l : List Fact} (h : p a) (hl : ∀ t ∈ l, p t) : ∀ t ∈ a :: l, p t := fun t ht => by
  rcases List.mem_cons.mp ht with rfl | ht
  · exact h
  · exact hl t ht
theorem fnil {p : Fact → Prop} : ∀ t ∈ ([] : List Fact), p t := fun _ h => absurd h (by simp)
theorem kinds (b p : Int) : (b ≤ p ∧ p ≤ b + 15) ∨ (¬ (b ≤ p ∧ p ≤ b + 15) ∧ p % 2 = 0) ∨ (¬ (b ≤ p ∧ p ≤ b + 15) ∧ p % 2 = 1) := by omega
abbrev vals (o c b2 b3 b4 b5 b6 b7 b8 b9 b10 b11 p q : Int) : Val := ⟨fun i => match i with
  | 2 => b2
  | 3 => b3
  | 4 => b4
  | 5 => b5
  | 6 => b6
  | 7 => b7
  | 8 => b8
  | 9 => b9
  | 10 => b10
  | 11 => b11
  | 13 => pv 1024 p
  | 15 => p % 256 / 2
  | 14 => pv (if c % 4 = 0 then 1024 else 1040) q
  | 16 => q % 256 / 2
  | 20 => o / 3
  | 21 => c / 4
  | _ => 0⟩

theorem shape_vr [Val] {φ : Phi} {tv : AV} {t : Bool} (ht : VR φ tv (.bool t)) {o c b2 b3 b4 b5 b6 b7 b8 b9 b10 b11 : Int} (lo : 0 ≤ o) (ho : o ≤ 255) (lc : 0 ≤ c) (hc : c ≤ 255) (lb2 : 0 ≤ b2) (hb2 : b2 ≤ 255) (lb3 : 0 ≤ b3) (hb3 : b3 ≤ 255) (lb4 : 0 ≤ b4) (hb4 : b4 ≤ 255) (lb5 : 0 ≤ b5) (hb5 : b5 ≤ 255) (lb6 : 0 ≤ b6) (hb6 : b6 ≤ 255) (lb7 : 0 ≤ b7) (hb7 : b7 ≤ 255) (lb8 : 0 ≤ b8) (hb8 : b8 ≤ 255) (lb9 : 0 ≤ b9) (hb9 : b9 ≤ 255) (lb10 : 0 ≤ b10) (hb10 : b10 ≤ 255) (lb11 : 0 ≤ b11) (hb11 : b11 ≤ 255) (r0 q0 h0 r1 h1 : Int)
    (e20 : Val.σ 20 = o / 3) (e21 : Val.σ 21 = c / 4) (e2 : Val.σ 2 = b2) (e3 : Val.σ 3 = b3) (e4 : Val.σ 4 = b4) (e5 : Val.σ 5 = b5) (e6 : Val.σ 6 = b6) (e7 : Val.σ 7 = b7) (e8 : Val.σ 8 = b8) (e9 : Val.σ 9 = b9) (e10 : Val.σ 10 = b10) (e11 : Val.σ 11 = b11) (m0 : o % 3 = r0) (m1 : c % 4 = r1) (g0 : o / 3 ≤ q0) (g1 : r0 ≤ o ∧ o ≤ h0) (g2 : r1 ≤ c ∧ c ≤ h1) :
    VR φ (.agg 13 4 .junk (setFrom 4 .e 0 [.sym .u8 r0 h0 (.add (.mul (.const 3) (.var 20 0 q0)) (.const r0)), .sym .u8 r1 h1 (.add (.mul (.const 4) (.var 21 0 63)) (.const r1)),
      .sym .u8 0 255 (.var 2 0 255), .sym .u8 0 255 (.var 3 0 255), .sym .u8 0 255 (.var 4 0 255), .sym .u8 0 255 (.var 5 0 255), .sym .u8 0 255 (.var 6 0 255), .sym .u8 0 255 (.var 7 0 255), .sym .u8 0 255 (.var 8 0 255), .sym .u8 0 255 (.var 9 0 255), .sym .u8 0 255 (.var 10 0 255), .sym .u8 0 255 (.var 11 0 255), tv])) (.agg #[.int .u8 o, .int .u8 c, .int .u8 b2, .int .u8 b3, .int .u8 b4, .int .u8 b5, .int .u8 b6, .int .u8 b7, .int .u8 b8, .int .u8 b9, .int .u8 b10, .int .u8 b11, .bool t]) := by
  refine VRs.agg (m := [.int .u8 o, .int .u8 c, .int .u8 b2, .int .u8 b3, .int .u8 b4, .int .u8 b5, .int .u8 b6, .int .u8 b7, .int .u8 b8, .int .u8 b9, .int .u8 b10, .int .u8 b11, .bool t]) (.cons (.sym ?_ g1.1 g1.2) (.cons (.sym ?_ g2.1 g2.2) (.cons (vr_var 2 e2 lb2 hb2) (.cons (vr_var 3 e3 lb3 hb3) (.cons (vr_var 4 e4 lb4 hb4) (.cons (vr_var 5 e5 lb5 hb5) (.cons (vr_var 6 e6 lb6 hb6) (.cons (vr_var 7 e7 lb7 hb7) (.cons (vr_var 8 e8 lb8 hb8) (.cons (vr_var 9 e9 lb9 hb9) (.cons (vr_var 10 e10 lb10 hb10) (.cons (vr_var 11 e11 lb11 hb11) (.cons ht .nil))))))))))))) rfl rfl (by decide)
  · show 3 * clampI 0 q0 (Val.σ 20) + r0 = o
    rw [e20, clampI_id (by omega) g0]; omega
  · show 4 * clampI 0 63 (Val.σ 21) + r1 = c
    rw [e21, clampI_id (by omega) (by omega)]; omega

theorem lr3 [Val] {φ : Phi} {a b c : AV} {x y z : Value} (h : VR φ a x) (h' : VR φ b y) (h'' : VR φ c z) : LR φ [a, b, c] #[x, y, z] := VRs.lr (m := [x, y, z]) (.cons h (.cons h' (.cons h'' .nil)))

theorem law (o c b2 b3 b4 b5 b6 b7 b8 b9 b10 b11 : Int) (t : Bool) (p q : Int) (lo : 0 ≤ o) (ho : o ≤ 255) (lc : 0 ≤ c) (hc : c ≤ 255) (lb2 : 0 ≤ b2) (hb2 : b2 ≤ 255) (lb3 : 0 ≤ b3) (hb3 : b3 ≤ 255) (lb4 : 0 ≤ b4) (hb4 : b4 ≤ 255) (lb5 : 0 ≤ b5) (hb5 : b5 ≤ 255) (lb6 : 0 ≤ b6) (hb6 : b6 ≤ 255) (lb7 : 0 ≤ b7) (hb7 : b7 ≤ 255) (lb8 : 0 ≤ b8) (hb8 : b8 ≤ 255) (lb9 : 0 ≤ b9) (hb9 : b9 ≤ 255) (lb10 : 0 ≤ b10) (hb10 : b10 ≤ 255) (lb11 : 0 ≤ b11) (hb11 : b11 ≤ 255) (lp : 0 ≤ p) (hp : p ≤ 65535) (lq : 0 ≤ q) (hq : q ≤ 65535) (w : World) (hG : Tryz.prog.globals.size ≤ w.heap.size) (hro : Ro0 Tryz.prog.globals.size w) :
    Calls Tryz.prog 3 #[.agg #[.int .u8 o, .int .u8 c, .int .u8 b2, .int .u8 b3, .int .u8 b4, .int .u8 b5, .int .u8 b6, .int .u8 b7, .int .u8 b8, .int .u8 b9, .int .u8 b10, .int .u8 b11, .bool t], .int .u16 p, .int .u16 q] w fun e w' => e = .returned (.bool true) ∧ Below w.heap.size w w' := by
  letI V : Val := vals o c b2 b3 b4 b5 b6 b7 b8 b9 b10 b11 p q
  have hV : Inv V := trivial
  have m0 : o % 3 = 0 ∨ o % 3 = 1 ∨ o % 3 = 2 := by omega
  have m1 : c % 4 = 0 ∨ c % 4 = 1 ∨ c % 4 = 2 ∨ c % 4 = 3 := by omega
  have sv := fun (r0 q0 h0 r1 h1 : Int) => @shape_vr V (phi0 6) .anyb t (@VR.anyb V _ _) o c b2 b3 b4 b5 b6 b7 b8 b9 b10 b11 lo ho lc hc lb2 hb2 lb3 hb3 lb4 hb4 lb5 hb5 lb6 hb6 lb7 hb7 lb8 hb8 lb9 hb9 lb10 hb10 lb11 hb11 r0 q0 h0 r1 h1 rfl rfl rfl rfl rfl rfl rfl rfl rfl rfl rfl rfl
  have e13 : V.σ 13 = pv 1024 p := rfl
  have e15 : V.σ (13 + 2) = p % 256 / 2 := rfl
  have e16 : V.σ (14 + 2) = q % 256 / 2 := rfl
  have z := fun (tb : List Fact) (h : ∀ f ∈ tb, f.holds Val.σ) => st0 g0 (by decide) hG hro h
  replace z := fun {tb} h => z tb h
  rcases m0 with m0 | m0 | m0
  · rcases m1 with m1 | m1 | m1 | m1
    · have s := sv 0 85 255 0 252 m0 m1 (by omega) (by omega) (by omega)
      have e14 : V.σ 14 = pv 1024 q := by
        show pv (if c % 4 = 0 then 1024 else 1040) q = _
        rw [if_pos m1]
      rcases kinds 1024 p with k | k | k
      · have P := (port0 (φ := phi0 6) 13 (l := 0) (h := 15) (b' := 1039) e13 k (by decide) (by decide) (by decide))
        rcases kinds 1024 q with j | j | j
        · obtain ⟨hr, hb⟩ := z (fnil)
          exact cls0 hV w _ _ hr hb (lr3 s P (port0 (φ := phi0 6) 14 (l := 0) (h := 15) (b' := 1039) e14 j (by decide) (by decide) (by decide)))
        · obtain ⟨hr, hb⟩ := z (fcons (outF 14 (a := -512) e14 e16 lq hq j.1 (by decide) (by decide)) (fnil))
          exact cls1 hV w _ _ hr hb (lr3 s P (port1 (φ := phi0 6) 14 e14 e16 lq hq j))
        · obtain ⟨hr, hb⟩ := z (fcons (outF 14 (a := -512) e14 e16 lq hq j.1 (by decide) (by decide)) (fnil))
          exact cls2 hV w _ _ hr hb (lr3 s P (port2 (φ := phi0 6) 14 e14 e16 lq hq j))
      · have P := (port1 (φ := phi0 6) 13 e13 e15 lp hp k)
        have A := outF 13 (a := -512) e13 e15 lp hp k.1 (by decide) (by decide)
        rcases kinds 1024 q with j | j | j
        · obtain ⟨hr, hb⟩ := z (fcons A (fnil))
          exact cls3 hV w _ _ hr hb (lr3 s P (port0 (φ := phi0 6) 14 (l := 0) (h := 15) (b' := 1039) e14 j (by decide) (by decide) (by decide)))
        · obtain ⟨hr, hb⟩ := z (fcons A (fcons (outF 14 (a := -512) e14 e16 lq hq j.1 (by decide) (by decide)) (fnil)))
          exact cls4 hV w _ _ hr hb (lr3 s P (port1 (φ := phi0 6) 14 e14 e16 lq hq j))
        · obtain ⟨hr, hb⟩ := z (fcons A (fcons (outF 14 (a := -512) e14 e16 lq hq j.1 (by decide) (by decide)) (fnil)))
          exact cls5 hV w _ _ hr hb (lr3 s P (port2 (φ := phi0 6) 14 e14 e16 lq hq j))
      · have P := (port2 (φ := phi0 6) 13 e13 e15 lp hp k)
        have A := outF 13 (a := -512) e13 e15 lp hp k.1 (by decide) (by decide)
        rcases kinds 1024 q with j | j | j
        · obtain ⟨hr, hb⟩ := z (fcons A (fnil))
          exact cls6 hV w _ _ hr hb (lr3 s P (port0 (φ := phi0 6) 14 (l := 0) (h := 15) (b' := 1039) e14 j (by decide) (by decide) (by decide)))
        · obtain ⟨hr, hb⟩ := z (fcons A (fcons (outF 14 (a := -512) e14 e16 lq hq j.1 (by decide) (by decide)) (fnil)))
          exact cls7 hV w _ _ hr hb (lr3 s P (port1 (φ := phi0 6) 14 e14 e16 lq hq j))
        · obtain ⟨hr, hb⟩ := z (fcons A (fcons (outF 14 (a := -512) e14 e16 lq hq j.1 (by decide) (by decide)) (fnil)))
          exact cls8 hV w _ _ hr hb (lr3 s P (port2 (φ := phi0 6) 14 e14 e16 lq hq j))
    · have s := sv 0 85 255 1 253 m0 m1 (by omega) (by omega) (by omega)
      have e14 : V.σ 14 = pv 1040 q := by
        show pv (if c % 4 = 0 then 1024 else 1040) q = _
        rw [if_neg (by omega)]
      rcases kinds 1024 p with k | k | k
      · have P := (port0 (φ := phi0 6) 13 (l := 0) (h := 15) (b' := 1039) e13 k (by decide) (by decide) (by decide))
        rcases kinds 1040 q with j | j | j
        · obtain ⟨hr, hb⟩ := z (fnil)
          exact cls9 hV w _ _ hr hb (lr3 s P (port0 (φ := phi0 6) 14 (l := 16) (h := 31) (b' := 1055) e14 j (by decide) (by decide) (by decide)))
        · obtain ⟨hr, hb⟩ := z (fcons (outF 14 (a := -520) e14 e16 lq hq j.1 (by decide) (by decide)) (fnil))
          exact cls10 hV w _ _ hr hb (lr3 s P (port1 (φ := phi0 6) 14 e14 e16 lq hq j))
        · obtain ⟨hr, hb⟩ := z (fcons (outF 14 (a := -520) e14 e16 lq hq j.1 (by decide) (by decide)) (fnil))
          exact cls11 hV w _ _ hr hb (lr3 s P (port2 (φ := phi0 6) 14 e14 e16 lq hq j))
      · have P := (port1 (φ := phi0 6) 13 e13 e15 lp hp k)
        have A := outF 13 (a := -512) e13 e15 lp hp k.1 (by decide) (by decide)
        rcases kinds 1040 q with j | j | j
        · obtain ⟨hr, hb⟩ := z (fcons A (fnil))
          exact cls12 hV w _ _ hr hb (lr3 s P (port0 (φ := phi0 6) 14 (l := 16) (h := 31) (b' := 1055) e14 j (by decide) (by decide) (by decide)))
        · obtain ⟨hr, hb⟩ := z (fcons A (fcons (outF 14 (a := -520) e14 e16 lq hq j.1 (by decide) (by decide)) (fnil)))
          exact cls13 hV w _ _ hr hb (lr3 s P (port1 (φ := phi0 6) 14 e14 e16 lq hq j))
        · obtain ⟨hr, hb⟩ := z (fcons A (fcons (outF 14 (a := -520) e14 e16 lq hq j.1 (by decide) (by decide)) (fnil)))
          exact cls14 hV w _ _ hr hb (lr3 s P (port2 (φ := phi0 6) 14 e14 e16 lq hq j))
      · have P := (port2 (φ := phi0 6) 13 e13 e15 lp hp k)
        have A := outF 13 (a := -512) e13 e15 lp hp k.1 (by decide) (by decide)
        rcases kinds 1040 q with j | j | j
        · obtain ⟨hr, hb⟩ := z (fcons A (fnil))
          exact cls15 hV w _ _ hr hb (lr3 s P (port0 (φ := phi0 6) 14 (l := 16) (h := 31) (b' := 1055) e14 j (by decide) (by decide) (by decide)))
        · obtain ⟨hr, hb⟩ := z (fcons A (fcons (outF 14 (a := -520) e14 e16 lq hq j.1 (by decide) (by decide)) (fnil)))
          exact cls16 hV w _ _ hr hb (lr3 s P (port1 (φ := phi0 6) 14 e14 e16 lq hq j))
        · obtain ⟨hr, hb⟩ := z (fcons A (fcons (outF 14 (a := -520) e14 e16 lq hq j.1 (by decide) (by decide)) (fnil)))
          exact cls17 hV w _ _ hr hb (lr3 s P (port2 (φ := phi0 6) 14 e14 e16 lq hq j))
    · have s := sv 0 85 255 2 254 m0 m1 (by omega) (by omega) (by omega)
      have e14 : V.σ 14 = pv 1040 q := by
        show pv (if c % 4 = 0 then 1024 else 1040) q = _
        rw [if_neg (by omega)]
      rcases kinds 1024 p with k | k | k
      · have P := (port0 (φ := phi0 6) 13 (l := 0) (h := 15) (b' := 1039) e13 k (by decide) (by decide) (by decide))
        rcases kinds 1040 q with j | j | j
        · obtain ⟨hr, hb⟩ := z (fnil)
          exact cls18 hV w _ _ hr hb (lr3 s P (port0 (φ := phi0 6) 14 (l := 16) (h := 31) (b' := 1055) e14 j (by decide) (by decide) (by decide)))
        · obtain ⟨hr, hb⟩ := z (fcons (outF 14 (a := -520) e14 e16 lq hq j.1 (by decide) (by decide)) (fnil))
          exact cls19 hV w _ _ hr hb (lr3 s P (port1 (φ := phi0 6) 14 e14 e16 lq hq j))
        · obtain ⟨hr, hb⟩ := z (fcons (outF 14 (a := -520) e14 e16 lq hq j.1 (by decide) (by decide)) (fnil))
          exact cls20 hV w _ _ hr hb (lr3 s P (port2 (φ := phi0 6) 14 e14 e16 lq hq j))
      · have P := (port1 (φ := phi0 6) 13 e13 e15 lp hp k)
        have A := outF 13 (a := -512) e13 e15 lp hp k.1 (by decide) (by decide)
        rcases kinds 1040 q with j | j | j
        · obtain ⟨hr, hb⟩ := z (fcons A (fnil))
          exact cls21 hV w _ _ hr hb (lr3 s P (port0 (φ := phi0 6) 14 (l := 16) (h := 31) (b' := 1055) e14 j (by decide) (by decide) (by decide)))
        · obtain ⟨hr, hb⟩ := z (fcons A (fcons (outF 14 (a := -520) e14 e16 lq hq j.1 (by decide) (by decide)) (fnil)))
          exact cls22 hV w _ _ hr hb (lr3 s P (port1 (φ := phi0 6) 14 e14 e16 lq hq j))
        · obtain ⟨hr, hb⟩ := z (fcons A (fcons (outF 14 (a := -520) e14 e16 lq hq j.1 (by decide) (by decide)) (fnil)))
          exact cls23 hV w _ _ hr hb (lr3 s P (port2 (φ := phi0 6) 14 e14 e16 lq hq j))
      · have P := (port2 (φ := phi0 6) 13 e13 e15 lp hp k)
        have A := outF 13 (a := -512) e13 e15 lp hp k.1 (by decide) (by decide)
        rcases kinds 1040 q with j | j | j
        · obtain ⟨hr, hb⟩ := z (fcons A (fnil))
          exact cls24 hV w _ _ hr hb (lr3 s P (port0 (φ := phi0 6) 14 (l := 16) (h := 31) (b' := 1055) e14 j (by decide) (by decide) (by decide)))
        · obtain ⟨hr, hb⟩ := z (fcons A (fcons (outF 14 (a := -520) e14 e16 lq hq j.1 (by decide) (by decide)) (fnil)))
          exact cls25 hV w _ _ hr hb (lr3 s P (port1 (φ := phi0 6) 14 e14 e16 lq hq j))
        · obtain ⟨hr, hb⟩ := z (fcons A (fcons (outF 14 (a := -520) e14 e16 lq hq j.1 (by decide) (by decide)) (fnil)))
          exact cls26 hV w _ _ hr hb (lr3 s P (port2 (φ := phi0 6) 14 e14 e16 lq hq j))
    · have s := sv 0 85 255 3 255 m0 m1 (by omega) (by omega) (by omega)
      have e14 : V.σ 14 = pv 1040 q := by
        show pv (if c % 4 = 0 then 1024 else 1040) q = _
        rw [if_neg (by omega)]
      rcases kinds 1024 p with k | k | k
      · have P := (port0 (φ := phi0 6) 13 (l := 0) (h := 15) (b' := 1039) e13 k (by decide) (by decide) (by decide))
        rcases kinds 1040 q with j | j | j
        · obtain ⟨hr, hb⟩ := z (fnil)
          exact cls27 hV w _ _ hr hb (lr3 s P (port0 (φ := phi0 6) 14 (l := 16) (h := 31) (b' := 1055) e14 j (by decide) (by decide) (by decide)))
        · obtain ⟨hr, hb⟩ := z (fcons (outF 14 (a := -520) e14 e16 lq hq j.1 (by decide) (by decide)) (fnil))
          exact cls28 hV w _ _ hr hb (lr3 s P (port1 (φ := phi0 6) 14 e14 e16 lq hq j))
        · obtain ⟨hr, hb⟩ := z (fcons (outF 14 (a := -520) e14 e16 lq hq j.1 (by decide) (by decide)) (fnil))
          exact cls29 hV w _ _ hr hb (lr3 s P (port2 (φ := phi0 6) 14 e14 e16 lq hq j))
      · have P := (port1 (φ := phi0 6) 13 e13 e15 lp hp k)
        have A := outF 13 (a := -512) e13 e15 lp hp k.1 (by decide) (by decide)
        rcases kinds 1040 q with j | j | j
        · obtain ⟨hr, hb⟩ := z (fcons A (fnil))
          exact cls30 hV w _ _ hr hb (lr3 s P (port0 (φ := phi0 6) 14 (l := 16) (h := 31) (b' := 1055) e14 j (by decide) (by decide) (by decide)))
        · obtain ⟨hr, hb⟩ := z (fcons A (fcons (outF 14 (a := -520) e14 e16 lq hq j.1 (by decide) (by decide)) (fnil)))
          exact cls31 hV w _ _ hr hb (lr3 s P (port1 (φ := phi0 6) 14 e14 e16 lq hq j))
        · obtain ⟨hr, hb⟩ := z (fcons A (fcons (outF 14 (a := -520) e14 e16 lq hq j.1 (by decide) (by decide)) (fnil)))
          exact cls32 hV w _ _ hr hb (lr3 s P (port2 (φ := phi0 6) 14 e14 e16 lq hq j))
      · have P := (port2 (φ := phi0 6) 13 e13 e15 lp hp k)
        have A := outF 13 (a := -512) e13 e15 lp hp k.1 (by decide) (by decide)
        rcases kinds 1040 q with j | j | j
        · obtain ⟨hr, hb⟩ := z (fcons A (fnil))
          exact cls33 hV w _ _ hr hb (lr3 s P (port0 (φ := phi0 6) 14 (l := 16) (h := 31) (b' := 1055) e14 j (by decide) (by decide) (by decide)))
        · obtain ⟨hr, hb⟩ := z (fcons A (fcons (outF 14 (a := -520) e14 e16 lq hq j.1 (by decide) (by decide)) (fnil)))
          exact cls34 hV w _ _ hr hb (lr3 s P (port1 (φ := phi0 6) 14 e14 e16 lq hq j))
        · obtain ⟨hr, hb⟩ := z (fcons A (fcons (outF 14 (a := -520) e14 e16 lq hq j.1 (by decide) (by decide)) (fnil)))
          exact cls35 hV w _ _ hr hb (lr3 s P (port2 (φ := phi0 6) 14 e14 e16 lq hq j))
  · rcases m1 with m1 | m1 | m1 | m1
    · have s := sv 1 84 253 0 252 m0 m1 (by omega) (by omega) (by omega)
      have e14 : V.σ 14 = pv 1024 q := by
        show pv (if c % 4 = 0 then 1024 else 1040) q = _
        rw [if_pos m1]
      rcases kinds 1024 p with k | k | k
      · have P := (port0 (φ := phi0 6) 13 (l := 0) (h := 15) (b' := 1039) e13 k (by decide) (by decide) (by decide))
        rcases kinds 1024 q with j | j | j
        · obtain ⟨hr, hb⟩ := z (fnil)
          exact cls36 hV w _ _ hr hb (lr3 s P (port0 (φ := phi0 6) 14 (l := 0) (h := 15) (b' := 1039) e14 j (by decide) (by decide) (by decide)))
        · obtain ⟨hr, hb⟩ := z (fcons (outF 14 (a := -512) e14 e16 lq hq j.1 (by decide) (by decide)) (fnil))
          exact cls37 hV w _ _ hr hb (lr3 s P (port1 (φ := phi0 6) 14 e14 e16 lq hq j))
        · obtain ⟨hr, hb⟩ := z (fcons (outF 14 (a := -512) e14 e16 lq hq j.1 (by decide) (by decide)) (fnil))
          exact cls38 hV w _ _ hr hb (lr3 s P (port2 (φ := phi0 6) 14 e14 e16 lq hq j))
      · have P := (port1 (φ := phi0 6) 13 e13 e15 lp hp k)
        have A := outF 13 (a := -512) e13 e15 lp hp k.1 (by decide) (by decide)
        rcases kinds 1024 q with j | j | j
        · obtain ⟨hr, hb⟩ := z (fcons A (fnil))
          exact cls39 hV w _ _ hr hb (lr3 s P (port0 (φ := phi0 6) 14 (l := 0) (h := 15) (b' := 1039) e14 j (by decide) (by decide) (by decide)))
        · obtain ⟨hr, hb⟩ := z (fcons A (fcons (outF 14 (a := -512) e14 e16 lq hq j.1 (by decide) (by decide)) (fnil)))
          exact cls40 hV w _ _ hr hb (lr3 s P (port1 (φ := phi0 6) 14 e14 e16 lq hq j))
        · obtain ⟨hr, hb⟩ := z (fcons A (fcons (outF 14 (a := -512) e14 e16 lq hq j.1 (by decide) (by decide)) (fnil)))
          exact cls41 hV w _ _ hr hb (lr3 s P (port2 (φ := phi0 6) 14 e14 e16 lq hq j))
      · have P := (port2 (φ := phi0 6) 13 e13 e15 lp hp k)
        have A := outF 13 (a := -512) e13 e15 lp hp k.1 (by decide) (by decide)
        rcases kinds 1024 q with j | j | j
        · obtain ⟨hr, hb⟩ := z (fcons A (fnil))
          exact cls42 hV w _ _ hr hb (lr3 s P (port0 (φ := phi0 6) 14 (l := 0) (h := 15) (b' := 1039) e14 j (by decide) (by decide) (by decide)))
        · obtain ⟨hr, hb⟩ := z (fcons A (fcons (outF 14 (a := -512) e14 e16 lq hq j.1 (by decide) (by decide)) (fnil)))
          exact cls43 hV w _ _ hr hb (lr3 s P (port1 (φ := phi0 6) 14 e14 e16 lq hq j))
        · obtain ⟨hr, hb⟩ := z (fcons A (fcons (outF 14 (a := -512) e14 e16 lq hq j.1 (by decide) (by decide)) (fnil)))
          exact cls44 hV w _ _ hr hb (lr3 s P (port2 (φ := phi0 6) 14 e14 e16 lq hq j))
    · have s := sv 1 84 253 1 253 m0 m1 (by omega) (by omega) (by omega)
      have e14 : V.σ 14 = pv 1040 q := by
        show pv (if c % 4 = 0 then 1024 else 1040) q = _
        rw [if_neg (by omega)]
      rcases kinds 1024 p with k | k | k
      · have P := (port0 (φ := phi0 6) 13 (l := 0) (h := 15) (b' := 1039) e13 k (by decide) (by decide) (by decide))
        rcases kinds 1040 q with j | j | j
        · obtain ⟨hr, hb⟩ := z (fnil)
          exact cls45 hV w _ _ hr hb (lr3 s P (port0 (φ := phi0 6) 14 (l := 16) (h := 31) (b' := 1055) e14 j (by decide) (by decide) (by decide)))
        · obtain ⟨hr, hb⟩ := z (fcons (outF 14 (a := -520) e14 e16 lq hq j.1 (by decide) (by decide)) (fnil))
          exact cls46 hV w _ _ hr hb (lr3 s P (port1 (φ := phi0 6) 14 e14 e16 lq hq j))
        · obtain ⟨hr, hb⟩ := z (fcons (outF 14 (a := -520) e14 e16 lq hq j.1 (by decide) (by decide)) (fnil))
          exact cls47 hV w _ _ hr hb (lr3 s P (port2 (φ := phi0 6) 14 e14 e16 lq hq j))
      · have P := (port1 (φ := phi0 6) 13 e13 e15 lp hp k)
        have A := outF 13 (a := -512) e13 e15 lp hp k.1 (by decide) (by decide)
        rcases kinds 1040 q with j | j | j
        · obtain ⟨hr, hb⟩ := z (fcons A (fnil))
          exact cls48 hV w _ _ hr hb (lr3 s P (port0 (φ := phi0 6) 14 (l := 16) (h := 31) (b' := 1055) e14 j (by decide) (by decide) (by decide)))
        · obtain ⟨hr, hb⟩ := z (fcons A (fcons (outF 14 (a := -520) e14 e16 lq hq j.1 (by decide) (by decide)) (fnil)))
          exact cls49 hV w _ _ hr hb (lr3 s P (port1 (φ := phi0 6) 14 e14 e16 lq hq j))
        · obtain ⟨hr, hb⟩ := z (fcons A (fcons (outF 14 (a := -520) e14 e16 lq hq j.1 (by decide) (by decide)) (fnil)))
          exact cls50 hV w _ _ hr hb (lr3 s P (port2 (φ := phi0 6) 14 e14 e16 lq hq j))
      · have P := (port2 (φ := phi0 6) 13 e13 e15 lp hp k)
        have A := outF 13 (a := -512) e13 e15 lp hp k.1 (by decide) (by decide)
        rcases kinds 1040 q with j | j | j
        · obtain ⟨hr, hb⟩ := z (fcons A (fnil))
          exact cls51 hV w _ _ hr hb (lr3 s P (port0 (φ := phi0 6) 14 (l := 16) (h := 31) (b' := 1055) e14 j (by decide) (by decide) (by decide)))
        · obtain ⟨hr, hb⟩ := z (fcons A (fcons (outF 14 (a := -520) e14 e16 lq hq j.1 (by decide) (by decide)) (fnil)))
          exact cls52 hV w _ _ hr hb (lr3 s P (port1 (φ := phi0 6) 14 e14 e16 lq hq j))
        · obtain ⟨hr, hb⟩ := z (fcons A (fcons (outF 14 (a := -520) e14 e16 lq hq j.1 (by decide) (by decide)) (fnil)))
          exact cls53 hV w _ _ hr hb (lr3 s P (port2 (φ := phi0 6) 14 e14 e16 lq hq j))
    · have s := sv 1 84 253 2 254 m0 m1 (by omega) (by omega) (by omega)
      have e14 : V.σ 14 = pv 1040 q := by
        show pv (if c % 4 = 0 then 1024 else 1040) q = _
        rw [if_neg (by omega)]
      rcases kinds 1024 p with k | k | k
      · have P := (port0 (φ := phi0 6) 13 (l := 0) (h := 15) (b' := 1039) e13 k (by decide) (by decide) (by decide))
        rcases kinds 1040 q with j | j | j
        · obtain ⟨hr, hb⟩ := z (fnil)
          exact cls54 hV w _ _ hr hb (lr3 s P (port0 (φ := phi0 6) 14 (l := 16) (h := 31) (b' := 1055) e14 j (by decide) (by decide) (by decide)))
        · obtain ⟨hr, hb⟩ := z (fcons (outF 14 (a := -520) e14 e16 lq hq j.1 (by decide) (by decide)) (fnil))
          exact cls55 hV w _ _ hr hb (lr3 s P (port1 (φ := phi0 6) 14 e14 e16 lq hq j))
        · obtain ⟨hr, hb⟩ := z (fcons (outF 14 (a := -520) e14 e16 lq hq j.1 (by decide) (by decide)) (fnil))
          exact cls56 hV w _ _ hr hb (lr3 s P (port2 (φ := phi0 6) 14 e14 e16 lq hq j))
      · have P := (port1 (φ := phi0 6) 13 e13 e15 lp hp k)
        have A := outF 13 (a := -512) e13 e15 lp hp k.1 (by decide) (by decide)
        rcases kinds 1040 q with j | j | j
        · obtain ⟨hr, hb⟩ := z (fcons A (fnil))
          exact cls57 hV w _ _ hr hb (lr3 s P (port0 (φ := phi0 6) 14 (l := 16) (h := 31) (b' := 1055) e14 j (by decide) (by decide) (by decide)))
        · obtain ⟨hr, hb⟩ := z (fcons A (fcons (outF 14 (a := -520) e14 e16 lq hq j.1 (by decide) (by decide)) (fnil)))
          exact cls58 hV w _ _ hr hb (lr3 s P (port1 (φ := phi0 6) 14 e14 e16 lq hq j))
        · obtain ⟨hr, hb⟩ := z (fcons A (fcons (outF 14 (a := -520) e14 e16 lq hq j.1 (by decide) (by decide)) (fnil)))
          exact cls59 hV w _ _ hr hb (lr3 s P (port2 (φ := phi0 6) 14 e14 e16 lq hq j))
      · have P := (port2 (φ := phi0 6) 13 e13 e15 lp hp k)
        have A := outF 13 (a := -512) e13 e15 lp hp k.1 (by decide) (by decide)
        rcases kinds 1040 q with j | j | j
        · obtain ⟨hr, hb⟩ := z (fcons A (fnil))
          exact cls60 hV w _ _ hr hb (lr3 s P (port0 (φ := phi0 6) 14 (l := 16) (h := 31) (b' := 1055) e14 j (by decide) (by decide) (by decide)))
        · obtain ⟨hr, hb⟩ := z (fcons A (fcons (outF 14 (a := -520) e14 e16 lq hq j.1 (by decide) (by decide)) (fnil)))
          exact cls61 hV w _ _ hr hb (lr3 s P (port1 (φ := phi0 6) 14 e14 e16 lq hq j))
        · obtain ⟨hr, hb⟩ := z (fcons A (fcons (outF 14 (a := -520) e14 e16 lq hq j.1 (by decide) (by decide)) (fnil)))
          exact cls62 hV w _ _ hr hb (lr3 s P (port2 (φ := phi0 6) 14 e14 e16 lq hq j))
    · have s := sv 1 84 253 3 255 m0 m1 (by omega) (by omega) (by omega)
      have e14 : V.σ 14 = pv 1040 q := by
        show pv (if c % 4 = 0 then 1024 else 1040) q = _
        rw [if_neg (by omega)]
      rcases kinds 1024 p with k | k | k
      · have P := (port0 (φ := phi0 6) 13 (l := 0) (h := 15) (b' := 1039) e13 k (by decide) (by decide) (by decide))
        rcases kinds 1040 q with j | j | j
        · obtain ⟨hr, hb⟩ := z (fnil)
          exact cls63 hV w _ _ hr hb (lr3 s P (port0 (φ := phi0 6) 14 (l := 16) (h := 31) (b' := 1055) e14 j (by decide) (by decide) (by decide)))
        · obtain ⟨hr, hb⟩ := z (fcons (outF 14 (a := -520) e14 e16 lq hq j.1 (by decide) (by decide)) (fnil))
          exact cls64 hV w _ _ hr hb (lr3 s P (port1 (φ := phi0 6) 14 e14 e16 lq hq j))
        · obtain ⟨hr, hb⟩ := z (fcons (outF 14 (a := -520) e14 e16 lq hq j.1 (by decide) (by decide)) (fnil))
          exact cls65 hV w _ _ hr hb (lr3 s P (port2 (φ := phi0 6) 14 e14 e16 lq hq j))
      · have P := (port1 (φ := phi0 6) 13 e13 e15 lp hp k)
        have A := outF 13 (a := -512) e13 e15 lp hp k.1 (by decide) (by decide)
        rcases kinds 1040 q with j | j | j
        · obtain ⟨hr, hb⟩ := z (fcons A (fnil))
          exact cls66 hV w _ _ hr hb (lr3 s P (port0 (φ := phi0 6) 14 (l := 16) (h := 31) (b' := 1055) e14 j (by decide) (by decide) (by decide)))
        · obtain ⟨hr, hb⟩ := z (fcons A (fcons (outF 14 (a := -520) e14 e16 lq hq j.1 (by decide) (by decide)) (fnil)))
          exact cls67 hV w _ _ hr hb (lr3 s P (port1 (φ := phi0 6) 14 e14 e16 lq hq j))
        · obtain ⟨hr, hb⟩ := z (fcons A (fcons (outF 14 (a := -520) e14 e16 lq hq j.1 (by decide) (by decide)) (fnil)))
          exact cls68 hV w _ _ hr hb (lr3 s P (port2 (φ := phi0 6) 14 e14 e16 lq hq j))
      · have P := (port2 (φ := phi0 6) 13 e13 e15 lp hp k)
        have A := outF 13 (a := -512) e13 e15 lp hp k.1 (by decide) (by decide)
        rcases kinds 1040 q with j | j | j
        · obtain ⟨hr, hb⟩ := z (fcons A (fnil))
          exact cls69 hV w _ _ hr hb (lr3 s P (port0 (φ := phi0 6) 14 (l := 16) (h := 31) (b' := 1055) e14 j (by decide) (by decide) (by decide)))
        · obtain ⟨hr, hb⟩ := z (fcons A (fcons (outF 14 (a := -520) e14 e16 lq hq j.1 (by decide) (by decide)) (fnil)))
          exact cls70 hV w _ _ hr hb (lr3 s P (port1 (φ := phi0 6) 14 e14 e16 lq hq j))
        · obtain ⟨hr, hb⟩ := z (fcons A (fcons (outF 14 (a := -520) e14 e16 lq hq j.1 (by decide) (by decide)) (fnil)))
          exact cls71 hV w _ _ hr hb (lr3 s P (port2 (φ := phi0 6) 14 e14 e16 lq hq j))
  · rcases m1 with m1 | m1 | m1 | m1
    · have s := sv 2 84 254 0 252 m0 m1 (by omega) (by omega) (by omega)
      have e14 : V.σ 14 = pv 1024 q := by
        show pv (if c % 4 = 0 then 1024 else 1040) q = _
        rw [if_pos m1]
      rcases kinds 1024 p with k | k | k
      · have P := (port0 (φ := phi0 6) 13 (l := 0) (h := 15) (b' := 1039) e13 k (by decide) (by decide) (by decide))
        rcases kinds 1024 q with j | j | j
        · obtain ⟨hr, hb⟩ := z (fnil)
          exact cls72 hV w _ _ hr hb (lr3 s P (port0 (φ := phi0 6) 14 (l := 0) (h := 15) (b' := 1039) e14 j (by decide) (by decide) (by decide)))
        · obtain ⟨hr, hb⟩ := z (fcons (outF 14 (a := -512) e14 e16 lq hq j.1 (by decide) (by decide)) (fnil))
          exact cls73 hV w _ _ hr hb (lr3 s P (port1 (φ := phi0 6) 14 e14 e16 lq hq j))
        · obtain ⟨hr, hb⟩ := z (fcons (outF 14 (a := -512) e14 e16 lq hq j.1 (by decide) (by decide)) (fnil))
          exact cls74 hV w _ _ hr hb (lr3 s P (port2 (φ := phi0 6) 14 e14 e16 lq hq j))
      · have P := (port1 (φ := phi0 6) 13 e13 e15 lp hp k)
        have A := outF 13 (a := -512) e13 e15 lp hp k.1 (by decide) (by decide)
        rcases kinds 1024 q with j | j | j
        · obtain ⟨hr, hb⟩ := z (fcons A (fnil))
          exact cls75 hV w _ _ hr hb (lr3 s P (port0 (φ := phi0 6) 14 (l := 0) (h := 15) (b' := 1039) e14 j (by decide) (by decide) (by decide)))
        · obtain ⟨hr, hb⟩ := z (fcons A (fcons (outF 14 (a := -512) e14 e16 lq hq j.1 (by decide) (by decide)) (fnil)))
          exact cls76 hV w _ _ hr hb (lr3 s P (port1 (φ := phi0 6) 14 e14 e16 lq hq j))
        · obtain ⟨hr, hb⟩ := z (fcons A (fcons (outF 14 (a := -512) e14 e16 lq hq j.1 (by decide) (by decide)) (fnil)))
          exact cls77 hV w _ _ hr hb (lr3 s P (port2 (φ := phi0 6) 14 e14 e16 lq hq j))
      · have P := (port2 (φ := phi0 6) 13 e13 e15 lp hp k)
        have A := outF 13 (a := -512) e13 e15 lp hp k.1 (by decide) (by decide)
        rcases kinds 1024 q with j | j | j
        · obtain ⟨hr, hb⟩ := z (fcons A (fnil))
          exact cls78 hV w _ _ hr hb (lr3 s P (port0 (φ := phi0 6) 14 (l := 0) (h := 15) (b' := 1039) e14 j (by decide) (by decide) (by decide)))
        · obtain ⟨hr, hb⟩ := z (fcons A (fcons (outF 14 (a := -512) e14 e16 lq hq j.1 (by decide) (by decide)) (fnil)))
          exact cls79 hV w _ _ hr hb (lr3 s P (port1 (φ := phi0 6) 14 e14 e16 lq hq j))
        · obtain ⟨hr, hb⟩ := z (fcons A (fcons (outF 14 (a := -512) e14 e16 lq hq j.1 (by decide) (by decide)) (fnil)))
          exact cls80 hV w _ _ hr hb (lr3 s P (port2 (φ := phi0 6) 14 e14 e16 lq hq j))
    · have s := sv 2 84 254 1 253 m0 m1 (by omega) (by omega) (by omega)
      have e14 : V.σ 14 = pv 1040 q := by
        show pv (if c % 4 = 0 then 1024 else 1040) q = _
        rw [if_neg (by omega)]
      rcases kinds 1024 p with k | k | k
      · have P := (port0 (φ := phi0 6) 13 (l := 0) (h := 15) (b' := 1039) e13 k (by decide) (by decide) (by decide))
        rcases kinds 1040 q with j | j | j
        · obtain ⟨hr, hb⟩ := z (fnil)
          exact cls81 hV w _ _ hr hb (lr3 s P (port0 (φ := phi0 6) 14 (l := 16) (h := 31) (b' := 1055) e14 j (by decide) (by decide) (by decide)))
        · obtain ⟨hr, hb⟩ := z (fcons (outF 14 (a := -520) e14 e16 lq hq j.1 (by decide) (by decide)) (fnil))
          exact cls82 hV w _ _ hr hb (lr3 s P (port1 (φ := phi0 6) 14 e14 e16 lq hq j))
        · obtain ⟨hr, hb⟩ := z (fcons (outF 14 (a := -520) e14 e16 lq hq j.1 (by decide) (by decide)) (fnil))
          exact cls83 hV w _ _ hr hb (lr3 s P (port2 (φ := phi0 6) 14 e14 e16 lq hq j))
      · have P := (port1 (φ := phi0 6) 13 e13 e15 lp hp k)
        have A := outF 13 (a := -512) e13 e15 lp hp k.1 (by decide) (by decide)
        rcases kinds 1040 q with j | j | j
        · obtain ⟨hr, hb⟩ := z (fcons A (fnil))
          exact cls84 hV w _ _ hr hb (lr3 s P (port0 (φ := phi0 6) 14 (l := 16) (h := 31) (b' := 1055) e14 j (by decide) (by decide) (by decide)))
        · obtain ⟨hr, hb⟩ := z (fcons A (fcons (outF 14 (a := -520) e14 e16 lq hq j.1 (by decide) (by decide)) (fnil)))
          exact cls85 hV w _ _ hr hb (lr3 s P (port1 (φ := phi0 6) 14 e14 e16 lq hq j))
        · obtain ⟨hr, hb⟩ := z (fcons A (fcons (outF 14 (a := -520) e14 e16 lq hq j.1 (by decide) (by decide)) (fnil)))
          exact cls86 hV w _ _ hr hb (lr3 s P (port2 (φ := phi0 6) 14 e14 e16 lq hq j))
      · have P := (port2 (φ := phi0 6) 13 e13 e15 lp hp k)
        have A := outF 13 (a := -512) e13 e15 lp hp k.1 (by decide) (by decide)
        rcases kinds 1040 q with j | j | j
        · obtain ⟨hr, hb⟩ := z (fcons A (fnil))
          exact cls87 hV w _ _ hr hb (lr3 s P (port0 (φ := phi0 6) 14 (l := 16) (h := 31) (b' := 1055) e14 j (by decide) (by decide) (by decide)))
        · obtain ⟨hr, hb⟩ := z (fcons A (fcons (outF 14 (a := -520) e14 e16 lq hq j.1 (by decide) (by decide)) (fnil)))
          exact cls88 hV w _ _ hr hb (lr3 s P (port1 (φ := phi0 6) 14 e14 e16 lq hq j))
        · obtain ⟨hr, hb⟩ := z (fcons A (fcons (outF 14 (a := -520) e14 e16 lq hq j.1 (by decide) (by decide)) (fnil)))
          exact cls89 hV w _ _ hr hb (lr3 s P (port2 (φ := phi0 6) 14 e14 e16 lq hq j))
    · have s := sv 2 84 254 2 254 m0 m1 (by omega) (by omega) (by omega)
      have e14 : V.σ 14 = pv 1040 q := by
        show pv (if c % 4 = 0 then 1024 else 1040) q = _
        rw [if_neg (by omega)]
      rcases kinds 1024 p with k | k | k
      · have P := (port0 (φ := phi0 6) 13 (l := 0) (h := 15) (b' := 1039) e13 k (by decide) (by decide) (by decide))
        rcases kinds 1040 q with j | j | j
        · obtain ⟨hr, hb⟩ := z (fnil)
          exact cls90 hV w _ _ hr hb (lr3 s P (port0 (φ := phi0 6) 14 (l := 16) (h := 31) (b' := 1055) e14 j (by decide) (by decide) (by decide)))
        · obtain ⟨hr, hb⟩ := z (fcons (outF 14 (a := -520) e14 e16 lq hq j.1 (by decide) (by decide)) (fnil))
          exact cls91 hV w _ _ hr hb (lr3 s P (port1 (φ := phi0 6) 14 e14 e16 lq hq j))
        · obtain ⟨hr, hb⟩ := z (fcons (outF 14 (a := -520) e14 e16 lq hq j.1 (by decide) (by decide)) (fnil))
          exact cls92 hV w _ _ hr hb (lr3 s P (port2 (φ := phi0 6) 14 e14 e16 lq hq j))
      · have P := (port1 (φ := phi0 6) 13 e13 e15 lp hp k)
        have A := outF 13 (a := -512) e13 e15 lp hp k.1 (by decide) (by decide)
        rcases kinds 1040 q with j | j | j
        · obtain ⟨hr, hb⟩ := z (fcons A (fnil))
          exact cls93 hV w _ _ hr hb (lr3 s P (port0 (φ := phi0 6) 14 (l := 16) (h := 31) (b' := 1055) e14 j (by decide) (by decide) (by decide)))
        · obtain ⟨hr, hb⟩ := z (fcons A (fcons (outF 14 (a := -520) e14 e16 lq hq j.1 (by decide) (by decide)) (fnil)))
          exact cls94 hV w _ _ hr hb (lr3 s P (port1 (φ := phi0 6) 14 e14 e16 lq hq j))
        · obtain ⟨hr, hb⟩ := z (fcons A (fcons (outF 14 (a := -520) e14 e16 lq hq j.1 (by decide) (by decide)) (fnil)))
          exact cls95 hV w _ _ hr hb (lr3 s P (port2 (φ := phi0 6) 14 e14 e16 lq hq j))
      · have P := (port2 (φ := phi0 6) 13 e13 e15 lp hp k)
        have A := outF 13 (a := -512) e13 e15 lp hp k.1 (by decide) (by decide)
        rcases kinds 1040 q with j | j | j
        · obtain ⟨hr, hb⟩ := z (fcons A (fnil))
          exact cls96 hV w _ _ hr hb (lr3 s P (port0 (φ := phi0 6) 14 (l := 16) (h := 31) (b' := 1055) e14 j (by decide) (by decide) (by decide)))
        · obtain ⟨hr, hb⟩ := z (fcons A (fcons (outF 14 (a := -520) e14 e16 lq hq j.1 (by decide) (by decide)) (fnil)))
          exact cls97 hV w _ _ hr hb (lr3 s P (port1 (φ := phi0 6) 14 e14 e16 lq hq j))
        · obtain ⟨hr, hb⟩ := z (fcons A (fcons (outF 14 (a := -520) e14 e16 lq hq j.1 (by decide) (by decide)) (fnil)))
          exact cls98 hV w _ _ hr hb (lr3 s P (port2 (φ := phi0 6) 14 e14 e16 lq hq j))
    · have s := sv 2 84 254 3 255 m0 m1 (by omega) (by omega) (by omega)
      have e14 : V.σ 14 = pv 1040 q := by
        show pv (if c % 4 = 0 then 1024 else 1040) q = _
        rw [if_neg (by omega)]
      rcases kinds 1024 p with k | k | k
      · have P := (port0 (φ := phi0 6) 13 (l := 0) (h := 15) (b' := 1039) e13 k (by decide) (by decide) (by decide))
        rcases kinds 1040 q with j | j | j
        · obtain ⟨hr, hb⟩ := z (fnil)
          exact cls99 hV w _ _ hr hb (lr3 s P (port0 (φ := phi0 6) 14 (l := 16) (h := 31) (b' := 1055) e14 j (by decide) (by decide) (by decide)))
        · obtain ⟨hr, hb⟩ := z (fcons (outF 14 (a := -520) e14 e16 lq hq j.1 (by decide) (by decide)) (fnil))
          exact cls100 hV w _ _ hr hb (lr3 s P (port1 (φ := phi0 6) 14 e14 e16 lq hq j))
        · obtain ⟨hr, hb⟩ := z (fcons (outF 14 (a := -520) e14 e16 lq hq j.1 (by decide) (by decide)) (fnil))
          exact cls101 hV w _ _ hr hb (lr3 s P (port2 (φ := phi0 6) 14 e14 e16 lq hq j))
      · have P := (port1 (φ := phi0 6) 13 e13 e15 lp hp k)
        have A := outF 13 (a := -512) e13 e15 lp hp k.1 (by decide) (by decide)
        rcases kinds 1040 q with j | j | j
        · obtain ⟨hr, hb⟩ := z (fcons A (fnil))
          exact cls102 hV w _ _ hr hb (lr3 s P (port0 (φ := phi0 6) 14 (l := 16) (h := 31) (b' := 1055) e14 j (by decide) (by decide) (by decide)))
        · obtain ⟨hr, hb⟩ := z (fcons A (fcons (outF 14 (a := -520) e14 e16 lq hq j.1 (by decide) (by decide)) (fnil)))
          exact cls103 hV w _ _ hr hb (lr3 s P (port1 (φ := phi0 6) 14 e14 e16 lq hq j))
        · obtain ⟨hr, hb⟩ := z (fcons A (fcons (outF 14 (a := -520) e14 e16 lq hq j.1 (by decide) (by decide)) (fnil)))
          exact cls104 hV w _ _ hr hb (lr3 s P (port2 (φ := phi0 6) 14 e14 e16 lq hq j))
      · have P := (port2 (φ := phi0 6) 13 e13 e15 lp hp k)
        have A := outF 13 (a := -512) e13 e15 lp hp k.1 (by decide) (by decide)
        rcases kinds 1040 q with j | j | j
        · obtain ⟨hr, hb⟩ := z (fcons A (fnil))
          exact cls105 hV w _ _ hr hb (lr3 s P (port0 (φ := phi0 6) 14 (l := 16) (h := 31) (b' := 1055) e14 j (by decide) (by decide) (by decide)))
        · obtain ⟨hr, hb⟩ := z (fcons A (fcons (outF 14 (a := -520) e14 e16 lq hq j.1 (by decide) (by decide)) (fnil)))
          exact cls106 hV w _ _ hr hb (lr3 s P (port1 (φ := phi0 6) 14 e14 e16 lq hq j))
        · obtain ⟨hr, hb⟩ := z (fcons A (fcons (outF 14 (a := -520) e14 e16 lq hq j.1 (by decide) (by decide)) (fnil)))
          exact cls107 hV w _ _ hr hb (lr3 s P (port2 (φ := phi0 6) 14 e14 e16 lq hq j))
end
end Go.Proofs.YtfdgbmkpmjkccaaGreatDoor
