-- A copy of the text YthipdgnbpdngpaaDoorPx18 with what this claim does not reach left out (prune.py, a program of this project).
import Derived.Test.YthipdgnbpdngpaaDoorZaPx0
import Derived.Test.YthipdgnbpdngpaaDoorZaPx2
import Derived.Test.YthipdgnbpdngpaaDoorZaPx8
import Derived.Test.YthipdgnbpdngpaaDoorZaPx9
import Derived.Test.YthipdgnbpdngpaaDoorZaPx11
import Derived.Test.YthipdgnbpdngpaaDoorZaPx12
import Derived.Test.YthipdgnbpdngpaaDoorZaPx13
import Derived.Test.YthipdgnbpdngpaaDoorZaPx14
import Derived.Test.YthipdgnbpdngpaaDoorZaPx17
import Derived.Test.YthipdgnbpdngpaaDoorZaGShort
namespace Go.Proofs.YthipdgnbpdngpaaDoor.P
open Go.RowKit Go.Proofs.YthipdgnbpdngpaaDoor Go.Proofs.YthipdgnbpdngpaaDoorW.PrintWords Go.Proofs.YthipdgnbpdngpaaDoorW.PrintLast Go.Proofs.YthipdgnbpdngpaaDoorW.PrintMore
attribute [local go_sem] max2_int min2_int max_two min_two max_three min_three max_four min_four   -- for this text's walks alone
set_option linter.unusedVariables false
set_option linter.unusedSimpArgs false
attribute [local go_sem high] eqA40
def m7_0_ : Array Bool := mk_ 16 0
def m7_1_ : Array Bool := mk_ 16 1
def m7_2_ : Array Bool := mk_ 16 5
def m7_3_ : Array Bool := mk_ 16 7
def m7_4_ : Array Bool := mk_ 16 15
def m7_5_ : Array Bool := mk_ 16 31
def m7_6_ : Array Bool := mk_ 16 63
def m7_7_ : Array Bool := mk_ 16 127
def m7_8_ : Array Bool := mk_ 16 255
def m7_9_ : Array Bool := mk_ 16 511
def m7_10_ : Array Bool := mk_ 16 1023
def m7_11_ : Array Bool := mk_ 16 2047
def m7_12_ : Array Bool := mk_ 16 4095
def m7_13_ : Array Bool := mk_ 16 8191
def m7_14_ : Array Bool := mk_ 16 16383
def m7_15_ : Array Bool := mk_ 16 32767
def m7_16_ : Array Bool := mk_ 16 65535
def m7_17_ : Array Bool := mk_ 16 383
mutual
def backseatlaw04_CellMakes.j0 : Nat → Int → Int → Int → Bool → ByteArray → Int → Int → Int → Int → Int → Int → Int → ByteArray → Int → Int → Int → Int → ByteArray → Int → Int → Int → Int → Option (Bool)
 | 0, _, _, _, _, _, _, _, _, _, _, _, _, _, _, _, _, _, _, _, _, _, _ => none
 | k + 1, x1, x8, x10, x42, x316000, x316001, x316002, x316003, x316004, x317000, x317001, x317002, x329000, x329001, x329002, x329003, x329004, x336000, x336001, x336002, x336003, x336004 => if x42 = true then (some false) else ((backseatref01_Width.f k x1).bind fun t349 => (if t349 < 1 then (backseatlaw04_CellMakes.j1 k x1 x8 x10 t349 true x316000 x316001 x316002 x316003 x316004 x317000 x317001 x317002 x329000 x329001 x329002 x329003 x329004 x336000 x336001 x336002 x336003 x336004) else ((backseatref04_Look.f x317000 x317001 x317002).bind fun t350 => (backseatlaw04_CellMakes.j1 k x1 x8 x10 t349 (!t350) x316000 x316001 x316002 x316003 x316004 x317000 x317001 x317002 x329000 x329001 x329002 x329003 x329004 x336000 x336001 x336002 x336003 x336004))))
def backseatlaw04_CellMakes.j1 : Nat → Int → Int → Int → Int → Bool → ByteArray → Int → Int → Int → Int → Int → Int → Int → ByteArray → Int → Int → Int → Int → ByteArray → Int → Int → Int → Int → Option (Bool)
 | 0, _, _, _, _, _, _, _, _, _, _, _, _, _, _, _, _, _, _, _, _, _, _, _ => none
 | k + 1, x1, x8, x10, x11, x51, x316000, x316001, x316002, x316003, x316004, x317000, x317001, x317002, x329000, x329001, x329002, x329003, x329004, x336000, x336001, x336002, x336003, x336004 => if x51 = true then (if x8 = 1 then (if (!(x329000.toList == ([] : List UInt8)) || (!(x329001 == 0) || ((!(x329002 == 0) || (!(x329003 == 0) || (!(x329004 == 0))))))) = true then (some false) else (backseatlaw04_CellMakes.j2 k x1 x10 x11 x316000 x316001 x316002 x316003 x316004 x336000 x336001 x336002 x336003 x336004)) else (some false)) else (if x8 = 0 then ((backseatref01_Text.f k x1).bind fun t351 => (if (!(x329000.toList == t351.toList) || (!(x329001 == x11) || ((!(x329002 == x317000) || (!(x329003 == x317001) || (!(x329004 == x317002))))))) = true then (some false) else (backseatlaw04_CellMakes.j2 k x1 x10 x11 x316000 x316001 x316002 x316003 x316004 x336000 x336001 x336002 x336003 x336004))) else (some false))
def backseatlaw04_CellMakes.j2 : Nat → Int → Int → Int → ByteArray → Int → Int → Int → Int → ByteArray → Int → Int → Int → Int → Option (Bool)
 | 0, _, _, _, _, _, _, _, _, _, _, _, _, _ => none
 | k + 1, x1, x10, x11, x316000, x316001, x316002, x316003, x316004, x336000, x336001, x336002, x336003, x336004 => (backseatref04_Right.f k x316000 x316001 x316002 x316003 x316004).bind fun t352 => (if t352 = true then (if x316000.toList = ([] : List UInt8) then (backseatlaw04_CellMakes.j3 k x1 x10 true x316000 x316001 x316002 x316003 x316004 x336000 x336001 x336002 x336003 x336004) else (backseatlaw04_CellMakes.j3 k x1 x10 (x11 != 0) x316000 x316001 x316002 x316003 x316004 x336000 x336001 x336002 x336003 x336004)) else (backseatlaw04_CellMakes.j3 k x1 x10 true x316000 x316001 x316002 x316003 x316004 x336000 x336001 x336002 x336003 x336004))
def backseatlaw04_CellMakes.j3 : Nat → Int → Int → Bool → ByteArray → Int → Int → Int → Int → ByteArray → Int → Int → Int → Int → Option (Bool)
 | 0, _, _, _, _, _, _, _, _, _, _, _, _, _ => none
 | k + 1, x1, x10, x81, x316000, x316001, x316002, x316003, x316004, x336000, x336001, x336002, x336003, x336004 => if x81 = true then (if x10 = 1 then (some (x336000.toList == ([] : List UInt8) && (x336001 == 0 && ((x336002 == 0 && (x336003 == 0 && (x336004 == 0))))))) else (some false)) else ((backseatref01_Text.f k x1).bind fun t354 => (if x316000.size + t354.size ≤ 9223372036854775807 then ((backseatref04_Right.f k (x316000 ++ t354) x316001 x316002 x316003 x316004).bind fun t355 => (if t355 = true then (if x10 = 0 then (some (x336000.toList == ((x316000 ++ t354).toList) && (x336001 == x316001 && ((x336002 == x316002 && (x336003 == x316003 && (x336004 == x316004))))))) else (some false)) else (if x10 = 7 then (some (x336000.toList == ([] : List UInt8) && (x336001 == 0 && ((x336002 == 0 && (x336003 == 0 && (x336004 == 0))))))) else (some false)))) else (none)))
end
def backseatlaw04_CellMakes.f (k : Nat) (a0_0 : ByteArray) (a0_1 : Int) (a0_2 : Int) (a0_3 : Int) (a0_4 : Int) (a1 : Int) (a2_0 : Int) (a2_1 : Int) (a2_2 : Int) : Option (Bool) := (backseatlaw04_cut.f a0_0 a0_1 a0_2 a0_3 a0_4).bind fun bt317 => ((cell_Of.f a1 a2_0 a2_1 a2_2).bind fun bt322 => ((cell_Mark.f k bt317.1 bt317.2.1 bt317.2.2.1 bt317.2.2.2.1 bt317.2.2.2.2 a1).bind fun bt329 => ((cell_Right.f k bt317.1 bt317.2.1 bt317.2.2.1 bt317.2.2.2.1 bt317.2.2.2.2).bind fun t336 => ((backseatref04_Right.f k bt317.1 bt317.2.1 bt317.2.2.1 bt317.2.2.2.1 bt317.2.2.2.2).bind fun t337 => (if (t336 != t337) = true then (backseatlaw04_CellMakes.j0 k a1 bt322.2.2.2.2.2 bt329.2.2.2.2.2 true bt317.1 bt317.2.1 bt317.2.2.1 bt317.2.2.2.1 bt317.2.2.2.2 a2_0 a2_1 a2_2 bt322.1 bt322.2.1 bt322.2.2.1 bt322.2.2.2.1 bt322.2.2.2.2.1 bt329.1 bt329.2.1 bt329.2.2.1 bt329.2.2.2.1 bt329.2.2.2.2.1) else ((cell_Blank.f a2_0 a2_1 a2_2).bind fun bt338 => ((backseatref04_Blank.f a2_0 a2_1 a2_2).bind fun bt343 => (if (!(bt338.1.toList == bt343.1.toList) || (!(bt338.2.1 == bt343.2.1) || ((!(bt338.2.2.1 == bt343.2.2.1) || (!(bt338.2.2.2.1 == bt343.2.2.2.1) || (!(bt338.2.2.2.2 == bt343.2.2.2.2))))))) = true then (backseatlaw04_CellMakes.j0 k a1 bt322.2.2.2.2.2 bt329.2.2.2.2.2 true bt317.1 bt317.2.1 bt317.2.2.1 bt317.2.2.2.1 bt317.2.2.2.2 a2_0 a2_1 a2_2 bt322.1 bt322.2.1 bt322.2.2.1 bt322.2.2.2.1 bt322.2.2.2.2.1 bt329.1 bt329.2.1 bt329.2.2.1 bt329.2.2.2.1 bt329.2.2.2.2.1) else ((backseatlaw04_alive.f k).bind fun t348 => (backseatlaw04_CellMakes.j0 k a1 bt322.2.2.2.2.2 bt329.2.2.2.2.2 (!t348) bt317.1 bt317.2.1 bt317.2.2.1 bt317.2.2.2.1 bt317.2.2.2.2 a2_0 a2_1 a2_2 bt322.1 bt322.2.1 bt322.2.2.1 bt322.2.2.2.1 bt322.2.2.2.2.1 bt329.1 bt329.2.1 bt329.2.2.1 bt329.2.2.2.1 bt329.2.2.2.2.1))))))))))
theorem backseatlaw04_CellMakes.mono_l : ∀ k, (∀ y0 y1 y2 y3 y4 y5 y6 y7 y8 y9 y10 y11 y12 y13 y14 y15 y16 y17 y18 y19 y20 y21, LeO (backseatlaw04_CellMakes.j0 k y0 y1 y2 y3 y4 y5 y6 y7 y8 y9 y10 y11 y12 y13 y14 y15 y16 y17 y18 y19 y20 y21) (backseatlaw04_CellMakes.j0 (k + 1) y0 y1 y2 y3 y4 y5 y6 y7 y8 y9 y10 y11 y12 y13 y14 y15 y16 y17 y18 y19 y20 y21)) ∧ (∀ y0 y1 y2 y3 y4 y5 y6 y7 y8 y9 y10 y11 y12 y13 y14 y15 y16 y17 y18 y19 y20 y21 y22, LeO (backseatlaw04_CellMakes.j1 k y0 y1 y2 y3 y4 y5 y6 y7 y8 y9 y10 y11 y12 y13 y14 y15 y16 y17 y18 y19 y20 y21 y22) (backseatlaw04_CellMakes.j1 (k + 1) y0 y1 y2 y3 y4 y5 y6 y7 y8 y9 y10 y11 y12 y13 y14 y15 y16 y17 y18 y19 y20 y21 y22)) ∧ (∀ y0 y1 y2 y3 y4 y5 y6 y7 y8 y9 y10 y11 y12, LeO (backseatlaw04_CellMakes.j2 k y0 y1 y2 y3 y4 y5 y6 y7 y8 y9 y10 y11 y12) (backseatlaw04_CellMakes.j2 (k + 1) y0 y1 y2 y3 y4 y5 y6 y7 y8 y9 y10 y11 y12)) ∧ (∀ y0 y1 y2 y3 y4 y5 y6 y7 y8 y9 y10 y11 y12, LeO (backseatlaw04_CellMakes.j3 k y0 y1 y2 y3 y4 y5 y6 y7 y8 y9 y10 y11 y12) (backseatlaw04_CellMakes.j3 (k + 1) y0 y1 y2 y3 y4 y5 y6 y7 y8 y9 y10 y11 y12))
 | 0 => ⟨fun _ _ _ _ _ _ _ _ _ _ _ _ _ _ _ _ _ _ _ _ _ _ r h => by simp [backseatlaw04_CellMakes.j0] at h, fun _ _ _ _ _ _ _ _ _ _ _ _ _ _ _ _ _ _ _ _ _ _ _ r h => by simp [backseatlaw04_CellMakes.j1] at h, fun _ _ _ _ _ _ _ _ _ _ _ _ _ r h => by simp [backseatlaw04_CellMakes.j2] at h, fun _ _ _ _ _ _ _ _ _ _ _ _ _ r h => by simp [backseatlaw04_CellMakes.j3] at h⟩
 | k + 1 => by
  obtain ⟨ih0, ih1, ih2, ih3⟩ := backseatlaw04_CellMakes.mono_l k
  refine ⟨?_, ?_, ?_, ?_⟩
  ·intro y0 y1 y2 y3 y4 y5 y6 y7 y8 y9 y10 y11 y12 y13 y14 y15 y16 y17 y18 y19 y20 y21
   unfold backseatlaw04_CellMakes.j0
   repeat' first
   | (with_reducible exact ih0 _ _ _ _ _ _ _ _ _ _ _ _ _ _ _ _ _ _ _ _ _ _)
   | (with_reducible exact ih1 _ _ _ _ _ _ _ _ _ _ _ _ _ _ _ _ _ _ _ _ _ _ _)
   | (with_reducible exact ih2 _ _ _ _ _ _ _ _ _ _ _ _ _)
   | (with_reducible exact ih3 _ _ _ _ _ _ _ _ _ _ _ _ _)
   | (with_reducible exact backseatlaw04_alive.mono _)
   | (with_reducible exact backseatref01_Text.mono _ _)
   | (with_reducible exact backseatref01_Width.mono _ _)
   | (with_reducible exact backseatref04_Right.mono _ _ _ _ _ _)
   | (with_reducible exact cell_Mark.mono _ _ _ _ _ _ _)
   | (with_reducible exact cell_Right.mono _ _ _ _ _ _)
   | (with_reducible exact LeO.refl _)
   | (with_reducible exact LeO.none _)
   | (with_reducible refine LeO.ite ?_ ?_)
   | (with_reducible refine LeO.bind ?_ (fun _ => ?_))
   | exact ih0 _ _ _ _ _ _ _ _ _ _ _ _ _ _ _ _ _ _ _ _ _ _
   | exact ih1 _ _ _ _ _ _ _ _ _ _ _ _ _ _ _ _ _ _ _ _ _ _ _
   | exact ih2 _ _ _ _ _ _ _ _ _ _ _ _ _
   | exact ih3 _ _ _ _ _ _ _ _ _ _ _ _ _
   | exact backseatlaw04_alive.mono _
   | exact backseatref01_Text.mono _ _
   | exact backseatref01_Width.mono _ _
   | exact backseatref04_Right.mono _ _ _ _ _ _
   | exact cell_Mark.mono _ _ _ _ _ _ _
   | exact cell_Right.mono _ _ _ _ _ _
   | exact LeO.none _
   | refine LeO.ite ?_ ?_
   | refine LeO.bind ?_ (fun _ => ?_)
  ·intro y0 y1 y2 y3 y4 y5 y6 y7 y8 y9 y10 y11 y12 y13 y14 y15 y16 y17 y18 y19 y20 y21 y22
   unfold backseatlaw04_CellMakes.j1
   repeat' first
   | (with_reducible exact ih0 _ _ _ _ _ _ _ _ _ _ _ _ _ _ _ _ _ _ _ _ _ _)
   | (with_reducible exact ih1 _ _ _ _ _ _ _ _ _ _ _ _ _ _ _ _ _ _ _ _ _ _ _)
   | (with_reducible exact ih2 _ _ _ _ _ _ _ _ _ _ _ _ _)
   | (with_reducible exact ih3 _ _ _ _ _ _ _ _ _ _ _ _ _)
   | (with_reducible exact backseatlaw04_alive.mono _)
   | (with_reducible exact backseatref01_Text.mono _ _)
   | (with_reducible exact backseatref01_Width.mono _ _)
   | (with_reducible exact backseatref04_Right.mono _ _ _ _ _ _)
   | (with_reducible exact cell_Mark.mono _ _ _ _ _ _ _)
   | (with_reducible exact cell_Right.mono _ _ _ _ _ _)
   | (with_reducible exact LeO.refl _)
   | (with_reducible exact LeO.none _)
   | (with_reducible refine LeO.ite ?_ ?_)
   | (with_reducible refine LeO.bind ?_ (fun _ => ?_))
   | exact ih0 _ _ _ _ _ _ _ _ _ _ _ _ _ _ _ _ _ _ _ _ _ _
   | exact ih1 _ _ _ _ _ _ _ _ _ _ _ _ _ _ _ _ _ _ _ _ _ _ _
   | exact ih2 _ _ _ _ _ _ _ _ _ _ _ _ _
   | exact ih3 _ _ _ _ _ _ _ _ _ _ _ _ _
   | exact backseatlaw04_alive.mono _
   | exact backseatref01_Text.mono _ _
   | exact backseatref01_Width.mono _ _
   | exact backseatref04_Right.mono _ _ _ _ _ _
   | exact cell_Mark.mono _ _ _ _ _ _ _
   | exact cell_Right.mono _ _ _ _ _ _
   | exact LeO.none _
   | refine LeO.ite ?_ ?_
   | refine LeO.bind ?_ (fun _ => ?_)
  ·intro y0 y1 y2 y3 y4 y5 y6 y7 y8 y9 y10 y11 y12
   unfold backseatlaw04_CellMakes.j2
   repeat' first
   | (with_reducible exact ih0 _ _ _ _ _ _ _ _ _ _ _ _ _ _ _ _ _ _ _ _ _ _)
   | (with_reducible exact ih1 _ _ _ _ _ _ _ _ _ _ _ _ _ _ _ _ _ _ _ _ _ _ _)
   | (with_reducible exact ih2 _ _ _ _ _ _ _ _ _ _ _ _ _)
   | (with_reducible exact ih3 _ _ _ _ _ _ _ _ _ _ _ _ _)
   | (with_reducible exact backseatlaw04_alive.mono _)
   | (with_reducible exact backseatref01_Text.mono _ _)
   | (with_reducible exact backseatref01_Width.mono _ _)
   | (with_reducible exact backseatref04_Right.mono _ _ _ _ _ _)
   | (with_reducible exact cell_Mark.mono _ _ _ _ _ _ _)
   | (with_reducible exact cell_Right.mono _ _ _ _ _ _)
   | (with_reducible exact LeO.refl _)
   | (with_reducible exact LeO.none _)
   | (with_reducible refine LeO.ite ?_ ?_)
   | (with_reducible refine LeO.bind ?_ (fun _ => ?_))
   | exact ih0 _ _ _ _ _ _ _ _ _ _ _ _ _ _ _ _ _ _ _ _ _ _
   | exact ih1 _ _ _ _ _ _ _ _ _ _ _ _ _ _ _ _ _ _ _ _ _ _ _
   | exact ih2 _ _ _ _ _ _ _ _ _ _ _ _ _
   | exact ih3 _ _ _ _ _ _ _ _ _ _ _ _ _
   | exact backseatlaw04_alive.mono _
   | exact backseatref01_Text.mono _ _
   | exact backseatref01_Width.mono _ _
   | exact backseatref04_Right.mono _ _ _ _ _ _
   | exact cell_Mark.mono _ _ _ _ _ _ _
   | exact cell_Right.mono _ _ _ _ _ _
   | exact LeO.none _
   | refine LeO.ite ?_ ?_
   | refine LeO.bind ?_ (fun _ => ?_)
  ·intro y0 y1 y2 y3 y4 y5 y6 y7 y8 y9 y10 y11 y12
   unfold backseatlaw04_CellMakes.j3
   repeat' first
   | (with_reducible exact ih0 _ _ _ _ _ _ _ _ _ _ _ _ _ _ _ _ _ _ _ _ _ _)
   | (with_reducible exact ih1 _ _ _ _ _ _ _ _ _ _ _ _ _ _ _ _ _ _ _ _ _ _ _)
   | (with_reducible exact ih2 _ _ _ _ _ _ _ _ _ _ _ _ _)
   | (with_reducible exact ih3 _ _ _ _ _ _ _ _ _ _ _ _ _)
   | (with_reducible exact backseatlaw04_alive.mono _)
   | (with_reducible exact backseatref01_Text.mono _ _)
   | (with_reducible exact backseatref01_Width.mono _ _)
   | (with_reducible exact backseatref04_Right.mono _ _ _ _ _ _)
   | (with_reducible exact cell_Mark.mono _ _ _ _ _ _ _)
   | (with_reducible exact cell_Right.mono _ _ _ _ _ _)
   | (with_reducible exact LeO.refl _)
   | (with_reducible exact LeO.none _)
   | (with_reducible refine LeO.ite ?_ ?_)
   | (with_reducible refine LeO.bind ?_ (fun _ => ?_))
   | exact ih0 _ _ _ _ _ _ _ _ _ _ _ _ _ _ _ _ _ _ _ _ _ _
   | exact ih1 _ _ _ _ _ _ _ _ _ _ _ _ _ _ _ _ _ _ _ _ _ _ _
   | exact ih2 _ _ _ _ _ _ _ _ _ _ _ _ _
   | exact ih3 _ _ _ _ _ _ _ _ _ _ _ _ _
   | exact backseatlaw04_alive.mono _
   | exact backseatref01_Text.mono _ _
   | exact backseatref01_Width.mono _ _
   | exact backseatref04_Right.mono _ _ _ _ _ _
   | exact cell_Mark.mono _ _ _ _ _ _ _
   | exact cell_Right.mono _ _ _ _ _ _
   | exact LeO.none _
   | refine LeO.ite ?_ ?_
   | refine LeO.bind ?_ (fun _ => ?_)
theorem backseatlaw04_CellMakes.mono : ∀ a0 a1 a2 a3 a4 a5 a6 a7 a8 k, LeO (backseatlaw04_CellMakes.f k a0 a1 a2 a3 a4 a5 a6 a7 a8) (backseatlaw04_CellMakes.f (k + 1) a0 a1 a2 a3 a4 a5 a6 a7 a8) := by
 intro a0 a1 a2 a3 a4 a5 a6 a7 a8 k
 obtain ⟨ih0, ih1, ih2, ih3⟩ := backseatlaw04_CellMakes.mono_l k
 unfold backseatlaw04_CellMakes.f
 repeat' first
   | (with_reducible exact ih0 _ _ _ _ _ _ _ _ _ _ _ _ _ _ _ _ _ _ _ _ _ _)
   | (with_reducible exact ih1 _ _ _ _ _ _ _ _ _ _ _ _ _ _ _ _ _ _ _ _ _ _ _)
   | (with_reducible exact ih2 _ _ _ _ _ _ _ _ _ _ _ _ _)
   | (with_reducible exact ih3 _ _ _ _ _ _ _ _ _ _ _ _ _)
   | (with_reducible exact backseatlaw04_alive.mono _)
   | (with_reducible exact backseatref01_Text.mono _ _)
   | (with_reducible exact backseatref01_Width.mono _ _)
   | (with_reducible exact backseatref04_Right.mono _ _ _ _ _ _)
   | (with_reducible exact cell_Mark.mono _ _ _ _ _ _ _)
   | (with_reducible exact cell_Right.mono _ _ _ _ _ _)
   | (with_reducible exact LeO.refl _)
   | (with_reducible exact LeO.none _)
   | (with_reducible refine LeO.ite ?_ ?_)
   | (with_reducible refine LeO.bind ?_ (fun _ => ?_))
   | exact ih0 _ _ _ _ _ _ _ _ _ _ _ _ _ _ _ _ _ _ _ _ _ _
   | exact ih1 _ _ _ _ _ _ _ _ _ _ _ _ _ _ _ _ _ _ _ _ _ _ _
   | exact ih2 _ _ _ _ _ _ _ _ _ _ _ _ _
   | exact ih3 _ _ _ _ _ _ _ _ _ _ _ _ _
   | exact backseatlaw04_alive.mono _
   | exact backseatref01_Text.mono _ _
   | exact backseatref01_Width.mono _ _
   | exact backseatref04_Right.mono _ _ _ _ _ _
   | exact cell_Mark.mono _ _ _ _ _ _ _
   | exact cell_Right.mono _ _ _ _ _ _
   | exact LeO.none _
   | refine LeO.ite ?_ ?_
   | refine LeO.bind ?_ (fun _ => ?_)
def backseatlaw04_CellMakes.T4 : Bool × List (List Nat × List Nat) := (true, [([], []), ([0], [0]), ([], []), ([2, 1], [2]), ([1, 3], [1, 3]), ([4, 3], [4]), ([5], [5]), ([6, 5, 5], [5, 6]), ([5], [5]), ([8, 7, 5], [5, 8]), ([7, 9, 5], [5, 7, 9]), ([5, 10], [5, 10]), ([11, 9], [11]), ([12, 12], [12]), ([13, 12], [12, 13]), ([12, 14], [12, 14])])
def backseatlaw04_CellMakes.B4 : List Nat := [0, 1, 0, 7, 15, 31, 63, 127, 63, 511, 1023, 2047, 4095, 8191, 16383, 32767]
theorem backseatlaw04_CellMakes.tab4 : rtab .any (opsOf Tryd.f7 4) = backseatlaw04_CellMakes.T4 := by kernel_rfl
theorem backseatlaw04_CellMakes.bits4 : waitsOk backseatlaw04_CellMakes.T4.2 backseatlaw04_CellMakes.B4 = true := by kernel_rfl
def backseatlaw04_CellMakes.T10 : Bool × List (List Nat × List Nat) := (true, [([], []), ([0], [0]), ([1], [1]), ([2], [2]), ([2], [2]), ([4, 2, 2], [2, 4]), ([2], [2]), ([2], [2]), ([5, 6, 7, 2], [2, 5, 6, 7]), ([3, 8, 2], [2, 3, 8]), ([2, 9], [2, 9])])
def backseatlaw04_CellMakes.B10 : List Nat := [0, 1, 3, 7, 7, 23, 7, 7, 247, 511, 1023]
theorem backseatlaw04_CellMakes.tab10 : rtab .any (opsOf Tryd.f7 10) = backseatlaw04_CellMakes.T10 := by kernel_rfl
theorem backseatlaw04_CellMakes.bits10 : waitsOk backseatlaw04_CellMakes.T10.2 backseatlaw04_CellMakes.B10 = true := by kernel_rfl
set_option maxHeartbeats 8000000 in
set_option maxRecDepth 100000 in
theorem backseatlaw04_CellMakes.calls (k : Nat) (a0_0 : ByteArray) (a0_1 : Int) (a0_2 : Int) (a0_3 : Int) (a0_4 : Int) (a1 : Int) (a2_0 : Int) (a2_1 : Int) (a2_2 : Int) (r : Bool) (w : World) (h : backseatlaw04_CellMakes.f k a0_0 a0_1 a0_2 a0_3 a0_4 a1 a2_0 a2_1 a2_2 = some r) (hT : TabsAt w := by first | with_reducible assumption | exact tabs_here (by with_reducible assumption) (by repeat (with_reducible first | assumption | apply below_alloc | apply pw_below_drewN | apply below_drew1 | (refine Below.setCell ?_ ?_ _) | exact Aside0.out (by assumption)))) :
  Calls Tryd.prog 7 #[.agg #[.string a0_0, .int .i64 a0_1, .int .i64 a0_2, .int .i64 a0_3, .int .i64 a0_4], .int .i32 a1, .agg #[.int .i64 a2_0, .int .i64 a2_1, .int .i64 a2_2]] w fun e w' => e = .returned (.bool r) ∧ Below w.heap.size w w' := by
 have hu40 := Tryd.underlying40
 have hu38 := Tryd.underlying38
 have HB := Aside0.mk (Below.refl w.heap.size w)
 have H : ((backseatlaw04_cut.f a0_0 a0_1 a0_2 a0_3 a0_4).bind fun bt317 => ((cell_Of.f a1 a2_0 a2_1 a2_2).bind fun bt322 => ((cell_Mark.f k bt317.1 bt317.2.1 bt317.2.2.1 bt317.2.2.2.1 bt317.2.2.2.2 a1).bind fun bt329 => ((cell_Right.f k bt317.1 bt317.2.1 bt317.2.2.1 bt317.2.2.2.1 bt317.2.2.2.2).bind fun t336 => ((backseatref04_Right.f k bt317.1 bt317.2.1 bt317.2.2.1 bt317.2.2.2.1 bt317.2.2.2.2).bind fun t337 => (if (t336 != t337) = true then (backseatlaw04_CellMakes.j0 k a1 bt322.2.2.2.2.2 bt329.2.2.2.2.2 true bt317.1 bt317.2.1 bt317.2.2.1 bt317.2.2.2.1 bt317.2.2.2.2 a2_0 a2_1 a2_2 bt322.1 bt322.2.1 bt322.2.2.1 bt322.2.2.2.1 bt322.2.2.2.2.1 bt329.1 bt329.2.1 bt329.2.2.1 bt329.2.2.2.1 bt329.2.2.2.2.1) else ((cell_Blank.f a2_0 a2_1 a2_2).bind fun bt338 => ((backseatref04_Blank.f a2_0 a2_1 a2_2).bind fun bt343 => (if (!(bt338.1.toList == bt343.1.toList) || (!(bt338.2.1 == bt343.2.1) || ((!(bt338.2.2.1 == bt343.2.2.1) || (!(bt338.2.2.2.1 == bt343.2.2.2.1) || (!(bt338.2.2.2.2 == bt343.2.2.2.2))))))) = true then (backseatlaw04_CellMakes.j0 k a1 bt322.2.2.2.2.2 bt329.2.2.2.2.2 true bt317.1 bt317.2.1 bt317.2.2.1 bt317.2.2.2.1 bt317.2.2.2.2 a2_0 a2_1 a2_2 bt322.1 bt322.2.1 bt322.2.2.1 bt322.2.2.2.1 bt322.2.2.2.2.1 bt329.1 bt329.2.1 bt329.2.2.1 bt329.2.2.2.1 bt329.2.2.2.2.1) else ((backseatlaw04_alive.f k).bind fun t348 => (backseatlaw04_CellMakes.j0 k a1 bt322.2.2.2.2.2 bt329.2.2.2.2.2 (!t348) bt317.1 bt317.2.1 bt317.2.2.1 bt317.2.2.2.1 bt317.2.2.2.2 a2_0 a2_1 a2_2 bt322.1 bt322.2.1 bt322.2.2.1 bt322.2.2.2.1 bt322.2.2.2.2.1 bt329.1 bt329.2.1 bt329.2.2.1 bt329.2.2.2.1 bt329.2.2.2.2.1))))))))))) = some r := h
 clear h
 replace H := Option.bind_eq_some_iff.mp H
 obtain ⟨⟨t317, t318, t319, t320, t321⟩, A40, H⟩ := H
 replace H : ((cell_Of.f a1 a2_0 a2_1 a2_2).bind fun bt322 => ((cell_Mark.f k t317 t318 t319 t320 t321 a1).bind fun bt329 => ((cell_Right.f k t317 t318 t319 t320 t321).bind fun t336 => ((backseatref04_Right.f k t317 t318 t319 t320 t321).bind fun t337 => (if (t336 != t337) = true then (backseatlaw04_CellMakes.j0 k a1 bt322.2.2.2.2.2 bt329.2.2.2.2.2 true t317 t318 t319 t320 t321 a2_0 a2_1 a2_2 bt322.1 bt322.2.1 bt322.2.2.1 bt322.2.2.2.1 bt322.2.2.2.2.1 bt329.1 bt329.2.1 bt329.2.2.1 bt329.2.2.2.1 bt329.2.2.2.2.1) else ((cell_Blank.f a2_0 a2_1 a2_2).bind fun bt338 => ((backseatref04_Blank.f a2_0 a2_1 a2_2).bind fun bt343 => (if (!(bt338.1.toList == bt343.1.toList) || (!(bt338.2.1 == bt343.2.1) || ((!(bt338.2.2.1 == bt343.2.2.1) || (!(bt338.2.2.2.1 == bt343.2.2.2.1) || (!(bt338.2.2.2.2 == bt343.2.2.2.2))))))) = true then (backseatlaw04_CellMakes.j0 k a1 bt322.2.2.2.2.2 bt329.2.2.2.2.2 true t317 t318 t319 t320 t321 a2_0 a2_1 a2_2 bt322.1 bt322.2.1 bt322.2.2.1 bt322.2.2.2.1 bt322.2.2.2.2.1 bt329.1 bt329.2.1 bt329.2.2.1 bt329.2.2.2.1 bt329.2.2.2.2.1) else ((backseatlaw04_alive.f k).bind fun t348 => (backseatlaw04_CellMakes.j0 k a1 bt322.2.2.2.2.2 bt329.2.2.2.2.2 (!t348) t317 t318 t319 t320 t321 a2_0 a2_1 a2_2 bt322.1 bt322.2.1 bt322.2.2.1 bt322.2.2.2.1 bt322.2.2.2.2.1 bt329.1 bt329.2.1 bt329.2.2.1 bt329.2.2.2.1 bt329.2.2.2.2.1)))))))))) = some r := H
 have A4 := Aside0.mk A40
 clear A40
 replace H := Option.bind_eq_some_iff.mp H
 obtain ⟨⟨t322, t323, t324, t325, t326, t327⟩, A50, H⟩ := H
 replace H : ((cell_Mark.f k t317 t318 t319 t320 t321 a1).bind fun bt329 => ((cell_Right.f k t317 t318 t319 t320 t321).bind fun t336 => ((backseatref04_Right.f k t317 t318 t319 t320 t321).bind fun t337 => (if (t336 != t337) = true then (backseatlaw04_CellMakes.j0 k a1 t327 bt329.2.2.2.2.2 true t317 t318 t319 t320 t321 a2_0 a2_1 a2_2 t322 t323 t324 t325 t326 bt329.1 bt329.2.1 bt329.2.2.1 bt329.2.2.2.1 bt329.2.2.2.2.1) else ((cell_Blank.f a2_0 a2_1 a2_2).bind fun bt338 => ((backseatref04_Blank.f a2_0 a2_1 a2_2).bind fun bt343 => (if (!(bt338.1.toList == bt343.1.toList) || (!(bt338.2.1 == bt343.2.1) || ((!(bt338.2.2.1 == bt343.2.2.1) || (!(bt338.2.2.2.1 == bt343.2.2.2.1) || (!(bt338.2.2.2.2 == bt343.2.2.2.2))))))) = true then (backseatlaw04_CellMakes.j0 k a1 t327 bt329.2.2.2.2.2 true t317 t318 t319 t320 t321 a2_0 a2_1 a2_2 t322 t323 t324 t325 t326 bt329.1 bt329.2.1 bt329.2.2.1 bt329.2.2.2.1 bt329.2.2.2.2.1) else ((backseatlaw04_alive.f k).bind fun t348 => (backseatlaw04_CellMakes.j0 k a1 t327 bt329.2.2.2.2.2 (!t348) t317 t318 t319 t320 t321 a2_0 a2_1 a2_2 t322 t323 t324 t325 t326 bt329.1 bt329.2.1 bt329.2.2.1 bt329.2.2.2.1 bt329.2.2.2.2.1))))))))) = some r := H
 have A5 := Aside0.mk A50
 clear A50
 replace H := Option.bind_eq_some_iff.mp H
 obtain ⟨⟨t329, t330, t331, t332, t333, t334⟩, A60, H⟩ := H
 replace H : ((cell_Right.f k t317 t318 t319 t320 t321).bind fun t336 => ((backseatref04_Right.f k t317 t318 t319 t320 t321).bind fun t337 => (if (t336 != t337) = true then (backseatlaw04_CellMakes.j0 k a1 t327 t334 true t317 t318 t319 t320 t321 a2_0 a2_1 a2_2 t322 t323 t324 t325 t326 t329 t330 t331 t332 t333) else ((cell_Blank.f a2_0 a2_1 a2_2).bind fun bt338 => ((backseatref04_Blank.f a2_0 a2_1 a2_2).bind fun bt343 => (if (!(bt338.1.toList == bt343.1.toList) || (!(bt338.2.1 == bt343.2.1) || ((!(bt338.2.2.1 == bt343.2.2.1) || (!(bt338.2.2.2.1 == bt343.2.2.2.1) || (!(bt338.2.2.2.2 == bt343.2.2.2.2))))))) = true then (backseatlaw04_CellMakes.j0 k a1 t327 t334 true t317 t318 t319 t320 t321 a2_0 a2_1 a2_2 t322 t323 t324 t325 t326 t329 t330 t331 t332 t333) else ((backseatlaw04_alive.f k).bind fun t348 => (backseatlaw04_CellMakes.j0 k a1 t327 t334 (!t348) t317 t318 t319 t320 t321 a2_0 a2_1 a2_2 t322 t323 t324 t325 t326 t329 t330 t331 t332 t333)))))))) = some r := H
 have A6 := Aside0.mk A60
 clear A60
 have HC7 := Aside0.mk H
 clear H
 go_enter Tryd.func7, Tryd.ntmps7
 go_upto_region 4 with (first | ((with_reducible refine gate_dst (N := 3) rfl ?_); refine box_event ?hg (N := 3) ?hd (cs := #[.string a0_0, .int .i64 a0_1, .int .i64 a0_2, .int .i64 a0_3, .int .i64 a0_4]) (t := 40) ?hr ?_; (case hd => rfl); (case hg => rfl); (case hr => first | (go_simp; done) | (go_simp; rfl)); intro gb315 hg w8 hbox hb; have BK315 := Aside0.mk (hbox); have GW315 := Aside0.mk ((by rw [hg]; exact (below_size (by first | exact HB.out | exact pw_below_drewN HB.out _ | exact below_drew1 HB.out)) : w.heap.size ≤ gb315)); have GE315 := GW315; replace HB := Aside0.mk (below_step (by first | exact HB.out | exact pw_below_drewN HB.out _ | exact below_drew1 HB.out) hb); clear hb hbox hg) | ((with_reducible refine gate_dst (N := 5) rfl ?_); refine box_event ?hg (N := 5) ?hd (cs := #[.int .i64 a2_0, .int .i64 a2_1, .int .i64 a2_2]) (t := 38) ?hr ?_; (case hd => rfl); (case hg => rfl); (case hr => first | (go_simp; done) | (go_simp; rfl)); intro gb316 hg w9 hbox hb; have BK316 := Aside0.mk (hbox); have GW316 := Aside0.mk ((by rw [hg]; exact (below_size (by repeat first | refine below_set ?_ GE315.out | exact HB.out | apply below_alloc | apply pw_below_drewN | apply below_drew1)) : w.heap.size ≤ gb316)); have GE316 := GW316; have NB315_316 := Aside0.mk ((by rw [hg]; exact lt1 BK315.out : gb315 ≠ gb316)); have NB316_315 := Aside0.mk ((by rw [hg]; exact gt1 BK315.out : gb316 ≠ gb315)); replace BK315 := Aside0.mk (bb hb BK315.out); replace HB := Aside0.mk (below_step (by repeat first | refine below_set ?_ GE315.out | exact HB.out | apply below_alloc | apply pw_below_drewN | apply below_drew1) hb); clear hb hbox hg; have hnb10 := NB315_316.out; have hnc10 := NB316_315.out; obtain ⟨hcz11_0, hcz11_1, hcz11_2, hcz11_3, hcz11_4, hfz11_0, hfz11_1, hfz11_2, hfz11_3, hfz11_4⟩ := cz5 BK315.out) | ((with_reducible refine gate_callee (f := 22) rfl ?_); refine goesL_ (some 14) rfl rfl Tryd.func22 (by kernel_rfl) rfl #[.agg #[.string a0_0, .int .i64 a0_1, .int .i64 a0_2, .int .i64 a0_3, .int .i64 a0_4]] rfl (by (try simp only [List.map_toArray, List.map_cons, List.map_nil]); first | done | rfl | (simp only [List.length_drop, List.length_take]; rfl)) ?_; (with_reducible refine (backseatlaw04_cut.calls a0_0 a0_1 a0_2 a0_3 a0_4 t317 t318 t319 t320 t321 _ A4.out).mono ?_); rintro e w12 ⟨rfl, hb⟩; refine ⟨_, rfl, ?_⟩; replace BK315 := Aside0.mk (bb hb BK315.out); replace BK316 := Aside0.mk (bb hb BK316.out); replace HB := Aside0.mk (below_step (by repeat first | refine below_set ?_ GE315.out | refine below_set ?_ GE316.out | exact HB.out | apply below_alloc | apply pw_below_drewN | apply below_drew1) hb); (try clear hb); (try clear hb2); (try clear hk); (try clear hi); obtain ⟨hcz13_0, hcz13_1, hcz13_2, hcz13_3, hcz13_4, hfz13_0, hfz13_1, hfz13_2, hfz13_3, hfz13_4⟩ := cz5 BK315.out; obtain ⟨hcz14_0, hcz14_1, hcz14_2, hfz14_0, hfz14_1, hfz14_2⟩ := cz3 BK316.out) | ((with_reducible refine gate_callee (f := 23) rfl ?_); refine goesL_ (some 18) rfl rfl Tryd.func23 (by kernel_rfl) rfl #[.int .i32 a1, .agg #[.int .i64 a2_0, .int .i64 a2_1, .int .i64 a2_2]] rfl (by (try simp only [List.map_toArray, List.map_cons, List.map_nil]); first | done | rfl | (simp only [List.length_drop, List.length_take]; rfl)) ?_; (with_reducible refine (cell_Of.calls a1 a2_0 a2_1 a2_2 t322 t323 t324 t325 t326 t327 _ A5.out).mono ?_); rintro e w15 ⟨rfl, hb⟩; refine ⟨_, rfl, ?_⟩; replace BK315 := Aside0.mk (bb hb (put5 BK315.out)); replace BK316 := Aside0.mk (bb hb (far5 NB316_315.out BK316.out)); replace HB := Aside0.mk (below_step (by repeat first | refine below_set ?_ GE315.out | refine below_set ?_ GE316.out | exact HB.out | apply below_alloc | apply pw_below_drewN | apply below_drew1) hb); (try clear hb); (try clear hb2); (try clear hk); (try clear hi)) | ((with_reducible refine gate_dst (N := 7) rfl ?_); refine box_event ?hg (N := 7) ?hd (cs := #[.string (⟨#[]⟩ : ByteArray), .int .i64 0, .int .i64 0, .int .i64 0, .int .i64 0]) (t := 40) ?hr ?_; (case hd => rfl); (case hg => rfl); (case hr => first | (go_simp; done) | (go_simp; rfl)); intro gb328 hg w16 hbox hb; have BK328 := Aside0.mk (hbox); have GW328 := Aside0.mk ((by rw [hg]; exact (below_size (by repeat first | refine below_set ?_ GE315.out | refine below_set ?_ GE316.out | exact HB.out | apply below_alloc | apply pw_below_drewN | apply below_drew1)) : w.heap.size ≤ gb328)); have GE328 := GW328; have NB315_328 := Aside0.mk ((by rw [hg]; exact lt1 BK315.out : gb315 ≠ gb328)); have NB328_315 := Aside0.mk ((by rw [hg]; exact gt1 BK315.out : gb328 ≠ gb315)); have NB316_328 := Aside0.mk ((by rw [hg]; exact lt1 BK316.out : gb316 ≠ gb328)); have NB328_316 := Aside0.mk ((by rw [hg]; exact gt1 BK316.out : gb328 ≠ gb316)); replace BK315 := Aside0.mk (bb hb BK315.out); replace BK316 := Aside0.mk (bb hb BK316.out); replace HB := Aside0.mk (below_step (by repeat first | refine below_set ?_ GE315.out | refine below_set ?_ GE316.out | exact HB.out | apply below_alloc | apply pw_below_drewN | apply below_drew1) hb); clear hb hbox hg; have hnb17 := NB328_315.out; have hnc17 := NB315_328.out; have hnb18 := NB328_316.out; have hnc18 := NB316_328.out; obtain ⟨hcz19_0, hcz19_1, hcz19_2, hcz19_3, hcz19_4, hfz19_0, hfz19_1, hfz19_2, hfz19_3, hfz19_4⟩ := cz5 BK328.out; obtain ⟨hcz20_0, hcz20_1, hcz20_2, hcz20_3, hcz20_4, hfz20_0, hfz20_1, hfz20_2, hfz20_3, hfz20_4⟩ := cz5 BK315.out) | ((with_reducible refine gate_callee (f := 24) rfl ?_); refine goesL_ (some 24) rfl rfl Tryd.func24 (by kernel_rfl) rfl #[.agg #[.string t317, .int .i64 t318, .int .i64 t319, .int .i64 t320, .int .i64 t321], .int .i32 a1] rfl (by (try simp only [List.map_toArray, List.map_cons, List.map_nil]); first | done | rfl | (simp only [List.length_drop, List.length_take]; rfl)) ?_; (with_reducible refine (cell_Mark.calls k t317 t318 t319 t320 t321 a1 t329 t330 t331 t332 t333 t334 _ A6.out).mono ?_); rintro e w21 ⟨rfl, hb⟩; refine ⟨_, rfl, ?_⟩; replace BK315 := Aside0.mk (bb hb (far5 NB315_328.out BK315.out)); replace BK316 := Aside0.mk (bb hb (far5 NB316_328.out BK316.out)); replace BK328 := Aside0.mk (bb hb (put5 BK328.out)); replace HB := Aside0.mk (below_step (by repeat first | refine below_set ?_ GE315.out | refine below_set ?_ GE316.out | refine below_set ?_ GE328.out | exact HB.out | apply below_alloc | apply pw_below_drewN | apply below_drew1) hb); (try clear hb); (try clear hb2); (try clear hk); (try clear hi)) | ((with_reducible refine gate_dst (N := 9) rfl ?_); refine box_event ?hg (N := 9) ?hd (cs := #[.string (⟨#[]⟩ : ByteArray), .int .i64 0, .int .i64 0, .int .i64 0, .int .i64 0]) (t := 40) ?hr ?_; (case hd => rfl); (case hg => rfl); (case hr => first | (go_simp; done) | (go_simp; rfl)); intro gb335 hg w22 hbox hb; have BK335 := Aside0.mk (hbox); have GW335 := Aside0.mk ((by rw [hg]; exact (below_size (by repeat first | refine below_set ?_ GE315.out | refine below_set ?_ GE316.out | refine below_set ?_ GE328.out | exact HB.out | apply below_alloc | apply pw_below_drewN | apply below_drew1)) : w.heap.size ≤ gb335)); have GE335 := GW335; have NB315_335 := Aside0.mk ((by rw [hg]; exact lt1 BK315.out : gb315 ≠ gb335)); have NB335_315 := Aside0.mk ((by rw [hg]; exact gt1 BK315.out : gb335 ≠ gb315)); have NB316_335 := Aside0.mk ((by rw [hg]; exact lt1 BK316.out : gb316 ≠ gb335)); have NB335_316 := Aside0.mk ((by rw [hg]; exact gt1 BK316.out : gb335 ≠ gb316)); have NB328_335 := Aside0.mk ((by rw [hg]; exact lt1 BK328.out : gb328 ≠ gb335)); have NB335_328 := Aside0.mk ((by rw [hg]; exact gt1 BK328.out : gb335 ≠ gb328)); replace BK315 := Aside0.mk (bb hb BK315.out); replace BK316 := Aside0.mk (bb hb BK316.out); replace BK328 := Aside0.mk (bb hb BK328.out); replace HB := Aside0.mk (below_step (by repeat first | refine below_set ?_ GE315.out | refine below_set ?_ GE316.out | refine below_set ?_ GE328.out | exact HB.out | apply below_alloc | apply pw_below_drewN | apply below_drew1) hb); clear hb hbox hg; have hnb23 := NB335_315.out; have hnc23 := NB315_335.out; have hnb24 := NB335_316.out; have hnc24 := NB316_335.out; have hnb25 := NB335_328.out; have hnc25 := NB328_335.out; obtain ⟨hcz26_0, hcz26_1, hcz26_2, hcz26_3, hcz26_4, hfz26_0, hfz26_1, hfz26_2, hfz26_3, hfz26_4⟩ := cz5 BK335.out))
 (try simp only [Act.put, List.setIfInBounds_toArray, List.set_cons_zero, List.set_cons_succ])
 go_cut [42] (fun v42 wc => ∃ (kq : Nat) (x42_6 : Bool), v42 = .bool x42_6 ∧ Aside0 (backseatlaw04_CellMakes.j0 kq a1 t327 t334 x42_6 t317 t318 t319 t320 t321 a2_0 a2_1 a2_2 t322 t323 t324 t325 t326 t329 t330 t331 t332 t333 = some r) ∧ Aside0 (kq ≤ k) ∧ Aside0 (wc.heap[gb315]? = some (.cells #[.string t317, .int .i64 t318, .int .i64 t319, .int .i64 t320, .int .i64 t321] 40 (0, 0))) ∧ Aside0 (wc.heap[gb316]? = some (.cells #[.int .i64 a2_0, .int .i64 a2_1, .int .i64 a2_2] 38 (0, 0))) ∧ Aside0 (wc.heap[gb328]? = some (.cells #[.string t322, .int .i64 t323, .int .i64 t324, .int .i64 t325, .int .i64 t326] 40 (0, 0))) ∧ Aside0 (wc.heap[gb335]? = some (.cells #[.string t329, .int .i64 t330, .int .i64 t331, .int .i64 t332, .int .i64 t333] 40 (0, 0))) ∧ Aside0 (Below w.heap.size w wc))
 case first =>
  have H := HC7.out
  clear HC7
  replace H := Option.bind_eq_some_iff.mp H
  obtain ⟨t336, A270, H⟩ := H
  replace H : ((backseatref04_Right.f k t317 t318 t319 t320 t321).bind fun t337 => (if (t336 != t337) = true then (backseatlaw04_CellMakes.j0 k a1 t327 t334 true t317 t318 t319 t320 t321 a2_0 a2_1 a2_2 t322 t323 t324 t325 t326 t329 t330 t331 t332 t333) else ((cell_Blank.f a2_0 a2_1 a2_2).bind fun bt338 => ((backseatref04_Blank.f a2_0 a2_1 a2_2).bind fun bt343 => (if (!(bt338.1.toList == bt343.1.toList) || (!(bt338.2.1 == bt343.2.1) || ((!(bt338.2.2.1 == bt343.2.2.1) || (!(bt338.2.2.2.1 == bt343.2.2.2.1) || (!(bt338.2.2.2.2 == bt343.2.2.2.2))))))) = true then (backseatlaw04_CellMakes.j0 k a1 t327 t334 true t317 t318 t319 t320 t321 a2_0 a2_1 a2_2 t322 t323 t324 t325 t326 t329 t330 t331 t332 t333) else ((backseatlaw04_alive.f k).bind fun t348 => (backseatlaw04_CellMakes.j0 k a1 t327 t334 (!t348) t317 t318 t319 t320 t321 a2_0 a2_1 a2_2 t322 t323 t324 t325 t326 t329 t330 t331 t332 t333))))))) = some r := H
  have A27 := Aside0.mk A270
  clear A270
  replace H := Option.bind_eq_some_iff.mp H
  obtain ⟨t337, A280, H⟩ := H
  replace H : (if (t336 != t337) = true then (backseatlaw04_CellMakes.j0 k a1 t327 t334 true t317 t318 t319 t320 t321 a2_0 a2_1 a2_2 t322 t323 t324 t325 t326 t329 t330 t331 t332 t333) else ((cell_Blank.f a2_0 a2_1 a2_2).bind fun bt338 => ((backseatref04_Blank.f a2_0 a2_1 a2_2).bind fun bt343 => (if (!(bt338.1.toList == bt343.1.toList) || (!(bt338.2.1 == bt343.2.1) || ((!(bt338.2.2.1 == bt343.2.2.1) || (!(bt338.2.2.2.1 == bt343.2.2.2.1) || (!(bt338.2.2.2.2 == bt343.2.2.2.2))))))) = true then (backseatlaw04_CellMakes.j0 k a1 t327 t334 true t317 t318 t319 t320 t321 a2_0 a2_1 a2_2 t322 t323 t324 t325 t326 t329 t330 t331 t332 t333) else ((backseatlaw04_alive.f k).bind fun t348 => (backseatlaw04_CellMakes.j0 k a1 t327 t334 (!t348) t317 t318 t319 t320 t321 a2_0 a2_1 a2_2 t322 t323 t324 t325 t326 t329 t330 t331 t332 t333)))))) = some r := H
  have A28 := Aside0.mk A280
  clear A280
  by_cases c29 : (t336 != t337) = true
  ·rw [if_pos c29] at H
   have c29b0 : (t336 != t337) = true := c29
   (try (have c29b1 : decide (t336 = t337) = false := by simpa using c29))
   (try (have c29b2 : (t336 == t337) = false := by simpa using c29))
   (try (have c29b3 : ¬ (t336 = t337) := by simpa using c29))
   clear c29
   (first | rw [c29b0] | (simp only [i64_w, i32_w]; rw [c29b0]) | skip)
   have H' := Aside0.mk H
   clear H
   try go_wp2
   have n0_ : Aside0 ((((((w22.setCell ⟨gb335, 0, none⟩ (.string t329)).setCell ⟨gb335, 1, none⟩ (.int .i64 t330)).setCell ⟨gb335, 2, none⟩ (.int .i64 t331)).setCell ⟨gb335, 3, none⟩ (.int .i64 t332)).setCell ⟨gb335, 4, none⟩ (.int .i64 t333)).heap[gb315]? = some (.cells #[.string t317, .int .i64 t318, .int .i64 t319, .int .i64 t320, .int .i64 t321] 40 (0, 0))) := ⟨by exact (far5 NB315_335.out BK315.out)⟩
   have n1_ : Aside0 ((((((w22.setCell ⟨gb335, 0, none⟩ (.string t329)).setCell ⟨gb335, 1, none⟩ (.int .i64 t330)).setCell ⟨gb335, 2, none⟩ (.int .i64 t331)).setCell ⟨gb335, 3, none⟩ (.int .i64 t332)).setCell ⟨gb335, 4, none⟩ (.int .i64 t333)).heap[gb316]? = some (.cells #[.int .i64 a2_0, .int .i64 a2_1, .int .i64 a2_2] 38 (0, 0))) := ⟨by exact (far5 NB316_335.out BK316.out)⟩
   have n2_ : Aside0 ((((((w22.setCell ⟨gb335, 0, none⟩ (.string t329)).setCell ⟨gb335, 1, none⟩ (.int .i64 t330)).setCell ⟨gb335, 2, none⟩ (.int .i64 t331)).setCell ⟨gb335, 3, none⟩ (.int .i64 t332)).setCell ⟨gb335, 4, none⟩ (.int .i64 t333)).heap[gb328]? = some (.cells #[.string t322, .int .i64 t323, .int .i64 t324, .int .i64 t325, .int .i64 t326] 40 (0, 0))) := ⟨by exact (far5 NB328_335.out BK328.out)⟩
   have n3_ : Aside0 ((((((w22.setCell ⟨gb335, 0, none⟩ (.string t329)).setCell ⟨gb335, 1, none⟩ (.int .i64 t330)).setCell ⟨gb335, 2, none⟩ (.int .i64 t331)).setCell ⟨gb335, 3, none⟩ (.int .i64 t332)).setCell ⟨gb335, 4, none⟩ (.int .i64 t333)).heap[gb335]? = some (.cells #[.string t329, .int .i64 t330, .int .i64 t331, .int .i64 t332, .int .i64 t333] 40 (0, 0))) := ⟨by exact (put5 BK335.out)⟩
   have n4_ : Aside0 (Below w.heap.size w (((((w22.setCell ⟨gb335, 0, none⟩ (.string t329)).setCell ⟨gb335, 1, none⟩ (.int .i64 t330)).setCell ⟨gb335, 2, none⟩ (.int .i64 t331)).setCell ⟨gb335, 3, none⟩ (.int .i64 t332)).setCell ⟨gb335, 4, none⟩ (.int .i64 t333))) := ⟨by repeat first | refine below_set ?_ GE315.out | refine below_set ?_ GE316.out | refine below_set ?_ GE328.out | refine below_set ?_ GE335.out | exact HB.out | apply below_alloc | apply pw_below_drewN | apply below_drew1⟩
   (try clear BK315)
   (try clear BK316)
   (try clear BK328)
   (try clear BK335)
   (try clear HB)
   generalize (((((w22.setCell ⟨gb335, 0, none⟩ (.string t329)).setCell ⟨gb335, 1, none⟩ (.int .i64 t330)).setCell ⟨gb335, 2, none⟩ (.int .i64 t331)).setCell ⟨gb335, 3, none⟩ (.int .i64 t332)).setCell ⟨gb335, 4, none⟩ (.int .i64 t333)) = w30 at n0_ n1_ n2_ n3_ n4_ ⊢
   have BK315 := n0_
   have BK316 := n1_
   have BK328 := n2_
   have BK335 := n3_
   have HB := n4_
   clear n0_ n1_ n2_ n3_ n4_
   replace BK315 := Aside0.mk (blk_drew BK315.out); replace BK316 := Aside0.mk (blk_drew BK316.out); replace BK328 := Aside0.mk (blk_drew BK328.out); replace BK335 := Aside0.mk (blk_drew BK335.out); replace HB := Aside0.mk (below_drew1 HB.out)
   refine start_ (n := 16) (S := fun w' => w'.cell? ⟨gb315, 0, none⟩ = some (.string t317) ∧ w'.cell? ⟨gb315, 1, none⟩ = some (.int .i64 t318) ∧ w'.cell? ⟨gb315, 2, none⟩ = some (.int .i64 t319) ∧ w'.cell? ⟨gb315, 3, none⟩ = some (.int .i64 t320) ∧ w'.cell? ⟨gb315, 4, none⟩ = some (.int .i64 t321)) (ds := []) m7_0_ (by kernel_rfl) rfl rfl ⟨(blk_cell BK315.out 0).trans rfl, (blk_cell BK315.out 1).trans rfl, (blk_cell BK315.out 2).trans rfl, (blk_cell BK315.out 3).trans rfl, (blk_cell BK315.out 4).trans rfl⟩ (fun hHeld => ?_); refine with_tabW backseatlaw04_CellMakes.tab4 backseatlaw04_CellMakes.bits4 (fun HT_ HW_ => ?_)
   generalize w30.drew = w31 at BK315 BK316 BK328 BK335 HB hHeld ⊢
   refine take_ (i := 0) (N := some 27) (v := ?_) (a' := ?_) m7_1_ rfl rfl (take_ofW HT_.out HW_.out (by kernel_rfl)) (fun _ _ _ h => h) (Or.inl ⟨by rfl, ?_⟩) hHeld ?_ ?_; rotate_left; (·rintro w' ⟨s0, s1, s2, s3, s4⟩; go_simp; with_reducible rfl); rotate_left; (·simp only [Act.put, s1, s2, s3, i64_w, i32_w]; rfl)
   refine take_ (i := 2) (N := some 29) (v := ?_) (a' := ?_) m7_2_ rfl rfl (take_ofW HT_.out HW_.out (by kernel_rfl)) (fun _ _ _ h => h) (Or.inl ⟨by rfl, ?_⟩) hHeld ?_ ?_; rotate_left; (·rintro w' ⟨s0, s1, s2, s3, s4⟩; go_simp; with_reducible rfl); rotate_left; (·simp only [Act.put, s1, s2, s3, i64_w, i32_w]; rfl)
   refine one_ (i := 1) (N := some 28) m7_3_ rfl rfl (one_of HT_.out (by kernel_rfl)) (by decide) (fun K hK => ?_)
   refine goes_ Tryd.func25 (by kernel_rfl) rfl #[.agg #[.string t317, .int .i64 t318, .int .i64 t319, .int .i64 t320, .int .i64 t321]] (by rfl) rfl rfl (by (try simp only [List.map_toArray, List.map_cons, List.map_nil]); first | done | rfl | (simp only [List.length_drop, List.length_take]; rfl)) ?_
   with_reducible refine (cell_Right.calls k t317 t318 t319 t320 t321 t336 _ A27.out).mono ?_
   rintro e w32 ⟨rfl, hb⟩
   refine ⟨_, rfl, ?_⟩
   replace BK315 := Aside0.mk (bb hb BK315.out); replace BK316 := Aside0.mk (bb hb BK316.out); replace BK328 := Aside0.mk (bb hb BK328.out); replace BK335 := Aside0.mk (bb hb BK335.out); replace HB := Aside0.mk (below_step (by repeat first | refine below_set ?_ GE315.out | refine below_set ?_ GE316.out | refine below_set ?_ GE328.out | refine below_set ?_ GE335.out | exact HB.out | apply below_alloc | apply pw_below_drewN | apply below_drew1) hb)
   (try clear hb)
   (try clear hb2)
   (try clear hk)
   (try clear hi)
   refine hK.out _ _ ⟨(blk_cell BK315.out 0).trans rfl, (blk_cell BK315.out 1).trans rfl, (blk_cell BK315.out 2).trans rfl, (blk_cell BK315.out 3).trans rfl, (blk_cell BK315.out 4).trans rfl⟩ (fun hHeld => ?_)
   clear hK K
   refine norm_ (a' := ?_) ?_ ?_
   rotate_left
   ·show Act.put _ (some 28) _ = _
    simp only [Act.put, s1, s2, s3, i64_w, i32_w]
    rfl
   refine one_ (i := 3) (N := some 30) m7_4_ rfl rfl (one_of HT_.out (by kernel_rfl)) (by decide) (fun K hK => ?_)
   refine goes_ Tryd.func26 (by kernel_rfl) rfl #[.agg #[.string t317, .int .i64 t318, .int .i64 t319, .int .i64 t320, .int .i64 t321]] (by rfl) rfl rfl (by (try simp only [List.map_toArray, List.map_cons, List.map_nil]); first | done | rfl | (simp only [List.length_drop, List.length_take]; rfl)) ?_
   with_reducible refine (backseatref04_Right.calls k t317 t318 t319 t320 t321 t337 _ A28.out).mono ?_
   rintro e w33 ⟨rfl, hb⟩
   refine ⟨_, rfl, ?_⟩
   replace BK315 := Aside0.mk (bb hb BK315.out); replace BK316 := Aside0.mk (bb hb BK316.out); replace BK328 := Aside0.mk (bb hb BK328.out); replace BK335 := Aside0.mk (bb hb BK335.out); replace HB := Aside0.mk (below_step (by repeat first | refine below_set ?_ GE315.out | refine below_set ?_ GE316.out | refine below_set ?_ GE328.out | refine below_set ?_ GE335.out | exact HB.out | apply below_alloc | apply pw_below_drewN | apply below_drew1) hb)
   (try clear hb)
   (try clear hb2)
   (try clear hk)
   (try clear hi)
   refine hK.out _ _ ⟨(blk_cell BK315.out 0).trans rfl, (blk_cell BK315.out 1).trans rfl, (blk_cell BK315.out 2).trans rfl, (blk_cell BK315.out 3).trans rfl, (blk_cell BK315.out 4).trans rfl⟩ (fun hHeld => ?_)
   clear hK K
   refine norm_ (a' := ?_) ?_ ?_
   rotate_left
   ·show Act.put _ (some 30) _ = _
    simp only [Act.put, s1, s2, s3, i64_w, i32_w]
    rfl
   refine pu HT_.out (i := 4) (N := some 31) (v := ?_) (a' := ?_) m7_5_ rfl rfl (by kernel_rfl) (fun _ _ _ h => h) (by rfl) ?_ ?_ ?_; rotate_left; (·intro w'; go_simp; with_reducible rfl); rotate_left; (·simp only [Act.put, s1, s2, s3, i64_w, i32_w]; rfl)
   refine pu HT_.out (i := 5) (N := some 32) (v := ?_) (a' := ?_) m7_6_ rfl rfl (by kernel_rfl) (fun _ _ _ h => h) (by rfl) ?_ ?_ ?_; rotate_left; (·intro w'; go_simp; with_reducible rfl); rotate_left; (·simp only [Act.put, s1, s2, s3, i64_w, i32_w]; rfl)
   refine pure_ (i := 6) (N := some 33) (v := undef) (a' := ?_) m7_7_ rfl rfl (any_of HT_.out (by kernel_rfl)) (fun _ _ _ h => h) (Or.inr ⟨by rfl, rfl⟩) ?_ ?_
   rotate_left
   ·simp only [Act.put, s1, s2, s3, i64_w, i32_w]
    rfl
   refine pure_ (i := 7) (N := some 34) (v := undef) (a' := ?_) m7_8_ rfl rfl (any_of HT_.out (by kernel_rfl)) (fun _ _ _ h => h) (Or.inr ⟨by rfl, rfl⟩) ?_ ?_
   rotate_left
   ·simp only [Act.put, s1, s2, s3, i64_w, i32_w]
    rfl
   refine pure_ (i := 8) (N := some 35) (v := undef) (a' := ?_) m7_9_ rfl rfl (any_of HT_.out (by kernel_rfl)) (fun _ _ _ h => h) (Or.inr ⟨by rfl, rfl⟩) ?_ ?_
   rotate_left
   ·simp only [Act.put, s1, s2, s3, i64_w, i32_w]
    rfl
   refine pure_ (i := 9) (N := some 36) (v := undef) (a' := ?_) m7_10_ rfl rfl (any_of HT_.out (by kernel_rfl)) (fun _ _ _ h => h) (Or.inr ⟨by rfl, rfl⟩) ?_ ?_
   rotate_left
   ·simp only [Act.put, s1, s2, s3, i64_w, i32_w]
    rfl
   refine pure_ (i := 10) (N := some 37) (v := undef) (a' := ?_) m7_11_ rfl rfl (any_of HT_.out (by kernel_rfl)) (fun _ _ _ h => h) (Or.inr ⟨by rfl, rfl⟩) ?_ ?_
   rotate_left
   ·simp only [Act.put, s1, s2, s3, i64_w, i32_w]
    rfl
   refine pu HT_.out (i := 11) (N := some 38) (v := ?_) (a' := ?_) m7_12_ rfl rfl (by kernel_rfl) (fun _ _ _ h => h) (by rfl) ?_ ?_ ?_; rotate_left; (·intro w'; go_simp; with_reducible rfl); rotate_left; (·simp only [Act.put, s1, s2, s3, i64_w, i32_w]; rfl)
   refine pu HT_.out (i := 12) (N := some 39) (v := ?_) (a' := ?_) m7_13_ rfl rfl (by kernel_rfl) (fun _ _ _ h => h) (by rfl) ?_ ?_ ?_; rotate_left; (·intro w'; go_simp; with_reducible rfl); rotate_left; (·simp only [Act.put, s1, s2, s3, i64_w, i32_w]; rfl)
   refine pure_ (i := 13) (N := some 40) (v := undef) (a' := ?_) m7_14_ rfl rfl (any_of HT_.out (by kernel_rfl)) (fun _ _ _ h => h) (Or.inr ⟨by rfl, rfl⟩) ?_ ?_
   rotate_left
   ·simp only [Act.put, s1, s2, s3, i64_w, i32_w]
    rfl
   refine pure_ (i := 14) (N := some 41) (v := undef) (a' := ?_) m7_15_ rfl rfl (any_of HT_.out (by kernel_rfl)) (fun _ _ _ h => h) (Or.inr ⟨by rfl, rfl⟩) ?_ ?_
   rotate_left
   ·simp only [Act.put, s1, s2, s3, i64_w, i32_w]
    rfl
   refine pu HT_.out (i := 15) (N := some 42) (v := ?_) (a' := ?_) m7_16_ rfl rfl (by kernel_rfl) (fun _ _ _ h => h) (by rfl) ?_ ?_ ?_; rotate_left; (·intro w'; go_simp; with_reducible rfl); rotate_left; (·simp only [Act.put, s1, s2, s3, i64_w, i32_w]; rfl)
   refine done_ (done_of HT_.out (by kernel_rfl)) ?_
   try go_wp2
   go_meet
   case rel => exact ⟨_, (true), (by first | rfl | (simp; done) | (simp [*]; done)), H', ⟨by first | omega | exact Nat.le_refl _⟩, ⟨by (with_reducible repeat (first | refine blk_drewN ?_ _ | refine blk_drew ?_ | refine blk_alloc ?_ _)); exact BK315.out⟩, ⟨by (with_reducible repeat (first | refine blk_drewN ?_ _ | refine blk_drew ?_ | refine blk_alloc ?_ _)); exact BK316.out⟩, ⟨by (with_reducible repeat (first | refine blk_drewN ?_ _ | refine blk_drew ?_ | refine blk_alloc ?_ _)); exact BK328.out⟩, ⟨by (with_reducible repeat (first | refine blk_drewN ?_ _ | refine blk_drew ?_ | refine blk_alloc ?_ _)); exact BK335.out⟩, ⟨by repeat first | refine below_set ?_ GE315.out | refine below_set ?_ GE316.out | refine below_set ?_ GE328.out | refine below_set ?_ GE335.out | exact HB.out | apply below_alloc | apply pw_below_drewN | apply below_drew1⟩⟩
  ·rw [if_neg c29] at H
   have c29b0 : (t336 != t337) = false := by simpa using c29
   (try (have c29b1 : decide (t336 = t337) = true := by simpa using c29))
   (try (have c29b2 : (t336 == t337) = true := by simpa using c29))
   clear c29
   (first | rw [c29b0] | (simp only [i64_w, i32_w]; rw [c29b0]) | skip)
   replace H := Option.bind_eq_some_iff.mp H
   obtain ⟨⟨t338, t339, t340, t341, t342⟩, A340, H⟩ := H
   replace H : ((backseatref04_Blank.f a2_0 a2_1 a2_2).bind fun bt343 => (if (!(t338.toList == bt343.1.toList) || (!(t339 == bt343.2.1) || ((!(t340 == bt343.2.2.1) || (!(t341 == bt343.2.2.2.1) || (!(t342 == bt343.2.2.2.2))))))) = true then (backseatlaw04_CellMakes.j0 k a1 t327 t334 true t317 t318 t319 t320 t321 a2_0 a2_1 a2_2 t322 t323 t324 t325 t326 t329 t330 t331 t332 t333) else ((backseatlaw04_alive.f k).bind fun t348 => (backseatlaw04_CellMakes.j0 k a1 t327 t334 (!t348) t317 t318 t319 t320 t321 a2_0 a2_1 a2_2 t322 t323 t324 t325 t326 t329 t330 t331 t332 t333)))) = some r := H
   have A34 := Aside0.mk A340
   clear A340
   replace H := Option.bind_eq_some_iff.mp H
   obtain ⟨⟨t343, t344, t345, t346, t347⟩, A350, H⟩ := H
   replace H : (if (!(t338.toList == t343.toList) || (!(t339 == t344) || ((!(t340 == t345) || (!(t341 == t346) || (!(t342 == t347))))))) = true then (backseatlaw04_CellMakes.j0 k a1 t327 t334 true t317 t318 t319 t320 t321 a2_0 a2_1 a2_2 t322 t323 t324 t325 t326 t329 t330 t331 t332 t333) else ((backseatlaw04_alive.f k).bind fun t348 => (backseatlaw04_CellMakes.j0 k a1 t327 t334 (!t348) t317 t318 t319 t320 t321 a2_0 a2_1 a2_2 t322 t323 t324 t325 t326 t329 t330 t331 t332 t333))) = some r := H
   have A35 := Aside0.mk A350
   clear A350
   by_cases c36 : (!(t338.toList == t343.toList) || (!(t339 == t344) || ((!(t340 == t345) || (!(t341 == t346) || (!(t342 == t347))))))) = true
   ·rw [if_pos c36] at H
    have c36b0 : (!(t338.toList == t343.toList) || (!(t339 == t344) || ((!(t340 == t345) || (!(t341 == t346) || (!(t342 == t347))))))) = true := c36
    clear c36
    have H' := Aside0.mk H
    clear H
    try go_wp2
    have n0_ : Aside0 ((((((w22.setCell ⟨gb335, 0, none⟩ (.string t329)).setCell ⟨gb335, 1, none⟩ (.int .i64 t330)).setCell ⟨gb335, 2, none⟩ (.int .i64 t331)).setCell ⟨gb335, 3, none⟩ (.int .i64 t332)).setCell ⟨gb335, 4, none⟩ (.int .i64 t333)).heap[gb315]? = some (.cells #[.string t317, .int .i64 t318, .int .i64 t319, .int .i64 t320, .int .i64 t321] 40 (0, 0))) := ⟨by exact (far5 NB315_335.out BK315.out)⟩
    have n1_ : Aside0 ((((((w22.setCell ⟨gb335, 0, none⟩ (.string t329)).setCell ⟨gb335, 1, none⟩ (.int .i64 t330)).setCell ⟨gb335, 2, none⟩ (.int .i64 t331)).setCell ⟨gb335, 3, none⟩ (.int .i64 t332)).setCell ⟨gb335, 4, none⟩ (.int .i64 t333)).heap[gb316]? = some (.cells #[.int .i64 a2_0, .int .i64 a2_1, .int .i64 a2_2] 38 (0, 0))) := ⟨by exact (far5 NB316_335.out BK316.out)⟩
    have n2_ : Aside0 ((((((w22.setCell ⟨gb335, 0, none⟩ (.string t329)).setCell ⟨gb335, 1, none⟩ (.int .i64 t330)).setCell ⟨gb335, 2, none⟩ (.int .i64 t331)).setCell ⟨gb335, 3, none⟩ (.int .i64 t332)).setCell ⟨gb335, 4, none⟩ (.int .i64 t333)).heap[gb328]? = some (.cells #[.string t322, .int .i64 t323, .int .i64 t324, .int .i64 t325, .int .i64 t326] 40 (0, 0))) := ⟨by exact (far5 NB328_335.out BK328.out)⟩
    have n3_ : Aside0 ((((((w22.setCell ⟨gb335, 0, none⟩ (.string t329)).setCell ⟨gb335, 1, none⟩ (.int .i64 t330)).setCell ⟨gb335, 2, none⟩ (.int .i64 t331)).setCell ⟨gb335, 3, none⟩ (.int .i64 t332)).setCell ⟨gb335, 4, none⟩ (.int .i64 t333)).heap[gb335]? = some (.cells #[.string t329, .int .i64 t330, .int .i64 t331, .int .i64 t332, .int .i64 t333] 40 (0, 0))) := ⟨by exact (put5 BK335.out)⟩
    have n4_ : Aside0 (Below w.heap.size w (((((w22.setCell ⟨gb335, 0, none⟩ (.string t329)).setCell ⟨gb335, 1, none⟩ (.int .i64 t330)).setCell ⟨gb335, 2, none⟩ (.int .i64 t331)).setCell ⟨gb335, 3, none⟩ (.int .i64 t332)).setCell ⟨gb335, 4, none⟩ (.int .i64 t333))) := ⟨by repeat first | refine below_set ?_ GE315.out | refine below_set ?_ GE316.out | refine below_set ?_ GE328.out | refine below_set ?_ GE335.out | exact HB.out | apply below_alloc | apply pw_below_drewN | apply below_drew1⟩
    (try clear BK315)
    (try clear BK316)
    (try clear BK328)
    (try clear BK335)
    (try clear HB)
    generalize (((((w22.setCell ⟨gb335, 0, none⟩ (.string t329)).setCell ⟨gb335, 1, none⟩ (.int .i64 t330)).setCell ⟨gb335, 2, none⟩ (.int .i64 t331)).setCell ⟨gb335, 3, none⟩ (.int .i64 t332)).setCell ⟨gb335, 4, none⟩ (.int .i64 t333)) = w37 at n0_ n1_ n2_ n3_ n4_ ⊢
    have BK315 := n0_
    have BK316 := n1_
    have BK328 := n2_
    have BK335 := n3_
    have HB := n4_
    clear n0_ n1_ n2_ n3_ n4_
    replace BK315 := Aside0.mk (blk_drew BK315.out); replace BK316 := Aside0.mk (blk_drew BK316.out); replace BK328 := Aside0.mk (blk_drew BK328.out); replace BK335 := Aside0.mk (blk_drew BK335.out); replace HB := Aside0.mk (below_drew1 HB.out)
    refine start_ (n := 16) (S := fun w' => w'.cell? ⟨gb315, 0, none⟩ = some (.string t317) ∧ w'.cell? ⟨gb315, 1, none⟩ = some (.int .i64 t318) ∧ w'.cell? ⟨gb315, 2, none⟩ = some (.int .i64 t319) ∧ w'.cell? ⟨gb315, 3, none⟩ = some (.int .i64 t320) ∧ w'.cell? ⟨gb315, 4, none⟩ = some (.int .i64 t321) ∧ w'.cell? ⟨gb316, 0, none⟩ = some (.int .i64 a2_0) ∧ w'.cell? ⟨gb316, 1, none⟩ = some (.int .i64 a2_1) ∧ w'.cell? ⟨gb316, 2, none⟩ = some (.int .i64 a2_2)) (ds := []) m7_0_ (by kernel_rfl) rfl rfl ⟨(blk_cell BK315.out 0).trans rfl, (blk_cell BK315.out 1).trans rfl, (blk_cell BK315.out 2).trans rfl, (blk_cell BK315.out 3).trans rfl, (blk_cell BK315.out 4).trans rfl, (blk_cell BK316.out 0).trans rfl, (blk_cell BK316.out 1).trans rfl, (blk_cell BK316.out 2).trans rfl⟩ (fun hHeld => ?_); refine with_tabW backseatlaw04_CellMakes.tab4 backseatlaw04_CellMakes.bits4 (fun HT_ HW_ => ?_)
    generalize w37.drew = w38 at BK315 BK316 BK328 BK335 HB hHeld ⊢
    refine take_ (i := 0) (N := some 27) (v := ?_) (a' := ?_) m7_1_ rfl rfl (take_ofW HT_.out HW_.out (by kernel_rfl)) (fun _ _ _ h => h) (Or.inl ⟨by rfl, ?_⟩) hHeld ?_ ?_; rotate_left; (·rintro w' ⟨s0, s1, s2, s3, s4, s5, s6, s7⟩; go_simp; with_reducible rfl); rotate_left; (·simp only [Act.put, s1, s2, s3, i64_w, i32_w]; rfl)
    refine take_ (i := 2) (N := some 29) (v := ?_) (a' := ?_) m7_2_ rfl rfl (take_ofW HT_.out HW_.out (by kernel_rfl)) (fun _ _ _ h => h) (Or.inl ⟨by rfl, ?_⟩) hHeld ?_ ?_; rotate_left; (·rintro w' ⟨s0, s1, s2, s3, s4, s5, s6, s7⟩; go_simp; with_reducible rfl); rotate_left; (·simp only [Act.put, s1, s2, s3, i64_w, i32_w]; rfl)
    refine one_ (i := 1) (N := some 28) m7_3_ rfl rfl (one_of HT_.out (by kernel_rfl)) (by decide) (fun K hK => ?_)
    refine goes_ Tryd.func25 (by kernel_rfl) rfl #[.agg #[.string t317, .int .i64 t318, .int .i64 t319, .int .i64 t320, .int .i64 t321]] (by rfl) rfl rfl (by (try simp only [List.map_toArray, List.map_cons, List.map_nil]); first | done | rfl | (simp only [List.length_drop, List.length_take]; rfl)) ?_
    with_reducible refine (cell_Right.calls k t317 t318 t319 t320 t321 t336 _ A27.out).mono ?_
    rintro e w39 ⟨rfl, hb⟩
    refine ⟨_, rfl, ?_⟩
    replace BK315 := Aside0.mk (bb hb BK315.out); replace BK316 := Aside0.mk (bb hb BK316.out); replace BK328 := Aside0.mk (bb hb BK328.out); replace BK335 := Aside0.mk (bb hb BK335.out); replace HB := Aside0.mk (below_step (by repeat first | refine below_set ?_ GE315.out | refine below_set ?_ GE316.out | refine below_set ?_ GE328.out | refine below_set ?_ GE335.out | exact HB.out | apply below_alloc | apply pw_below_drewN | apply below_drew1) hb)
    (try clear hb)
    (try clear hb2)
    (try clear hk)
    (try clear hi)
    refine hK.out _ _ ⟨(blk_cell BK315.out 0).trans rfl, (blk_cell BK315.out 1).trans rfl, (blk_cell BK315.out 2).trans rfl, (blk_cell BK315.out 3).trans rfl, (blk_cell BK315.out 4).trans rfl, (blk_cell BK316.out 0).trans rfl, (blk_cell BK316.out 1).trans rfl, (blk_cell BK316.out 2).trans rfl⟩ (fun hHeld => ?_)
    clear hK K
    refine norm_ (a' := ?_) ?_ ?_
    rotate_left
    ·show Act.put _ (some 28) _ = _
     simp only [Act.put, s1, s2, s3, i64_w, i32_w]
     rfl
    refine one_ (i := 3) (N := some 30) m7_4_ rfl rfl (one_of HT_.out (by kernel_rfl)) (by decide) (fun K hK => ?_)
    refine goes_ Tryd.func26 (by kernel_rfl) rfl #[.agg #[.string t317, .int .i64 t318, .int .i64 t319, .int .i64 t320, .int .i64 t321]] (by rfl) rfl rfl (by (try simp only [List.map_toArray, List.map_cons, List.map_nil]); first | done | rfl | (simp only [List.length_drop, List.length_take]; rfl)) ?_
    with_reducible refine (backseatref04_Right.calls k t317 t318 t319 t320 t321 t337 _ A28.out).mono ?_
    rintro e w40 ⟨rfl, hb⟩
    refine ⟨_, rfl, ?_⟩
    replace BK315 := Aside0.mk (bb hb BK315.out); replace BK316 := Aside0.mk (bb hb BK316.out); replace BK328 := Aside0.mk (bb hb BK328.out); replace BK335 := Aside0.mk (bb hb BK335.out); replace HB := Aside0.mk (below_step (by repeat first | refine below_set ?_ GE315.out | refine below_set ?_ GE316.out | refine below_set ?_ GE328.out | refine below_set ?_ GE335.out | exact HB.out | apply below_alloc | apply pw_below_drewN | apply below_drew1) hb)
    (try clear hb)
    (try clear hb2)
    (try clear hk)
    (try clear hi)
    refine hK.out _ _ ⟨(blk_cell BK315.out 0).trans rfl, (blk_cell BK315.out 1).trans rfl, (blk_cell BK315.out 2).trans rfl, (blk_cell BK315.out 3).trans rfl, (blk_cell BK315.out 4).trans rfl, (blk_cell BK316.out 0).trans rfl, (blk_cell BK316.out 1).trans rfl, (blk_cell BK316.out 2).trans rfl⟩ (fun hHeld => ?_)
    clear hK K
    refine norm_ (a' := ?_) ?_ ?_
    rotate_left
    ·show Act.put _ (some 30) _ = _
     simp only [Act.put, s1, s2, s3, i64_w, i32_w]
     rfl
    refine pu HT_.out (i := 4) (N := some 31) (v := ?_) (a' := ?_) m7_5_ rfl rfl (by kernel_rfl) (fun _ _ _ h => h) (by rfl) ?_ ?_ ?_; rotate_left; (·intro w'; go_simp; with_reducible rfl); rotate_left; (·simp only [Act.put, s1, s2, s3, i64_w, i32_w]; rfl)
    refine pu HT_.out (i := 5) (N := some 32) (v := ?_) (a' := ?_) m7_6_ rfl rfl (by kernel_rfl) (fun _ _ _ h => h) (by rfl) ?_ ?_ ?_; rotate_left; (·intro w'; go_simp; with_reducible rfl); rotate_left; (·simp only [Act.put, s1, s2, s3, i64_w, i32_w]; rfl)
    refine take_ (i := 6) (N := some 33) (v := ?_) (a' := ?_) m7_7_ rfl rfl (take_ofW HT_.out HW_.out (by kernel_rfl)) (fun _ _ _ h => h) (Or.inl ⟨by rfl, ?_⟩) hHeld ?_ ?_; rotate_left; (·rintro w' ⟨s0, s1, s2, s3, s4, s5, s6, s7⟩; go_simp; with_reducible rfl); rotate_left; (·simp only [Act.put, s1, s2, s3, i64_w, i32_w]; rfl)
    refine take_ (i := 8) (N := some 35) (v := ?_) (a' := ?_) m7_17_ rfl rfl (take_ofW HT_.out HW_.out (by kernel_rfl)) (fun _ _ _ h => h) (Or.inl ⟨by rfl, ?_⟩) hHeld ?_ ?_; rotate_left; (·rintro w' ⟨s0, s1, s2, s3, s4, s5, s6, s7⟩; go_simp; with_reducible rfl); rotate_left; (·simp only [Act.put, s1, s2, s3, i64_w, i32_w]; rfl)
    refine one_ (i := 7) (N := some 34) m7_9_ rfl rfl (one_of HT_.out (by kernel_rfl)) (by decide) (fun K hK => ?_)
    refine goes_ Tryd.func27 (by kernel_rfl) rfl #[.agg #[.int .i64 a2_0, .int .i64 a2_1, .int .i64 a2_2]] (by rfl) rfl rfl (by (try simp only [List.map_toArray, List.map_cons, List.map_nil]); first | done | rfl | (simp only [List.length_drop, List.length_take]; rfl)) ?_
    with_reducible refine (cell_Blank.calls a2_0 a2_1 a2_2 t338 t339 t340 t341 t342 _ A34.out).mono ?_
    rintro e w41 ⟨rfl, hb⟩
    refine ⟨_, rfl, ?_⟩
    replace BK315 := Aside0.mk (bb hb BK315.out); replace BK316 := Aside0.mk (bb hb BK316.out); replace BK328 := Aside0.mk (bb hb BK328.out); replace BK335 := Aside0.mk (bb hb BK335.out); replace HB := Aside0.mk (below_step (by repeat first | refine below_set ?_ GE315.out | refine below_set ?_ GE316.out | refine below_set ?_ GE328.out | refine below_set ?_ GE335.out | exact HB.out | apply below_alloc | apply pw_below_drewN | apply below_drew1) hb)
    (try clear hb)
    (try clear hb2)
    (try clear hk)
    (try clear hi)
    refine hK.out _ _ ⟨(blk_cell BK315.out 0).trans rfl, (blk_cell BK315.out 1).trans rfl, (blk_cell BK315.out 2).trans rfl, (blk_cell BK315.out 3).trans rfl, (blk_cell BK315.out 4).trans rfl, (blk_cell BK316.out 0).trans rfl, (blk_cell BK316.out 1).trans rfl, (blk_cell BK316.out 2).trans rfl⟩ (fun hHeld => ?_)
    clear hK K
    refine norm_ (a' := ?_) ?_ ?_
    rotate_left
    ·show Act.put _ (some 34) _ = _
     simp only [Act.put, s1, s2, s3, i64_w, i32_w]
     rfl
    refine one_ (i := 9) (N := some 36) m7_10_ rfl rfl (one_of HT_.out (by kernel_rfl)) (by decide) (fun K hK => ?_)
    refine goes_ Tryd.func28 (by kernel_rfl) rfl #[.agg #[.int .i64 a2_0, .int .i64 a2_1, .int .i64 a2_2]] (by rfl) rfl rfl (by (try simp only [List.map_toArray, List.map_cons, List.map_nil]); first | done | rfl | (simp only [List.length_drop, List.length_take]; rfl)) ?_
    with_reducible refine (backseatref04_Blank.calls a2_0 a2_1 a2_2 t343 t344 t345 t346 t347 _ A35.out).mono ?_
    rintro e w42 ⟨rfl, hb⟩
    refine ⟨_, rfl, ?_⟩
    replace BK315 := Aside0.mk (bb hb BK315.out); replace BK316 := Aside0.mk (bb hb BK316.out); replace BK328 := Aside0.mk (bb hb BK328.out); replace BK335 := Aside0.mk (bb hb BK335.out); replace HB := Aside0.mk (below_step (by repeat first | refine below_set ?_ GE315.out | refine below_set ?_ GE316.out | refine below_set ?_ GE328.out | refine below_set ?_ GE335.out | exact HB.out | apply below_alloc | apply pw_below_drewN | apply below_drew1) hb)
    (try clear hb)
    (try clear hb2)
    (try clear hk)
    (try clear hi)
    refine hK.out _ _ ⟨(blk_cell BK315.out 0).trans rfl, (blk_cell BK315.out 1).trans rfl, (blk_cell BK315.out 2).trans rfl, (blk_cell BK315.out 3).trans rfl, (blk_cell BK315.out 4).trans rfl, (blk_cell BK316.out 0).trans rfl, (blk_cell BK316.out 1).trans rfl, (blk_cell BK316.out 2).trans rfl⟩ (fun hHeld => ?_)
    clear hK K
    refine norm_ (a' := ?_) ?_ ?_
    rotate_left
    ·show Act.put _ (some 36) _ = _
     simp only [Act.put, s1, s2, s3, i64_w, i32_w]
     rfl
    refine pu HT_.out (i := 10) (N := some 37) (v := ?_) (a' := ?_) m7_11_ rfl rfl (by kernel_rfl) (fun _ _ _ h => h) (by rfl) ?_ ?_ ?_; rotate_left; (·intro w'; go_simp; with_reducible rfl); rotate_left; (·simp only [Act.put, s1, s2, s3, i64_w, i32_w]; rfl)
    refine pu HT_.out (i := 11) (N := some 38) (v := ?_) (a' := ?_) m7_12_ rfl rfl (by kernel_rfl) (fun _ _ _ h => h) (by rfl) ?_ ?_ ?_; rotate_left; (·intro w'; go_simp; with_reducible rfl); rotate_left; (·simp only [Act.put, s1, s2, s3, i64_w, i32_w]; rfl)
    refine pu HT_.out (i := 12) (N := some 39) (v := ?_) (a' := ?_) m7_13_ rfl rfl (by kernel_rfl) (fun _ _ _ h => h) (by rfl) ?_ ?_ ?_; rotate_left; (·intro w'; go_simp; with_reducible rfl); rotate_left; (·simp only [Act.put, s1, s2, s3, i64_w, i32_w]; rfl)
    refine pure_ (i := 13) (N := some 40) (v := undef) (a' := ?_) m7_14_ rfl rfl (any_of HT_.out (by kernel_rfl)) (fun _ _ _ h => h) (Or.inr ⟨by rfl, rfl⟩) ?_ ?_
    rotate_left
    ·simp only [Act.put, s1, s2, s3, i64_w, i32_w]
     rfl
    refine pure_ (i := 14) (N := some 41) (v := undef) (a' := ?_) m7_15_ rfl rfl (any_of HT_.out (by kernel_rfl)) (fun _ _ _ h => h) (Or.inr ⟨by rfl, rfl⟩) ?_ ?_
    rotate_left
    ·simp only [Act.put, s1, s2, s3, i64_w, i32_w]
     rfl
    refine pu HT_.out (i := 15) (N := some 42) (v := ?_) (a' := ?_) m7_16_ rfl rfl (by kernel_rfl) (fun _ _ _ h => h) (by rfl) ?_ ?_ ?_; rotate_left; (·intro w'; go_simp; with_reducible rfl); rotate_left; (·simp only [Act.put, s1, s2, s3, i64_w, i32_w]; rfl)
    refine done_ (done_of HT_.out (by kernel_rfl)) ?_
    try go_wp2
    go_meet
    case rel => exact ⟨_, (true), (by first | rfl | (simp; done) | (simp [*]; done)), H', ⟨by first | omega | exact Nat.le_refl _⟩, ⟨by (with_reducible repeat (first | refine blk_drewN ?_ _ | refine blk_drew ?_ | refine blk_alloc ?_ _)); exact BK315.out⟩, ⟨by (with_reducible repeat (first | refine blk_drewN ?_ _ | refine blk_drew ?_ | refine blk_alloc ?_ _)); exact BK316.out⟩, ⟨by (with_reducible repeat (first | refine blk_drewN ?_ _ | refine blk_drew ?_ | refine blk_alloc ?_ _)); exact BK328.out⟩, ⟨by (with_reducible repeat (first | refine blk_drewN ?_ _ | refine blk_drew ?_ | refine blk_alloc ?_ _)); exact BK335.out⟩, ⟨by repeat first | refine below_set ?_ GE315.out | refine below_set ?_ GE316.out | refine below_set ?_ GE328.out | refine below_set ?_ GE335.out | exact HB.out | apply below_alloc | apply pw_below_drewN | apply below_drew1⟩⟩
   ·rw [if_neg c36] at H
    have c36b0 : (!(t338.toList == t343.toList) || (!(t339 == t344) || ((!(t340 == t345) || (!(t341 == t346) || (!(t342 == t347))))))) = false := by simpa using c36
    clear c36
    replace H := Option.bind_eq_some_iff.mp H
    obtain ⟨t348, A430, H⟩ := H
    replace H : (backseatlaw04_CellMakes.j0 k a1 t327 t334 (!t348) t317 t318 t319 t320 t321 a2_0 a2_1 a2_2 t322 t323 t324 t325 t326 t329 t330 t331 t332 t333) = some r := H
    have A43 := Aside0.mk A430
    clear A430
    have H' := Aside0.mk H
    clear H
    try go_wp2
    have n0_ : Aside0 ((((((w22.setCell ⟨gb335, 0, none⟩ (.string t329)).setCell ⟨gb335, 1, none⟩ (.int .i64 t330)).setCell ⟨gb335, 2, none⟩ (.int .i64 t331)).setCell ⟨gb335, 3, none⟩ (.int .i64 t332)).setCell ⟨gb335, 4, none⟩ (.int .i64 t333)).heap[gb315]? = some (.cells #[.string t317, .int .i64 t318, .int .i64 t319, .int .i64 t320, .int .i64 t321] 40 (0, 0))) := ⟨by exact (far5 NB315_335.out BK315.out)⟩
    have n1_ : Aside0 ((((((w22.setCell ⟨gb335, 0, none⟩ (.string t329)).setCell ⟨gb335, 1, none⟩ (.int .i64 t330)).setCell ⟨gb335, 2, none⟩ (.int .i64 t331)).setCell ⟨gb335, 3, none⟩ (.int .i64 t332)).setCell ⟨gb335, 4, none⟩ (.int .i64 t333)).heap[gb316]? = some (.cells #[.int .i64 a2_0, .int .i64 a2_1, .int .i64 a2_2] 38 (0, 0))) := ⟨by exact (far5 NB316_335.out BK316.out)⟩
    have n2_ : Aside0 ((((((w22.setCell ⟨gb335, 0, none⟩ (.string t329)).setCell ⟨gb335, 1, none⟩ (.int .i64 t330)).setCell ⟨gb335, 2, none⟩ (.int .i64 t331)).setCell ⟨gb335, 3, none⟩ (.int .i64 t332)).setCell ⟨gb335, 4, none⟩ (.int .i64 t333)).heap[gb328]? = some (.cells #[.string t322, .int .i64 t323, .int .i64 t324, .int .i64 t325, .int .i64 t326] 40 (0, 0))) := ⟨by exact (far5 NB328_335.out BK328.out)⟩
    have n3_ : Aside0 ((((((w22.setCell ⟨gb335, 0, none⟩ (.string t329)).setCell ⟨gb335, 1, none⟩ (.int .i64 t330)).setCell ⟨gb335, 2, none⟩ (.int .i64 t331)).setCell ⟨gb335, 3, none⟩ (.int .i64 t332)).setCell ⟨gb335, 4, none⟩ (.int .i64 t333)).heap[gb335]? = some (.cells #[.string t329, .int .i64 t330, .int .i64 t331, .int .i64 t332, .int .i64 t333] 40 (0, 0))) := ⟨by exact (put5 BK335.out)⟩
    have n4_ : Aside0 (Below w.heap.size w (((((w22.setCell ⟨gb335, 0, none⟩ (.string t329)).setCell ⟨gb335, 1, none⟩ (.int .i64 t330)).setCell ⟨gb335, 2, none⟩ (.int .i64 t331)).setCell ⟨gb335, 3, none⟩ (.int .i64 t332)).setCell ⟨gb335, 4, none⟩ (.int .i64 t333))) := ⟨by repeat first | refine below_set ?_ GE315.out | refine below_set ?_ GE316.out | refine below_set ?_ GE328.out | refine below_set ?_ GE335.out | exact HB.out | apply below_alloc | apply pw_below_drewN | apply below_drew1⟩
    (try clear BK315)
    (try clear BK316)
    (try clear BK328)
    (try clear BK335)
    (try clear HB)
    generalize (((((w22.setCell ⟨gb335, 0, none⟩ (.string t329)).setCell ⟨gb335, 1, none⟩ (.int .i64 t330)).setCell ⟨gb335, 2, none⟩ (.int .i64 t331)).setCell ⟨gb335, 3, none⟩ (.int .i64 t332)).setCell ⟨gb335, 4, none⟩ (.int .i64 t333)) = w44 at n0_ n1_ n2_ n3_ n4_ ⊢
    have BK315 := n0_
    have BK316 := n1_
    have BK328 := n2_
    have BK335 := n3_
    have HB := n4_
    clear n0_ n1_ n2_ n3_ n4_
    replace BK315 := Aside0.mk (blk_drew BK315.out); replace BK316 := Aside0.mk (blk_drew BK316.out); replace BK328 := Aside0.mk (blk_drew BK328.out); replace BK335 := Aside0.mk (blk_drew BK335.out); replace HB := Aside0.mk (below_drew1 HB.out)
    refine start_ (n := 16) (S := fun w' => w'.cell? ⟨gb315, 0, none⟩ = some (.string t317) ∧ w'.cell? ⟨gb315, 1, none⟩ = some (.int .i64 t318) ∧ w'.cell? ⟨gb315, 2, none⟩ = some (.int .i64 t319) ∧ w'.cell? ⟨gb315, 3, none⟩ = some (.int .i64 t320) ∧ w'.cell? ⟨gb315, 4, none⟩ = some (.int .i64 t321) ∧ w'.cell? ⟨gb316, 0, none⟩ = some (.int .i64 a2_0) ∧ w'.cell? ⟨gb316, 1, none⟩ = some (.int .i64 a2_1) ∧ w'.cell? ⟨gb316, 2, none⟩ = some (.int .i64 a2_2)) (ds := []) m7_0_ (by kernel_rfl) rfl rfl ⟨(blk_cell BK315.out 0).trans rfl, (blk_cell BK315.out 1).trans rfl, (blk_cell BK315.out 2).trans rfl, (blk_cell BK315.out 3).trans rfl, (blk_cell BK315.out 4).trans rfl, (blk_cell BK316.out 0).trans rfl, (blk_cell BK316.out 1).trans rfl, (blk_cell BK316.out 2).trans rfl⟩ (fun hHeld => ?_); refine with_tabW backseatlaw04_CellMakes.tab4 backseatlaw04_CellMakes.bits4 (fun HT_ HW_ => ?_)
    generalize w44.drew = w45 at BK315 BK316 BK328 BK335 HB hHeld ⊢
    refine take_ (i := 0) (N := some 27) (v := ?_) (a' := ?_) m7_1_ rfl rfl (take_ofW HT_.out HW_.out (by kernel_rfl)) (fun _ _ _ h => h) (Or.inl ⟨by rfl, ?_⟩) hHeld ?_ ?_; rotate_left; (·rintro w' ⟨s0, s1, s2, s3, s4, s5, s6, s7⟩; go_simp; with_reducible rfl); rotate_left; (·simp only [Act.put, s1, s2, s3, i64_w, i32_w]; rfl)
    refine take_ (i := 2) (N := some 29) (v := ?_) (a' := ?_) m7_2_ rfl rfl (take_ofW HT_.out HW_.out (by kernel_rfl)) (fun _ _ _ h => h) (Or.inl ⟨by rfl, ?_⟩) hHeld ?_ ?_; rotate_left; (·rintro w' ⟨s0, s1, s2, s3, s4, s5, s6, s7⟩; go_simp; with_reducible rfl); rotate_left; (·simp only [Act.put, s1, s2, s3, i64_w, i32_w]; rfl)
    refine one_ (i := 1) (N := some 28) m7_3_ rfl rfl (one_of HT_.out (by kernel_rfl)) (by decide) (fun K hK => ?_)
    refine goes_ Tryd.func25 (by kernel_rfl) rfl #[.agg #[.string t317, .int .i64 t318, .int .i64 t319, .int .i64 t320, .int .i64 t321]] (by rfl) rfl rfl (by (try simp only [List.map_toArray, List.map_cons, List.map_nil]); first | done | rfl | (simp only [List.length_drop, List.length_take]; rfl)) ?_
    with_reducible refine (cell_Right.calls k t317 t318 t319 t320 t321 t336 _ A27.out).mono ?_
    rintro e w46 ⟨rfl, hb⟩
    refine ⟨_, rfl, ?_⟩
    replace BK315 := Aside0.mk (bb hb BK315.out); replace BK316 := Aside0.mk (bb hb BK316.out); replace BK328 := Aside0.mk (bb hb BK328.out); replace BK335 := Aside0.mk (bb hb BK335.out); replace HB := Aside0.mk (below_step (by repeat first | refine below_set ?_ GE315.out | refine below_set ?_ GE316.out | refine below_set ?_ GE328.out | refine below_set ?_ GE335.out | exact HB.out | apply below_alloc | apply pw_below_drewN | apply below_drew1) hb)
    (try clear hb)
    (try clear hb2)
    (try clear hk)
    (try clear hi)
    refine hK.out _ _ ⟨(blk_cell BK315.out 0).trans rfl, (blk_cell BK315.out 1).trans rfl, (blk_cell BK315.out 2).trans rfl, (blk_cell BK315.out 3).trans rfl, (blk_cell BK315.out 4).trans rfl, (blk_cell BK316.out 0).trans rfl, (blk_cell BK316.out 1).trans rfl, (blk_cell BK316.out 2).trans rfl⟩ (fun hHeld => ?_)
    clear hK K
    refine norm_ (a' := ?_) ?_ ?_
    rotate_left
    ·show Act.put _ (some 28) _ = _
     simp only [Act.put, s1, s2, s3, i64_w, i32_w]
     rfl
    refine one_ (i := 3) (N := some 30) m7_4_ rfl rfl (one_of HT_.out (by kernel_rfl)) (by decide) (fun K hK => ?_)
    refine goes_ Tryd.func26 (by kernel_rfl) rfl #[.agg #[.string t317, .int .i64 t318, .int .i64 t319, .int .i64 t320, .int .i64 t321]] (by rfl) rfl rfl (by (try simp only [List.map_toArray, List.map_cons, List.map_nil]); first | done | rfl | (simp only [List.length_drop, List.length_take]; rfl)) ?_
    with_reducible refine (backseatref04_Right.calls k t317 t318 t319 t320 t321 t337 _ A28.out).mono ?_
    rintro e w47 ⟨rfl, hb⟩
    refine ⟨_, rfl, ?_⟩
    replace BK315 := Aside0.mk (bb hb BK315.out); replace BK316 := Aside0.mk (bb hb BK316.out); replace BK328 := Aside0.mk (bb hb BK328.out); replace BK335 := Aside0.mk (bb hb BK335.out); replace HB := Aside0.mk (below_step (by repeat first | refine below_set ?_ GE315.out | refine below_set ?_ GE316.out | refine below_set ?_ GE328.out | refine below_set ?_ GE335.out | exact HB.out | apply below_alloc | apply pw_below_drewN | apply below_drew1) hb)
    (try clear hb)
    (try clear hb2)
    (try clear hk)
    (try clear hi)
    refine hK.out _ _ ⟨(blk_cell BK315.out 0).trans rfl, (blk_cell BK315.out 1).trans rfl, (blk_cell BK315.out 2).trans rfl, (blk_cell BK315.out 3).trans rfl, (blk_cell BK315.out 4).trans rfl, (blk_cell BK316.out 0).trans rfl, (blk_cell BK316.out 1).trans rfl, (blk_cell BK316.out 2).trans rfl⟩ (fun hHeld => ?_)
    clear hK K
    refine norm_ (a' := ?_) ?_ ?_
    rotate_left
    ·show Act.put _ (some 30) _ = _
     simp only [Act.put, s1, s2, s3, i64_w, i32_w]
     rfl
    refine pu HT_.out (i := 4) (N := some 31) (v := ?_) (a' := ?_) m7_5_ rfl rfl (by kernel_rfl) (fun _ _ _ h => h) (by rfl) ?_ ?_ ?_; rotate_left; (·intro w'; go_simp; with_reducible rfl); rotate_left; (·simp only [Act.put, s1, s2, s3, i64_w, i32_w]; rfl)
    refine pu HT_.out (i := 5) (N := some 32) (v := ?_) (a' := ?_) m7_6_ rfl rfl (by kernel_rfl) (fun _ _ _ h => h) (by rfl) ?_ ?_ ?_; rotate_left; (·intro w'; go_simp; with_reducible rfl); rotate_left; (·simp only [Act.put, s1, s2, s3, i64_w, i32_w]; rfl)
    refine take_ (i := 6) (N := some 33) (v := ?_) (a' := ?_) m7_7_ rfl rfl (take_ofW HT_.out HW_.out (by kernel_rfl)) (fun _ _ _ h => h) (Or.inl ⟨by rfl, ?_⟩) hHeld ?_ ?_; rotate_left; (·rintro w' ⟨s0, s1, s2, s3, s4, s5, s6, s7⟩; go_simp; with_reducible rfl); rotate_left; (·simp only [Act.put, s1, s2, s3, i64_w, i32_w]; rfl)
    refine take_ (i := 8) (N := some 35) (v := ?_) (a' := ?_) m7_17_ rfl rfl (take_ofW HT_.out HW_.out (by kernel_rfl)) (fun _ _ _ h => h) (Or.inl ⟨by rfl, ?_⟩) hHeld ?_ ?_; rotate_left; (·rintro w' ⟨s0, s1, s2, s3, s4, s5, s6, s7⟩; go_simp; with_reducible rfl); rotate_left; (·simp only [Act.put, s1, s2, s3, i64_w, i32_w]; rfl)
    refine one_ (i := 7) (N := some 34) m7_9_ rfl rfl (one_of HT_.out (by kernel_rfl)) (by decide) (fun K hK => ?_)
    refine goes_ Tryd.func27 (by kernel_rfl) rfl #[.agg #[.int .i64 a2_0, .int .i64 a2_1, .int .i64 a2_2]] (by rfl) rfl rfl (by (try simp only [List.map_toArray, List.map_cons, List.map_nil]); first | done | rfl | (simp only [List.length_drop, List.length_take]; rfl)) ?_
    with_reducible refine (cell_Blank.calls a2_0 a2_1 a2_2 t338 t339 t340 t341 t342 _ A34.out).mono ?_
    rintro e w48 ⟨rfl, hb⟩
    refine ⟨_, rfl, ?_⟩
    replace BK315 := Aside0.mk (bb hb BK315.out); replace BK316 := Aside0.mk (bb hb BK316.out); replace BK328 := Aside0.mk (bb hb BK328.out); replace BK335 := Aside0.mk (bb hb BK335.out); replace HB := Aside0.mk (below_step (by repeat first | refine below_set ?_ GE315.out | refine below_set ?_ GE316.out | refine below_set ?_ GE328.out | refine below_set ?_ GE335.out | exact HB.out | apply below_alloc | apply pw_below_drewN | apply below_drew1) hb)
    (try clear hb)
    (try clear hb2)
    (try clear hk)
    (try clear hi)
    refine hK.out _ _ ⟨(blk_cell BK315.out 0).trans rfl, (blk_cell BK315.out 1).trans rfl, (blk_cell BK315.out 2).trans rfl, (blk_cell BK315.out 3).trans rfl, (blk_cell BK315.out 4).trans rfl, (blk_cell BK316.out 0).trans rfl, (blk_cell BK316.out 1).trans rfl, (blk_cell BK316.out 2).trans rfl⟩ (fun hHeld => ?_)
    clear hK K
    refine norm_ (a' := ?_) ?_ ?_
    rotate_left
    ·show Act.put _ (some 34) _ = _
     simp only [Act.put, s1, s2, s3, i64_w, i32_w]
     rfl
    refine one_ (i := 9) (N := some 36) m7_10_ rfl rfl (one_of HT_.out (by kernel_rfl)) (by decide) (fun K hK => ?_)
    refine goes_ Tryd.func28 (by kernel_rfl) rfl #[.agg #[.int .i64 a2_0, .int .i64 a2_1, .int .i64 a2_2]] (by rfl) rfl rfl (by (try simp only [List.map_toArray, List.map_cons, List.map_nil]); first | done | rfl | (simp only [List.length_drop, List.length_take]; rfl)) ?_
    with_reducible refine (backseatref04_Blank.calls a2_0 a2_1 a2_2 t343 t344 t345 t346 t347 _ A35.out).mono ?_
    rintro e w49 ⟨rfl, hb⟩
    refine ⟨_, rfl, ?_⟩
    replace BK315 := Aside0.mk (bb hb BK315.out); replace BK316 := Aside0.mk (bb hb BK316.out); replace BK328 := Aside0.mk (bb hb BK328.out); replace BK335 := Aside0.mk (bb hb BK335.out); replace HB := Aside0.mk (below_step (by repeat first | refine below_set ?_ GE315.out | refine below_set ?_ GE316.out | refine below_set ?_ GE328.out | refine below_set ?_ GE335.out | exact HB.out | apply below_alloc | apply pw_below_drewN | apply below_drew1) hb)
    (try clear hb)
    (try clear hb2)
    (try clear hk)
    (try clear hi)
    refine hK.out _ _ ⟨(blk_cell BK315.out 0).trans rfl, (blk_cell BK315.out 1).trans rfl, (blk_cell BK315.out 2).trans rfl, (blk_cell BK315.out 3).trans rfl, (blk_cell BK315.out 4).trans rfl, (blk_cell BK316.out 0).trans rfl, (blk_cell BK316.out 1).trans rfl, (blk_cell BK316.out 2).trans rfl⟩ (fun hHeld => ?_)
    clear hK K
    refine norm_ (a' := ?_) ?_ ?_
    rotate_left
    ·show Act.put _ (some 36) _ = _
     simp only [Act.put, s1, s2, s3, i64_w, i32_w]
     rfl
    refine pu HT_.out (i := 10) (N := some 37) (v := ?_) (a' := ?_) m7_11_ rfl rfl (by kernel_rfl) (fun _ _ _ h => h) (by rfl) ?_ ?_ ?_; rotate_left; (·intro w'; go_simp; with_reducible rfl); rotate_left; (·simp only [Act.put, s1, s2, s3, i64_w, i32_w]; rfl)
    refine pu HT_.out (i := 11) (N := some 38) (v := ?_) (a' := ?_) m7_12_ rfl rfl (by kernel_rfl) (fun _ _ _ h => h) (by rfl) ?_ ?_ ?_; rotate_left; (·intro w'; go_simp; with_reducible rfl); rotate_left; (·simp only [Act.put, s1, s2, s3, i64_w, i32_w]; rfl)
    refine pu HT_.out (i := 12) (N := some 39) (v := ?_) (a' := ?_) m7_13_ rfl rfl (by kernel_rfl) (fun _ _ _ h => h) (by rfl) ?_ ?_ ?_; rotate_left; (·intro w'; go_simp; with_reducible rfl); rotate_left; (·simp only [Act.put, s1, s2, s3, i64_w, i32_w]; rfl)
    refine one_ (i := 13) (N := some 40) m7_14_ rfl rfl (one_of HT_.out (by kernel_rfl)) (by decide) (fun K hK => ?_)
    refine goes_ Tryd.func29 (by kernel_rfl) rfl #[] (by rfl) rfl rfl (by (try simp only [List.map_toArray, List.map_cons, List.map_nil]); first | done | rfl | (simp only [List.length_drop, List.length_take]; rfl)) ?_
    with_reducible refine (backseatlaw04_alive.calls k  t348 _ A43.out).mono ?_
    rintro e w50 ⟨rfl, hb⟩
    refine ⟨_, rfl, ?_⟩
    replace BK315 := Aside0.mk (bb hb BK315.out); replace BK316 := Aside0.mk (bb hb BK316.out); replace BK328 := Aside0.mk (bb hb BK328.out); replace BK335 := Aside0.mk (bb hb BK335.out); replace HB := Aside0.mk (below_step (by repeat first | refine below_set ?_ GE315.out | refine below_set ?_ GE316.out | refine below_set ?_ GE328.out | refine below_set ?_ GE335.out | exact HB.out | apply below_alloc | apply pw_below_drewN | apply below_drew1) hb)
    (try clear hb)
    (try clear hb2)
    (try clear hk)
    (try clear hi)
    refine hK.out _ _ ⟨(blk_cell BK315.out 0).trans rfl, (blk_cell BK315.out 1).trans rfl, (blk_cell BK315.out 2).trans rfl, (blk_cell BK315.out 3).trans rfl, (blk_cell BK315.out 4).trans rfl, (blk_cell BK316.out 0).trans rfl, (blk_cell BK316.out 1).trans rfl, (blk_cell BK316.out 2).trans rfl⟩ (fun hHeld => ?_)
    clear hK K
    refine norm_ (a' := ?_) ?_ ?_
    rotate_left
    ·show Act.put _ (some 40) _ = _
     simp only [Act.put, s1, s2, s3, i64_w, i32_w]
     rfl
    refine pu HT_.out (i := 14) (N := some 41) (v := ?_) (a' := ?_) m7_15_ rfl rfl (by kernel_rfl) (fun _ _ _ h => h) (by rfl) ?_ ?_ ?_; rotate_left; (·intro w'; go_simp; with_reducible rfl); rotate_left; (·simp only [Act.put, s1, s2, s3, i64_w, i32_w]; rfl)
    refine pu HT_.out (i := 15) (N := some 42) (v := ?_) (a' := ?_) m7_16_ rfl rfl (by kernel_rfl) (fun _ _ _ h => h) (by rfl) ?_ ?_ ?_; rotate_left; (·intro w'; go_simp; with_reducible rfl); rotate_left; (·simp only [Act.put, s1, s2, s3, i64_w, i32_w]; rfl)
    refine done_ (done_of HT_.out (by kernel_rfl)) ?_
    try go_wp2
    go_meet
    case rel => exact ⟨_, (!t348), (by first | rfl | (simp; done) | (simp [*]; done)), H', ⟨by first | omega | exact Nat.le_refl _⟩, ⟨by (with_reducible repeat (first | refine blk_drewN ?_ _ | refine blk_drew ?_ | refine blk_alloc ?_ _)); exact BK315.out⟩, ⟨by (with_reducible repeat (first | refine blk_drewN ?_ _ | refine blk_drew ?_ | refine blk_alloc ?_ _)); exact BK316.out⟩, ⟨by (with_reducible repeat (first | refine blk_drewN ?_ _ | refine blk_drew ?_ | refine blk_alloc ?_ _)); exact BK328.out⟩, ⟨by (with_reducible repeat (first | refine blk_drewN ?_ _ | refine blk_drew ?_ | refine blk_alloc ?_ _)); exact BK335.out⟩, ⟨by repeat first | refine below_set ?_ GE315.out | refine below_set ?_ GE316.out | refine below_set ?_ GE328.out | refine below_set ?_ GE335.out | exact HB.out | apply below_alloc | apply pw_below_drewN | apply below_drew1⟩⟩
 case rest =>
  clear HC7
  (try clear c2); (try clear p2); (try clear c3); (try clear c25); (try clear c26); (try clear c27); (try clear c28); (try clear c29); (try clear c29b0); (try clear c29b1); (try clear c29b2); (try clear c36); (try clear c36b0)
  obtain ⟨kq, x42_6, rfl, HA, HJ6, BK315, BK316, BK328, BK335, HB⟩ := hcut
  cases kq with
  | zero => exact absurd HA.out (by simp [backseatlaw04_CellMakes.j0])
  | succ kj6 =>
   have H := HA.out
   clear HA
   simp only [backseatlaw04_CellMakes.j0] at H
   by_cases c51 : x42_6 = true
   ·subst c51
    have H1 : (some false) = some r := by rw [if_pos rfl] at H; exact H
    clear H
    have H := H1
    clear H1
    obtain rfl := Option.some.inj H
    go_wp2
    go_ret
    exact ⟨by first | rfl | (simp [errW_none, errW_some] <;> rfl) | (simp [*, errW_none, errW_some] <;> rfl), by repeat first | refine below_set ?_ GE315.out | refine below_set ?_ GE316.out | refine below_set ?_ GE328.out | refine below_set ?_ GE335.out | exact HB.out | apply below_alloc | apply pw_below_drewN | apply below_drew1⟩
   ·replace c51 := Bool.eq_false_iff.mpr c51
    subst c51
    have H1 : ((backseatref01_Width.f kj6 a1).bind fun t349 => (if t349 < 1 then (backseatlaw04_CellMakes.j1 kj6 a1 t327 t334 t349 true t317 t318 t319 t320 t321 a2_0 a2_1 a2_2 t322 t323 t324 t325 t326 t329 t330 t331 t332 t333) else ((backseatref04_Look.f a2_0 a2_1 a2_2).bind fun t350 => (backseatlaw04_CellMakes.j1 kj6 a1 t327 t334 t349 (!t350) t317 t318 t319 t320 t321 a2_0 a2_1 a2_2 t322 t323 t324 t325 t326 t329 t330 t331 t332 t333)))) = some r := by rw [if_neg (show ¬ (false = true) by decide)] at H; exact H
    clear H
    have H := H1
    clear H1
    replace H := Option.bind_eq_some_iff.mp H
    obtain ⟨t349, A520, H⟩ := H
    replace H : (if t349 < 1 then (backseatlaw04_CellMakes.j1 kj6 a1 t327 t334 t349 true t317 t318 t319 t320 t321 a2_0 a2_1 a2_2 t322 t323 t324 t325 t326 t329 t330 t331 t332 t333) else ((backseatref04_Look.f a2_0 a2_1 a2_2).bind fun t350 => (backseatlaw04_CellMakes.j1 kj6 a1 t327 t334 t349 (!t350) t317 t318 t319 t320 t321 a2_0 a2_1 a2_2 t322 t323 t324 t325 t326 t329 t330 t331 t332 t333))) = some r := H
    have A52 := Aside0.mk A520
    clear A520
    have HC53 := Aside0.mk H
    clear H
    go_upto_region 7 with (first | ((with_reducible refine gate_callee (f := 19) rfl ?_); refine goesL_ (some 44) rfl rfl Tryd.func19 (by kernel_rfl) rfl #[.int .i32 a1] rfl (by (try simp only [List.map_toArray, List.map_cons, List.map_nil]); first | done | rfl | (simp only [List.length_drop, List.length_take]; rfl)) ?_; (with_reducible refine (backseatref01_Width.calls kj6 a1 t349 _ A52.out).mono ?_); rintro e w' ⟨rfl, ⟨nd, rfl⟩⟩; refine ⟨_, rfl, ?_⟩))
    (try simp only [Act.put, List.setIfInBounds_toArray, List.set_cons_zero, List.set_cons_succ])
    go_cut [51] (fun v51 wc => ∃ (kq : Nat) (x51_52 : Bool), v51 = .bool x51_52 ∧ Aside0 (backseatlaw04_CellMakes.j1 kq a1 t327 t334 t349 x51_52 t317 t318 t319 t320 t321 a2_0 a2_1 a2_2 t322 t323 t324 t325 t326 t329 t330 t331 t332 t333 = some r) ∧ Aside0 (kq ≤ kj6) ∧ Aside0 (wc.heap[gb315]? = some (.cells #[.string t317, .int .i64 t318, .int .i64 t319, .int .i64 t320, .int .i64 t321] 40 (0, 0))) ∧ Aside0 (wc.heap[gb316]? = some (.cells #[.int .i64 a2_0, .int .i64 a2_1, .int .i64 a2_2] 38 (0, 0))) ∧ Aside0 (wc.heap[gb328]? = some (.cells #[.string t322, .int .i64 t323, .int .i64 t324, .int .i64 t325, .int .i64 t326] 40 (0, 0))) ∧ Aside0 (wc.heap[gb335]? = some (.cells #[.string t329, .int .i64 t330, .int .i64 t331, .int .i64 t332, .int .i64 t333] 40 (0, 0))) ∧ Aside0 (Below w.heap.size w wc))
    case first =>
     have H := HC53.out
     clear HC53
     by_cases c54 : t349 < 1
     ·rw [if_pos c54] at H
      have c54b0 : decide (t349 < 1) = true := decide_eq_true c54
      clear c54
      (first | rw [c54b0] | (simp only [i64_w, i32_w]; rw [c54b0]) | skip)
      have H' := Aside0.mk H
      clear H
      go_wp2
      go_meet
      case rel => exact ⟨_, (true), (by first | rfl | (simp; done) | (simp [*]; done)), H', ⟨by have := HJ6.out; first | omega | exact Nat.le_refl _⟩, ⟨by (with_reducible repeat (first | refine blk_drewN ?_ _ | refine blk_drew ?_ | refine blk_alloc ?_ _)); exact BK315.out⟩, ⟨by (with_reducible repeat (first | refine blk_drewN ?_ _ | refine blk_drew ?_ | refine blk_alloc ?_ _)); exact BK316.out⟩, ⟨by (with_reducible repeat (first | refine blk_drewN ?_ _ | refine blk_drew ?_ | refine blk_alloc ?_ _)); exact BK328.out⟩, ⟨by (with_reducible repeat (first | refine blk_drewN ?_ _ | refine blk_drew ?_ | refine blk_alloc ?_ _)); exact BK335.out⟩, ⟨by repeat first | refine below_set ?_ GE315.out | refine below_set ?_ GE316.out | refine below_set ?_ GE328.out | refine below_set ?_ GE335.out | exact HB.out | apply below_alloc | apply pw_below_drewN | apply below_drew1⟩⟩
     ·rw [if_neg c54] at H
      have c54b0 : decide (t349 < 1) = false := decide_eq_false c54
      clear c54
      (first | rw [c54b0] | (simp only [i64_w, i32_w]; rw [c54b0]) | skip)
      replace H := Option.bind_eq_some_iff.mp H
      obtain ⟨t350, A550, H⟩ := H
      replace H : (backseatlaw04_CellMakes.j1 kj6 a1 t327 t334 t349 (!t350) t317 t318 t319 t320 t321 a2_0 a2_1 a2_2 t322 t323 t324 t325 t326 t329 t330 t331 t332 t333) = some r := H
      have A55 := Aside0.mk A550
      clear A550
      have H' := Aside0.mk H
      clear H
      have hnb56 := NB316_315.out
      have hnc56 := NB315_316.out
      have hnb57 := NB316_328.out
      have hnc57 := NB328_316.out
      have hnb58 := NB316_335.out
      have hnc58 := NB335_316.out
      have hcz59_0 : wc.cell? ⟨gb316, 0, none⟩ = some (.int .i64 a2_0) := (blk_cell BK316.out 0).trans rfl
      have hcz59_1 : wc.cell? ⟨gb316, 1, none⟩ = some (.int .i64 a2_1) := (blk_cell BK316.out 1).trans rfl
      have hcz59_2 : wc.cell? ⟨gb316, 2, none⟩ = some (.int .i64 a2_2) := (blk_cell BK316.out 2).trans rfl
      have hfz59_0 := blk_frozen BK316.out 0
      have hfz59_1 := blk_frozen BK316.out 1
      have hfz59_2 := blk_frozen BK316.out 2
      go_wp2_with (first | (go_at_call 30; (with_reducible refine (backseatref04_Look.calls a2_0 a2_1 a2_2 t350 _ A55.out).mono ?_); rintro e w60 ⟨rfl, hb⟩; replace BK315 := Aside0.mk (bb hb BK315.out); replace BK316 := Aside0.mk (bb hb BK316.out); replace BK328 := Aside0.mk (bb hb BK328.out); replace BK335 := Aside0.mk (bb hb BK335.out); replace HB := Aside0.mk (below_step (by repeat first | refine below_set ?_ GE315.out | refine below_set ?_ GE316.out | refine below_set ?_ GE328.out | refine below_set ?_ GE335.out | exact HB.out | apply below_alloc | apply pw_below_drewN | apply below_drew1) hb); (try clear hb); (try clear hb2); (try clear hk); (try clear hi)))
      go_meet
      case rel => exact ⟨_, (!t350), (by first | rfl | (simp; done) | (simp [*]; done)), H', ⟨by have := HJ6.out; first | omega | exact Nat.le_refl _⟩, ⟨by (with_reducible repeat (first | refine blk_drewN ?_ _ | refine blk_drew ?_ | refine blk_alloc ?_ _)); exact BK315.out⟩, ⟨by (with_reducible repeat (first | refine blk_drewN ?_ _ | refine blk_drew ?_ | refine blk_alloc ?_ _)); exact BK316.out⟩, ⟨by (with_reducible repeat (first | refine blk_drewN ?_ _ | refine blk_drew ?_ | refine blk_alloc ?_ _)); exact BK328.out⟩, ⟨by (with_reducible repeat (first | refine blk_drewN ?_ _ | refine blk_drew ?_ | refine blk_alloc ?_ _)); exact BK335.out⟩, ⟨by repeat first | refine below_set ?_ GE315.out | refine below_set ?_ GE316.out | refine below_set ?_ GE328.out | refine below_set ?_ GE335.out | exact HB.out | apply below_alloc | apply pw_below_drewN | apply below_drew1⟩⟩
    case rest =>
     clear HC53
     (try clear c1); (try clear c2); (try clear p2); (try clear c3); (try clear c5); (try clear c19); (try clear c25); (try clear c26); (try clear c27); (try clear c28); (try clear c29); (try clear c29b0); (try clear c29b1); (try clear c29b2); (try clear c36); (try clear c36b0); (try clear c51); (try clear c54); (try clear c54b0); (try clear c56); (try clear c57); (try clear c58); (try clear hcz59_0); (try clear hcz59_1); (try clear hcz59_2); (try clear hfz59_0); (try clear hfz59_1); (try clear hfz59_2); (try clear p2)
     obtain ⟨kq, x51_52, rfl, HA, HJ52, BK315, BK316, BK328, BK335, HB⟩ := hcut
     cases kq with
     | zero => exact absurd HA.out (by simp [backseatlaw04_CellMakes.j1])
     | succ kj52 =>
      have H := HA.out
      clear HA
      simp only [backseatlaw04_CellMakes.j1] at H
      have HC61 := Aside0.mk H
      clear H
      go_upto_if 51 with (fail)
      go_cut [] (fun wc => ∃ (kq : Nat), Aside0 (backseatlaw04_CellMakes.j2 kq a1 t334 t349 t317 t318 t319 t320 t321 t329 t330 t331 t332 t333 = some r) ∧ Aside0 (kq ≤ kj52) ∧ Aside0 (wc.heap[gb315]? = some (.cells #[.string t317, .int .i64 t318, .int .i64 t319, .int .i64 t320, .int .i64 t321] 40 (0, 0))) ∧ Aside0 (wc.heap[gb316]? = some (.cells #[.int .i64 a2_0, .int .i64 a2_1, .int .i64 a2_2] 38 (0, 0))) ∧ Aside0 (wc.heap[gb328]? = some (.cells #[.string t322, .int .i64 t323, .int .i64 t324, .int .i64 t325, .int .i64 t326] 40 (0, 0))) ∧ Aside0 (wc.heap[gb335]? = some (.cells #[.string t329, .int .i64 t330, .int .i64 t331, .int .i64 t332, .int .i64 t333] 40 (0, 0))) ∧ Aside0 (Below w.heap.size w wc))
      case first =>
       have H := HC61.out
       clear HC61
       by_cases c62 : x51_52 = true
       ·subst c62
        have H1 : (if t327 = 1 then (if (!(t322.toList == ([] : List UInt8)) || (!(t323 == 0) || ((!(t324 == 0) || (!(t325 == 0) || (!(t326 == 0))))))) = true then (some false) else (backseatlaw04_CellMakes.j2 kj52 a1 t334 t349 t317 t318 t319 t320 t321 t329 t330 t331 t332 t333)) else (some false)) = some r := by rw [if_pos rfl] at H; exact H
        clear H
        have H := H1
        clear H1
        by_cases c63 : t327 = 1
        ·rw [if_pos c63] at H
         have c63b0 : (t327 == 1) = true := beq_iff_eq.mpr c63
         have c63b1 : (t327 != 1) = false := bne_eq_false_iff_eq.mpr c63
         clear c63
         (first | rw [c63b0] | (simp only [i64_w, i32_w]; rw [c63b0]) | skip)
         by_cases c64 : (!(t322.toList == ([] : List UInt8)) || (!(t323 == 0) || ((!(t324 == 0) || (!(t325 == 0) || (!(t326 == 0))))))) = true
         ·rw [if_pos c64] at H
          have c64b0 : (!(t322.toList == ([] : List UInt8)) || (!(t323 == 0) || ((!(t324 == 0) || (!(t325 == 0) || (!(t326 == 0))))))) = true := c64
          have c64b0e : (!t322.toList.isEmpty || (!(t323 == 0) || ((!(t324 == 0) || (!(t325 == 0) || (!(t326 == 0))))))) = true := by rw [show (t322.toList == ([] : List UInt8)) = t322.toList.isEmpty from by cases t322.toList <;> rfl] at c64b0; exact c64b0
          clear c64
          obtain rfl := Option.some.inj H
          have hnb65 := NB328_315.out
          have hnc65 := NB315_328.out
          have hnb66 := NB328_316.out
          have hnc66 := NB316_328.out
          have hnb67 := NB328_335.out
          have hnc67 := NB335_328.out
          have hcz68_0 : wc.cell? ⟨gb328, 0, none⟩ = some (.string t322) := (blk_cell BK328.out 0).trans rfl
          have hcz68_1 : wc.cell? ⟨gb328, 1, none⟩ = some (.int .i64 t323) := (blk_cell BK328.out 1).trans rfl
          have hcz68_2 : wc.cell? ⟨gb328, 2, none⟩ = some (.int .i64 t324) := (blk_cell BK328.out 2).trans rfl
          have hcz68_3 : wc.cell? ⟨gb328, 3, none⟩ = some (.int .i64 t325) := (blk_cell BK328.out 3).trans rfl
          have hcz68_4 : wc.cell? ⟨gb328, 4, none⟩ = some (.int .i64 t326) := (blk_cell BK328.out 4).trans rfl
          have hfz68_0 := blk_frozen BK328.out 0
          have hfz68_1 := blk_frozen BK328.out 1
          have hfz68_2 := blk_frozen BK328.out 2
          have hfz68_3 := blk_frozen BK328.out 3
          have hfz68_4 := blk_frozen BK328.out 4
          go_wp2
          go_ret
          exact ⟨by first | rfl | (simp [errW_none, errW_some] <;> rfl) | (simp [*, errW_none, errW_some] <;> rfl), by repeat first | refine below_set ?_ GE315.out | refine below_set ?_ GE316.out | refine below_set ?_ GE328.out | refine below_set ?_ GE335.out | exact HB.out | apply below_alloc | apply pw_below_drewN | apply below_drew1⟩
         ·rw [if_neg c64] at H
          have c64b0 : (!(t322.toList == ([] : List UInt8)) || (!(t323 == 0) || ((!(t324 == 0) || (!(t325 == 0) || (!(t326 == 0))))))) = false := by simpa using c64
          have c64b0e : (!t322.toList.isEmpty || (!(t323 == 0) || ((!(t324 == 0) || (!(t325 == 0) || (!(t326 == 0))))))) = false := by rw [show (t322.toList == ([] : List UInt8)) = t322.toList.isEmpty from by cases t322.toList <;> rfl] at c64b0; exact c64b0
          clear c64
          have H' := Aside0.mk H
          clear H
          have hnb69 := NB328_315.out
          have hnc69 := NB315_328.out
          have hnb70 := NB328_316.out
          have hnc70 := NB316_328.out
          have hnb71 := NB328_335.out
          have hnc71 := NB335_328.out
          have hcz72_0 : wc.cell? ⟨gb328, 0, none⟩ = some (.string t322) := (blk_cell BK328.out 0).trans rfl
          have hcz72_1 : wc.cell? ⟨gb328, 1, none⟩ = some (.int .i64 t323) := (blk_cell BK328.out 1).trans rfl
          have hcz72_2 : wc.cell? ⟨gb328, 2, none⟩ = some (.int .i64 t324) := (blk_cell BK328.out 2).trans rfl
          have hcz72_3 : wc.cell? ⟨gb328, 3, none⟩ = some (.int .i64 t325) := (blk_cell BK328.out 3).trans rfl
          have hcz72_4 : wc.cell? ⟨gb328, 4, none⟩ = some (.int .i64 t326) := (blk_cell BK328.out 4).trans rfl
          have hfz72_0 := blk_frozen BK328.out 0
          have hfz72_1 := blk_frozen BK328.out 1
          have hfz72_2 := blk_frozen BK328.out 2
          have hfz72_3 := blk_frozen BK328.out 3
          have hfz72_4 := blk_frozen BK328.out 4
          go_wp2
          go_meet
          case rel => exact ⟨_, H', ⟨by have := HJ6.out; have := HJ52.out; first | omega | exact Nat.le_refl _⟩, ⟨by (with_reducible repeat (first | refine blk_drewN ?_ _ | refine blk_drew ?_ | refine blk_alloc ?_ _)); exact BK315.out⟩, ⟨by (with_reducible repeat (first | refine blk_drewN ?_ _ | refine blk_drew ?_ | refine blk_alloc ?_ _)); exact BK316.out⟩, ⟨by (with_reducible repeat (first | refine blk_drewN ?_ _ | refine blk_drew ?_ | refine blk_alloc ?_ _)); exact BK328.out⟩, ⟨by (with_reducible repeat (first | refine blk_drewN ?_ _ | refine blk_drew ?_ | refine blk_alloc ?_ _)); exact BK335.out⟩, ⟨by repeat first | refine below_set ?_ GE315.out | refine below_set ?_ GE316.out | refine below_set ?_ GE328.out | refine below_set ?_ GE335.out | exact HB.out | apply below_alloc | apply pw_below_drewN | apply below_drew1⟩⟩
        ·rw [if_neg c63] at H
         have c63b0 : (t327 == 1) = false := beq_eq_false_iff_ne.mpr c63
         have c63b1 : (t327 != 1) = true := bne_iff_ne.mpr c63
         (first | rw [c63b0] | (simp only [i64_w, i32_w]; rw [c63b0]) | skip)
         obtain rfl := Option.some.inj H
         go_wp2
         go_ret
         exact ⟨by first | rfl | (simp [errW_none, errW_some] <;> rfl) | (simp [*, errW_none, errW_some] <;> rfl), by repeat first | refine below_set ?_ GE315.out | refine below_set ?_ GE316.out | refine below_set ?_ GE328.out | refine below_set ?_ GE335.out | exact HB.out | apply below_alloc | apply pw_below_drewN | apply below_drew1⟩
       ·replace c62 := Bool.eq_false_iff.mpr c62
        subst c62
        have H1 : (if t327 = 0 then ((backseatref01_Text.f kj52 a1).bind fun t351 => (if (!(t322.toList == t351.toList) || (!(t323 == t349) || ((!(t324 == a2_0) || (!(t325 == a2_1) || (!(t326 == a2_2))))))) = true then (some false) else (backseatlaw04_CellMakes.j2 kj52 a1 t334 t349 t317 t318 t319 t320 t321 t329 t330 t331 t332 t333))) else (some false)) = some r := by rw [if_neg (show ¬ (false = true) by decide)] at H; exact H
        clear H
        have H := H1
        clear H1
        by_cases c73 : t327 = 0
        ·rw [if_pos c73] at H
         have c73b0 : (t327 == 0) = true := beq_iff_eq.mpr c73
         have c73b1 : (t327 != 0) = false := bne_eq_false_iff_eq.mpr c73
         clear c73
         replace H := Option.bind_eq_some_iff.mp H
         obtain ⟨t351, A740, H⟩ := H
         replace H : (if (!(t322.toList == t351.toList) || (!(t323 == t349) || ((!(t324 == a2_0) || (!(t325 == a2_1) || (!(t326 == a2_2))))))) = true then (some false) else (backseatlaw04_CellMakes.j2 kj52 a1 t334 t349 t317 t318 t319 t320 t321 t329 t330 t331 t332 t333)) = some r := H
         have A74 := Aside0.mk A740
         clear A740
         by_cases c75 : (!(t322.toList == t351.toList) || (!(t323 == t349) || ((!(t324 == a2_0) || (!(t325 == a2_1) || (!(t326 == a2_2))))))) = true
         ·rw [if_pos c75] at H
          have c75b0 : (!(t322.toList == t351.toList) || (!(t323 == t349) || ((!(t324 == a2_0) || (!(t325 == a2_1) || (!(t326 == a2_2))))))) = true := c75
          clear c75
          obtain rfl := Option.some.inj H
          try go_wp2
          replace BK315 := Aside0.mk (blk_drew BK315.out); replace BK316 := Aside0.mk (blk_drew BK316.out); replace BK328 := Aside0.mk (blk_drew BK328.out); replace BK335 := Aside0.mk (blk_drew BK335.out); replace HB := Aside0.mk (below_drew1 HB.out)
          refine start_ (n := 11) (S := fun w' => w'.cell? ⟨gb328, 0, none⟩ = some (.string t322) ∧ w'.cell? ⟨gb328, 1, none⟩ = some (.int .i64 t323) ∧ w'.cell? ⟨gb328, 2, none⟩ = some (.int .i64 t324) ∧ w'.cell? ⟨gb328, 3, none⟩ = some (.int .i64 t325) ∧ w'.cell? ⟨gb328, 4, none⟩ = some (.int .i64 t326) ∧ w'.cell? ⟨gb316, 0, none⟩ = some (.int .i64 a2_0) ∧ w'.cell? ⟨gb316, 1, none⟩ = some (.int .i64 a2_1) ∧ w'.cell? ⟨gb316, 2, none⟩ = some (.int .i64 a2_2)) (ds := []) #[false, false, false, false, false, false, false, false, false, false, false] (by kernel_rfl) rfl rfl ⟨(blk_cell BK328.out 0).trans rfl, (blk_cell BK328.out 1).trans rfl, (blk_cell BK328.out 2).trans rfl, (blk_cell BK328.out 3).trans rfl, (blk_cell BK328.out 4).trans rfl, (blk_cell BK316.out 0).trans rfl, (blk_cell BK316.out 1).trans rfl, (blk_cell BK316.out 2).trans rfl⟩ (fun hHeld => ?_); refine with_tabW backseatlaw04_CellMakes.tab10 backseatlaw04_CellMakes.bits10 (fun HT_ HW_ => ?_)
          generalize wc.drew = w76 at BK315 BK316 BK328 BK335 HB hHeld ⊢
          refine pu HT_.out (i := 0) (N := some 59) (v := ?_) (a' := ?_) #[true, false, false, false, false, false, false, false, false, false, false] rfl rfl (by kernel_rfl) (fun _ _ _ h => h) (by rfl) ?_ ?_ ?_; rotate_left; (·intro w'; go_simp; with_reducible rfl); rotate_left; (·simp only [Act.put, s1, s2, s3, i64_w, i32_w]; rfl)
          refine pu HT_.out (i := 1) (N := some 60) (v := ?_) (a' := ?_) #[true, true, false, false, false, false, false, false, false, false, false] rfl rfl (by kernel_rfl) (fun _ _ _ h => h) (by rfl) ?_ ?_ ?_; rotate_left; (·intro w'; go_simp; with_reducible rfl); rotate_left; (·simp only [Act.put, s1, s2, s3, i64_w, i32_w]; rfl)
          refine pu HT_.out (i := 2) (N := some 61) (v := ?_) (a' := ?_) #[true, true, true, false, false, false, false, false, false, false, false] rfl rfl (by kernel_rfl) (fun _ _ _ h => h) (by rfl) ?_ ?_ ?_; rotate_left; (·intro w'; go_simp; with_reducible rfl); rotate_left; (·simp only [Act.put, s1, s2, s3, i64_w, i32_w]; rfl)
          refine pu HT_.out (i := 4) (N := some 63) (v := ?_) (a' := ?_) #[true, true, true, false, true, false, false, false, false, false, false] rfl rfl (by kernel_rfl) (fun _ _ _ h => h) (by rfl) ?_ ?_ ?_; rotate_left; (·intro w'; go_simp; with_reducible rfl); rotate_left; (·simp only [Act.put, s1, s2, s3, i64_w, i32_w]; rfl)
          refine pu HT_.out (i := 6) (N := some 65) (v := ?_) (a' := ?_) #[true, true, true, false, true, false, true, false, false, false, false] rfl rfl (by kernel_rfl) (fun _ _ _ h => h) (by rfl) ?_ ?_ ?_; rotate_left; (·intro w'; go_simp; with_reducible rfl); rotate_left; (·simp only [Act.put, s1, s2, s3, i64_w, i32_w]; rfl)
          refine take_ (i := 3) (N := some 62) (v := ?_) (a' := ?_) #[true, true, true, true, true, false, true, false, false, false, false] rfl rfl (take_ofW HT_.out HW_.out (by kernel_rfl)) (fun _ _ _ h => h) (Or.inl ⟨by rfl, ?_⟩) hHeld ?_ ?_; rotate_left; (·rintro w' ⟨s0, s1, s2, s3, s4, s5, s6, s7⟩; go_simp; with_reducible rfl); rotate_left; (·simp only [Act.put, s1, s2, s3, i64_w, i32_w]; rfl)
          refine take_ (i := 7) (N := some 66) (v := ?_) (a' := ?_) #[true, true, true, true, true, false, true, true, false, false, false] rfl rfl (take_ofW HT_.out HW_.out (by kernel_rfl)) (fun _ _ _ h => h) (Or.inl ⟨by rfl, ?_⟩) hHeld ?_ ?_; rotate_left; (·rintro w' ⟨s0, s1, s2, s3, s4, s5, s6, s7⟩; go_simp; with_reducible rfl); rotate_left; (·simp only [Act.put, s1, s2, s3, i64_w, i32_w]; rfl)
          refine one_ (i := 5) (N := some 64) #[true, true, true, true, true, true, true, true, false, false, false] rfl rfl (one_of HT_.out (by kernel_rfl)) (by decide) (fun K hK => ?_)
          refine goes_ Tryd.func21 (by kernel_rfl) rfl #[.int .i32 a1] (by rfl) rfl rfl (by (try simp only [List.map_toArray, List.map_cons, List.map_nil]); first | done | rfl | (simp only [List.length_drop, List.length_take]; rfl)) ?_
          with_reducible refine (backseatref01_Text.calls kj52 a1 t351 _ A74.out).mono ?_
          rintro e w77 ⟨rfl, hb⟩
          refine ⟨_, rfl, ?_⟩
          replace BK315 := Aside0.mk (bb hb BK315.out); replace BK316 := Aside0.mk (bb hb BK316.out); replace BK328 := Aside0.mk (bb hb BK328.out); replace BK335 := Aside0.mk (bb hb BK335.out); replace HB := Aside0.mk (below_step (by repeat first | refine below_set ?_ GE315.out | refine below_set ?_ GE316.out | refine below_set ?_ GE328.out | refine below_set ?_ GE335.out | exact HB.out | apply below_alloc | apply pw_below_drewN | apply below_drew1) hb)
          (try clear hb)
          (try clear hb2)
          (try clear hk)
          (try clear hi)
          refine hK.out _ _ ⟨(blk_cell BK328.out 0).trans rfl, (blk_cell BK328.out 1).trans rfl, (blk_cell BK328.out 2).trans rfl, (blk_cell BK328.out 3).trans rfl, (blk_cell BK328.out 4).trans rfl, (blk_cell BK316.out 0).trans rfl, (blk_cell BK316.out 1).trans rfl, (blk_cell BK316.out 2).trans rfl⟩ (fun hHeld => ?_)
          clear hK K
          refine norm_ (a' := ?_) ?_ ?_
          rotate_left
          ·show Act.put _ (some 64) _ = _
           simp only [Act.put, s1, s2, s3, i64_w, i32_w]
           rfl
          refine pu HT_.out (i := 8) (N := some 67) (v := ?_) (a' := ?_) #[true, true, true, true, true, true, true, true, true, false, false] rfl rfl (by kernel_rfl) (fun _ _ _ h => h) (by rfl) ?_ ?_ ?_; rotate_left; (·intro w'; go_simp; with_reducible rfl); rotate_left; (·simp only [Act.put, s1, s2, s3, i64_w, i32_w]; rfl)
          refine pu HT_.out (i := 9) (N := some 68) (v := ?_) (a' := ?_) #[true, true, true, true, true, true, true, true, true, true, false] rfl rfl (by kernel_rfl) (fun _ _ _ h => h) (by rfl) ?_ ?_ ?_; rotate_left; (·intro w'; go_simp; with_reducible rfl); rotate_left; (·simp only [Act.put, s1, s2, s3, i64_w, i32_w]; rfl)
          refine pu HT_.out (i := 10) (N := some 69) (v := ?_) (a' := ?_) #[true, true, true, true, true, true, true, true, true, true, true] rfl rfl (by kernel_rfl) (fun _ _ _ h => h) (by rfl) ?_ ?_ ?_; rotate_left; (·intro w'; go_simp; with_reducible rfl); rotate_left; (·simp only [Act.put, s1, s2, s3, i64_w, i32_w]; rfl)
          refine done_ (done_of HT_.out (by kernel_rfl)) ?_
          try go_wp2
          go_ret
          exact ⟨by first | rfl | (simp [errW_none, errW_some] <;> rfl) | (simp [*, errW_none, errW_some] <;> rfl), by repeat first | refine below_set ?_ GE315.out | refine below_set ?_ GE316.out | refine below_set ?_ GE328.out | refine below_set ?_ GE335.out | exact HB.out | apply below_alloc | apply pw_below_drewN | apply below_drew1⟩
         ·rw [if_neg c75] at H
          have c75b0 : (!(t322.toList == t351.toList) || (!(t323 == t349) || ((!(t324 == a2_0) || (!(t325 == a2_1) || (!(t326 == a2_2))))))) = false := by simpa using c75
          clear c75
          have H' := Aside0.mk H
          clear H
          try go_wp2
          replace BK315 := Aside0.mk (blk_drew BK315.out); replace BK316 := Aside0.mk (blk_drew BK316.out); replace BK328 := Aside0.mk (blk_drew BK328.out); replace BK335 := Aside0.mk (blk_drew BK335.out); replace HB := Aside0.mk (below_drew1 HB.out)
          refine start_ (n := 11) (S := fun w' => w'.cell? ⟨gb328, 0, none⟩ = some (.string t322) ∧ w'.cell? ⟨gb328, 1, none⟩ = some (.int .i64 t323) ∧ w'.cell? ⟨gb328, 2, none⟩ = some (.int .i64 t324) ∧ w'.cell? ⟨gb328, 3, none⟩ = some (.int .i64 t325) ∧ w'.cell? ⟨gb328, 4, none⟩ = some (.int .i64 t326) ∧ w'.cell? ⟨gb316, 0, none⟩ = some (.int .i64 a2_0) ∧ w'.cell? ⟨gb316, 1, none⟩ = some (.int .i64 a2_1) ∧ w'.cell? ⟨gb316, 2, none⟩ = some (.int .i64 a2_2)) (ds := []) #[false, false, false, false, false, false, false, false, false, false, false] (by kernel_rfl) rfl rfl ⟨(blk_cell BK328.out 0).trans rfl, (blk_cell BK328.out 1).trans rfl, (blk_cell BK328.out 2).trans rfl, (blk_cell BK328.out 3).trans rfl, (blk_cell BK328.out 4).trans rfl, (blk_cell BK316.out 0).trans rfl, (blk_cell BK316.out 1).trans rfl, (blk_cell BK316.out 2).trans rfl⟩ (fun hHeld => ?_); refine with_tabW backseatlaw04_CellMakes.tab10 backseatlaw04_CellMakes.bits10 (fun HT_ HW_ => ?_)
          generalize wc.drew = w78 at BK315 BK316 BK328 BK335 HB hHeld ⊢
          refine pu HT_.out (i := 0) (N := some 59) (v := ?_) (a' := ?_) #[true, false, false, false, false, false, false, false, false, false, false] rfl rfl (by kernel_rfl) (fun _ _ _ h => h) (by rfl) ?_ ?_ ?_; rotate_left; (·intro w'; go_simp; with_reducible rfl); rotate_left; (·simp only [Act.put, s1, s2, s3, i64_w, i32_w]; rfl)
          refine pu HT_.out (i := 1) (N := some 60) (v := ?_) (a' := ?_) #[true, true, false, false, false, false, false, false, false, false, false] rfl rfl (by kernel_rfl) (fun _ _ _ h => h) (by rfl) ?_ ?_ ?_; rotate_left; (·intro w'; go_simp; with_reducible rfl); rotate_left; (·simp only [Act.put, s1, s2, s3, i64_w, i32_w]; rfl)
          refine pu HT_.out (i := 2) (N := some 61) (v := ?_) (a' := ?_) #[true, true, true, false, false, false, false, false, false, false, false] rfl rfl (by kernel_rfl) (fun _ _ _ h => h) (by rfl) ?_ ?_ ?_; rotate_left; (·intro w'; go_simp; with_reducible rfl); rotate_left; (·simp only [Act.put, s1, s2, s3, i64_w, i32_w]; rfl)
          refine pu HT_.out (i := 4) (N := some 63) (v := ?_) (a' := ?_) #[true, true, true, false, true, false, false, false, false, false, false] rfl rfl (by kernel_rfl) (fun _ _ _ h => h) (by rfl) ?_ ?_ ?_; rotate_left; (·intro w'; go_simp; with_reducible rfl); rotate_left; (·simp only [Act.put, s1, s2, s3, i64_w, i32_w]; rfl)
          refine pu HT_.out (i := 6) (N := some 65) (v := ?_) (a' := ?_) #[true, true, true, false, true, false, true, false, false, false, false] rfl rfl (by kernel_rfl) (fun _ _ _ h => h) (by rfl) ?_ ?_ ?_; rotate_left; (·intro w'; go_simp; with_reducible rfl); rotate_left; (·simp only [Act.put, s1, s2, s3, i64_w, i32_w]; rfl)
          refine take_ (i := 3) (N := some 62) (v := ?_) (a' := ?_) #[true, true, true, true, true, false, true, false, false, false, false] rfl rfl (take_ofW HT_.out HW_.out (by kernel_rfl)) (fun _ _ _ h => h) (Or.inl ⟨by rfl, ?_⟩) hHeld ?_ ?_; rotate_left; (·rintro w' ⟨s0, s1, s2, s3, s4, s5, s6, s7⟩; go_simp; with_reducible rfl); rotate_left; (·simp only [Act.put, s1, s2, s3, i64_w, i32_w]; rfl)
          refine take_ (i := 7) (N := some 66) (v := ?_) (a' := ?_) #[true, true, true, true, true, false, true, true, false, false, false] rfl rfl (take_ofW HT_.out HW_.out (by kernel_rfl)) (fun _ _ _ h => h) (Or.inl ⟨by rfl, ?_⟩) hHeld ?_ ?_; rotate_left; (·rintro w' ⟨s0, s1, s2, s3, s4, s5, s6, s7⟩; go_simp; with_reducible rfl); rotate_left; (·simp only [Act.put, s1, s2, s3, i64_w, i32_w]; rfl)
          refine one_ (i := 5) (N := some 64) #[true, true, true, true, true, true, true, true, false, false, false] rfl rfl (one_of HT_.out (by kernel_rfl)) (by decide) (fun K hK => ?_)
          refine goes_ Tryd.func21 (by kernel_rfl) rfl #[.int .i32 a1] (by rfl) rfl rfl (by (try simp only [List.map_toArray, List.map_cons, List.map_nil]); first | done | rfl | (simp only [List.length_drop, List.length_take]; rfl)) ?_
          with_reducible refine (backseatref01_Text.calls kj52 a1 t351 _ A74.out).mono ?_
          rintro e w79 ⟨rfl, hb⟩
          refine ⟨_, rfl, ?_⟩
          replace BK315 := Aside0.mk (bb hb BK315.out); replace BK316 := Aside0.mk (bb hb BK316.out); replace BK328 := Aside0.mk (bb hb BK328.out); replace BK335 := Aside0.mk (bb hb BK335.out); replace HB := Aside0.mk (below_step (by repeat first | refine below_set ?_ GE315.out | refine below_set ?_ GE316.out | refine below_set ?_ GE328.out | refine below_set ?_ GE335.out | exact HB.out | apply below_alloc | apply pw_below_drewN | apply below_drew1) hb)
          (try clear hb)
          (try clear hb2)
          (try clear hk)
          (try clear hi)
          refine hK.out _ _ ⟨(blk_cell BK328.out 0).trans rfl, (blk_cell BK328.out 1).trans rfl, (blk_cell BK328.out 2).trans rfl, (blk_cell BK328.out 3).trans rfl, (blk_cell BK328.out 4).trans rfl, (blk_cell BK316.out 0).trans rfl, (blk_cell BK316.out 1).trans rfl, (blk_cell BK316.out 2).trans rfl⟩ (fun hHeld => ?_)
          clear hK K
          refine norm_ (a' := ?_) ?_ ?_
          rotate_left
          ·show Act.put _ (some 64) _ = _
           simp only [Act.put, s1, s2, s3, i64_w, i32_w]
           rfl
          refine pu HT_.out (i := 8) (N := some 67) (v := ?_) (a' := ?_) #[true, true, true, true, true, true, true, true, true, false, false] rfl rfl (by kernel_rfl) (fun _ _ _ h => h) (by rfl) ?_ ?_ ?_; rotate_left; (·intro w'; go_simp; with_reducible rfl); rotate_left; (·simp only [Act.put, s1, s2, s3, i64_w, i32_w]; rfl)
          refine pu HT_.out (i := 9) (N := some 68) (v := ?_) (a' := ?_) #[true, true, true, true, true, true, true, true, true, true, false] rfl rfl (by kernel_rfl) (fun _ _ _ h => h) (by rfl) ?_ ?_ ?_; rotate_left; (·intro w'; go_simp; with_reducible rfl); rotate_left; (·simp only [Act.put, s1, s2, s3, i64_w, i32_w]; rfl)
          refine pu HT_.out (i := 10) (N := some 69) (v := ?_) (a' := ?_) #[true, true, true, true, true, true, true, true, true, true, true] rfl rfl (by kernel_rfl) (fun _ _ _ h => h) (by rfl) ?_ ?_ ?_; rotate_left; (·intro w'; go_simp; with_reducible rfl); rotate_left; (·simp only [Act.put, s1, s2, s3, i64_w, i32_w]; rfl)
          refine done_ (done_of HT_.out (by kernel_rfl)) ?_
          try go_wp2
          go_meet
          case rel => exact ⟨_, H', ⟨by have := HJ6.out; have := HJ52.out; first | omega | exact Nat.le_refl _⟩, ⟨by (with_reducible repeat (first | refine blk_drewN ?_ _ | refine blk_drew ?_ | refine blk_alloc ?_ _)); exact BK315.out⟩, ⟨by (with_reducible repeat (first | refine blk_drewN ?_ _ | refine blk_drew ?_ | refine blk_alloc ?_ _)); exact BK316.out⟩, ⟨by (with_reducible repeat (first | refine blk_drewN ?_ _ | refine blk_drew ?_ | refine blk_alloc ?_ _)); exact BK328.out⟩, ⟨by (with_reducible repeat (first | refine blk_drewN ?_ _ | refine blk_drew ?_ | refine blk_alloc ?_ _)); exact BK335.out⟩, ⟨by repeat first | refine below_set ?_ GE315.out | refine below_set ?_ GE316.out | refine below_set ?_ GE328.out | refine below_set ?_ GE335.out | exact HB.out | apply below_alloc | apply pw_below_drewN | apply below_drew1⟩⟩
        ·rw [if_neg c73] at H
         have c73b0 : (t327 == 0) = false := beq_eq_false_iff_ne.mpr c73
         have c73b1 : (t327 != 0) = true := bne_iff_ne.mpr c73
         obtain rfl := Option.some.inj H
         try go_wp2
         replace BK315 := Aside0.mk (blk_drew BK315.out); replace BK316 := Aside0.mk (blk_drew BK316.out); replace BK328 := Aside0.mk (blk_drew BK328.out); replace BK335 := Aside0.mk (blk_drew BK335.out); replace HB := Aside0.mk (below_drew1 HB.out)
         refine start_ (n := 11) (S := fun w' => True) (ds := []) #[false, false, false, false, false, false, false, false, false, false, false] (by kernel_rfl) rfl rfl trivial (fun hHeld => ?_); refine with_tabW backseatlaw04_CellMakes.tab10 backseatlaw04_CellMakes.bits10 (fun HT_ HW_ => ?_)
         generalize wc.drew = w80 at BK315 BK316 BK328 BK335 HB hHeld ⊢
         refine pu HT_.out (i := 0) (N := some 59) (v := ?_) (a' := ?_) #[true, false, false, false, false, false, false, false, false, false, false] rfl rfl (by kernel_rfl) (fun _ _ _ h => h) (by rfl) ?_ ?_ ?_; rotate_left; (·intro w'; go_simp; with_reducible rfl); rotate_left; (·simp only [Act.put, s1, s2, s3, i64_w, i32_w]; rfl)
         refine pu HT_.out (i := 1) (N := some 60) (v := ?_) (a' := ?_) #[true, true, false, false, false, false, false, false, false, false, false] rfl rfl (by kernel_rfl) (fun _ _ _ h => h) (by rfl) ?_ ?_ ?_; rotate_left; (·intro w'; go_simp; with_reducible rfl); rotate_left; (·simp only [Act.put, s1, s2, s3, i64_w, i32_w]; rfl)
         refine pu HT_.out (i := 2) (N := some 61) (v := ?_) (a' := ?_) #[true, true, true, false, false, false, false, false, false, false, false] rfl rfl (by kernel_rfl) (fun _ _ _ h => h) (by rfl) ?_ ?_ ?_; rotate_left; (·intro w'; go_simp; with_reducible rfl); rotate_left; (·simp only [Act.put, s1, s2, s3, i64_w, i32_w]; rfl)
         refine pure_ (i := 3) (N := some 62) (v := undef) (a' := ?_) #[true, true, true, true, false, false, false, false, false, false, false] rfl rfl (any_of HT_.out (by kernel_rfl)) (fun _ _ _ h => h) (Or.inr ⟨by rfl, rfl⟩) ?_ ?_
         rotate_left
         ·simp only [Act.put, s1, s2, s3, i64_w, i32_w]
          rfl
         refine pure_ (i := 4) (N := some 63) (v := undef) (a' := ?_) #[true, true, true, true, true, false, false, false, false, false, false] rfl rfl (any_of HT_.out (by kernel_rfl)) (fun _ _ _ h => h) (Or.inr ⟨by rfl, rfl⟩) ?_ ?_
         rotate_left
         ·simp only [Act.put, s1, s2, s3, i64_w, i32_w]
          rfl
         refine pure_ (i := 5) (N := some 64) (v := undef) (a' := ?_) #[true, true, true, true, true, true, false, false, false, false, false] rfl rfl (any_of HT_.out (by kernel_rfl)) (fun _ _ _ h => h) (Or.inr ⟨by rfl, rfl⟩) ?_ ?_
         rotate_left
         ·simp only [Act.put, s1, s2, s3, i64_w, i32_w]
          rfl
         refine pure_ (i := 6) (N := some 65) (v := undef) (a' := ?_) #[true, true, true, true, true, true, true, false, false, false, false] rfl rfl (any_of HT_.out (by kernel_rfl)) (fun _ _ _ h => h) (Or.inr ⟨by rfl, rfl⟩) ?_ ?_
         rotate_left
         ·simp only [Act.put, s1, s2, s3, i64_w, i32_w]
          rfl
         refine pure_ (i := 7) (N := some 66) (v := undef) (a' := ?_) #[true, true, true, true, true, true, true, true, false, false, false] rfl rfl (any_of HT_.out (by kernel_rfl)) (fun _ _ _ h => h) (Or.inr ⟨by rfl, rfl⟩) ?_ ?_
         rotate_left
         ·simp only [Act.put, s1, s2, s3, i64_w, i32_w]
          rfl
         refine pure_ (i := 8) (N := some 67) (v := undef) (a' := ?_) #[true, true, true, true, true, true, true, true, true, false, false] rfl rfl (any_of HT_.out (by kernel_rfl)) (fun _ _ _ h => h) (Or.inr ⟨by rfl, rfl⟩) ?_ ?_
         rotate_left
         ·simp only [Act.put, s1, s2, s3, i64_w, i32_w]
          rfl
         refine pure_ (i := 9) (N := some 68) (v := undef) (a' := ?_) #[true, true, true, true, true, true, true, true, true, true, false] rfl rfl (any_of HT_.out (by kernel_rfl)) (fun _ _ _ h => h) (Or.inr ⟨by rfl, rfl⟩) ?_ ?_
         rotate_left
         ·simp only [Act.put, s1, s2, s3, i64_w, i32_w]
          rfl
         refine pu HT_.out (i := 10) (N := some 69) (v := ?_) (a' := ?_) #[true, true, true, true, true, true, true, true, true, true, true] rfl rfl (by kernel_rfl) (fun _ _ _ h => h) (by rfl) ?_ ?_ ?_; rotate_left; (·intro w'; go_simp; with_reducible rfl); rotate_left; (·simp only [Act.put, s1, s2, s3, i64_w, i32_w]; rfl)
         refine done_ (done_of HT_.out (by kernel_rfl)) ?_
         try go_wp2
         go_ret
         exact ⟨by first | rfl | (simp [errW_none, errW_some] <;> rfl) | (simp [*, errW_none, errW_some] <;> rfl), by repeat first | refine below_set ?_ GE315.out | refine below_set ?_ GE316.out | refine below_set ?_ GE328.out | refine below_set ?_ GE335.out | exact HB.out | apply below_alloc | apply pw_below_drewN | apply below_drew1⟩
      case rest =>
       clear HC61
       (try clear c1); (try clear c2); (try clear p2); (try clear c3); (try clear c5); (try clear c6); (try clear c7); (try clear c19); (try clear c21); (try clear c25); (try clear c26); (try clear c27); (try clear c28); (try clear c29); (try clear c29b0); (try clear c29b1); (try clear c29b2); (try clear c36); (try clear c36b0); (try clear c51); (try clear c54); (try clear c54b0); (try clear c56); (try clear c57); (try clear c58); (try clear c62); (try clear c63); (try clear c63b0); (try clear c63b1); (try clear c64); (try clear c64b0); (try clear c65); (try clear c66); (try clear c67); (try clear c69); (try clear c70); (try clear c71); (try clear c73); (try clear c73b0); (try clear c73b1); (try clear c75); (try clear c75b0); (try clear hcz59_0); (try clear hcz59_1); (try clear hcz59_2); (try clear hcz68_0); (try clear hcz68_1); (try clear hcz68_2); (try clear hcz68_3); (try clear hcz68_4); (try clear hcz72_0); (try clear hcz72_1); (try clear hcz72_2); (try clear hcz72_3); (try clear hcz72_4); (try clear hfz59_0); (try clear hfz59_1); (try clear hfz59_2); (try clear hfz68_0); (try clear hfz68_1); (try clear hfz68_2); (try clear hfz68_3); (try clear hfz68_4); (try clear hfz72_0); (try clear hfz72_1); (try clear hfz72_2); (try clear hfz72_3); (try clear hfz72_4); (try clear p2)
       obtain ⟨kq, HA, HJ60, BK315, BK316, BK328, BK335, HB⟩ := hcut
       cases kq with
       | zero => exact absurd HA.out (by simp [backseatlaw04_CellMakes.j2])
       | succ kj60 =>
        have H := HA.out
        clear HA
        simp only [backseatlaw04_CellMakes.j2] at H
        have HC81 := Aside0.mk H
        clear H
        go_upto_region 12 with (fail)
        go_cut [81] (fun v81 wc => ∃ (kq : Nat) (x81_80 : Bool), v81 = .bool x81_80 ∧ Aside0 (backseatlaw04_CellMakes.j3 kq a1 t334 x81_80 t317 t318 t319 t320 t321 t329 t330 t331 t332 t333 = some r) ∧ Aside0 (kq ≤ kj60) ∧ Aside0 (wc.heap[gb315]? = some (.cells #[.string t317, .int .i64 t318, .int .i64 t319, .int .i64 t320, .int .i64 t321] 40 (0, 0))) ∧ Aside0 (wc.heap[gb316]? = some (.cells #[.int .i64 a2_0, .int .i64 a2_1, .int .i64 a2_2] 38 (0, 0))) ∧ Aside0 (wc.heap[gb328]? = some (.cells #[.string t322, .int .i64 t323, .int .i64 t324, .int .i64 t325, .int .i64 t326] 40 (0, 0))) ∧ Aside0 (wc.heap[gb335]? = some (.cells #[.string t329, .int .i64 t330, .int .i64 t331, .int .i64 t332, .int .i64 t333] 40 (0, 0))) ∧ Aside0 (Below w.heap.size w wc))
        case first =>
         have H := HC81.out
         clear HC81
         replace H := Option.bind_eq_some_iff.mp H
         obtain ⟨t352, A820, H⟩ := H
         replace H : (if t352 = true then (if t317.toList = ([] : List UInt8) then (backseatlaw04_CellMakes.j3 kj60 a1 t334 true t317 t318 t319 t320 t321 t329 t330 t331 t332 t333) else (backseatlaw04_CellMakes.j3 kj60 a1 t334 (t349 != 0) t317 t318 t319 t320 t321 t329 t330 t331 t332 t333)) else (backseatlaw04_CellMakes.j3 kj60 a1 t334 true t317 t318 t319 t320 t321 t329 t330 t331 t332 t333)) = some r := H
         have A82 := Aside0.mk A820
         clear A820
         by_cases c83 : t352 = true
         ·subst c83
          have H1 : (if t317.toList = ([] : List UInt8) then (backseatlaw04_CellMakes.j3 kj60 a1 t334 true t317 t318 t319 t320 t321 t329 t330 t331 t332 t333) else (backseatlaw04_CellMakes.j3 kj60 a1 t334 (t349 != 0) t317 t318 t319 t320 t321 t329 t330 t331 t332 t333)) = some r := by rw [if_pos rfl] at H; exact H
          clear H
          have H := H1
          clear H1
          by_cases c84 : t317.toList = ([] : List UInt8)
          ·rw [if_pos c84] at H
           have c84b0 : (t317.toList == ([] : List UInt8)) = true := beq_iff_eq.mpr c84
           have c84b1 : (t317.toList != ([] : List UInt8)) = false := bne_eq_false_iff_eq.mpr c84
           clear c84
           (first | rw [c84b0] | (simp only [i64_w, i32_w]; rw [c84b0]) | skip)
           have H' := Aside0.mk H
           clear H
           have hnb85 := NB315_316.out
           have hnc85 := NB316_315.out
           have hnb86 := NB315_328.out
           have hnc86 := NB328_315.out
           have hnb87 := NB315_335.out
           have hnc87 := NB335_315.out
           have hcz88_0 : wc.cell? ⟨gb315, 0, none⟩ = some (.string t317) := (blk_cell BK315.out 0).trans rfl
           have hcz88_1 : wc.cell? ⟨gb315, 1, none⟩ = some (.int .i64 t318) := (blk_cell BK315.out 1).trans rfl
           have hcz88_2 : wc.cell? ⟨gb315, 2, none⟩ = some (.int .i64 t319) := (blk_cell BK315.out 2).trans rfl
           have hcz88_3 : wc.cell? ⟨gb315, 3, none⟩ = some (.int .i64 t320) := (blk_cell BK315.out 3).trans rfl
           have hcz88_4 : wc.cell? ⟨gb315, 4, none⟩ = some (.int .i64 t321) := (blk_cell BK315.out 4).trans rfl
           have hfz88_0 := blk_frozen BK315.out 0
           have hfz88_1 := blk_frozen BK315.out 1
           have hfz88_2 := blk_frozen BK315.out 2
           have hfz88_3 := blk_frozen BK315.out 3
           have hfz88_4 := blk_frozen BK315.out 4
           go_wp2_with (first | ((with_reducible refine gate_callee (f := 26) rfl ?_); refine goesL_ (some 71) rfl rfl Tryd.func26 (by kernel_rfl) rfl #[.agg #[.string t317, .int .i64 t318, .int .i64 t319, .int .i64 t320, .int .i64 t321]] rfl (by (try simp only [List.map_toArray, List.map_cons, List.map_nil]); first | done | rfl | (simp only [List.length_drop, List.length_take]; rfl)) ?_; (with_reducible refine (backseatref04_Right.calls kj60 t317 t318 t319 t320 t321 true _ A82.out).mono ?_); rintro e w89 ⟨rfl, hb⟩; refine ⟨_, rfl, ?_⟩; replace BK315 := Aside0.mk (bb hb BK315.out); replace BK316 := Aside0.mk (bb hb BK316.out); replace BK328 := Aside0.mk (bb hb BK328.out); replace BK335 := Aside0.mk (bb hb BK335.out); replace HB := Aside0.mk (below_step (by repeat first | refine below_set ?_ GE315.out | refine below_set ?_ GE316.out | refine below_set ?_ GE328.out | refine below_set ?_ GE335.out | exact HB.out | apply below_alloc | apply pw_below_drewN | apply below_drew1) hb); (try clear hb); (try clear hb2); (try clear hk); (try clear hi); obtain ⟨hcz90_0, hcz90_1, hcz90_2, hcz90_3, hcz90_4, hfz90_0, hfz90_1, hfz90_2, hfz90_3, hfz90_4⟩ := cz5 BK315.out))
           go_meet
           case rel => exact ⟨_, (true), (by first | rfl | (simp; done) | (simp [*]; done)), H', ⟨by have := HJ6.out; have := HJ52.out; have := HJ60.out; first | omega | exact Nat.le_refl _⟩, ⟨by (with_reducible repeat (first | refine blk_drewN ?_ _ | refine blk_drew ?_ | refine blk_alloc ?_ _)); exact BK315.out⟩, ⟨by (with_reducible repeat (first | refine blk_drewN ?_ _ | refine blk_drew ?_ | refine blk_alloc ?_ _)); exact BK316.out⟩, ⟨by (with_reducible repeat (first | refine blk_drewN ?_ _ | refine blk_drew ?_ | refine blk_alloc ?_ _)); exact BK328.out⟩, ⟨by (with_reducible repeat (first | refine blk_drewN ?_ _ | refine blk_drew ?_ | refine blk_alloc ?_ _)); exact BK335.out⟩, ⟨by repeat first | refine below_set ?_ GE315.out | refine below_set ?_ GE316.out | refine below_set ?_ GE328.out | refine below_set ?_ GE335.out | exact HB.out | apply below_alloc | apply pw_below_drewN | apply below_drew1⟩⟩
          ·rw [if_neg c84] at H
           have c84b0 : (t317.toList == ([] : List UInt8)) = false := beq_eq_false_iff_ne.mpr c84
           have c84b1 : (t317.toList != ([] : List UInt8)) = true := bne_iff_ne.mpr c84
           (first | rw [c84b0] | (simp only [i64_w, i32_w]; rw [c84b0]) | skip)
           have H' := Aside0.mk H
           clear H
           have hnb91 := NB315_316.out
           have hnc91 := NB316_315.out
           have hnb92 := NB315_328.out
           have hnc92 := NB328_315.out
           have hnb93 := NB315_335.out
           have hnc93 := NB335_315.out
           have hcz94_0 : wc.cell? ⟨gb315, 0, none⟩ = some (.string t317) := (blk_cell BK315.out 0).trans rfl
           have hcz94_1 : wc.cell? ⟨gb315, 1, none⟩ = some (.int .i64 t318) := (blk_cell BK315.out 1).trans rfl
           have hcz94_2 : wc.cell? ⟨gb315, 2, none⟩ = some (.int .i64 t319) := (blk_cell BK315.out 2).trans rfl
           have hcz94_3 : wc.cell? ⟨gb315, 3, none⟩ = some (.int .i64 t320) := (blk_cell BK315.out 3).trans rfl
           have hcz94_4 : wc.cell? ⟨gb315, 4, none⟩ = some (.int .i64 t321) := (blk_cell BK315.out 4).trans rfl
           have hfz94_0 := blk_frozen BK315.out 0
           have hfz94_1 := blk_frozen BK315.out 1
           have hfz94_2 := blk_frozen BK315.out 2
           have hfz94_3 := blk_frozen BK315.out 3
           have hfz94_4 := blk_frozen BK315.out 4
           go_wp2_with (first | ((with_reducible refine gate_callee (f := 26) rfl ?_); refine goesL_ (some 71) rfl rfl Tryd.func26 (by kernel_rfl) rfl #[.agg #[.string t317, .int .i64 t318, .int .i64 t319, .int .i64 t320, .int .i64 t321]] rfl (by (try simp only [List.map_toArray, List.map_cons, List.map_nil]); first | done | rfl | (simp only [List.length_drop, List.length_take]; rfl)) ?_; (with_reducible refine (backseatref04_Right.calls kj60 t317 t318 t319 t320 t321 true _ A82.out).mono ?_); rintro e w95 ⟨rfl, hb⟩; refine ⟨_, rfl, ?_⟩; replace BK315 := Aside0.mk (bb hb BK315.out); replace BK316 := Aside0.mk (bb hb BK316.out); replace BK328 := Aside0.mk (bb hb BK328.out); replace BK335 := Aside0.mk (bb hb BK335.out); replace HB := Aside0.mk (below_step (by repeat first | refine below_set ?_ GE315.out | refine below_set ?_ GE316.out | refine below_set ?_ GE328.out | refine below_set ?_ GE335.out | exact HB.out | apply below_alloc | apply pw_below_drewN | apply below_drew1) hb); (try clear hb); (try clear hb2); (try clear hk); (try clear hi); obtain ⟨hcz96_0, hcz96_1, hcz96_2, hcz96_3, hcz96_4, hfz96_0, hfz96_1, hfz96_2, hfz96_3, hfz96_4⟩ := cz5 BK315.out))
           go_meet
           case rel => exact ⟨_, ((t349 != 0)), (by first | rfl | (simp; done) | (simp [*]; done)), H', ⟨by have := HJ6.out; have := HJ52.out; have := HJ60.out; first | omega | exact Nat.le_refl _⟩, ⟨by (with_reducible repeat (first | refine blk_drewN ?_ _ | refine blk_drew ?_ | refine blk_alloc ?_ _)); exact BK315.out⟩, ⟨by (with_reducible repeat (first | refine blk_drewN ?_ _ | refine blk_drew ?_ | refine blk_alloc ?_ _)); exact BK316.out⟩, ⟨by (with_reducible repeat (first | refine blk_drewN ?_ _ | refine blk_drew ?_ | refine blk_alloc ?_ _)); exact BK328.out⟩, ⟨by (with_reducible repeat (first | refine blk_drewN ?_ _ | refine blk_drew ?_ | refine blk_alloc ?_ _)); exact BK335.out⟩, ⟨by repeat first | refine below_set ?_ GE315.out | refine below_set ?_ GE316.out | refine below_set ?_ GE328.out | refine below_set ?_ GE335.out | exact HB.out | apply below_alloc | apply pw_below_drewN | apply below_drew1⟩⟩
         ·replace c83 := Bool.eq_false_iff.mpr c83
          subst c83
          have H1 : (backseatlaw04_CellMakes.j3 kj60 a1 t334 true t317 t318 t319 t320 t321 t329 t330 t331 t332 t333) = some r := by rw [if_neg (show ¬ (false = true) by decide)] at H; exact H
          clear H
          have H := H1
          clear H1
          have H' := Aside0.mk H
          clear H
          have hnb97 := NB315_316.out
          have hnc97 := NB316_315.out
          have hnb98 := NB315_328.out
          have hnc98 := NB328_315.out
          have hnb99 := NB315_335.out
          have hnc99 := NB335_315.out
          have hcz100_0 : wc.cell? ⟨gb315, 0, none⟩ = some (.string t317) := (blk_cell BK315.out 0).trans rfl
          have hcz100_1 : wc.cell? ⟨gb315, 1, none⟩ = some (.int .i64 t318) := (blk_cell BK315.out 1).trans rfl
          have hcz100_2 : wc.cell? ⟨gb315, 2, none⟩ = some (.int .i64 t319) := (blk_cell BK315.out 2).trans rfl
          have hcz100_3 : wc.cell? ⟨gb315, 3, none⟩ = some (.int .i64 t320) := (blk_cell BK315.out 3).trans rfl
          have hcz100_4 : wc.cell? ⟨gb315, 4, none⟩ = some (.int .i64 t321) := (blk_cell BK315.out 4).trans rfl
          have hfz100_0 := blk_frozen BK315.out 0
          have hfz100_1 := blk_frozen BK315.out 1
          have hfz100_2 := blk_frozen BK315.out 2
          have hfz100_3 := blk_frozen BK315.out 3
          have hfz100_4 := blk_frozen BK315.out 4
          go_wp2_with (first | ((with_reducible refine gate_callee (f := 26) rfl ?_); refine goesL_ (some 71) rfl rfl Tryd.func26 (by kernel_rfl) rfl #[.agg #[.string t317, .int .i64 t318, .int .i64 t319, .int .i64 t320, .int .i64 t321]] rfl (by (try simp only [List.map_toArray, List.map_cons, List.map_nil]); first | done | rfl | (simp only [List.length_drop, List.length_take]; rfl)) ?_; (with_reducible refine (backseatref04_Right.calls kj60 t317 t318 t319 t320 t321 false _ A82.out).mono ?_); rintro e w101 ⟨rfl, hb⟩; refine ⟨_, rfl, ?_⟩; replace BK315 := Aside0.mk (bb hb BK315.out); replace BK316 := Aside0.mk (bb hb BK316.out); replace BK328 := Aside0.mk (bb hb BK328.out); replace BK335 := Aside0.mk (bb hb BK335.out); replace HB := Aside0.mk (below_step (by repeat first | refine below_set ?_ GE315.out | refine below_set ?_ GE316.out | refine below_set ?_ GE328.out | refine below_set ?_ GE335.out | exact HB.out | apply below_alloc | apply pw_below_drewN | apply below_drew1) hb); (try clear hb); (try clear hb2); (try clear hk); (try clear hi)))
          go_meet
          case rel => exact ⟨_, (true), (by first | rfl | (simp; done) | (simp [*]; done)), H', ⟨by have := HJ6.out; have := HJ52.out; have := HJ60.out; first | omega | exact Nat.le_refl _⟩, ⟨by (with_reducible repeat (first | refine blk_drewN ?_ _ | refine blk_drew ?_ | refine blk_alloc ?_ _)); exact BK315.out⟩, ⟨by (with_reducible repeat (first | refine blk_drewN ?_ _ | refine blk_drew ?_ | refine blk_alloc ?_ _)); exact BK316.out⟩, ⟨by (with_reducible repeat (first | refine blk_drewN ?_ _ | refine blk_drew ?_ | refine blk_alloc ?_ _)); exact BK328.out⟩, ⟨by (with_reducible repeat (first | refine blk_drewN ?_ _ | refine blk_drew ?_ | refine blk_alloc ?_ _)); exact BK335.out⟩, ⟨by repeat first | refine below_set ?_ GE315.out | refine below_set ?_ GE316.out | refine below_set ?_ GE328.out | refine below_set ?_ GE335.out | exact HB.out | apply below_alloc | apply pw_below_drewN | apply below_drew1⟩⟩
        case rest =>
         clear HC81
         (try clear c1); (try clear c2); (try clear p2); (try clear c3); (try clear c5); (try clear c6); (try clear c7); (try clear c8); (try clear c9); (try clear c19); (try clear c21); (try clear c25); (try clear c26); (try clear c27); (try clear c28); (try clear c29); (try clear c29b0); (try clear c29b1); (try clear c29b2); (try clear c36); (try clear c36b0); (try clear c51); (try clear c54); (try clear c54b0); (try clear c56); (try clear c57); (try clear c58); (try clear c62); (try clear c63); (try clear c63b0); (try clear c63b1); (try clear c64); (try clear c64b0); (try clear c65); (try clear c66); (try clear c67); (try clear c69); (try clear c70); (try clear c71); (try clear c73); (try clear c73b0); (try clear c73b1); (try clear c75); (try clear c75b0); (try clear c83); (try clear c84); (try clear c84b0); (try clear c84b1); (try clear c85); (try clear c86); (try clear c87); (try clear c91); (try clear c92); (try clear c93); (try clear c97); (try clear c98); (try clear c99); (try clear hcz100_0); (try clear hcz100_1); (try clear hcz100_2); (try clear hcz100_3); (try clear hcz100_4); (try clear hcz59_0); (try clear hcz59_1); (try clear hcz59_2); (try clear hcz68_0); (try clear hcz68_1); (try clear hcz68_2); (try clear hcz68_3); (try clear hcz68_4); (try clear hcz72_0); (try clear hcz72_1); (try clear hcz72_2); (try clear hcz72_3); (try clear hcz72_4); (try clear hcz88_0); (try clear hcz88_1); (try clear hcz88_2); (try clear hcz88_3); (try clear hcz88_4); (try clear hcz90_0); (try clear hcz90_1); (try clear hcz90_2); (try clear hcz90_3); (try clear hcz90_4); (try clear hcz94_0); (try clear hcz94_1); (try clear hcz94_2); (try clear hcz94_3); (try clear hcz94_4); (try clear hcz96_0); (try clear hcz96_1); (try clear hcz96_2); (try clear hcz96_3); (try clear hcz96_4); (try clear hfz100_0); (try clear hfz100_1); (try clear hfz100_2); (try clear hfz100_3); (try clear hfz100_4); (try clear hfz59_0); (try clear hfz59_1); (try clear hfz59_2); (try clear hfz68_0); (try clear hfz68_1); (try clear hfz68_2); (try clear hfz68_3); (try clear hfz68_4); (try clear hfz72_0); (try clear hfz72_1); (try clear hfz72_2); (try clear hfz72_3); (try clear hfz72_4); (try clear hfz88_0); (try clear hfz88_1); (try clear hfz88_2); (try clear hfz88_3); (try clear hfz88_4); (try clear hfz90_0); (try clear hfz90_1); (try clear hfz90_2); (try clear hfz90_3); (try clear hfz90_4); (try clear hfz94_0); (try clear hfz94_1); (try clear hfz94_2); (try clear hfz94_3); (try clear hfz94_4); (try clear hfz96_0); (try clear hfz96_1); (try clear hfz96_2); (try clear hfz96_3); (try clear hfz96_4); (try clear p2)
         obtain ⟨kq, x81_80, rfl, HA, HJ80, BK315, BK316, BK328, BK335, HB⟩ := hcut
         cases kq with
         | zero => exact absurd HA.out (by simp [backseatlaw04_CellMakes.j3])
         | succ kj80 =>
          have H := HA.out
          clear HA
          simp only [backseatlaw04_CellMakes.j3] at H
          by_cases c102 : x81_80 = true
          ·subst c102
           have H1 : (if t334 = 1 then (some (t329.toList == ([] : List UInt8) && (t330 == 0 && ((t331 == 0 && (t332 == 0 && (t333 == 0))))))) else (some false)) = some r := by rw [if_pos rfl] at H; exact H
           clear H
           have H := H1
           clear H1
           by_cases c103 : t334 = 1
           ·rw [if_pos c103] at H
            have c103b0 : (t334 == 1) = true := beq_iff_eq.mpr c103
            have c103b1 : (t334 != 1) = false := bne_eq_false_iff_eq.mpr c103
            clear c103
            obtain rfl := Option.some.inj H
            have hnb104 := NB335_315.out
            have hnc104 := NB315_335.out
            have hnb105 := NB335_316.out
            have hnc105 := NB316_335.out
            have hnb106 := NB335_328.out
            have hnc106 := NB328_335.out
            have hcz107_0 : wc.cell? ⟨gb335, 0, none⟩ = some (.string t329) := (blk_cell BK335.out 0).trans rfl
            have hcz107_1 : wc.cell? ⟨gb335, 1, none⟩ = some (.int .i64 t330) := (blk_cell BK335.out 1).trans rfl
            have hcz107_2 : wc.cell? ⟨gb335, 2, none⟩ = some (.int .i64 t331) := (blk_cell BK335.out 2).trans rfl
            have hcz107_3 : wc.cell? ⟨gb335, 3, none⟩ = some (.int .i64 t332) := (blk_cell BK335.out 3).trans rfl
            have hcz107_4 : wc.cell? ⟨gb335, 4, none⟩ = some (.int .i64 t333) := (blk_cell BK335.out 4).trans rfl
            have hfz107_0 := blk_frozen BK335.out 0
            have hfz107_1 := blk_frozen BK335.out 1
            have hfz107_2 := blk_frozen BK335.out 2
            have hfz107_3 := blk_frozen BK335.out 3
            have hfz107_4 := blk_frozen BK335.out 4
            go_wp2
            go_ret
            exact ⟨by first | rfl | (simp [errW_none, errW_some] <;> rfl) | (simp [*, errW_none, errW_some] <;> rfl), by repeat first | refine below_set ?_ GE315.out | refine below_set ?_ GE316.out | refine below_set ?_ GE328.out | refine below_set ?_ GE335.out | exact HB.out | apply below_alloc | apply pw_below_drewN | apply below_drew1⟩
           ·rw [if_neg c103] at H
            have c103b0 : (t334 == 1) = false := beq_eq_false_iff_ne.mpr c103
            have c103b1 : (t334 != 1) = true := bne_iff_ne.mpr c103
            obtain rfl := Option.some.inj H
            go_wp2
            go_ret
            exact ⟨by first | rfl | (simp [errW_none, errW_some] <;> rfl) | (simp [*, errW_none, errW_some] <;> rfl), by repeat first | refine below_set ?_ GE315.out | refine below_set ?_ GE316.out | refine below_set ?_ GE328.out | refine below_set ?_ GE335.out | exact HB.out | apply below_alloc | apply pw_below_drewN | apply below_drew1⟩
          ·replace c102 := Bool.eq_false_iff.mpr c102
           subst c102
           have H1 : ((backseatref01_Text.f kj80 a1).bind fun t354 => (if t317.size + t354.size ≤ 9223372036854775807 then ((backseatref04_Right.f kj80 (t317 ++ t354) t318 t319 t320 t321).bind fun t355 => (if t355 = true then (if t334 = 0 then (some (t329.toList == ((t317 ++ t354).toList) && (t330 == t318 && ((t331 == t319 && (t332 == t320 && (t333 == t321))))))) else (some false)) else (if t334 = 7 then (some (t329.toList == ([] : List UInt8) && (t330 == 0 && ((t331 == 0 && (t332 == 0 && (t333 == 0))))))) else (some false)))) else (none))) = some r := by rw [if_neg (show ¬ (false = true) by decide)] at H; exact H
           clear H
           have H := H1
           clear H1
           replace H := Option.bind_eq_some_iff.mp H
           obtain ⟨t354, A1080, H⟩ := H
           replace H : (if t317.size + t354.size ≤ 9223372036854775807 then ((backseatref04_Right.f kj80 (t317 ++ t354) t318 t319 t320 t321).bind fun t355 => (if t355 = true then (if t334 = 0 then (some (t329.toList == ((t317 ++ t354).toList) && (t330 == t318 && ((t331 == t319 && (t332 == t320 && (t333 == t321))))))) else (some false)) else (if t334 = 7 then (some (t329.toList == ([] : List UInt8) && (t330 == 0 && ((t331 == 0 && (t332 == 0 && (t333 == 0))))))) else (some false)))) else (none)) = some r := H
           have A108 := Aside0.mk A1080
           clear A1080
           by_cases c109 : t317.size + t354.size ≤ 9223372036854775807
           ·rw [if_pos c109] at H
            have c109b0 := eq_true c109
            have c109b1 : decide (t317.size + t354.size ≤ 9223372036854775807) = true := decide_eq_true c109
            try have c109b2 : (9223372036854775807 < t317.size + t354.size) = False := eq_false (Nat.not_lt.2 c109)
            replace H := Option.bind_eq_some_iff.mp H
            obtain ⟨t355, A1100, H⟩ := H
            replace H : (if t355 = true then (if t334 = 0 then (some (t329.toList == ((t317 ++ t354).toList) && (t330 == t318 && ((t331 == t319 && (t332 == t320 && (t333 == t321))))))) else (some false)) else (if t334 = 7 then (some (t329.toList == ([] : List UInt8) && (t330 == 0 && ((t331 == 0 && (t332 == 0 && (t333 == 0))))))) else (some false))) = some r := H
            have A110 := Aside0.mk A1100
            clear A1100
            by_cases c111 : t355 = true
            ·subst c111
             have H1 : (if t334 = 0 then (some (t329.toList == ((t317 ++ t354).toList) && (t330 == t318 && ((t331 == t319 && (t332 == t320 && (t333 == t321))))))) else (some false)) = some r := by rw [if_pos rfl] at H; exact H
             clear H
             have H := H1
             clear H1
             by_cases c112 : t334 = 0
             ·rw [if_pos c112] at H
              have c112b0 : (t334 == 0) = true := beq_iff_eq.mpr c112
              have c112b1 : (t334 != 0) = false := bne_eq_false_iff_eq.mpr c112
              clear c112
              obtain rfl := Option.some.inj H
              have hnb113 := NB315_316.out
              have hnc113 := NB316_315.out
              have hnb114 := NB315_328.out
              have hnc114 := NB328_315.out
              have hnb115 := NB315_335.out
              have hnc115 := NB335_315.out
              have hcz116_0 : wc.cell? ⟨gb315, 0, none⟩ = some (.string t317) := (blk_cell BK315.out 0).trans rfl
              have hcz116_1 : wc.cell? ⟨gb315, 1, none⟩ = some (.int .i64 t318) := (blk_cell BK315.out 1).trans rfl
              have hcz116_2 : wc.cell? ⟨gb315, 2, none⟩ = some (.int .i64 t319) := (blk_cell BK315.out 2).trans rfl
              have hcz116_3 : wc.cell? ⟨gb315, 3, none⟩ = some (.int .i64 t320) := (blk_cell BK315.out 3).trans rfl
              have hcz116_4 : wc.cell? ⟨gb315, 4, none⟩ = some (.int .i64 t321) := (blk_cell BK315.out 4).trans rfl
              have hfz116_0 := blk_frozen BK315.out 0
              have hfz116_1 := blk_frozen BK315.out 1
              have hfz116_2 := blk_frozen BK315.out 2
              have hfz116_3 := blk_frozen BK315.out 3
              have hfz116_4 := blk_frozen BK315.out 4
              try go_wp2_with (first | ((with_reducible refine gate_dst (N := 12) rfl ?_); refine box_event ?hg (N := 12) ?hd (cs := #[.string (⟨#[]⟩ : ByteArray), .int .i64 0, .int .i64 0, .int .i64 0, .int .i64 0]) (t := 40) ?hr ?_; (case hd => rfl); (case hg => rfl); (case hr => first | (go_simp; done) | (go_simp; rfl)); intro gb353 hg w117 hbox hb; have BK353 := Aside0.mk (hbox); have GW353 := Aside0.mk ((by rw [hg]; exact (below_size (by repeat first | refine below_set ?_ GE315.out | refine below_set ?_ GE316.out | refine below_set ?_ GE328.out | refine below_set ?_ GE335.out | exact HB.out | apply below_alloc | apply pw_below_drewN | apply below_drew1)) : w.heap.size ≤ gb353)); have GE353 := GW353; have NB315_353 := Aside0.mk ((by rw [hg]; exact lt1 BK315.out : gb315 ≠ gb353)); have NB353_315 := Aside0.mk ((by rw [hg]; exact gt1 BK315.out : gb353 ≠ gb315)); have NB316_353 := Aside0.mk ((by rw [hg]; exact lt1 BK316.out : gb316 ≠ gb353)); have NB353_316 := Aside0.mk ((by rw [hg]; exact gt1 BK316.out : gb353 ≠ gb316)); have NB328_353 := Aside0.mk ((by rw [hg]; exact lt1 BK328.out : gb328 ≠ gb353)); have NB353_328 := Aside0.mk ((by rw [hg]; exact gt1 BK328.out : gb353 ≠ gb328)); have NB335_353 := Aside0.mk ((by rw [hg]; exact lt1 BK335.out : gb335 ≠ gb353)); have NB353_335 := Aside0.mk ((by rw [hg]; exact gt1 BK335.out : gb353 ≠ gb335)); replace BK315 := Aside0.mk (bb hb BK315.out); replace BK316 := Aside0.mk (bb hb BK316.out); replace BK328 := Aside0.mk (bb hb BK328.out); replace BK335 := Aside0.mk (bb hb BK335.out); replace HB := Aside0.mk (below_step (by repeat first | refine below_set ?_ GE315.out | refine below_set ?_ GE316.out | refine below_set ?_ GE328.out | refine below_set ?_ GE335.out | exact HB.out | apply below_alloc | apply pw_below_drewN | apply below_drew1) hb); clear hb hbox hg; have hnb118 := NB353_315.out; have hnc118 := NB315_353.out; have hnb119 := NB353_316.out; have hnc119 := NB316_353.out; have hnb120 := NB353_328.out; have hnc120 := NB328_353.out; have hnb121 := NB353_335.out; have hnc121 := NB335_353.out; obtain ⟨hcz122_0, hcz122_1, hcz122_2, hcz122_3, hcz122_4, hfz122_0, hfz122_1, hfz122_2, hfz122_3, hfz122_4⟩ := cz5 BK353.out))
              have n0_ : Aside0 ((((((w117.setCell ⟨gb353, 0, none⟩ (.string t317)).setCell ⟨gb353, 1, none⟩ (.int .i64 t318)).setCell ⟨gb353, 2, none⟩ (.int .i64 t319)).setCell ⟨gb353, 3, none⟩ (.int .i64 t320)).setCell ⟨gb353, 4, none⟩ (.int .i64 t321)).heap[gb315]? = some (.cells #[.string t317, .int .i64 t318, .int .i64 t319, .int .i64 t320, .int .i64 t321] 40 (0, 0))) := ⟨by exact (far5 NB315_353.out BK315.out)⟩
              have n1_ : Aside0 ((((((w117.setCell ⟨gb353, 0, none⟩ (.string t317)).setCell ⟨gb353, 1, none⟩ (.int .i64 t318)).setCell ⟨gb353, 2, none⟩ (.int .i64 t319)).setCell ⟨gb353, 3, none⟩ (.int .i64 t320)).setCell ⟨gb353, 4, none⟩ (.int .i64 t321)).heap[gb316]? = some (.cells #[.int .i64 a2_0, .int .i64 a2_1, .int .i64 a2_2] 38 (0, 0))) := ⟨by exact (far5 NB316_353.out BK316.out)⟩
              have n2_ : Aside0 ((((((w117.setCell ⟨gb353, 0, none⟩ (.string t317)).setCell ⟨gb353, 1, none⟩ (.int .i64 t318)).setCell ⟨gb353, 2, none⟩ (.int .i64 t319)).setCell ⟨gb353, 3, none⟩ (.int .i64 t320)).setCell ⟨gb353, 4, none⟩ (.int .i64 t321)).heap[gb328]? = some (.cells #[.string t322, .int .i64 t323, .int .i64 t324, .int .i64 t325, .int .i64 t326] 40 (0, 0))) := ⟨by exact (far5 NB328_353.out BK328.out)⟩
              have n3_ : Aside0 ((((((w117.setCell ⟨gb353, 0, none⟩ (.string t317)).setCell ⟨gb353, 1, none⟩ (.int .i64 t318)).setCell ⟨gb353, 2, none⟩ (.int .i64 t319)).setCell ⟨gb353, 3, none⟩ (.int .i64 t320)).setCell ⟨gb353, 4, none⟩ (.int .i64 t321)).heap[gb335]? = some (.cells #[.string t329, .int .i64 t330, .int .i64 t331, .int .i64 t332, .int .i64 t333] 40 (0, 0))) := ⟨by exact (far5 NB335_353.out BK335.out)⟩
              have n4_ : Aside0 ((((((w117.setCell ⟨gb353, 0, none⟩ (.string t317)).setCell ⟨gb353, 1, none⟩ (.int .i64 t318)).setCell ⟨gb353, 2, none⟩ (.int .i64 t319)).setCell ⟨gb353, 3, none⟩ (.int .i64 t320)).setCell ⟨gb353, 4, none⟩ (.int .i64 t321)).heap[gb353]? = some (.cells #[.string t317, .int .i64 t318, .int .i64 t319, .int .i64 t320, .int .i64 t321] 40 (0, 0))) := ⟨by exact (put5 BK353.out)⟩
              have n5_ : Aside0 (Below w.heap.size w (((((w117.setCell ⟨gb353, 0, none⟩ (.string t317)).setCell ⟨gb353, 1, none⟩ (.int .i64 t318)).setCell ⟨gb353, 2, none⟩ (.int .i64 t319)).setCell ⟨gb353, 3, none⟩ (.int .i64 t320)).setCell ⟨gb353, 4, none⟩ (.int .i64 t321))) := ⟨by repeat first | refine below_set ?_ GE315.out | refine below_set ?_ GE316.out | refine below_set ?_ GE328.out | refine below_set ?_ GE335.out | refine below_set ?_ GE353.out | exact HB.out | apply below_alloc | apply pw_below_drewN | apply below_drew1⟩
              (try clear BK315)
              (try clear BK316)
              (try clear BK328)
              (try clear BK335)
              (try clear BK353)
              (try clear HB)
              generalize (((((w117.setCell ⟨gb353, 0, none⟩ (.string t317)).setCell ⟨gb353, 1, none⟩ (.int .i64 t318)).setCell ⟨gb353, 2, none⟩ (.int .i64 t319)).setCell ⟨gb353, 3, none⟩ (.int .i64 t320)).setCell ⟨gb353, 4, none⟩ (.int .i64 t321)) = w123 at n0_ n1_ n2_ n3_ n4_ n5_ ⊢
              have BK315 := n0_
              have BK316 := n1_
              have BK328 := n2_
              have BK335 := n3_
              have BK353 := n4_
              have HB := n5_
              clear n0_ n1_ n2_ n3_ n4_ n5_
              replace BK315 := Aside0.mk (blk_drew BK315.out); replace BK316 := Aside0.mk (blk_drew BK316.out); replace BK328 := Aside0.mk (blk_drew BK328.out); replace BK335 := Aside0.mk (blk_drew BK335.out); replace BK353 := Aside0.mk (blk_drew BK353.out); replace HB := Aside0.mk (below_drew1 HB.out)
              refine start_ (n := 7) (S := fun w' => w'.cell? ⟨gb353, 0, none⟩ = some (.string t317) ∧ w'.cell? ⟨gb353, 1, none⟩ = some (.int .i64 t318) ∧ w'.cell? ⟨gb353, 2, none⟩ = some (.int .i64 t319) ∧ w'.cell? ⟨gb353, 3, none⟩ = some (.int .i64 t320) ∧ w'.cell? ⟨gb353, 4, none⟩ = some (.int .i64 t321)) (ds := [6]) #[false, false, false, false, false, false, false] (by kernel_rfl) rfl rfl ⟨(blk_cell BK353.out 0).trans rfl, (blk_cell BK353.out 1).trans rfl, (blk_cell BK353.out 2).trans rfl, (blk_cell BK353.out 3).trans rfl, (blk_cell BK353.out 4).trans rfl⟩ (fun hHeld => ?_)
              generalize w123.drew = w124 at BK315 BK316 BK328 BK335 BK353 HB hHeld ⊢
              refine pure_ (i := 0) (N := some 90) (v := ?_) (a' := ?_) #[true, false, false, false, false, false, false] rfl rfl (by kernel_rfl) (fun _ _ _ h => h) (Or.inl ⟨by rfl, ?_⟩) ?_ ?_; rotate_left; (·intro w'; go_simp; with_reducible rfl); rotate_left; (·simp only [Act.put, s1, s2, s3, i64_w, i32_w]; rfl)
              refine pure_ (i := 2) (N := some 92) (v := ?_) (a' := ?_) #[true, false, true, false, false, false, false] rfl rfl (by kernel_rfl) (fun _ _ _ h => h) (Or.inl ⟨by rfl, ?_⟩) ?_ ?_; rotate_left; (·intro w'; go_simp; with_reducible rfl); rotate_left; (·simp only [Act.put, s1, s2, s3, i64_w, i32_w]; rfl)
              refine take_ (i := 1) (N := some 91) (v := ?_) (a' := ?_) #[true, true, true, false, false, false, false] rfl rfl (by kernel_rfl) (fun _ _ _ h => h) (Or.inl ⟨by rfl, ?_⟩) hHeld ?_ ?_; rotate_left; (·rintro w' ⟨s0, s1, s2, s3, s4⟩; go_simp; with_reducible rfl); rotate_left; (·simp only [Act.put, s1, s2, s3, i64_w, i32_w]; rfl)
              refine one_ (i := 3) (N := some 93) #[true, true, true, true, false, false, false] rfl rfl (by kernel_rfl) (by decide) (fun K hK => ?_)
              refine goes_ Tryd.func21 (by kernel_rfl) rfl #[.int .i32 a1] (by rfl) rfl rfl (by (try simp only [List.map_toArray, List.map_cons, List.map_nil]); first | done | rfl | (simp only [List.length_drop, List.length_take]; rfl)) ?_
              with_reducible refine (backseatref01_Text.calls kj80 a1 t354 _ A108.out).mono ?_
              rintro e w125 ⟨rfl, hb⟩
              refine ⟨_, rfl, ?_⟩
              replace BK315 := Aside0.mk (bb hb BK315.out); replace BK316 := Aside0.mk (bb hb BK316.out); replace BK328 := Aside0.mk (bb hb BK328.out); replace BK335 := Aside0.mk (bb hb BK335.out); replace BK353 := Aside0.mk (bb hb BK353.out); replace HB := Aside0.mk (below_step (by repeat first | refine below_set ?_ GE315.out | refine below_set ?_ GE316.out | refine below_set ?_ GE328.out | refine below_set ?_ GE335.out | refine below_set ?_ GE353.out | exact HB.out | apply below_alloc | apply pw_below_drewN | apply below_drew1) hb)
              (try clear hb)
              (try clear hb2)
              (try clear hk)
              (try clear hi)
              refine hK.out _ _ ⟨(blk_cell BK353.out 0).trans rfl, (blk_cell BK353.out 1).trans rfl, (blk_cell BK353.out 2).trans rfl, (blk_cell BK353.out 3).trans rfl, (blk_cell BK353.out 4).trans rfl⟩ (fun hHeld => ?_)
              clear hK K
              refine norm_ (a' := ?_) ?_ ?_
              rotate_left
              ·show Act.put _ (some 93) _ = _
               simp only [Act.put, s1, s2, s3, i64_w, i32_w]
               rfl
              refine pure_ (i := 4) (N := some 94) (v := ?_) (a' := ?_) #[true, true, true, true, true, false, false] rfl rfl (by kernel_rfl) (fun _ _ _ h => h) (Or.inl ⟨by rfl, ?_⟩) ?_ ?_; rotate_left; (·intro w'; go_simp; with_reducible rfl); rotate_left; (·simp only [Act.put, s1, s2, s3, i64_w, i32_w]; rfl)
              refine pure_ (i := 5) (N := some 95) (v := ?_) (a' := ?_) #[true, true, true, true, true, true, false] rfl rfl (by kernel_rfl) (fun _ _ _ h => h) (Or.inl ⟨by rfl, ?_⟩) ?_ ?_; rotate_left; (·intro w'; go_simp; with_reducible rfl); rotate_left; (·simp only [Act.put, s1, s2, s3, i64_w, i32_w]; rfl)
              refine last_ (i := 6) (N := none) #[true, true, true, true, true, true, true] rfl rfl (by kernel_rfl) (by decide) (fun K hK => ?_)
              have hs126 : w125.cell? ⟨gb353, 0, none⟩ = some (.string t317) := (blk_cell BK353.out 0).trans rfl
              have hfs126 := blk_frozen BK353.out 0
              have hns126_0 := NB315_353.out
              have hns126_1 := NB316_353.out
              have hns126_2 := NB328_353.out
              have hns126_3 := NB335_353.out
              have hms126_0 := NB353_315.out
              have hms126_1 := NB353_316.out
              have hms126_2 := NB353_328.out
              have hms126_3 := NB353_335.out
              refine skip_ (w1 := ?_) (by rfl) rfl ?_ ?_
              rotate_left
              ·go_simp
               rfl
              refine hK.out _ _ ?_
              clear hK K
              refine done_ (by kernel_rfl) ?_
              have hcz127_0 : w125.cell? ⟨gb353, 0, none⟩ = some (.string t317) := (blk_cell BK353.out 0).trans rfl
              have hcz127_1 : w125.cell? ⟨gb353, 1, none⟩ = some (.int .i64 t318) := (blk_cell BK353.out 1).trans rfl
              have hcz127_2 : w125.cell? ⟨gb353, 2, none⟩ = some (.int .i64 t319) := (blk_cell BK353.out 2).trans rfl
              have hcz127_3 : w125.cell? ⟨gb353, 3, none⟩ = some (.int .i64 t320) := (blk_cell BK353.out 3).trans rfl
              have hcz127_4 : w125.cell? ⟨gb353, 4, none⟩ = some (.int .i64 t321) := (blk_cell BK353.out 4).trans rfl
              have hfz127_0 := blk_frozen BK353.out 0
              have hfz127_1 := blk_frozen BK353.out 1
              have hfz127_2 := blk_frozen BK353.out 2
              have hfz127_3 := blk_frozen BK353.out 3
              have hfz127_4 := blk_frozen BK353.out 4
              try go_wp2_with (first | ((with_reducible refine gate_callee (f := 26) rfl ?_); refine goesL_ (some 97) rfl rfl Tryd.func26 (by kernel_rfl) rfl #[.agg #[.string (t317 ++ t354), .int .i64 t318, .int .i64 t319, .int .i64 t320, .int .i64 t321]] rfl (by (try simp only [List.map_toArray, List.map_cons, List.map_nil]); first | done | rfl | (simp only [List.length_drop, List.length_take]; rfl)) ?_; (with_reducible refine (backseatref04_Right.calls kj80 (t317 ++ t354) t318 t319 t320 t321 true _ A110.out).mono ?_); rintro e w128 ⟨rfl, hb⟩; refine ⟨_, rfl, ?_⟩; replace BK315 := Aside0.mk (bb hb (blk_far BK315.out NB315_353.out _)); replace BK316 := Aside0.mk (bb hb (blk_far BK316.out NB316_353.out _)); replace BK328 := Aside0.mk (bb hb (blk_far BK328.out NB328_353.out _)); replace BK335 := Aside0.mk (bb hb (blk_far BK335.out NB335_353.out _)); replace BK353 := Aside0.mk (bb hb (blk_put BK353.out 0 _ rfl)); replace HB := Aside0.mk (below_step (by repeat first | refine below_set ?_ GE315.out | refine below_set ?_ GE316.out | refine below_set ?_ GE328.out | refine below_set ?_ GE335.out | refine below_set ?_ GE353.out | exact HB.out | apply below_alloc | apply pw_below_drewN | apply below_drew1) hb); (try clear hb); (try clear hb2); (try clear hk); (try clear hi); have hnb129 := NB335_316.out; have hnc129 := NB316_335.out; have hnb130 := NB335_328.out; have hnc130 := NB328_335.out; obtain ⟨hcz131_0, hcz131_1, hcz131_2, hcz131_3, hcz131_4, hfz131_0, hfz131_1, hfz131_2, hfz131_3, hfz131_4⟩ := cz5 BK335.out; obtain ⟨hcz132_0, hcz132_1, hcz132_2, hcz132_3, hcz132_4, hfz132_0, hfz132_1, hfz132_2, hfz132_3, hfz132_4⟩ := cz5 BK353.out))
              go_ret
              exact ⟨by first | rfl | (simp [errW_none, errW_some] <;> rfl) | (simp [*, errW_none, errW_some] <;> rfl), by repeat first | refine below_set ?_ GE315.out | refine below_set ?_ GE316.out | refine below_set ?_ GE328.out | refine below_set ?_ GE335.out | refine below_set ?_ GE353.out | exact HB.out | apply below_alloc | apply pw_below_drewN | apply below_drew1⟩
             ·rw [if_neg c112] at H
              have c112b0 : (t334 == 0) = false := beq_eq_false_iff_ne.mpr c112
              have c112b1 : (t334 != 0) = true := bne_iff_ne.mpr c112
              obtain rfl := Option.some.inj H
              have hnb133 := NB315_316.out
              have hnc133 := NB316_315.out
              have hnb134 := NB315_328.out
              have hnc134 := NB328_315.out
              have hnb135 := NB315_335.out
              have hnc135 := NB335_315.out
              have hcz136_0 : wc.cell? ⟨gb315, 0, none⟩ = some (.string t317) := (blk_cell BK315.out 0).trans rfl
              have hcz136_1 : wc.cell? ⟨gb315, 1, none⟩ = some (.int .i64 t318) := (blk_cell BK315.out 1).trans rfl
              have hcz136_2 : wc.cell? ⟨gb315, 2, none⟩ = some (.int .i64 t319) := (blk_cell BK315.out 2).trans rfl
              have hcz136_3 : wc.cell? ⟨gb315, 3, none⟩ = some (.int .i64 t320) := (blk_cell BK315.out 3).trans rfl
              have hcz136_4 : wc.cell? ⟨gb315, 4, none⟩ = some (.int .i64 t321) := (blk_cell BK315.out 4).trans rfl
              have hfz136_0 := blk_frozen BK315.out 0
              have hfz136_1 := blk_frozen BK315.out 1
              have hfz136_2 := blk_frozen BK315.out 2
              have hfz136_3 := blk_frozen BK315.out 3
              have hfz136_4 := blk_frozen BK315.out 4
              try go_wp2_with (first | ((with_reducible refine gate_dst (N := 12) rfl ?_); refine box_event ?hg (N := 12) ?hd (cs := #[.string (⟨#[]⟩ : ByteArray), .int .i64 0, .int .i64 0, .int .i64 0, .int .i64 0]) (t := 40) ?hr ?_; (case hd => rfl); (case hg => rfl); (case hr => first | (go_simp; done) | (go_simp; rfl)); intro gb353 hg w137 hbox hb; have BK353 := Aside0.mk (hbox); have GW353 := Aside0.mk ((by rw [hg]; exact (below_size (by repeat first | refine below_set ?_ GE315.out | refine below_set ?_ GE316.out | refine below_set ?_ GE328.out | refine below_set ?_ GE335.out | exact HB.out | apply below_alloc | apply pw_below_drewN | apply below_drew1)) : w.heap.size ≤ gb353)); have GE353 := GW353; have NB315_353 := Aside0.mk ((by rw [hg]; exact lt1 BK315.out : gb315 ≠ gb353)); have NB353_315 := Aside0.mk ((by rw [hg]; exact gt1 BK315.out : gb353 ≠ gb315)); have NB316_353 := Aside0.mk ((by rw [hg]; exact lt1 BK316.out : gb316 ≠ gb353)); have NB353_316 := Aside0.mk ((by rw [hg]; exact gt1 BK316.out : gb353 ≠ gb316)); have NB328_353 := Aside0.mk ((by rw [hg]; exact lt1 BK328.out : gb328 ≠ gb353)); have NB353_328 := Aside0.mk ((by rw [hg]; exact gt1 BK328.out : gb353 ≠ gb328)); have NB335_353 := Aside0.mk ((by rw [hg]; exact lt1 BK335.out : gb335 ≠ gb353)); have NB353_335 := Aside0.mk ((by rw [hg]; exact gt1 BK335.out : gb353 ≠ gb335)); replace BK315 := Aside0.mk (bb hb BK315.out); replace BK316 := Aside0.mk (bb hb BK316.out); replace BK328 := Aside0.mk (bb hb BK328.out); replace BK335 := Aside0.mk (bb hb BK335.out); replace HB := Aside0.mk (below_step (by repeat first | refine below_set ?_ GE315.out | refine below_set ?_ GE316.out | refine below_set ?_ GE328.out | refine below_set ?_ GE335.out | exact HB.out | apply below_alloc | apply pw_below_drewN | apply below_drew1) hb); clear hb hbox hg; have hnb138 := NB353_315.out; have hnc138 := NB315_353.out; have hnb139 := NB353_316.out; have hnc139 := NB316_353.out; have hnb140 := NB353_328.out; have hnc140 := NB328_353.out; have hnb141 := NB353_335.out; have hnc141 := NB335_353.out; obtain ⟨hcz142_0, hcz142_1, hcz142_2, hcz142_3, hcz142_4, hfz142_0, hfz142_1, hfz142_2, hfz142_3, hfz142_4⟩ := cz5 BK353.out))
              have n0_ : Aside0 ((((((w137.setCell ⟨gb353, 0, none⟩ (.string t317)).setCell ⟨gb353, 1, none⟩ (.int .i64 t318)).setCell ⟨gb353, 2, none⟩ (.int .i64 t319)).setCell ⟨gb353, 3, none⟩ (.int .i64 t320)).setCell ⟨gb353, 4, none⟩ (.int .i64 t321)).heap[gb315]? = some (.cells #[.string t317, .int .i64 t318, .int .i64 t319, .int .i64 t320, .int .i64 t321] 40 (0, 0))) := ⟨by exact (far5 NB315_353.out BK315.out)⟩
              have n1_ : Aside0 ((((((w137.setCell ⟨gb353, 0, none⟩ (.string t317)).setCell ⟨gb353, 1, none⟩ (.int .i64 t318)).setCell ⟨gb353, 2, none⟩ (.int .i64 t319)).setCell ⟨gb353, 3, none⟩ (.int .i64 t320)).setCell ⟨gb353, 4, none⟩ (.int .i64 t321)).heap[gb316]? = some (.cells #[.int .i64 a2_0, .int .i64 a2_1, .int .i64 a2_2] 38 (0, 0))) := ⟨by exact (far5 NB316_353.out BK316.out)⟩
              have n2_ : Aside0 ((((((w137.setCell ⟨gb353, 0, none⟩ (.string t317)).setCell ⟨gb353, 1, none⟩ (.int .i64 t318)).setCell ⟨gb353, 2, none⟩ (.int .i64 t319)).setCell ⟨gb353, 3, none⟩ (.int .i64 t320)).setCell ⟨gb353, 4, none⟩ (.int .i64 t321)).heap[gb328]? = some (.cells #[.string t322, .int .i64 t323, .int .i64 t324, .int .i64 t325, .int .i64 t326] 40 (0, 0))) := ⟨by exact (far5 NB328_353.out BK328.out)⟩
              have n3_ : Aside0 ((((((w137.setCell ⟨gb353, 0, none⟩ (.string t317)).setCell ⟨gb353, 1, none⟩ (.int .i64 t318)).setCell ⟨gb353, 2, none⟩ (.int .i64 t319)).setCell ⟨gb353, 3, none⟩ (.int .i64 t320)).setCell ⟨gb353, 4, none⟩ (.int .i64 t321)).heap[gb335]? = some (.cells #[.string t329, .int .i64 t330, .int .i64 t331, .int .i64 t332, .int .i64 t333] 40 (0, 0))) := ⟨by exact (far5 NB335_353.out BK335.out)⟩
              have n4_ : Aside0 ((((((w137.setCell ⟨gb353, 0, none⟩ (.string t317)).setCell ⟨gb353, 1, none⟩ (.int .i64 t318)).setCell ⟨gb353, 2, none⟩ (.int .i64 t319)).setCell ⟨gb353, 3, none⟩ (.int .i64 t320)).setCell ⟨gb353, 4, none⟩ (.int .i64 t321)).heap[gb353]? = some (.cells #[.string t317, .int .i64 t318, .int .i64 t319, .int .i64 t320, .int .i64 t321] 40 (0, 0))) := ⟨by exact (put5 BK353.out)⟩
              have n5_ : Aside0 (Below w.heap.size w (((((w137.setCell ⟨gb353, 0, none⟩ (.string t317)).setCell ⟨gb353, 1, none⟩ (.int .i64 t318)).setCell ⟨gb353, 2, none⟩ (.int .i64 t319)).setCell ⟨gb353, 3, none⟩ (.int .i64 t320)).setCell ⟨gb353, 4, none⟩ (.int .i64 t321))) := ⟨by repeat first | refine below_set ?_ GE315.out | refine below_set ?_ GE316.out | refine below_set ?_ GE328.out | refine below_set ?_ GE335.out | refine below_set ?_ GE353.out | exact HB.out | apply below_alloc | apply pw_below_drewN | apply below_drew1⟩
              (try clear BK315)
              (try clear BK316)
              (try clear BK328)
              (try clear BK335)
              (try clear BK353)
              (try clear HB)
              generalize (((((w137.setCell ⟨gb353, 0, none⟩ (.string t317)).setCell ⟨gb353, 1, none⟩ (.int .i64 t318)).setCell ⟨gb353, 2, none⟩ (.int .i64 t319)).setCell ⟨gb353, 3, none⟩ (.int .i64 t320)).setCell ⟨gb353, 4, none⟩ (.int .i64 t321)) = w143 at n0_ n1_ n2_ n3_ n4_ n5_ ⊢
              have BK315 := n0_
              have BK316 := n1_
              have BK328 := n2_
              have BK335 := n3_
              have BK353 := n4_
              have HB := n5_
              clear n0_ n1_ n2_ n3_ n4_ n5_
              replace BK315 := Aside0.mk (blk_drew BK315.out); replace BK316 := Aside0.mk (blk_drew BK316.out); replace BK328 := Aside0.mk (blk_drew BK328.out); replace BK335 := Aside0.mk (blk_drew BK335.out); replace BK353 := Aside0.mk (blk_drew BK353.out); replace HB := Aside0.mk (below_drew1 HB.out)
              refine start_ (n := 7) (S := fun w' => w'.cell? ⟨gb353, 0, none⟩ = some (.string t317) ∧ w'.cell? ⟨gb353, 1, none⟩ = some (.int .i64 t318) ∧ w'.cell? ⟨gb353, 2, none⟩ = some (.int .i64 t319) ∧ w'.cell? ⟨gb353, 3, none⟩ = some (.int .i64 t320) ∧ w'.cell? ⟨gb353, 4, none⟩ = some (.int .i64 t321)) (ds := [6]) #[false, false, false, false, false, false, false] (by kernel_rfl) rfl rfl ⟨(blk_cell BK353.out 0).trans rfl, (blk_cell BK353.out 1).trans rfl, (blk_cell BK353.out 2).trans rfl, (blk_cell BK353.out 3).trans rfl, (blk_cell BK353.out 4).trans rfl⟩ (fun hHeld => ?_)
              generalize w143.drew = w144 at BK315 BK316 BK328 BK335 BK353 HB hHeld ⊢
              refine pure_ (i := 0) (N := some 90) (v := ?_) (a' := ?_) #[true, false, false, false, false, false, false] rfl rfl (by kernel_rfl) (fun _ _ _ h => h) (Or.inl ⟨by rfl, ?_⟩) ?_ ?_; rotate_left; (·intro w'; go_simp; with_reducible rfl); rotate_left; (·simp only [Act.put, s1, s2, s3, i64_w, i32_w]; rfl)
              refine pure_ (i := 2) (N := some 92) (v := ?_) (a' := ?_) #[true, false, true, false, false, false, false] rfl rfl (by kernel_rfl) (fun _ _ _ h => h) (Or.inl ⟨by rfl, ?_⟩) ?_ ?_; rotate_left; (·intro w'; go_simp; with_reducible rfl); rotate_left; (·simp only [Act.put, s1, s2, s3, i64_w, i32_w]; rfl)
              refine take_ (i := 1) (N := some 91) (v := ?_) (a' := ?_) #[true, true, true, false, false, false, false] rfl rfl (by kernel_rfl) (fun _ _ _ h => h) (Or.inl ⟨by rfl, ?_⟩) hHeld ?_ ?_; rotate_left; (·rintro w' ⟨s0, s1, s2, s3, s4⟩; go_simp; with_reducible rfl); rotate_left; (·simp only [Act.put, s1, s2, s3, i64_w, i32_w]; rfl)
              refine one_ (i := 3) (N := some 93) #[true, true, true, true, false, false, false] rfl rfl (by kernel_rfl) (by decide) (fun K hK => ?_)
              refine goes_ Tryd.func21 (by kernel_rfl) rfl #[.int .i32 a1] (by rfl) rfl rfl (by (try simp only [List.map_toArray, List.map_cons, List.map_nil]); first | done | rfl | (simp only [List.length_drop, List.length_take]; rfl)) ?_
              with_reducible refine (backseatref01_Text.calls kj80 a1 t354 _ A108.out).mono ?_
              rintro e w145 ⟨rfl, hb⟩
              refine ⟨_, rfl, ?_⟩
              replace BK315 := Aside0.mk (bb hb BK315.out); replace BK316 := Aside0.mk (bb hb BK316.out); replace BK328 := Aside0.mk (bb hb BK328.out); replace BK335 := Aside0.mk (bb hb BK335.out); replace BK353 := Aside0.mk (bb hb BK353.out); replace HB := Aside0.mk (below_step (by repeat first | refine below_set ?_ GE315.out | refine below_set ?_ GE316.out | refine below_set ?_ GE328.out | refine below_set ?_ GE335.out | refine below_set ?_ GE353.out | exact HB.out | apply below_alloc | apply pw_below_drewN | apply below_drew1) hb)
              (try clear hb)
              (try clear hb2)
              (try clear hk)
              (try clear hi)
              refine hK.out _ _ ⟨(blk_cell BK353.out 0).trans rfl, (blk_cell BK353.out 1).trans rfl, (blk_cell BK353.out 2).trans rfl, (blk_cell BK353.out 3).trans rfl, (blk_cell BK353.out 4).trans rfl⟩ (fun hHeld => ?_)
              clear hK K
              refine norm_ (a' := ?_) ?_ ?_
              rotate_left
              ·show Act.put _ (some 93) _ = _
               simp only [Act.put, s1, s2, s3, i64_w, i32_w]
               rfl
              refine pure_ (i := 4) (N := some 94) (v := ?_) (a' := ?_) #[true, true, true, true, true, false, false] rfl rfl (by kernel_rfl) (fun _ _ _ h => h) (Or.inl ⟨by rfl, ?_⟩) ?_ ?_; rotate_left; (·intro w'; go_simp; with_reducible rfl); rotate_left; (·simp only [Act.put, s1, s2, s3, i64_w, i32_w]; rfl)
              refine pure_ (i := 5) (N := some 95) (v := ?_) (a' := ?_) #[true, true, true, true, true, true, false] rfl rfl (by kernel_rfl) (fun _ _ _ h => h) (Or.inl ⟨by rfl, ?_⟩) ?_ ?_; rotate_left; (·intro w'; go_simp; with_reducible rfl); rotate_left; (·simp only [Act.put, s1, s2, s3, i64_w, i32_w]; rfl)
              refine last_ (i := 6) (N := none) #[true, true, true, true, true, true, true] rfl rfl (by kernel_rfl) (by decide) (fun K hK => ?_)
              have hs146 : w145.cell? ⟨gb353, 0, none⟩ = some (.string t317) := (blk_cell BK353.out 0).trans rfl
              have hfs146 := blk_frozen BK353.out 0
              have hns146_0 := NB315_353.out
              have hns146_1 := NB316_353.out
              have hns146_2 := NB328_353.out
              have hns146_3 := NB335_353.out
              have hms146_0 := NB353_315.out
              have hms146_1 := NB353_316.out
              have hms146_2 := NB353_328.out
              have hms146_3 := NB353_335.out
              refine skip_ (w1 := ?_) (by rfl) rfl ?_ ?_
              rotate_left
              ·go_simp
               rfl
              refine hK.out _ _ ?_
              clear hK K
              refine done_ (by kernel_rfl) ?_
              have hcz147_0 : w145.cell? ⟨gb353, 0, none⟩ = some (.string t317) := (blk_cell BK353.out 0).trans rfl
              have hcz147_1 : w145.cell? ⟨gb353, 1, none⟩ = some (.int .i64 t318) := (blk_cell BK353.out 1).trans rfl
              have hcz147_2 : w145.cell? ⟨gb353, 2, none⟩ = some (.int .i64 t319) := (blk_cell BK353.out 2).trans rfl
              have hcz147_3 : w145.cell? ⟨gb353, 3, none⟩ = some (.int .i64 t320) := (blk_cell BK353.out 3).trans rfl
              have hcz147_4 : w145.cell? ⟨gb353, 4, none⟩ = some (.int .i64 t321) := (blk_cell BK353.out 4).trans rfl
              have hfz147_0 := blk_frozen BK353.out 0
              have hfz147_1 := blk_frozen BK353.out 1
              have hfz147_2 := blk_frozen BK353.out 2
              have hfz147_3 := blk_frozen BK353.out 3
              have hfz147_4 := blk_frozen BK353.out 4
              try go_wp2_with (first | ((with_reducible refine gate_callee (f := 26) rfl ?_); refine goesL_ (some 97) rfl rfl Tryd.func26 (by kernel_rfl) rfl #[.agg #[.string (t317 ++ t354), .int .i64 t318, .int .i64 t319, .int .i64 t320, .int .i64 t321]] rfl (by (try simp only [List.map_toArray, List.map_cons, List.map_nil]); first | done | rfl | (simp only [List.length_drop, List.length_take]; rfl)) ?_; (with_reducible refine (backseatref04_Right.calls kj80 (t317 ++ t354) t318 t319 t320 t321 true _ A110.out).mono ?_); rintro e w148 ⟨rfl, hb⟩; refine ⟨_, rfl, ?_⟩; replace BK315 := Aside0.mk (bb hb (blk_far BK315.out NB315_353.out _)); replace BK316 := Aside0.mk (bb hb (blk_far BK316.out NB316_353.out _)); replace BK328 := Aside0.mk (bb hb (blk_far BK328.out NB328_353.out _)); replace BK335 := Aside0.mk (bb hb (blk_far BK335.out NB335_353.out _)); replace BK353 := Aside0.mk (bb hb (blk_put BK353.out 0 _ rfl)); replace HB := Aside0.mk (below_step (by repeat first | refine below_set ?_ GE315.out | refine below_set ?_ GE316.out | refine below_set ?_ GE328.out | refine below_set ?_ GE335.out | refine below_set ?_ GE353.out | exact HB.out | apply below_alloc | apply pw_below_drewN | apply below_drew1) hb); (try clear hb); (try clear hb2); (try clear hk); (try clear hi)))
              go_ret
              exact ⟨by first | rfl | (simp [errW_none, errW_some] <;> rfl) | (simp [*, errW_none, errW_some] <;> rfl), by repeat first | refine below_set ?_ GE315.out | refine below_set ?_ GE316.out | refine below_set ?_ GE328.out | refine below_set ?_ GE335.out | refine below_set ?_ GE353.out | exact HB.out | apply below_alloc | apply pw_below_drewN | apply below_drew1⟩
            ·replace c111 := Bool.eq_false_iff.mpr c111
             subst c111
             have H1 : (if t334 = 7 then (some (t329.toList == ([] : List UInt8) && (t330 == 0 && ((t331 == 0 && (t332 == 0 && (t333 == 0))))))) else (some false)) = some r := by rw [if_neg (show ¬ (false = true) by decide)] at H; exact H
             clear H
             have H := H1
             clear H1
             by_cases c149 : t334 = 7
             ·rw [if_pos c149] at H
              have c149b0 : (t334 == 7) = true := beq_iff_eq.mpr c149
              have c149b1 : (t334 != 7) = false := bne_eq_false_iff_eq.mpr c149
              clear c149
              obtain rfl := Option.some.inj H
              have hnb150 := NB315_316.out
              have hnc150 := NB316_315.out
              have hnb151 := NB315_328.out
              have hnc151 := NB328_315.out
              have hnb152 := NB315_335.out
              have hnc152 := NB335_315.out
              have hcz153_0 : wc.cell? ⟨gb315, 0, none⟩ = some (.string t317) := (blk_cell BK315.out 0).trans rfl
              have hcz153_1 : wc.cell? ⟨gb315, 1, none⟩ = some (.int .i64 t318) := (blk_cell BK315.out 1).trans rfl
              have hcz153_2 : wc.cell? ⟨gb315, 2, none⟩ = some (.int .i64 t319) := (blk_cell BK315.out 2).trans rfl
              have hcz153_3 : wc.cell? ⟨gb315, 3, none⟩ = some (.int .i64 t320) := (blk_cell BK315.out 3).trans rfl
              have hcz153_4 : wc.cell? ⟨gb315, 4, none⟩ = some (.int .i64 t321) := (blk_cell BK315.out 4).trans rfl
              have hfz153_0 := blk_frozen BK315.out 0
              have hfz153_1 := blk_frozen BK315.out 1
              have hfz153_2 := blk_frozen BK315.out 2
              have hfz153_3 := blk_frozen BK315.out 3
              have hfz153_4 := blk_frozen BK315.out 4
              try go_wp2_with (first | ((with_reducible refine gate_dst (N := 12) rfl ?_); refine box_event ?hg (N := 12) ?hd (cs := #[.string (⟨#[]⟩ : ByteArray), .int .i64 0, .int .i64 0, .int .i64 0, .int .i64 0]) (t := 40) ?hr ?_; (case hd => rfl); (case hg => rfl); (case hr => first | (go_simp; done) | (go_simp; rfl)); intro gb353 hg w154 hbox hb; have BK353 := Aside0.mk (hbox); have GW353 := Aside0.mk ((by rw [hg]; exact (below_size (by repeat first | refine below_set ?_ GE315.out | refine below_set ?_ GE316.out | refine below_set ?_ GE328.out | refine below_set ?_ GE335.out | exact HB.out | apply below_alloc | apply pw_below_drewN | apply below_drew1)) : w.heap.size ≤ gb353)); have GE353 := GW353; have NB315_353 := Aside0.mk ((by rw [hg]; exact lt1 BK315.out : gb315 ≠ gb353)); have NB353_315 := Aside0.mk ((by rw [hg]; exact gt1 BK315.out : gb353 ≠ gb315)); have NB316_353 := Aside0.mk ((by rw [hg]; exact lt1 BK316.out : gb316 ≠ gb353)); have NB353_316 := Aside0.mk ((by rw [hg]; exact gt1 BK316.out : gb353 ≠ gb316)); have NB328_353 := Aside0.mk ((by rw [hg]; exact lt1 BK328.out : gb328 ≠ gb353)); have NB353_328 := Aside0.mk ((by rw [hg]; exact gt1 BK328.out : gb353 ≠ gb328)); have NB335_353 := Aside0.mk ((by rw [hg]; exact lt1 BK335.out : gb335 ≠ gb353)); have NB353_335 := Aside0.mk ((by rw [hg]; exact gt1 BK335.out : gb353 ≠ gb335)); replace BK315 := Aside0.mk (bb hb BK315.out); replace BK316 := Aside0.mk (bb hb BK316.out); replace BK328 := Aside0.mk (bb hb BK328.out); replace BK335 := Aside0.mk (bb hb BK335.out); replace HB := Aside0.mk (below_step (by repeat first | refine below_set ?_ GE315.out | refine below_set ?_ GE316.out | refine below_set ?_ GE328.out | refine below_set ?_ GE335.out | exact HB.out | apply below_alloc | apply pw_below_drewN | apply below_drew1) hb); clear hb hbox hg; have hnb155 := NB353_315.out; have hnc155 := NB315_353.out; have hnb156 := NB353_316.out; have hnc156 := NB316_353.out; have hnb157 := NB353_328.out; have hnc157 := NB328_353.out; have hnb158 := NB353_335.out; have hnc158 := NB335_353.out; obtain ⟨hcz159_0, hcz159_1, hcz159_2, hcz159_3, hcz159_4, hfz159_0, hfz159_1, hfz159_2, hfz159_3, hfz159_4⟩ := cz5 BK353.out))
              have n0_ : Aside0 ((((((w154.setCell ⟨gb353, 0, none⟩ (.string t317)).setCell ⟨gb353, 1, none⟩ (.int .i64 t318)).setCell ⟨gb353, 2, none⟩ (.int .i64 t319)).setCell ⟨gb353, 3, none⟩ (.int .i64 t320)).setCell ⟨gb353, 4, none⟩ (.int .i64 t321)).heap[gb315]? = some (.cells #[.string t317, .int .i64 t318, .int .i64 t319, .int .i64 t320, .int .i64 t321] 40 (0, 0))) := ⟨by exact (far5 NB315_353.out BK315.out)⟩
              have n1_ : Aside0 ((((((w154.setCell ⟨gb353, 0, none⟩ (.string t317)).setCell ⟨gb353, 1, none⟩ (.int .i64 t318)).setCell ⟨gb353, 2, none⟩ (.int .i64 t319)).setCell ⟨gb353, 3, none⟩ (.int .i64 t320)).setCell ⟨gb353, 4, none⟩ (.int .i64 t321)).heap[gb316]? = some (.cells #[.int .i64 a2_0, .int .i64 a2_1, .int .i64 a2_2] 38 (0, 0))) := ⟨by exact (far5 NB316_353.out BK316.out)⟩
              have n2_ : Aside0 ((((((w154.setCell ⟨gb353, 0, none⟩ (.string t317)).setCell ⟨gb353, 1, none⟩ (.int .i64 t318)).setCell ⟨gb353, 2, none⟩ (.int .i64 t319)).setCell ⟨gb353, 3, none⟩ (.int .i64 t320)).setCell ⟨gb353, 4, none⟩ (.int .i64 t321)).heap[gb328]? = some (.cells #[.string t322, .int .i64 t323, .int .i64 t324, .int .i64 t325, .int .i64 t326] 40 (0, 0))) := ⟨by exact (far5 NB328_353.out BK328.out)⟩
              have n3_ : Aside0 ((((((w154.setCell ⟨gb353, 0, none⟩ (.string t317)).setCell ⟨gb353, 1, none⟩ (.int .i64 t318)).setCell ⟨gb353, 2, none⟩ (.int .i64 t319)).setCell ⟨gb353, 3, none⟩ (.int .i64 t320)).setCell ⟨gb353, 4, none⟩ (.int .i64 t321)).heap[gb335]? = some (.cells #[.string t329, .int .i64 t330, .int .i64 t331, .int .i64 t332, .int .i64 t333] 40 (0, 0))) := ⟨by exact (far5 NB335_353.out BK335.out)⟩
              have n4_ : Aside0 ((((((w154.setCell ⟨gb353, 0, none⟩ (.string t317)).setCell ⟨gb353, 1, none⟩ (.int .i64 t318)).setCell ⟨gb353, 2, none⟩ (.int .i64 t319)).setCell ⟨gb353, 3, none⟩ (.int .i64 t320)).setCell ⟨gb353, 4, none⟩ (.int .i64 t321)).heap[gb353]? = some (.cells #[.string t317, .int .i64 t318, .int .i64 t319, .int .i64 t320, .int .i64 t321] 40 (0, 0))) := ⟨by exact (put5 BK353.out)⟩
              have n5_ : Aside0 (Below w.heap.size w (((((w154.setCell ⟨gb353, 0, none⟩ (.string t317)).setCell ⟨gb353, 1, none⟩ (.int .i64 t318)).setCell ⟨gb353, 2, none⟩ (.int .i64 t319)).setCell ⟨gb353, 3, none⟩ (.int .i64 t320)).setCell ⟨gb353, 4, none⟩ (.int .i64 t321))) := ⟨by repeat first | refine below_set ?_ GE315.out | refine below_set ?_ GE316.out | refine below_set ?_ GE328.out | refine below_set ?_ GE335.out | refine below_set ?_ GE353.out | exact HB.out | apply below_alloc | apply pw_below_drewN | apply below_drew1⟩
              (try clear BK315)
              (try clear BK316)
              (try clear BK328)
              (try clear BK335)
              (try clear BK353)
              (try clear HB)
              generalize (((((w154.setCell ⟨gb353, 0, none⟩ (.string t317)).setCell ⟨gb353, 1, none⟩ (.int .i64 t318)).setCell ⟨gb353, 2, none⟩ (.int .i64 t319)).setCell ⟨gb353, 3, none⟩ (.int .i64 t320)).setCell ⟨gb353, 4, none⟩ (.int .i64 t321)) = w160 at n0_ n1_ n2_ n3_ n4_ n5_ ⊢
              have BK315 := n0_
              have BK316 := n1_
              have BK328 := n2_
              have BK335 := n3_
              have BK353 := n4_
              have HB := n5_
              clear n0_ n1_ n2_ n3_ n4_ n5_
              replace BK315 := Aside0.mk (blk_drew BK315.out); replace BK316 := Aside0.mk (blk_drew BK316.out); replace BK328 := Aside0.mk (blk_drew BK328.out); replace BK335 := Aside0.mk (blk_drew BK335.out); replace BK353 := Aside0.mk (blk_drew BK353.out); replace HB := Aside0.mk (below_drew1 HB.out)
              refine start_ (n := 7) (S := fun w' => w'.cell? ⟨gb353, 0, none⟩ = some (.string t317) ∧ w'.cell? ⟨gb353, 1, none⟩ = some (.int .i64 t318) ∧ w'.cell? ⟨gb353, 2, none⟩ = some (.int .i64 t319) ∧ w'.cell? ⟨gb353, 3, none⟩ = some (.int .i64 t320) ∧ w'.cell? ⟨gb353, 4, none⟩ = some (.int .i64 t321)) (ds := [6]) #[false, false, false, false, false, false, false] (by kernel_rfl) rfl rfl ⟨(blk_cell BK353.out 0).trans rfl, (blk_cell BK353.out 1).trans rfl, (blk_cell BK353.out 2).trans rfl, (blk_cell BK353.out 3).trans rfl, (blk_cell BK353.out 4).trans rfl⟩ (fun hHeld => ?_)
              generalize w160.drew = w161 at BK315 BK316 BK328 BK335 BK353 HB hHeld ⊢
              refine pure_ (i := 0) (N := some 90) (v := ?_) (a' := ?_) #[true, false, false, false, false, false, false] rfl rfl (by kernel_rfl) (fun _ _ _ h => h) (Or.inl ⟨by rfl, ?_⟩) ?_ ?_; rotate_left; (·intro w'; go_simp; with_reducible rfl); rotate_left; (·simp only [Act.put, s1, s2, s3, i64_w, i32_w]; rfl)
              refine pure_ (i := 2) (N := some 92) (v := ?_) (a' := ?_) #[true, false, true, false, false, false, false] rfl rfl (by kernel_rfl) (fun _ _ _ h => h) (Or.inl ⟨by rfl, ?_⟩) ?_ ?_; rotate_left; (·intro w'; go_simp; with_reducible rfl); rotate_left; (·simp only [Act.put, s1, s2, s3, i64_w, i32_w]; rfl)
              refine take_ (i := 1) (N := some 91) (v := ?_) (a' := ?_) #[true, true, true, false, false, false, false] rfl rfl (by kernel_rfl) (fun _ _ _ h => h) (Or.inl ⟨by rfl, ?_⟩) hHeld ?_ ?_; rotate_left; (·rintro w' ⟨s0, s1, s2, s3, s4⟩; go_simp; with_reducible rfl); rotate_left; (·simp only [Act.put, s1, s2, s3, i64_w, i32_w]; rfl)
              refine one_ (i := 3) (N := some 93) #[true, true, true, true, false, false, false] rfl rfl (by kernel_rfl) (by decide) (fun K hK => ?_)
              refine goes_ Tryd.func21 (by kernel_rfl) rfl #[.int .i32 a1] (by rfl) rfl rfl (by (try simp only [List.map_toArray, List.map_cons, List.map_nil]); first | done | rfl | (simp only [List.length_drop, List.length_take]; rfl)) ?_
              with_reducible refine (backseatref01_Text.calls kj80 a1 t354 _ A108.out).mono ?_
              rintro e w162 ⟨rfl, hb⟩
              refine ⟨_, rfl, ?_⟩
              replace BK315 := Aside0.mk (bb hb BK315.out); replace BK316 := Aside0.mk (bb hb BK316.out); replace BK328 := Aside0.mk (bb hb BK328.out); replace BK335 := Aside0.mk (bb hb BK335.out); replace BK353 := Aside0.mk (bb hb BK353.out); replace HB := Aside0.mk (below_step (by repeat first | refine below_set ?_ GE315.out | refine below_set ?_ GE316.out | refine below_set ?_ GE328.out | refine below_set ?_ GE335.out | refine below_set ?_ GE353.out | exact HB.out | apply below_alloc | apply pw_below_drewN | apply below_drew1) hb)
              (try clear hb)
              (try clear hb2)
              (try clear hk)
              (try clear hi)
              refine hK.out _ _ ⟨(blk_cell BK353.out 0).trans rfl, (blk_cell BK353.out 1).trans rfl, (blk_cell BK353.out 2).trans rfl, (blk_cell BK353.out 3).trans rfl, (blk_cell BK353.out 4).trans rfl⟩ (fun hHeld => ?_)
              clear hK K
              refine norm_ (a' := ?_) ?_ ?_
              rotate_left
              ·show Act.put _ (some 93) _ = _
               simp only [Act.put, s1, s2, s3, i64_w, i32_w]
               rfl
              refine pure_ (i := 4) (N := some 94) (v := ?_) (a' := ?_) #[true, true, true, true, true, false, false] rfl rfl (by kernel_rfl) (fun _ _ _ h => h) (Or.inl ⟨by rfl, ?_⟩) ?_ ?_; rotate_left; (·intro w'; go_simp; with_reducible rfl); rotate_left; (·simp only [Act.put, s1, s2, s3, i64_w, i32_w]; rfl)
              refine pure_ (i := 5) (N := some 95) (v := ?_) (a' := ?_) #[true, true, true, true, true, true, false] rfl rfl (by kernel_rfl) (fun _ _ _ h => h) (Or.inl ⟨by rfl, ?_⟩) ?_ ?_; rotate_left; (·intro w'; go_simp; with_reducible rfl); rotate_left; (·simp only [Act.put, s1, s2, s3, i64_w, i32_w]; rfl)
              refine last_ (i := 6) (N := none) #[true, true, true, true, true, true, true] rfl rfl (by kernel_rfl) (by decide) (fun K hK => ?_)
              have hs163 : w162.cell? ⟨gb353, 0, none⟩ = some (.string t317) := (blk_cell BK353.out 0).trans rfl
              have hfs163 := blk_frozen BK353.out 0
              have hns163_0 := NB315_353.out
              have hns163_1 := NB316_353.out
              have hns163_2 := NB328_353.out
              have hns163_3 := NB335_353.out
              have hms163_0 := NB353_315.out
              have hms163_1 := NB353_316.out
              have hms163_2 := NB353_328.out
              have hms163_3 := NB353_335.out
              refine skip_ (w1 := ?_) (by rfl) rfl ?_ ?_
              rotate_left
              ·go_simp
               rfl
              refine hK.out _ _ ?_
              clear hK K
              refine done_ (by kernel_rfl) ?_
              have hcz164_0 : w162.cell? ⟨gb353, 0, none⟩ = some (.string t317) := (blk_cell BK353.out 0).trans rfl
              have hcz164_1 : w162.cell? ⟨gb353, 1, none⟩ = some (.int .i64 t318) := (blk_cell BK353.out 1).trans rfl
              have hcz164_2 : w162.cell? ⟨gb353, 2, none⟩ = some (.int .i64 t319) := (blk_cell BK353.out 2).trans rfl
              have hcz164_3 : w162.cell? ⟨gb353, 3, none⟩ = some (.int .i64 t320) := (blk_cell BK353.out 3).trans rfl
              have hcz164_4 : w162.cell? ⟨gb353, 4, none⟩ = some (.int .i64 t321) := (blk_cell BK353.out 4).trans rfl
              have hfz164_0 := blk_frozen BK353.out 0
              have hfz164_1 := blk_frozen BK353.out 1
              have hfz164_2 := blk_frozen BK353.out 2
              have hfz164_3 := blk_frozen BK353.out 3
              have hfz164_4 := blk_frozen BK353.out 4
              try go_wp2_with (first | ((with_reducible refine gate_callee (f := 26) rfl ?_); refine goesL_ (some 97) rfl rfl Tryd.func26 (by kernel_rfl) rfl #[.agg #[.string (t317 ++ t354), .int .i64 t318, .int .i64 t319, .int .i64 t320, .int .i64 t321]] rfl (by (try simp only [List.map_toArray, List.map_cons, List.map_nil]); first | done | rfl | (simp only [List.length_drop, List.length_take]; rfl)) ?_; (with_reducible refine (backseatref04_Right.calls kj80 (t317 ++ t354) t318 t319 t320 t321 false _ A110.out).mono ?_); rintro e w165 ⟨rfl, hb⟩; refine ⟨_, rfl, ?_⟩; replace BK315 := Aside0.mk (bb hb (blk_far BK315.out NB315_353.out _)); replace BK316 := Aside0.mk (bb hb (blk_far BK316.out NB316_353.out _)); replace BK328 := Aside0.mk (bb hb (blk_far BK328.out NB328_353.out _)); replace BK335 := Aside0.mk (bb hb (blk_far BK335.out NB335_353.out _)); replace BK353 := Aside0.mk (bb hb (blk_put BK353.out 0 _ rfl)); replace HB := Aside0.mk (below_step (by repeat first | refine below_set ?_ GE315.out | refine below_set ?_ GE316.out | refine below_set ?_ GE328.out | refine below_set ?_ GE335.out | refine below_set ?_ GE353.out | exact HB.out | apply below_alloc | apply pw_below_drewN | apply below_drew1) hb); (try clear hb); (try clear hb2); (try clear hk); (try clear hi); have hnb166 := NB335_316.out; have hnc166 := NB316_335.out; have hnb167 := NB335_328.out; have hnc167 := NB328_335.out; obtain ⟨hcz168_0, hcz168_1, hcz168_2, hcz168_3, hcz168_4, hfz168_0, hfz168_1, hfz168_2, hfz168_3, hfz168_4⟩ := cz5 BK335.out))
              go_ret
              exact ⟨by first | rfl | (simp [errW_none, errW_some] <;> rfl) | (simp [*, errW_none, errW_some] <;> rfl), by repeat first | refine below_set ?_ GE315.out | refine below_set ?_ GE316.out | refine below_set ?_ GE328.out | refine below_set ?_ GE335.out | refine below_set ?_ GE353.out | exact HB.out | apply below_alloc | apply pw_below_drewN | apply below_drew1⟩
             ·rw [if_neg c149] at H
              have c149b0 : (t334 == 7) = false := beq_eq_false_iff_ne.mpr c149
              have c149b1 : (t334 != 7) = true := bne_iff_ne.mpr c149
              obtain rfl := Option.some.inj H
              have hnb169 := NB315_316.out
              have hnc169 := NB316_315.out
              have hnb170 := NB315_328.out
              have hnc170 := NB328_315.out
              have hnb171 := NB315_335.out
              have hnc171 := NB335_315.out
              have hcz172_0 : wc.cell? ⟨gb315, 0, none⟩ = some (.string t317) := (blk_cell BK315.out 0).trans rfl
              have hcz172_1 : wc.cell? ⟨gb315, 1, none⟩ = some (.int .i64 t318) := (blk_cell BK315.out 1).trans rfl
              have hcz172_2 : wc.cell? ⟨gb315, 2, none⟩ = some (.int .i64 t319) := (blk_cell BK315.out 2).trans rfl
              have hcz172_3 : wc.cell? ⟨gb315, 3, none⟩ = some (.int .i64 t320) := (blk_cell BK315.out 3).trans rfl
              have hcz172_4 : wc.cell? ⟨gb315, 4, none⟩ = some (.int .i64 t321) := (blk_cell BK315.out 4).trans rfl
              have hfz172_0 := blk_frozen BK315.out 0
              have hfz172_1 := blk_frozen BK315.out 1
              have hfz172_2 := blk_frozen BK315.out 2
              have hfz172_3 := blk_frozen BK315.out 3
              have hfz172_4 := blk_frozen BK315.out 4
              try go_wp2_with (first | ((with_reducible refine gate_dst (N := 12) rfl ?_); refine box_event ?hg (N := 12) ?hd (cs := #[.string (⟨#[]⟩ : ByteArray), .int .i64 0, .int .i64 0, .int .i64 0, .int .i64 0]) (t := 40) ?hr ?_; (case hd => rfl); (case hg => rfl); (case hr => first | (go_simp; done) | (go_simp; rfl)); intro gb353 hg w173 hbox hb; have BK353 := Aside0.mk (hbox); have GW353 := Aside0.mk ((by rw [hg]; exact (below_size (by repeat first | refine below_set ?_ GE315.out | refine below_set ?_ GE316.out | refine below_set ?_ GE328.out | refine below_set ?_ GE335.out | exact HB.out | apply below_alloc | apply pw_below_drewN | apply below_drew1)) : w.heap.size ≤ gb353)); have GE353 := GW353; have NB315_353 := Aside0.mk ((by rw [hg]; exact lt1 BK315.out : gb315 ≠ gb353)); have NB353_315 := Aside0.mk ((by rw [hg]; exact gt1 BK315.out : gb353 ≠ gb315)); have NB316_353 := Aside0.mk ((by rw [hg]; exact lt1 BK316.out : gb316 ≠ gb353)); have NB353_316 := Aside0.mk ((by rw [hg]; exact gt1 BK316.out : gb353 ≠ gb316)); have NB328_353 := Aside0.mk ((by rw [hg]; exact lt1 BK328.out : gb328 ≠ gb353)); have NB353_328 := Aside0.mk ((by rw [hg]; exact gt1 BK328.out : gb353 ≠ gb328)); have NB335_353 := Aside0.mk ((by rw [hg]; exact lt1 BK335.out : gb335 ≠ gb353)); have NB353_335 := Aside0.mk ((by rw [hg]; exact gt1 BK335.out : gb353 ≠ gb335)); replace BK315 := Aside0.mk (bb hb BK315.out); replace BK316 := Aside0.mk (bb hb BK316.out); replace BK328 := Aside0.mk (bb hb BK328.out); replace BK335 := Aside0.mk (bb hb BK335.out); replace HB := Aside0.mk (below_step (by repeat first | refine below_set ?_ GE315.out | refine below_set ?_ GE316.out | refine below_set ?_ GE328.out | refine below_set ?_ GE335.out | exact HB.out | apply below_alloc | apply pw_below_drewN | apply below_drew1) hb); clear hb hbox hg; have hnb174 := NB353_315.out; have hnc174 := NB315_353.out; have hnb175 := NB353_316.out; have hnc175 := NB316_353.out; have hnb176 := NB353_328.out; have hnc176 := NB328_353.out; have hnb177 := NB353_335.out; have hnc177 := NB335_353.out; obtain ⟨hcz178_0, hcz178_1, hcz178_2, hcz178_3, hcz178_4, hfz178_0, hfz178_1, hfz178_2, hfz178_3, hfz178_4⟩ := cz5 BK353.out))
              have n0_ : Aside0 ((((((w173.setCell ⟨gb353, 0, none⟩ (.string t317)).setCell ⟨gb353, 1, none⟩ (.int .i64 t318)).setCell ⟨gb353, 2, none⟩ (.int .i64 t319)).setCell ⟨gb353, 3, none⟩ (.int .i64 t320)).setCell ⟨gb353, 4, none⟩ (.int .i64 t321)).heap[gb315]? = some (.cells #[.string t317, .int .i64 t318, .int .i64 t319, .int .i64 t320, .int .i64 t321] 40 (0, 0))) := ⟨by exact (far5 NB315_353.out BK315.out)⟩
              have n1_ : Aside0 ((((((w173.setCell ⟨gb353, 0, none⟩ (.string t317)).setCell ⟨gb353, 1, none⟩ (.int .i64 t318)).setCell ⟨gb353, 2, none⟩ (.int .i64 t319)).setCell ⟨gb353, 3, none⟩ (.int .i64 t320)).setCell ⟨gb353, 4, none⟩ (.int .i64 t321)).heap[gb316]? = some (.cells #[.int .i64 a2_0, .int .i64 a2_1, .int .i64 a2_2] 38 (0, 0))) := ⟨by exact (far5 NB316_353.out BK316.out)⟩
              have n2_ : Aside0 ((((((w173.setCell ⟨gb353, 0, none⟩ (.string t317)).setCell ⟨gb353, 1, none⟩ (.int .i64 t318)).setCell ⟨gb353, 2, none⟩ (.int .i64 t319)).setCell ⟨gb353, 3, none⟩ (.int .i64 t320)).setCell ⟨gb353, 4, none⟩ (.int .i64 t321)).heap[gb328]? = some (.cells #[.string t322, .int .i64 t323, .int .i64 t324, .int .i64 t325, .int .i64 t326] 40 (0, 0))) := ⟨by exact (far5 NB328_353.out BK328.out)⟩
              have n3_ : Aside0 ((((((w173.setCell ⟨gb353, 0, none⟩ (.string t317)).setCell ⟨gb353, 1, none⟩ (.int .i64 t318)).setCell ⟨gb353, 2, none⟩ (.int .i64 t319)).setCell ⟨gb353, 3, none⟩ (.int .i64 t320)).setCell ⟨gb353, 4, none⟩ (.int .i64 t321)).heap[gb335]? = some (.cells #[.string t329, .int .i64 t330, .int .i64 t331, .int .i64 t332, .int .i64 t333] 40 (0, 0))) := ⟨by exact (far5 NB335_353.out BK335.out)⟩
              have n4_ : Aside0 ((((((w173.setCell ⟨gb353, 0, none⟩ (.string t317)).setCell ⟨gb353, 1, none⟩ (.int .i64 t318)).setCell ⟨gb353, 2, none⟩ (.int .i64 t319)).setCell ⟨gb353, 3, none⟩ (.int .i64 t320)).setCell ⟨gb353, 4, none⟩ (.int .i64 t321)).heap[gb353]? = some (.cells #[.string t317, .int .i64 t318, .int .i64 t319, .int .i64 t320, .int .i64 t321] 40 (0, 0))) := ⟨by exact (put5 BK353.out)⟩
              have n5_ : Aside0 (Below w.heap.size w (((((w173.setCell ⟨gb353, 0, none⟩ (.string t317)).setCell ⟨gb353, 1, none⟩ (.int .i64 t318)).setCell ⟨gb353, 2, none⟩ (.int .i64 t319)).setCell ⟨gb353, 3, none⟩ (.int .i64 t320)).setCell ⟨gb353, 4, none⟩ (.int .i64 t321))) := ⟨by repeat first | refine below_set ?_ GE315.out | refine below_set ?_ GE316.out | refine below_set ?_ GE328.out | refine below_set ?_ GE335.out | refine below_set ?_ GE353.out | exact HB.out | apply below_alloc | apply pw_below_drewN | apply below_drew1⟩
              (try clear BK315)
              (try clear BK316)
              (try clear BK328)
              (try clear BK335)
              (try clear BK353)
              (try clear HB)
              generalize (((((w173.setCell ⟨gb353, 0, none⟩ (.string t317)).setCell ⟨gb353, 1, none⟩ (.int .i64 t318)).setCell ⟨gb353, 2, none⟩ (.int .i64 t319)).setCell ⟨gb353, 3, none⟩ (.int .i64 t320)).setCell ⟨gb353, 4, none⟩ (.int .i64 t321)) = w179 at n0_ n1_ n2_ n3_ n4_ n5_ ⊢
              have BK315 := n0_
              have BK316 := n1_
              have BK328 := n2_
              have BK335 := n3_
              have BK353 := n4_
              have HB := n5_
              clear n0_ n1_ n2_ n3_ n4_ n5_
              replace BK315 := Aside0.mk (blk_drew BK315.out); replace BK316 := Aside0.mk (blk_drew BK316.out); replace BK328 := Aside0.mk (blk_drew BK328.out); replace BK335 := Aside0.mk (blk_drew BK335.out); replace BK353 := Aside0.mk (blk_drew BK353.out); replace HB := Aside0.mk (below_drew1 HB.out)
              refine start_ (n := 7) (S := fun w' => w'.cell? ⟨gb353, 0, none⟩ = some (.string t317) ∧ w'.cell? ⟨gb353, 1, none⟩ = some (.int .i64 t318) ∧ w'.cell? ⟨gb353, 2, none⟩ = some (.int .i64 t319) ∧ w'.cell? ⟨gb353, 3, none⟩ = some (.int .i64 t320) ∧ w'.cell? ⟨gb353, 4, none⟩ = some (.int .i64 t321)) (ds := [6]) #[false, false, false, false, false, false, false] (by kernel_rfl) rfl rfl ⟨(blk_cell BK353.out 0).trans rfl, (blk_cell BK353.out 1).trans rfl, (blk_cell BK353.out 2).trans rfl, (blk_cell BK353.out 3).trans rfl, (blk_cell BK353.out 4).trans rfl⟩ (fun hHeld => ?_)
              generalize w179.drew = w180 at BK315 BK316 BK328 BK335 BK353 HB hHeld ⊢
              refine pure_ (i := 0) (N := some 90) (v := ?_) (a' := ?_) #[true, false, false, false, false, false, false] rfl rfl (by kernel_rfl) (fun _ _ _ h => h) (Or.inl ⟨by rfl, ?_⟩) ?_ ?_; rotate_left; (·intro w'; go_simp; with_reducible rfl); rotate_left; (·simp only [Act.put, s1, s2, s3, i64_w, i32_w]; rfl)
              refine pure_ (i := 2) (N := some 92) (v := ?_) (a' := ?_) #[true, false, true, false, false, false, false] rfl rfl (by kernel_rfl) (fun _ _ _ h => h) (Or.inl ⟨by rfl, ?_⟩) ?_ ?_; rotate_left; (·intro w'; go_simp; with_reducible rfl); rotate_left; (·simp only [Act.put, s1, s2, s3, i64_w, i32_w]; rfl)
              refine take_ (i := 1) (N := some 91) (v := ?_) (a' := ?_) #[true, true, true, false, false, false, false] rfl rfl (by kernel_rfl) (fun _ _ _ h => h) (Or.inl ⟨by rfl, ?_⟩) hHeld ?_ ?_; rotate_left; (·rintro w' ⟨s0, s1, s2, s3, s4⟩; go_simp; with_reducible rfl); rotate_left; (·simp only [Act.put, s1, s2, s3, i64_w, i32_w]; rfl)
              refine one_ (i := 3) (N := some 93) #[true, true, true, true, false, false, false] rfl rfl (by kernel_rfl) (by decide) (fun K hK => ?_)
              refine goes_ Tryd.func21 (by kernel_rfl) rfl #[.int .i32 a1] (by rfl) rfl rfl (by (try simp only [List.map_toArray, List.map_cons, List.map_nil]); first | done | rfl | (simp only [List.length_drop, List.length_take]; rfl)) ?_
              with_reducible refine (backseatref01_Text.calls kj80 a1 t354 _ A108.out).mono ?_
              rintro e w181 ⟨rfl, hb⟩
              refine ⟨_, rfl, ?_⟩
              replace BK315 := Aside0.mk (bb hb BK315.out); replace BK316 := Aside0.mk (bb hb BK316.out); replace BK328 := Aside0.mk (bb hb BK328.out); replace BK335 := Aside0.mk (bb hb BK335.out); replace BK353 := Aside0.mk (bb hb BK353.out); replace HB := Aside0.mk (below_step (by repeat first | refine below_set ?_ GE315.out | refine below_set ?_ GE316.out | refine below_set ?_ GE328.out | refine below_set ?_ GE335.out | refine below_set ?_ GE353.out | exact HB.out | apply below_alloc | apply pw_below_drewN | apply below_drew1) hb)
              (try clear hb)
              (try clear hb2)
              (try clear hk)
              (try clear hi)
              refine hK.out _ _ ⟨(blk_cell BK353.out 0).trans rfl, (blk_cell BK353.out 1).trans rfl, (blk_cell BK353.out 2).trans rfl, (blk_cell BK353.out 3).trans rfl, (blk_cell BK353.out 4).trans rfl⟩ (fun hHeld => ?_)
              clear hK K
              refine norm_ (a' := ?_) ?_ ?_
              rotate_left
              ·show Act.put _ (some 93) _ = _
               simp only [Act.put, s1, s2, s3, i64_w, i32_w]
               rfl
              refine pure_ (i := 4) (N := some 94) (v := ?_) (a' := ?_) #[true, true, true, true, true, false, false] rfl rfl (by kernel_rfl) (fun _ _ _ h => h) (Or.inl ⟨by rfl, ?_⟩) ?_ ?_; rotate_left; (·intro w'; go_simp; with_reducible rfl); rotate_left; (·simp only [Act.put, s1, s2, s3, i64_w, i32_w]; rfl)
              refine pure_ (i := 5) (N := some 95) (v := ?_) (a' := ?_) #[true, true, true, true, true, true, false] rfl rfl (by kernel_rfl) (fun _ _ _ h => h) (Or.inl ⟨by rfl, ?_⟩) ?_ ?_; rotate_left; (·intro w'; go_simp; with_reducible rfl); rotate_left; (·simp only [Act.put, s1, s2, s3, i64_w, i32_w]; rfl)
              refine last_ (i := 6) (N := none) #[true, true, true, true, true, true, true] rfl rfl (by kernel_rfl) (by decide) (fun K hK => ?_)
              have hs182 : w181.cell? ⟨gb353, 0, none⟩ = some (.string t317) := (blk_cell BK353.out 0).trans rfl
              have hfs182 := blk_frozen BK353.out 0
              have hns182_0 := NB315_353.out
              have hns182_1 := NB316_353.out
              have hns182_2 := NB328_353.out
              have hns182_3 := NB335_353.out
              have hms182_0 := NB353_315.out
              have hms182_1 := NB353_316.out
              have hms182_2 := NB353_328.out
              have hms182_3 := NB353_335.out
              refine skip_ (w1 := ?_) (by rfl) rfl ?_ ?_
              rotate_left
              ·go_simp
               rfl
              refine hK.out _ _ ?_
              clear hK K
              refine done_ (by kernel_rfl) ?_
              have hcz183_0 : w181.cell? ⟨gb353, 0, none⟩ = some (.string t317) := (blk_cell BK353.out 0).trans rfl
              have hcz183_1 : w181.cell? ⟨gb353, 1, none⟩ = some (.int .i64 t318) := (blk_cell BK353.out 1).trans rfl
              have hcz183_2 : w181.cell? ⟨gb353, 2, none⟩ = some (.int .i64 t319) := (blk_cell BK353.out 2).trans rfl
              have hcz183_3 : w181.cell? ⟨gb353, 3, none⟩ = some (.int .i64 t320) := (blk_cell BK353.out 3).trans rfl
              have hcz183_4 : w181.cell? ⟨gb353, 4, none⟩ = some (.int .i64 t321) := (blk_cell BK353.out 4).trans rfl
              have hfz183_0 := blk_frozen BK353.out 0
              have hfz183_1 := blk_frozen BK353.out 1
              have hfz183_2 := blk_frozen BK353.out 2
              have hfz183_3 := blk_frozen BK353.out 3
              have hfz183_4 := blk_frozen BK353.out 4
              try go_wp2_with (first | ((with_reducible refine gate_callee (f := 26) rfl ?_); refine goesL_ (some 97) rfl rfl Tryd.func26 (by kernel_rfl) rfl #[.agg #[.string (t317 ++ t354), .int .i64 t318, .int .i64 t319, .int .i64 t320, .int .i64 t321]] rfl (by (try simp only [List.map_toArray, List.map_cons, List.map_nil]); first | done | rfl | (simp only [List.length_drop, List.length_take]; rfl)) ?_; (with_reducible refine (backseatref04_Right.calls kj80 (t317 ++ t354) t318 t319 t320 t321 false _ A110.out).mono ?_); rintro e w184 ⟨rfl, hb⟩; refine ⟨_, rfl, ?_⟩; replace BK315 := Aside0.mk (bb hb (blk_far BK315.out NB315_353.out _)); replace BK316 := Aside0.mk (bb hb (blk_far BK316.out NB316_353.out _)); replace BK328 := Aside0.mk (bb hb (blk_far BK328.out NB328_353.out _)); replace BK335 := Aside0.mk (bb hb (blk_far BK335.out NB335_353.out _)); replace BK353 := Aside0.mk (bb hb (blk_put BK353.out 0 _ rfl)); replace HB := Aside0.mk (below_step (by repeat first | refine below_set ?_ GE315.out | refine below_set ?_ GE316.out | refine below_set ?_ GE328.out | refine below_set ?_ GE335.out | refine below_set ?_ GE353.out | exact HB.out | apply below_alloc | apply pw_below_drewN | apply below_drew1) hb); (try clear hb); (try clear hb2); (try clear hk); (try clear hi)))
              go_ret
              exact ⟨by first | rfl | (simp [errW_none, errW_some] <;> rfl) | (simp [*, errW_none, errW_some] <;> rfl), by repeat first | refine below_set ?_ GE315.out | refine below_set ?_ GE316.out | refine below_set ?_ GE328.out | refine below_set ?_ GE335.out | refine below_set ?_ GE353.out | exact HB.out | apply below_alloc | apply pw_below_drewN | apply below_drew1⟩
           ·rw [if_neg c109] at H
            exact absurd H (by simp)
end Go.Proofs.YthipdgnbpdngpaaDoor.P
