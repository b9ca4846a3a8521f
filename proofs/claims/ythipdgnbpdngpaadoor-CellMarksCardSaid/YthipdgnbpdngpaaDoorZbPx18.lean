-- A copy of the text YthipdgnbpdngpaaDoorPx18 with what this claim does not reach left out (prune.py, a program of this project).
import Derived.Test.YthipdgnbpdngpaaDoorZbPx0
import Derived.Test.YthipdgnbpdngpaaDoorZbPx2
import Derived.Test.YthipdgnbpdngpaaDoorZbPx8
import Derived.Test.YthipdgnbpdngpaaDoorZbPx9
import Derived.Test.YthipdgnbpdngpaaDoorZbPx11
import Derived.Test.YthipdgnbpdngpaaDoorZbPx12
import Derived.Test.YthipdgnbpdngpaaDoorZbPx13
import Derived.Test.YthipdgnbpdngpaaDoorZbPx14
import Derived.Test.YthipdgnbpdngpaaDoorZbPx17
import Derived.Test.YthipdgnbpdngpaaDoorZbGShort
namespace Go.Proofs.YthipdgnbpdngpaaDoor.P
open Go.RowKit Go.Proofs.YthipdgnbpdngpaaDoor Go.Proofs.YthipdgnbpdngpaaDoorW.PrintWords Go.Proofs.YthipdgnbpdngpaaDoorW.PrintLast Go.Proofs.YthipdgnbpdngpaaDoorW.PrintMore
attribute [local go_sem] max2_int min2_int max_two min_two max_three min_three max_four min_four   -- for this text's walks alone
set_option linter.unusedVariables false
set_option linter.unusedSimpArgs false
attribute [local go_sem high] eqA40
mutual
def backseatlaw04_CellMakes.j0 : Nat → Int → Int → Int → Bool → ByteArray → Int → Int → Int → Int → Int → Int → Int → ByteArray → Int → Int → Int → Int → ByteArray → Int → Int → Int → Int → Option (Bool)
 | 0, _, _, _, _, _, _, _, _, _, _, _, _, _, _, _, _, _, _, _, _, _, _ => none
 | k + 1, x1, x8, x10, x42, x316000, x316001, x316002, x316003, x316004, x317000, x317001, x317002, x329000, x329001, x329002, x329003, x329004, x336000, x336001, x336002, x336003, x336004 => if x42 = true then (some false) else ((backseatref01_Width.f k x1).bind fun t349 => (if t349 < 1 then (backseatlaw04_CellMakes.j1 k x1 x8 x10 t349 true x316000 x316001 x316002 x316003 x316004 x317000 x317001 x317002 x329000 x329001 x329002 x329003 x329004 x336000 x336001 x336002 x336003 x336004) else ((backseatref04_Look.f x317000 x317001 x317002).bind fun t350 => (backseatlaw04_CellMakes.j1 k x1 x8 x10 t349 (!t350) x316000 x316001 x316002 x316003 x316004 x317000 x317001 x317002 x329000 x329001 x329002 x329003 x329004 x336000 x336001 x336002 x336003 x336004))))
def backseatlaw04_CellMakes.j1 : Nat → Int → Int → Int → Int → Bool → ByteArray → Int → Int → Int → Int → Int → Int → Int → ByteArray → Int → Int → Int → Int → ByteArray → Int → Int → Int → Int → Option (Bool)
 | 0, _, _, _, _, _, _, _, _, _, _, _, _, _, _, _, _, _, _, _, _, _, _, _ => none
 | k + 1, x1, x8, x10, x11, x51, x316000, x316001, x316002, x316003, x316004, x317000, x317001, x317002, x329000, x329001, x329002, x329003, x329004, x336000, x336001, x336002, x336003, x336004 => if x51 = true then (if x8 = 1 then (if (!(x329000.toList == ([] : List UInt8)) || (!(x329001 == 0) || ((!(x329002 == 0) || (!(x329003 == 0) || (!(x329004 == 0))))))) = true then (some false) else (backseatlaw04_CellMakes.j2 k x1 x10 x11 x316000 x316001 x316002 x316003 x316004 x336000 x336001 x336002 x336003 x336004)) else (some false)) else (if x8 = 0 then ((backseatref01_Text.f k x1).bind fun t351 => (if (!(x329000.toList == t351.toList) || (!(x329001 == x11) || ((!(x329002 == x317000) || (!(x329003 == x317001) || (!(x329004 == x317002))))))) = true then (some false) else (backseatlaw04_CellMakes.j2 k x1 x10 x11 x316000 x316001 x316002 x316003 x316004 x336000 x336001 x336002 x336003 x336004))) else (some false))
def backseatlaw04_CellMakes.j2 : Nat → Int → Int → Int → ByteArray → Int → Int → Int → Int → ByteArray → Int → Int → Int → Int → Option (Bool)
 | 0, _, _, _, _, _, _, _, _, _, _, _, _, _ => none
 | k + 1, x1, x10, x11, x316000, x316001, x316002, x316003, x316004, x336000, x336001, x336002, x336003, x336004 => (backseatref04_Right.f k x316000 x316001 x316002 x316003 x316004).bind fun t352 => (if t352 = true then (if x316000.toList = ([] : List UInt8) then (backseatlaw04_CellMakes.j3 k x1 x10 true x316000 x316001 x316002 x316003 x316004 x336000 x336001 x336002 x336003 x336004) else (backseatlaw04_CellMakes.j3 k x1 x10 (x11 != 0) x316000 x316001 x316002 x316003 x316004 x336000 x336001 x336002 x336003 x336004)) else (backseatlaw04_CellMakes.j3 k x1 x10 true x316000 x316001 x316002 x316003 x316004 x336000 x336001 x336002 x336003 x336004))
def backseatlaw04_CellMakes.j3 : Nat → Int → Int → Bool → ByteArray → Int → Int → Int → Int → ByteArray → Int → Int → Int → Int → Option (Bool)
 | 0, _, _, _, _, _, _, _, _, _, _, _, _, _ => none
 | k + 1, x1, x10, x81, x316000, x316001, x316002, x316003, x316004, x336000, x336001, x336002, x336003, x336004 => if x81 = true then (if x10 = 1 then (some (x336000.toList == ([] : List UInt8) && (x336001 == 0 && ((x336002 == 0 && (x336003 == 0 && (x336004 == 0))))))) else (some false)) else ((backseatref01_Text.f k x1).bind fun t354 => (if x316000.size + t354.size ≤ 9223372036854775807 then ((backseatref04_Right.f k (x316000 ++ t354) x316001 x316002 x316003 x316004).bind fun t355 => (if t355 = true then (if x10 = 0 then (some (x336000.toList == ((x316000 ++ t354).toList) && (x336001 == x316001 && ((x336002 == x316002 && (x336003 == x316003 && (x336004 == x316004))))))) else (some false)) else (if x10 = 7 then (some (x336000.toList == ([] : List UInt8) && (x336001 == 0 && ((x336002 == 0 && (x336003 == 0 && (x336004 == 0))))))) else (some false)))) else (none)))
end
def backseatlaw04_CellMakes.f (k : Nat) (a0_0 : ByteArray) (a0_1 : Int) (a0_2 : Int) (a0_3 : Int) (a0_4 : Int) (a1 : Int) (a2_0 : Int) (a2_1 : Int) (a2_2 : Int) : Option (Bool) := (backseatlaw04_cut.f a0_0 a0_1 a0_2 a0_3 a0_4).bind fun bt317 => ((cell_Of.f a1 a2_0 a2_1 a2_2).bind fun bt322 => ((cell_Mark.f k bt317.1 bt317.2.1 bt317.2.2.1 bt317.2.2.2.1 bt317.2.2.2.2 a1).bind fun bt329 => ((cell_Right.f k bt317.1 bt317.2.1 bt317.2.2.1 bt317.2.2.2.1 bt317.2.2.2.2).bind fun t336 => ((backseatref04_Right.f k bt317.1 bt317.2.1 bt317.2.2.1 bt317.2.2.2.1 bt317.2.2.2.2).bind fun t337 => (if (t336 != t337) = true then (backseatlaw04_CellMakes.j0 k a1 bt322.2.2.2.2.2 bt329.2.2.2.2.2 true bt317.1 bt317.2.1 bt317.2.2.1 bt317.2.2.2.1 bt317.2.2.2.2 a2_0 a2_1 a2_2 bt322.1 bt322.2.1 bt322.2.2.1 bt322.2.2.2.1 bt322.2.2.2.2.1 bt329.1 bt329.2.1 bt329.2.2.1 bt329.2.2.2.1 bt329.2.2.2.2.1) else ((cell_Blank.f a2_0 a2_1 a2_2).bind fun bt338 => ((backseatref04_Blank.f a2_0 a2_1 a2_2).bind fun bt343 => (if (!(bt338.1.toList == bt343.1.toList) || (!(bt338.2.1 == bt343.2.1) || ((!(bt338.2.2.1 == bt343.2.2.1) || (!(bt338.2.2.2.1 == bt343.2.2.2.1) || (!(bt338.2.2.2.2 == bt343.2.2.2.2))))))) = true then (backseatlaw04_CellMakes.j0 k a1 bt322.2.2.2.2.2 bt329.2.2.2.2.2 true bt317.1 bt317.2.1 bt317.2.2.1 bt317.2.2.2.1 bt317.2.2.2.2 a2_0 a2_1 a2_2 bt322.1 bt322.2.1 bt322.2.2.1 bt322.2.2.2.1 bt322.2.2.2.2.1 bt329.1 bt329.2.1 bt329.2.2.1 bt329.2.2.2.1 bt329.2.2.2.2.1) else ((backseatlaw04_alive.f k).bind fun t348 => (backseatlaw04_CellMakes.j0 k a1 bt322.2.2.2.2.2 bt329.2.2.2.2.2 (!t348) bt317.1 bt317.2.1 bt317.2.2.1 bt317.2.2.2.1 bt317.2.2.2.2 a2_0 a2_1 a2_2 bt322.1 bt322.2.1 bt322.2.2.1 bt322.2.2.2.1 bt322.2.2.2.2.1 bt329.1 bt329.2.1 bt329.2.2.1 bt329.2.2.2.1 bt329.2.2.2.2.1))))))))))
theorem backseatlaw04_CellMakes.mono_l : ∀ k, (∀ y0 y1 y2 y3 y4 y5 y6 y7 y8 y9 y10 y11 y12 y13 y14 y15 y16 y17 y18 y19 y20 y21, LeO (backseatlaw04_CellMakes.j0 k y0 y1 y2 y3 y4 y5 y6 y7 y8 y9 y10 y11 y12 y13 y14 y15 y16 y17 y18 y19 y20 y21) (backseatlaw04_CellMakes.j0 (k + 1) y0 y1 y2 y3 y4 y5 y6 y7 y8 y9 y10 y11 y12 y13 y14 y15 y16 y17 y18 y19 y20 y21)) ∧ (∀ y0 y1 y2 y3 y4 y5 y6 y7 y8 y9 y10 y11 y12 y13 y14 y15 y16 y17 y18 y19 y20 y21 y22, LeO (backseatlaw04_CellMakes.j1 k y0 y1 y2 y3 y4 y5 y6 y7 y8 y9 y10 y11 y12 y13 y14 y15 y16 y17 y18 y19 y20 y21 y22) (backseatlaw04_CellMakes.j1 (k + 1) y0 y1 y2 y3 y4 y5 y6 y7 y8 y9 y10 y11 y12 y13 y14 y15 y16 y17 y18 y19 y20 y21 y22)) ∧ (∀ y0 y1 y2 y3 y4 y5 y6 y7 y8 y9 y10 y11 y12, LeO (backseatlaw04_CellMakes.j2 k y0 y1 y2 y3 y4 y5 y6 y7 y8 y9 y10 y11 y12) (backseatlaw04_CellMakes.j2 (k + 1) y0 y1 y2 y3 y4 y5 y6 y7 y8 y9 y10 y11 y12)) ∧ (∀ y0 y1 y2 y3 y4 y5 y6 y7 y8 y9 y10 y11 y12, LeO (backseatlaw04_CellMakes.j3 k y0 y1 y2 y3 y4 y5 y6 y7 y8 y9 y10 y11 y12) (backseatlaw04_CellMakes.j3 (k + 1) y0 y1 y2 y3 y4 y5 y6 y7 y8 y9 y10 y11 y12))
 | 0 => ⟨fun _ _ _ _ _ _ _ _ _ _ _ _ _ _ _ _ _ _ _ _ _ _ r h => by simp [backseatlaw04_CellMakes.j0] at h, fun _ _ _ _ _ _ _ _ _ _ _ _ _ _ _ _ _ _ _ _ _ _ _ r h => by simp [backseatlaw04_CellMakes.j1] at h, fun _ _ _ _ _ _ _ _ _ _ _ _ _ r h => by simp [backseatlaw04_CellMakes.j2] at h, fun _ _ _ _ _ _ _ _ _ _ _ _ _ r h => by simp [backseatlaw04_CellMakes.j3] at h⟩
 | k + 1 => by
  obtain ⟨ih0, ih1, ih2, ih3⟩ := backseatlaw04_CellMakes.mono_l k
  refine ⟨?_, ?_, ?_, ?_⟩
  ·intro y0 y1 y2 y3 y4 y5 y6 y7 y8 y9 y10 y11 y12 y13 y14 y15 y16 y17 y18 y19 y20 y21
   unfold backseatlaw04_CellMakes.j0
   repeat' first
   | (with_reducible exact ih0 _ _ _ _ _ _ _ _ _ _ _ _ _ _ _ _ _ _ _ _ _ _)
   | (with_reducible exact ih1 _ _ _ _ _ _ _ _ _ _ _ _ _ _ _ _ _ _ _ _ _ _ _)
   | (with_reducible exact ih2 _ _ _ _ _ _ _ _ _ _ _ _ _)
   | (with_reducible exact ih3 _ _ _ _ _ _ _ _ _ _ _ _ _)
   | (with_reducible exact backseatlaw04_alive.mono _)
   | (with_reducible exact backseatref01_Text.mono _ _)
   | (with_reducible exact backseatref01_Width.mono _ _)
   | (with_reducible exact backseatref04_Right.mono _ _ _ _ _ _)
   | (with_reducible exact cell_Mark.mono _ _ _ _ _ _ _)
   | (with_reducible exact cell_Right.mono _ _ _ _ _ _)
   | (with_reducible exact LeO.refl _)
   | (with_reducible exact LeO.none _)
   | (with_reducible refine LeO.ite ?_ ?_)
   | (with_reducible refine LeO.bind ?_ (fun _ => ?_))
   | exact ih0 _ _ _ _ _ _ _ _ _ _ _ _ _ _ _ _ _ _ _ _ _ _
   | exact ih1 _ _ _ _ _ _ _ _ _ _ _ _ _ _ _ _ _ _ _ _ _ _ _
   | exact ih2 _ _ _ _ _ _ _ _ _ _ _ _ _
   | exact ih3 _ _ _ _ _ _ _ _ _ _ _ _ _
   | exact backseatlaw04_alive.mono _
   | exact backseatref01_Text.mono _ _
   | exact backseatref01_Width.mono _ _
   | exact backseatref04_Right.mono _ _ _ _ _ _
   | exact cell_Mark.mono _ _ _ _ _ _ _
   | exact cell_Right.mono _ _ _ _ _ _
   | exact LeO.none _
   | refine LeO.ite ?_ ?_
   | refine LeO.bind ?_ (fun _ => ?_)
  ·intro y0 y1 y2 y3 y4 y5 y6 y7 y8 y9 y10 y11 y12 y13 y14 y15 y16 y17 y18 y19 y20 y21 y22
   unfold backseatlaw04_CellMakes.j1
   repeat' first
   | (with_reducible exact ih0 _ _ _ _ _ _ _ _ _ _ _ _ _ _ _ _ _ _ _ _ _ _)
   | (with_reducible exact ih1 _ _ _ _ _ _ _ _ _ _ _ _ _ _ _ _ _ _ _ _ _ _ _)
   | (with_reducible exact ih2 _ _ _ _ _ _ _ _ _ _ _ _ _)
   | (with_reducible exact ih3 _ _ _ _ _ _ _ _ _ _ _ _ _)
   | (with_reducible exact backseatlaw04_alive.mono _)
   | (with_reducible exact backseatref01_Text.mono _ _)
   | (with_reducible exact backseatref01_Width.mono _ _)
   | (with_reducible exact backseatref04_Right.mono _ _ _ _ _ _)
   | (with_reducible exact cell_Mark.mono _ _ _ _ _ _ _)
   | (with_reducible exact cell_Right.mono _ _ _ _ _ _)
   | (with_reducible exact LeO.refl _)
   | (with_reducible exact LeO.none _)
   | (with_reducible refine LeO.ite ?_ ?_)
   | (with_reducible refine LeO.bind ?_ (fun _ => ?_))
   | exact ih0 _ _ _ _ _ _ _ _ _ _ _ _ _ _ _ _ _ _ _ _ _ _
   | exact ih1 _ _ _ _ _ _ _ _ _ _ _ _ _ _ _ _ _ _ _ _ _ _ _
   | exact ih2 _ _ _ _ _ _ _ _ _ _ _ _ _
   | exact ih3 _ _ _ _ _ _ _ _ _ _ _ _ _
   | exact backseatlaw04_alive.mono _
   | exact backseatref01_Text.mono _ _
   | exact backseatref01_Width.mono _ _
   | exact backseatref04_Right.mono _ _ _ _ _ _
   | exact cell_Mark.mono _ _ _ _ _ _ _
   | exact cell_Right.mono _ _ _ _ _ _
   | exact LeO.none _
   | refine LeO.ite ?_ ?_
   | refine LeO.bind ?_ (fun _ => ?_)
  ·intro y0 y1 y2 y3 y4 y5 y6 y7 y8 y9 y10 y11 y12
   unfold backseatlaw04_CellMakes.j2
   repeat' first
   | (with_reducible exact ih0 _ _ _ _ _ _ _ _ _ _ _ _ _ _ _ _ _ _ _ _ _ _)
   | (with_reducible exact ih1 _ _ _ _ _ _ _ _ _ _ _ _ _ _ _ _ _ _ _ _ _ _ _)
   | (with_reducible exact ih2 _ _ _ _ _ _ _ _ _ _ _ _ _)
   | (with_reducible exact ih3 _ _ _ _ _ _ _ _ _ _ _ _ _)
   | (with_reducible exact backseatlaw04_alive.mono _)
   | (with_reducible exact backseatref01_Text.mono _ _)
   | (with_reducible exact backseatref01_Width.mono _ _)
   | (with_reducible exact backseatref04_Right.mono _ _ _ _ _ _)
   | (with_reducible exact cell_Mark.mono _ _ _ _ _ _ _)
   | (with_reducible exact cell_Right.mono _ _ _ _ _ _)
   | (with_reducible exact LeO.refl _)
   | (with_reducible exact LeO.none _)
   | (with_reducible refine LeO.ite ?_ ?_)
   | (with_reducible refine LeO.bind ?_ (fun _ => ?_))
   | exact ih0 _ _ _ _ _ _ _ _ _ _ _ _ _ _ _ _ _ _ _ _ _ _
   | exact ih1 _ _ _ _ _ _ _ _ _ _ _ _ _ _ _ _ _ _ _ _ _ _ _
   | exact ih2 _ _ _ _ _ _ _ _ _ _ _ _ _
   | exact ih3 _ _ _ _ _ _ _ _ _ _ _ _ _
   | exact backseatlaw04_alive.mono _
   | exact backseatref01_Text.mono _ _
   | exact backseatref01_Width.mono _ _
   | exact backseatref04_Right.mono _ _ _ _ _ _
   | exact cell_Mark.mono _ _ _ _ _ _ _
   | exact cell_Right.mono _ _ _ _ _ _
   | exact LeO.none _
   | refine LeO.ite ?_ ?_
   | refine LeO.bind ?_ (fun _ => ?_)
  ·intro y0 y1 y2 y3 y4 y5 y6 y7 y8 y9 y10 y11 y12
   unfold backseatlaw04_CellMakes.j3
   repeat' first
   | (with_reducible exact ih0 _ _ _ _ _ _ _ _ _ _ _ _ _ _ _ _ _ _ _ _ _ _)
   | (with_reducible exact ih1 _ _ _ _ _ _ _ _ _ _ _ _ _ _ _ _ _ _ _ _ _ _ _)
   | (with_reducible exact ih2 _ _ _ _ _ _ _ _ _ _ _ _ _)
   | (with_reducible exact ih3 _ _ _ _ _ _ _ _ _ _ _ _ _)
   | (with_reducible exact backseatlaw04_alive.mono _)
   | (with_reducible exact backseatref01_Text.mono _ _)
   | (with_reducible exact backseatref01_Width.mono _ _)
   | (with_reducible exact backseatref04_Right.mono _ _ _ _ _ _)
   | (with_reducible exact cell_Mark.mono _ _ _ _ _ _ _)
   | (with_reducible exact cell_Right.mono _ _ _ _ _ _)
   | (with_reducible exact LeO.refl _)
   | (with_reducible exact LeO.none _)
   | (with_reducible refine LeO.ite ?_ ?_)
   | (with_reducible refine LeO.bind ?_ (fun _ => ?_))
   | exact ih0 _ _ _ _ _ _ _ _ _ _ _ _ _ _ _ _ _ _ _ _ _ _
   | exact ih1 _ _ _ _ _ _ _ _ _ _ _ _ _ _ _ _ _ _ _ _ _ _ _
   | exact ih2 _ _ _ _ _ _ _ _ _ _ _ _ _
   | exact ih3 _ _ _ _ _ _ _ _ _ _ _ _ _
   | exact backseatlaw04_alive.mono _
   | exact backseatref01_Text.mono _ _
   | exact backseatref01_Width.mono _ _
   | exact backseatref04_Right.mono _ _ _ _ _ _
   | exact cell_Mark.mono _ _ _ _ _ _ _
   | exact cell_Right.mono _ _ _ _ _ _
   | exact LeO.none _
   | refine LeO.ite ?_ ?_
   | refine LeO.bind ?_ (fun _ => ?_)
theorem backseatlaw04_CellMakes.mono : ∀ a0 a1 a2 a3 a4 a5 a6 a7 a8 k, LeO (backseatlaw04_CellMakes.f k a0 a1 a2 a3 a4 a5 a6 a7 a8) (backseatlaw04_CellMakes.f (k + 1) a0 a1 a2 a3 a4 a5 a6 a7 a8) := by
 intro a0 a1 a2 a3 a4 a5 a6 a7 a8 k
 obtain ⟨ih0, ih1, ih2, ih3⟩ := backseatlaw04_CellMakes.mono_l k
 unfold backseatlaw04_CellMakes.f
 repeat' first
   | (with_reducible exact ih0 _ _ _ _ _ _ _ _ _ _ _ _ _ _ _ _ _ _ _ _ _ _)
   | (with_reducible exact ih1 _ _ _ _ _ _ _ _ _ _ _ _ _ _ _ _ _ _ _ _ _ _ _)
   | (with_reducible exact ih2 _ _ _ _ _ _ _ _ _ _ _ _ _)
   | (with_reducible exact ih3 _ _ _ _ _ _ _ _ _ _ _ _ _)
   | (with_reducible exact backseatlaw04_alive.mono _)
   | (with_reducible exact backseatref01_Text.mono _ _)
   | (with_reducible exact backseatref01_Width.mono _ _)
   | (with_reducible exact backseatref04_Right.mono _ _ _ _ _ _)
   | (with_reducible exact cell_Mark.mono _ _ _ _ _ _ _)
   | (with_reducible exact cell_Right.mono _ _ _ _ _ _)
   | (with_reducible exact LeO.refl _)
   | (with_reducible exact LeO.none _)
   | (with_reducible refine LeO.ite ?_ ?_)
   | (with_reducible refine LeO.bind ?_ (fun _ => ?_))
   | exact ih0 _ _ _ _ _ _ _ _ _ _ _ _ _ _ _ _ _ _ _ _ _ _
   | exact ih1 _ _ _ _ _ _ _ _ _ _ _ _ _ _ _ _ _ _ _ _ _ _ _
   | exact ih2 _ _ _ _ _ _ _ _ _ _ _ _ _
   | exact ih3 _ _ _ _ _ _ _ _ _ _ _ _ _
   | exact backseatlaw04_alive.mono _
   | exact backseatref01_Text.mono _ _
   | exact backseatref01_Width.mono _ _
   | exact backseatref04_Right.mono _ _ _ _ _ _
   | exact cell_Mark.mono _ _ _ _ _ _ _
   | exact cell_Right.mono _ _ _ _ _ _
   | exact LeO.none _
   | refine LeO.ite ?_ ?_
   | refine LeO.bind ?_ (fun _ => ?_)
end Go.Proofs.YthipdgnbpdngpaaDoor.P
