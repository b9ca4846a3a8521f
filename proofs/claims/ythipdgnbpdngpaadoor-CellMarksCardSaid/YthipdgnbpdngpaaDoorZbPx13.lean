-- A copy of the text YthipdgnbpdngpaaDoorPx13 with what this claim does not reach left out (prune.py, a program of this project).
import Derived.Test.YthipdgnbpdngpaaDoorZbPx0
import Derived.Test.YthipdgnbpdngpaaDoorZbPx4
import Derived.Test.YthipdgnbpdngpaaDoorZbPx8
import Derived.Test.YthipdgnbpdngpaaDoorZbPx12
namespace Go.Proofs.YthipdgnbpdngpaaDoor.P
open Go.RowKit Go.Proofs.YthipdgnbpdngpaaDoor Go.Proofs.YthipdgnbpdngpaaDoorW.PrintWords Go.Proofs.YthipdgnbpdngpaaDoorW.PrintLast Go.Proofs.YthipdgnbpdngpaaDoorW.PrintMore
attribute [local go_sem] max2_int min2_int max_two min_two max_three min_three max_four min_four   -- for this text's walks alone
set_option linter.unusedVariables false
set_option linter.unusedSimpArgs false
mutual
def backseatref04_Right.j0 : Nat → Bool → ByteArray → Int → Int → Int → Int → Option (Bool)
  | 0, _, _, _, _, _, _ => none
  | k + 1, x20, x245000, x245001, x245002, x245003, x245004 => if x20 = true then (some false) else (if x245000.toList = ([] : List UInt8) then (some (decide (x245001 < 2))) else ((backseatref01_First.f k x245000).bind fun bt246 => (if bt246.2.2 = 0 then (if x245001 = 0 then (backseatref04_Right.j1 k true x245000 x245001 x245002 x245003 x245004 bt246.1 bt246.2.1 bt246.2.2) else ((backseatref01_Width.f k bt246.1).bind fun t250 => (backseatref04_Right.j1 k (t250 != x245001) x245000 x245001 x245002 x245003 x245004 bt246.1 bt246.2.1 bt246.2.2))) else (backseatref04_Right.j1 k true x245000 x245001 x245002 x245003 x245004 bt246.1 bt246.2.1 bt246.2.2))))
def backseatref04_Right.j1 : Nat → Bool → ByteArray → Int → Int → Int → Int → Int → Int → Int → Option (Bool)
  | 0, _, _, _, _, _, _, _, _, _ => none
  | k + 1, x45, x245000, x245001, x245002, x245003, x245004, x250000, x250001, x250002 => if x45 = true then (some false) else (if 0 ≤ x250001 then (if x250001 ≤ (x245000.size : Int) then (backseatref04_Right.l0 k (x245000.extract (x250001 : Int).toNat x245000.size) 0) else (none)) else (none))
def backseatref04_Right.l0 : Nat → ByteArray → Int → Option (Bool)
  | 0, _, _ => none
  | k + 1, x4, x5 => if (x4.size : Int) > 0 then ((backseatref01_First.f k x4).bind fun bt251 => (if bt251.2.2 = 0 then ((backseatref01_Width.f k bt251.1).bind fun t255 => (if t255 = 0 then (if 0 ≤ bt251.2.1 then (if bt251.2.1 ≤ (x4.size : Int) then (backseatref04_Right.l0 k (x4.extract (bt251.2.1 : Int).toNat x4.size) (wrap64 (x5 + 1))) else (none)) else (none)) else (some false))) else (some false))) else (some (decide (x5 ≤ 2)))
end
def backseatref04_Right.f (k : Nat) (a0_0 : ByteArray) (a0_1 : Int) (a0_2 : Int) (a0_3 : Int) (a0_4 : Int) : Option (Bool) := (backseatref04_Look.f a0_2 a0_3 a0_4).bind fun t245 => (if t245 = true then (if a0_1 < 0 then (backseatref04_Right.j0 k true a0_0 a0_1 a0_2 a0_3 a0_4) else (backseatref04_Right.j0 k (decide (a0_1 > 2)) a0_0 a0_1 a0_2 a0_3 a0_4)) else (backseatref04_Right.j0 k true a0_0 a0_1 a0_2 a0_3 a0_4))
theorem backseatref04_Right.mono_l : ∀ k, (∀ y0 y1 y2 y3 y4 y5, LeO (backseatref04_Right.j0 k y0 y1 y2 y3 y4 y5) (backseatref04_Right.j0 (k + 1) y0 y1 y2 y3 y4 y5)) ∧ (∀ y0 y1 y2 y3 y4 y5 y6 y7 y8, LeO (backseatref04_Right.j1 k y0 y1 y2 y3 y4 y5 y6 y7 y8) (backseatref04_Right.j1 (k + 1) y0 y1 y2 y3 y4 y5 y6 y7 y8)) ∧ (∀ y0 y1, LeO (backseatref04_Right.l0 k y0 y1) (backseatref04_Right.l0 (k + 1) y0 y1))
  | 0 => ⟨fun _ _ _ _ _ _ r h => by simp [backseatref04_Right.j0] at h, fun _ _ _ _ _ _ _ _ _ r h => by simp [backseatref04_Right.j1] at h, fun _ _ r h => by simp [backseatref04_Right.l0] at h⟩
  | k + 1 => by
    obtain ⟨ih0, ih1, ih2⟩ := backseatref04_Right.mono_l k
    refine ⟨?_, ?_, ?_⟩
    · intro y0 y1 y2 y3 y4 y5
      unfold backseatref04_Right.j0
      repeat' first
      | (with_reducible exact ih0 _ _ _ _ _ _)
      | (with_reducible exact ih1 _ _ _ _ _ _ _ _ _)
      | (with_reducible exact ih2 _ _)
      | (with_reducible exact backseatref01_First.mono _ _)
      | (with_reducible exact backseatref01_Width.mono _ _)
      | (with_reducible exact LeO.refl _)
      | (with_reducible exact LeO.none _)
      | (with_reducible refine LeO.ite ?_ ?_)
      | (with_reducible refine LeO.bind ?_ (fun _ => ?_))
      | exact ih0 _ _ _ _ _ _
      | exact ih1 _ _ _ _ _ _ _ _ _
      | exact ih2 _ _
      | exact backseatref01_First.mono _ _
      | exact backseatref01_Width.mono _ _
      | exact LeO.none _
      | refine LeO.ite ?_ ?_
      | refine LeO.bind ?_ (fun _ => ?_)
    · intro y0 y1 y2 y3 y4 y5 y6 y7 y8
      unfold backseatref04_Right.j1
      repeat' first
      | (with_reducible exact ih0 _ _ _ _ _ _)
      | (with_reducible exact ih1 _ _ _ _ _ _ _ _ _)
      | (with_reducible exact ih2 _ _)
      | (with_reducible exact backseatref01_First.mono _ _)
      | (with_reducible exact backseatref01_Width.mono _ _)
      | (with_reducible exact LeO.refl _)
      | (with_reducible exact LeO.none _)
      | (with_reducible refine LeO.ite ?_ ?_)
      | (with_reducible refine LeO.bind ?_ (fun _ => ?_))
      | exact ih0 _ _ _ _ _ _
      | exact ih1 _ _ _ _ _ _ _ _ _
      | exact ih2 _ _
      | exact backseatref01_First.mono _ _
      | exact backseatref01_Width.mono _ _
      | exact LeO.none _
      | refine LeO.ite ?_ ?_
      | refine LeO.bind ?_ (fun _ => ?_)
    · intro y0 y1
      unfold backseatref04_Right.l0
      repeat' first
      | (with_reducible exact ih0 _ _ _ _ _ _)
      | (with_reducible exact ih1 _ _ _ _ _ _ _ _ _)
      | (with_reducible exact ih2 _ _)
      | (with_reducible exact backseatref01_First.mono _ _)
      | (with_reducible exact backseatref01_Width.mono _ _)
      | (with_reducible exact LeO.refl _)
      | (with_reducible exact LeO.none _)
      | (with_reducible refine LeO.ite ?_ ?_)
      | (with_reducible refine LeO.bind ?_ (fun _ => ?_))
      | exact ih0 _ _ _ _ _ _
      | exact ih1 _ _ _ _ _ _ _ _ _
      | exact ih2 _ _
      | exact backseatref01_First.mono _ _
      | exact backseatref01_Width.mono _ _
      | exact LeO.none _
      | refine LeO.ite ?_ ?_
      | refine LeO.bind ?_ (fun _ => ?_)
theorem backseatref04_Right.mono : ∀ a0 a1 a2 a3 a4 k, LeO (backseatref04_Right.f k a0 a1 a2 a3 a4) (backseatref04_Right.f (k + 1) a0 a1 a2 a3 a4) := by
  intro a0 a1 a2 a3 a4 k
  obtain ⟨ih0, ih1, ih2⟩ := backseatref04_Right.mono_l k
  unfold backseatref04_Right.f
  repeat' first
      | (with_reducible exact ih0 _ _ _ _ _ _)
      | (with_reducible exact ih1 _ _ _ _ _ _ _ _ _)
      | (with_reducible exact ih2 _ _)
      | (with_reducible exact backseatref01_First.mono _ _)
      | (with_reducible exact backseatref01_Width.mono _ _)
      | (with_reducible exact LeO.refl _)
      | (with_reducible exact LeO.none _)
      | (with_reducible refine LeO.ite ?_ ?_)
      | (with_reducible refine LeO.bind ?_ (fun _ => ?_))
      | exact ih0 _ _ _ _ _ _
      | exact ih1 _ _ _ _ _ _ _ _ _
      | exact ih2 _ _
      | exact backseatref01_First.mono _ _
      | exact backseatref01_Width.mono _ _
      | exact LeO.none _
      | refine LeO.ite ?_ ?_
      | refine LeO.bind ?_ (fun _ => ?_)
end Go.Proofs.YthipdgnbpdngpaaDoor.P
