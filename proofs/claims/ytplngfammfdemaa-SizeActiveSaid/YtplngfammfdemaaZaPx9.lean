-- A copy of the text YtplngfammfdemaaPx9 with what this claim does not reach left out (prune.py, a program of this project).
import Derived.Test.YtplngfammfdemaaZaPx0
import Derived.Test.YtplngfammfdemaaZaPx1
namespace Go.Proofs.Ytplngfammfdemaa.P
open Go.RowKit Go.Proofs.Ytplngfammfdemaa Go.Proofs.YtplngfammfdemaaW.PrintWords Go.Proofs.YtplngfammfdemaaW.PrintLast Go.Proofs.YtplngfammfdemaaW.PrintMore
attribute [local go_sem] max2_int min2_int max_two min_two max_three min_three max_four min_four   -- for this text's walks alone
set_option linter.unusedVariables false
set_option linter.unusedSimpArgs false
attribute [local go_sem high] eqA48
def backseatref16_Same.l0 : Nat → List (S48) → List (S48) → Int → Int → Option (Bool)
  | 0, _, _, _, _ => none
  | k + 1, x0, x1, x12, x13 => if x13 < x12 then (if 0 ≤ x13 then (if x13 < (x0.length : Int) then (if x13 < (x1.length : Int) then (if (!(((rd_T48 x0 x13).f0) == ((rd_T48 x1 x13).f0)) || (!(((rd_T48 x0 x13).f1) == ((rd_T48 x1 x13).f1)) || (!(((rd_T48 x0 x13).f2) == ((rd_T48 x1 x13).f2)) || (!(((rd_T48 x0 x13).f3) == ((rd_T48 x1 x13).f3)))))) = true then (some false) else (backseatref16_Same.l0 k x0 x1 x12 (wrap64 (x13 + 1)))) else (none)) else (none)) else (none)) else (some true)
def backseatref16_Same.f (k : Nat) (l0 : List (S48)) (l1 : List (S48)) : Option (Bool) := if (l0.length : Int) = (l1.length : Int) then (backseatref16_Same.l0 k l0 l1 (l0.length : Int) 0) else (some false)
theorem backseatref16_Same.mono_l : ∀ k, (∀ y0 y1 y2 y3, LeO (backseatref16_Same.l0 k y0 y1 y2 y3) (backseatref16_Same.l0 (k + 1) y0 y1 y2 y3))
  | 0 => fun _ _ _ _ r h => by simp [backseatref16_Same.l0] at h
  | k + 1 => by
    have ih0 := backseatref16_Same.mono_l k
    · intro y0 y1 y2 y3
      unfold backseatref16_Same.l0
      repeat' first
      | (with_reducible exact ih0 _ _ _ _)
      | (with_reducible exact LeO.refl _)
      | (with_reducible exact LeO.none _)
      | (with_reducible refine LeO.ite ?_ ?_)
      | (with_reducible refine LeO.bind ?_ (fun _ => ?_))
      | exact ih0 _ _ _ _
      | exact LeO.none _
      | refine LeO.ite ?_ ?_
      | refine LeO.bind ?_ (fun _ => ?_)
theorem backseatref16_Same.mono : ∀ a0 a1 k, LeO (backseatref16_Same.f k a0 a1) (backseatref16_Same.f (k + 1) a0 a1) := by
  intro a0 a1 k
  have ih0 := backseatref16_Same.mono_l k
  unfold backseatref16_Same.f
  repeat' first
      | (with_reducible exact ih0 _ _ _ _)
      | (with_reducible exact LeO.refl _)
      | (with_reducible exact LeO.none _)
      | (with_reducible refine LeO.ite ?_ ?_)
      | (with_reducible refine LeO.bind ?_ (fun _ => ?_))
      | exact ih0 _ _ _ _
      | exact LeO.none _
      | refine LeO.ite ?_ ?_
      | refine LeO.bind ?_ (fun _ => ?_)
def backseatlaw16_is.f (k : Nat) (l0 : List (S48)) (a1 : Int) (a2 : Int) (l3 : List (S48)) : Option (Bool) := if a2 = 0 then (if a1 = 0 then ((backseatref16_Same.f k l0 l3).bind fun t250 => (some t250)) else (some false)) else (if a1 = a2 then (some ((l0.length : Int) == 0)) else (some false))
theorem backseatlaw16_is.mono : ∀ a0 a1 a2 a3 k, LeO (backseatlaw16_is.f k a0 a1 a2 a3) (backseatlaw16_is.f (k + 1) a0 a1 a2 a3) := by
  intro a0 a1 a2 a3 k
  unfold backseatlaw16_is.f
  repeat' first
      | (with_reducible exact backseatref16_Same.mono _ _ _)
      | (with_reducible exact LeO.refl _)
      | (with_reducible exact LeO.none _)
      | (with_reducible refine LeO.ite ?_ ?_)
      | (with_reducible refine LeO.bind ?_ (fun _ => ?_))
      | exact backseatref16_Same.mono _ _ _
      | exact LeO.none _
      | refine LeO.ite ?_ ?_
      | refine LeO.bind ?_ (fun _ => ?_)
def backseatref16_Without.l0 : Nat → Int → List (S48) → List (S48) → Int → Int → Option ((List (S48)))
  | 0, _, _, _, _, _ => none
  | k + 1, x1, x5, x9, x10, x11 => if x11 < x10 then (if 0 ≤ x11 then (if x11 < (x9.length : Int) then (if ((rd_T48 x9 x11).f0) = x1 then (backseatref16_Without.l0 k x1 x5 x9 x10 (wrap64 (x11 + 1))) else (if x5.length < 4398046511104 then (backseatref16_Without.l0 k x1 (x5 ++ [(⟨(rd_T48 x9 x11).f0, (rd_T48 x9 x11).f1, (rd_T48 x9 x11).f2, (rd_T48 x9 x11).f3⟩ : S48)]) x9 x10 (wrap64 (x11 + 1))) else (none))) else (none)) else (none)) else (some x5)
def backseatref16_Without.f (k : Nat) (l0 : List (S48)) (a1 : Int) : Option ((List (S48))) := backseatref16_Without.l0 k a1 (([] : List (S48))) l0 (l0.length : Int) 0
theorem backseatref16_Without.mono_l : ∀ k, (∀ y0 y1 y2 y3 y4, LeO (backseatref16_Without.l0 k y0 y1 y2 y3 y4) (backseatref16_Without.l0 (k + 1) y0 y1 y2 y3 y4))
  | 0 => fun _ _ _ _ _ r h => by simp [backseatref16_Without.l0] at h
  | k + 1 => by
    have ih0 := backseatref16_Without.mono_l k
    · intro y0 y1 y2 y3 y4
      unfold backseatref16_Without.l0
      repeat' first
      | (with_reducible exact ih0 _ _ _ _ _)
      | (with_reducible exact LeO.refl _)
      | (with_reducible exact LeO.none _)
      | (with_reducible refine LeO.ite ?_ ?_)
      | (with_reducible refine LeO.bind ?_ (fun _ => ?_))
      | exact ih0 _ _ _ _ _
      | exact LeO.none _
      | refine LeO.ite ?_ ?_
      | refine LeO.bind ?_ (fun _ => ?_)
theorem backseatref16_Without.mono : ∀ a0 a1 k, LeO (backseatref16_Without.f k a0 a1) (backseatref16_Without.f (k + 1) a0 a1) := by
  intro a0 a1 k
  have ih0 := backseatref16_Without.mono_l k
  unfold backseatref16_Without.f
  repeat' first
      | (with_reducible exact ih0 _ _ _ _ _)
      | (with_reducible exact LeO.refl _)
      | (with_reducible exact LeO.none _)
      | (with_reducible refine LeO.ite ?_ ?_)
      | (with_reducible refine LeO.bind ?_ (fun _ => ?_))
      | exact ih0 _ _ _ _ _
      | exact LeO.none _
      | refine LeO.ite ?_ ?_
      | refine LeO.bind ?_ (fun _ => ?_)
def backseatref16_With.l0 : Nat → List (S48) → Bool → List (S48) → Int → Int → Int → Int → Int → Int → Option ((List (S48)))
  | 0, _, _, _, _, _, _, _, _, _ => none
  | k + 1, x5, x6, x13, x14, x15, x260000, x260001, x260002, x260003 => if x15 < x14 then (if 0 ≤ x15 then (if x15 < (x13.length : Int) then (if x6 = true then (if x5.length < 4398046511104 then (backseatref16_With.l0 k (x5 ++ [(⟨(rd_T48 x13 x15).f0, (rd_T48 x13 x15).f1, (rd_T48 x13 x15).f2, (rd_T48 x13 x15).f3⟩ : S48)]) x6 x13 x14 (wrap64 (x15 + 1)) x260000 x260001 x260002 x260003) else (none)) else (if ((rd_T48 x13 x15).f0) > x260000 then (if x5.length < 4398046511104 then ((some (x5 ++ [(⟨x260000, x260001, x260002, x260003⟩ : S48)] : List (S48))).bind fun y271 => (if y271.length < 4398046511104 then (backseatref16_With.l0 k (y271 ++ [(⟨(rd_T48 x13 x15).f0, (rd_T48 x13 x15).f1, (rd_T48 x13 x15).f2, (rd_T48 x13 x15).f3⟩ : S48)]) true x13 x14 (wrap64 (x15 + 1)) x260000 x260001 x260002 x260003) else (none))) else (none)) else (if x5.length < 4398046511104 then (backseatref16_With.l0 k (x5 ++ [(⟨(rd_T48 x13 x15).f0, (rd_T48 x13 x15).f1, (rd_T48 x13 x15).f2, (rd_T48 x13 x15).f3⟩ : S48)]) x6 x13 x14 (wrap64 (x15 + 1)) x260000 x260001 x260002 x260003) else (none)))) else (none)) else (none)) else (if x6 = true then (some x5) else (if x5.length < 4398046511104 then (some (x5 ++ [(⟨x260000, x260001, x260002, x260003⟩ : S48)])) else (none)))
def backseatref16_With.f (k : Nat) (l0 : List (S48)) (a1_0 : Int) (a1_1 : Int) (a1_2 : Int) (a1_3 : Int) : Option ((List (S48))) := (backseatref16_Without.f k l0 a1_0).bind fun t263 => (backseatref16_With.l0 k (([] : List (S48))) false t263 (t263.length : Int) 0 a1_0 a1_1 a1_2 a1_3)
theorem backseatref16_With.mono_l : ∀ k, (∀ y0 y1 y2 y3 y4 y5 y6 y7 y8, LeO (backseatref16_With.l0 k y0 y1 y2 y3 y4 y5 y6 y7 y8) (backseatref16_With.l0 (k + 1) y0 y1 y2 y3 y4 y5 y6 y7 y8))
  | 0 => fun _ _ _ _ _ _ _ _ _ r h => by simp [backseatref16_With.l0] at h
  | k + 1 => by
    have ih0 := backseatref16_With.mono_l k
    · intro y0 y1 y2 y3 y4 y5 y6 y7 y8
      unfold backseatref16_With.l0
      repeat' first
      | (with_reducible exact ih0 _ _ _ _ _ _ _ _ _)
      | (with_reducible exact backseatref16_Without.mono _ _ _)
      | (with_reducible exact LeO.refl _)
      | (with_reducible exact LeO.none _)
      | (with_reducible refine LeO.ite ?_ ?_)
      | (with_reducible refine LeO.bind ?_ (fun _ => ?_))
      | exact ih0 _ _ _ _ _ _ _ _ _
      | exact backseatref16_Without.mono _ _ _
      | exact LeO.none _
      | refine LeO.ite ?_ ?_
      | refine LeO.bind ?_ (fun _ => ?_)
theorem backseatref16_With.mono : ∀ a0 a1 a2 a3 a4 k, LeO (backseatref16_With.f k a0 a1 a2 a3 a4) (backseatref16_With.f (k + 1) a0 a1 a2 a3 a4) := by
  intro a0 a1 a2 a3 a4 k
  have ih0 := backseatref16_With.mono_l k
  unfold backseatref16_With.f
  repeat' first
      | (with_reducible exact ih0 _ _ _ _ _ _ _ _ _)
      | (with_reducible exact backseatref16_Without.mono _ _ _)
      | (with_reducible exact LeO.refl _)
      | (with_reducible exact LeO.none _)
      | (with_reducible refine LeO.ite ?_ ?_)
      | (with_reducible refine LeO.bind ?_ (fun _ => ?_))
      | exact ih0 _ _ _ _ _ _ _ _ _
      | exact backseatref16_Without.mono _ _ _
      | exact LeO.none _
      | refine LeO.ite ?_ ?_
      | refine LeO.bind ?_ (fun _ => ?_)
end Go.Proofs.Ytplngfammfdemaa.P
