-- A copy of the text YtplngfammfdemaaPx6 with what this claim does not reach left out (prune.py, a program of this project).
import Derived.Test.YtplngfammfdemaaZaPx0
namespace Go.Proofs.Ytplngfammfdemaa.P
open Go.RowKit Go.Proofs.Ytplngfammfdemaa Go.Proofs.YtplngfammfdemaaW.PrintWords Go.Proofs.YtplngfammfdemaaW.PrintLast Go.Proofs.YtplngfammfdemaaW.PrintMore
attribute [local go_sem] max2_int min2_int max_two min_two max_three min_three max_four min_four   -- for this text's walks alone
set_option linter.unusedVariables false
set_option linter.unusedSimpArgs false
def backseatref16_Latest.l0 : Nat → List (S48) → Int → Int → Int → Int → Int → Int → Option (Int × Int × Int × Int)
  | 0, _, _, _, _, _, _, _ => none
  | k + 1, x7, x8, x9, x183000, x183001, x183002, x183003 => if x9 < x8 then (if 0 ≤ x9 then (if x9 < (x7.length : Int) then (if x183000 = 0 then (backseatref16_Latest.l0 k x7 x8 (wrap64 (x9 + 1)) ((rd_T48 x7 x9).f0) ((rd_T48 x7 x9).f1) ((rd_T48 x7 x9).f2) ((rd_T48 x7 x9).f3)) else (if ((rd_T48 x7 x9).f3) > x183003 then (backseatref16_Latest.l0 k x7 x8 (wrap64 (x9 + 1)) ((rd_T48 x7 x9).f0) ((rd_T48 x7 x9).f1) ((rd_T48 x7 x9).f2) ((rd_T48 x7 x9).f3)) else (backseatref16_Latest.l0 k x7 x8 (wrap64 (x9 + 1)) x183000 x183001 x183002 x183003))) else (none)) else (none)) else (some (x183000, x183001, x183002, x183003))
def backseatref16_Latest.f (k : Nat) (l0 : List (S48)) : Option (Int × Int × Int × Int) := backseatref16_Latest.l0 k l0 (l0.length : Int) 0 0 0 0 0
theorem backseatref16_Latest.mono_l : ∀ k, (∀ y0 y1 y2 y3 y4 y5 y6, LeO (backseatref16_Latest.l0 k y0 y1 y2 y3 y4 y5 y6) (backseatref16_Latest.l0 (k + 1) y0 y1 y2 y3 y4 y5 y6))
  | 0 => fun _ _ _ _ _ _ _ r h => by simp [backseatref16_Latest.l0] at h
  | k + 1 => by
    have ih0 := backseatref16_Latest.mono_l k
    · intro y0 y1 y2 y3 y4 y5 y6
      unfold backseatref16_Latest.l0
      repeat' first
      | (with_reducible exact ih0 _ _ _ _ _ _ _)
      | (with_reducible exact LeO.refl _)
      | (with_reducible exact LeO.none _)
      | (with_reducible refine LeO.ite ?_ ?_)
      | (with_reducible refine LeO.bind ?_ (fun _ => ?_))
      | exact ih0 _ _ _ _ _ _ _
      | exact LeO.none _
      | refine LeO.ite ?_ ?_
      | refine LeO.bind ?_ (fun _ => ?_)
theorem backseatref16_Latest.mono : ∀ a0 k, LeO (backseatref16_Latest.f k a0) (backseatref16_Latest.f (k + 1) a0) := by
  intro a0 k
  have ih0 := backseatref16_Latest.mono_l k
  unfold backseatref16_Latest.f
  repeat' first
      | (with_reducible exact ih0 _ _ _ _ _ _ _)
      | (with_reducible exact LeO.refl _)
      | (with_reducible exact LeO.none _)
      | (with_reducible refine LeO.ite ?_ ?_)
      | (with_reducible refine LeO.bind ?_ (fun _ => ?_))
      | exact ih0 _ _ _ _ _ _ _
      | exact LeO.none _
      | refine LeO.ite ?_ ?_
      | refine LeO.bind ?_ (fun _ => ?_)
mutual
def backseatref16_Some.l0 : Nat → List Int → List (S48) → List (S48) → Int → Int → Option ((List (S48)))
  | 0, _, _, _, _, _ => none
  | k + 1, x1, x5, x12, x13, x14 => if x14 < x13 then (if 0 ≤ x14 then (if x14 < (x12.length : Int) then (backseatref16_Some.l1 k x1 x5 false x12 x13 x14 x1 (x1.length : Int) 0 ((rd_T48 x12 x14).f0) ((rd_T48 x12 x14).f1) ((rd_T48 x12 x14).f2) ((rd_T48 x12 x14).f3)) else (none)) else (none)) else (some x5)
def backseatref16_Some.l1 : Nat → List Int → List (S48) → Bool → List (S48) → Int → Int → List Int → Int → Int → Int → Int → Int → Int → Option ((List (S48)))
  | 0, _, _, _, _, _, _, _, _, _, _, _, _, _ => none
  | k + 1, x1, x5, x8, x12, x13, x14, x18, x19, x20, x190000, x190001, x190002, x190003 => if x20 < x19 then (if 0 ≤ x20 then (if x20 < (x18.length : Int) then (if x8 = true then (backseatref16_Some.l1 k x1 x5 true x12 x13 x14 x18 x19 (wrap64 (x20 + 1)) x190000 x190001 x190002 x190003) else (backseatref16_Some.l1 k x1 x5 ((rd x18 x20) == x190000) x12 x13 x14 x18 x19 (wrap64 (x20 + 1)) x190000 x190001 x190002 x190003)) else (none)) else (none)) else (if x8 = true then (if x5.length < 4398046511104 then (backseatref16_Some.l0 k x1 (x5 ++ [(⟨x190000, x190001, x190002, x190003⟩ : S48)]) x12 x13 (wrap64 (x14 + 1))) else (none)) else (backseatref16_Some.l0 k x1 x5 x12 x13 (wrap64 (x14 + 1))))
end
def backseatref16_Some.f (k : Nat) (l0 : List (S48)) (l1 : List Int) : Option ((List (S48))) := backseatref16_Some.l0 k l1 (([] : List (S48))) l0 (l0.length : Int) 0
theorem backseatref16_Some.mono_l : ∀ k, (∀ y0 y1 y2 y3 y4, LeO (backseatref16_Some.l0 k y0 y1 y2 y3 y4) (backseatref16_Some.l0 (k + 1) y0 y1 y2 y3 y4)) ∧ (∀ y0 y1 y2 y3 y4 y5 y6 y7 y8 y9 y10 y11 y12, LeO (backseatref16_Some.l1 k y0 y1 y2 y3 y4 y5 y6 y7 y8 y9 y10 y11 y12) (backseatref16_Some.l1 (k + 1) y0 y1 y2 y3 y4 y5 y6 y7 y8 y9 y10 y11 y12))
  | 0 => ⟨fun _ _ _ _ _ r h => by simp [backseatref16_Some.l0] at h, fun _ _ _ _ _ _ _ _ _ _ _ _ _ r h => by simp [backseatref16_Some.l1] at h⟩
  | k + 1 => by
    obtain ⟨ih0, ih1⟩ := backseatref16_Some.mono_l k
    refine ⟨?_, ?_⟩
    · intro y0 y1 y2 y3 y4
      unfold backseatref16_Some.l0
      repeat' first
      | (with_reducible exact ih0 _ _ _ _ _)
      | (with_reducible exact ih1 _ _ _ _ _ _ _ _ _ _ _ _ _)
      | (with_reducible exact LeO.refl _)
      | (with_reducible exact LeO.none _)
      | (with_reducible refine LeO.ite ?_ ?_)
      | (with_reducible refine LeO.bind ?_ (fun _ => ?_))
      | exact ih0 _ _ _ _ _
      | exact ih1 _ _ _ _ _ _ _ _ _ _ _ _ _
      | exact LeO.none _
      | refine LeO.ite ?_ ?_
      | refine LeO.bind ?_ (fun _ => ?_)
    · intro y0 y1 y2 y3 y4 y5 y6 y7 y8 y9 y10 y11 y12
      unfold backseatref16_Some.l1
      repeat' first
      | (with_reducible exact ih0 _ _ _ _ _)
      | (with_reducible exact ih1 _ _ _ _ _ _ _ _ _ _ _ _ _)
      | (with_reducible exact LeO.refl _)
      | (with_reducible exact LeO.none _)
      | (with_reducible refine LeO.ite ?_ ?_)
      | (with_reducible refine LeO.bind ?_ (fun _ => ?_))
      | exact ih0 _ _ _ _ _
      | exact ih1 _ _ _ _ _ _ _ _ _ _ _ _ _
      | exact LeO.none _
      | refine LeO.ite ?_ ?_
      | refine LeO.bind ?_ (fun _ => ?_)
theorem backseatref16_Some.mono : ∀ a0 a1 k, LeO (backseatref16_Some.f k a0 a1) (backseatref16_Some.f (k + 1) a0 a1) := by
  intro a0 a1 k
  obtain ⟨ih0, ih1⟩ := backseatref16_Some.mono_l k
  unfold backseatref16_Some.f
  repeat' first
      | (with_reducible exact ih0 _ _ _ _ _)
      | (with_reducible exact ih1 _ _ _ _ _ _ _ _ _ _ _ _ _)
      | (with_reducible exact LeO.refl _)
      | (with_reducible exact LeO.none _)
      | (with_reducible refine LeO.ite ?_ ?_)
      | (with_reducible refine LeO.bind ?_ (fun _ => ?_))
      | exact ih0 _ _ _ _ _
      | exact ih1 _ _ _ _ _ _ _ _ _ _ _ _ _
      | exact LeO.none _
      | refine LeO.ite ?_ ?_
      | refine LeO.bind ?_ (fun _ => ?_)
end Go.Proofs.Ytplngfammfdemaa.P
