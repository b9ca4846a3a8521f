-- A copy of the text YtplngfammfdemaaPx7 with what this claim does not reach left out (prune.py, a program of this project).
import Derived.Test.YtplngfammfdemaaZsPx0
import Derived.Test.YtplngfammfdemaaZsPx1
import Derived.Test.YtplngfammfdemaaZsPx2
import Derived.Test.YtplngfammfdemaaZsPx5
import Derived.Test.YtplngfammfdemaaZsPx6
import Derived.Test.YtplngfammfdemaaZsGLatest
import Derived.Test.YtplngfammfdemaaZsGOf
import Derived.Test.YtplngfammfdemaaZsGShort
namespace Go.Proofs.Ytplngfammfdemaa.P
open Go.RowKit Go.Proofs.Ytplngfammfdemaa Go.Proofs.YtplngfammfdemaaW.PrintWords Go.Proofs.YtplngfammfdemaaW.PrintLast Go.Proofs.YtplngfammfdemaaW.PrintMore
attribute [local go_sem] max2_int min2_int max_two min_two max_three min_three max_four min_four   -- for this text's walks alone
set_option linter.unusedVariables false
set_option linter.unusedSimpArgs false
attribute [local go_sem high] eqA48
def backseatlaw16_SizeTells.j0 : Nat → Int → Int → Int → Bool → Int → Int → Int → Int → Option (Bool)
 | 0, _, _, _, _, _, _, _, _ => none
 | k + 1, x7, x8, x9, x91, x222000, x222001, x222002, x222003 => if x91 = true then (some false) else (if x222000 = 0 then (if x9 = 5 then (if x7 = 0 then (some (x8 == 0)) else (some false)) else (some false)) else (if x9 = 0 then (if x7 = x222001 then (some (x8 == (wrap64 (x222002 - 1)))) else (some false)) else (some false)))
def backseatlaw16_SizeTells.f (k : Nat) (l0 : List (S48)) (l1 : List Int) : Option (Bool) := (backseatlaw16_few.f l0).bind fun t194 => (if 0 ≤ (mn (l1.length : Int) 12) then (if (mn (l1.length : Int) 12) ≤ (l1.length : Int) then ((size_Latest.f t194).bind fun bt198 => ((size_Of.f t194 (l1.take ((mn (l1.length : Int) 12) : Int).toNat)).bind fun bt204 => ((backseatref16_Right.f k t194).bind fun t207 => (if t207 = true then ((backseatref16_Latest.f k t194).bind fun bt209 => ((backseatref16_Some.f k t194 (l1.take ((mn (l1.length : Int) 12) : Int).toNat)).bind fun t213 => ((backseatref16_Latest.f k t213).bind fun bt216 => (if bt209.1 = 0 then (if bt198.2.2.2.2 = 5 then (if (!(bt198.1 == bt209.1) || (!(bt198.2.1 == bt209.2.1) || (!(bt198.2.2.1 == bt209.2.2.1) || (!(bt198.2.2.2.1 == bt209.2.2.2))))) = true then (backseatlaw16_SizeTells.j0 k bt204.1 bt204.2.1 bt204.2.2 true bt216.1 bt216.2.1 bt216.2.2.1 bt216.2.2.2) else (if bt209.1 > 0 then (if bt198.2.2.2.2 = 0 then ((backseatlaw16_alive.f k).bind fun t222 => (backseatlaw16_SizeTells.j0 k bt204.1 bt204.2.1 bt204.2.2 (!t222) bt216.1 bt216.2.1 bt216.2.2.1 bt216.2.2.2)) else (backseatlaw16_SizeTells.j0 k bt204.1 bt204.2.1 bt204.2.2 true bt216.1 bt216.2.1 bt216.2.2.1 bt216.2.2.2)) else ((backseatlaw16_alive.f k).bind fun t223 => (backseatlaw16_SizeTells.j0 k bt204.1 bt204.2.1 bt204.2.2 (!t223) bt216.1 bt216.2.1 bt216.2.2.1 bt216.2.2.2)))) else (backseatlaw16_SizeTells.j0 k bt204.1 bt204.2.1 bt204.2.2 true bt216.1 bt216.2.1 bt216.2.2.1 bt216.2.2.2)) else (if bt209.1 > 0 then (if bt198.2.2.2.2 = 0 then (if (!(bt198.1 == bt209.1) || (!(bt198.2.1 == bt209.2.1) || (!(bt198.2.2.1 == bt209.2.2.1) || (!(bt198.2.2.2.1 == bt209.2.2.2))))) = true then (backseatlaw16_SizeTells.j0 k bt204.1 bt204.2.1 bt204.2.2 true bt216.1 bt216.2.1 bt216.2.2.1 bt216.2.2.2) else ((backseatlaw16_alive.f k).bind fun t224 => (backseatlaw16_SizeTells.j0 k bt204.1 bt204.2.1 bt204.2.2 (!t224) bt216.1 bt216.2.1 bt216.2.2.1 bt216.2.2.2))) else (backseatlaw16_SizeTells.j0 k bt204.1 bt204.2.1 bt204.2.2 true bt216.1 bt216.2.1 bt216.2.2.1 bt216.2.2.2)) else ((backseatlaw16_alive.f k).bind fun t225 => (backseatlaw16_SizeTells.j0 k bt204.1 bt204.2.1 bt204.2.2 (!t225) bt216.1 bt216.2.1 bt216.2.2.1 bt216.2.2.2))))))) else ((backseatlaw16_alive.f k).bind fun t208 => (if t208 = true then (if bt198.2.2.2.2 = 1 then (if bt204.2.2 = 1 then (if (bt198.1 == 0 && (bt198.2.1 == 0 && (bt198.2.2.1 == 0 && (bt198.2.2.2.1 == 0)))) = true then (if bt204.1 = 0 then (some (bt204.2.1 == 0)) else (some false)) else (some false)) else (some false)) else (some false)) else (some false))))))) else (none)) else (none))
theorem backseatlaw16_SizeTells.mono_l : ∀ k, (∀ y0 y1 y2 y3 y4 y5 y6 y7, LeO (backseatlaw16_SizeTells.j0 k y0 y1 y2 y3 y4 y5 y6 y7) (backseatlaw16_SizeTells.j0 (k + 1) y0 y1 y2 y3 y4 y5 y6 y7))
 | 0 => fun _ _ _ _ _ _ _ _ r h => by simp [backseatlaw16_SizeTells.j0] at h
 | k + 1 => by
  have ih0 := backseatlaw16_SizeTells.mono_l k
  ·intro y0 y1 y2 y3 y4 y5 y6 y7
   unfold backseatlaw16_SizeTells.j0
   repeat' first
   | (with_reducible exact ih0 _ _ _ _ _ _ _ _)
   | (with_reducible exact backseatlaw16_alive.mono _)
   | (with_reducible exact backseatref16_Latest.mono _ _)
   | (with_reducible exact backseatref16_Right.mono _ _)
   | (with_reducible exact backseatref16_Some.mono _ _ _)
   | (with_reducible exact LeO.refl _)
   | (with_reducible exact LeO.none _)
   | (with_reducible refine LeO.ite ?_ ?_)
   | (with_reducible refine LeO.bind ?_ (fun _ => ?_))
   | exact ih0 _ _ _ _ _ _ _ _
   | exact backseatlaw16_alive.mono _
   | exact backseatref16_Latest.mono _ _
   | exact backseatref16_Right.mono _ _
   | exact backseatref16_Some.mono _ _ _
   | exact LeO.none _
   | refine LeO.ite ?_ ?_
   | refine LeO.bind ?_ (fun _ => ?_)
theorem backseatlaw16_SizeTells.mono : ∀ a0 a1 k, LeO (backseatlaw16_SizeTells.f k a0 a1) (backseatlaw16_SizeTells.f (k + 1) a0 a1) := by
 intro a0 a1 k
 have ih0 := backseatlaw16_SizeTells.mono_l k
 unfold backseatlaw16_SizeTells.f
 repeat' first
   | (with_reducible exact ih0 _ _ _ _ _ _ _ _)
   | (with_reducible exact backseatlaw16_alive.mono _)
   | (with_reducible exact backseatref16_Latest.mono _ _)
   | (with_reducible exact backseatref16_Right.mono _ _)
   | (with_reducible exact backseatref16_Some.mono _ _ _)
   | (with_reducible exact LeO.refl _)
   | (with_reducible exact LeO.none _)
   | (with_reducible refine LeO.ite ?_ ?_)
   | (with_reducible refine LeO.bind ?_ (fun _ => ?_))
   | exact ih0 _ _ _ _ _ _ _ _
   | exact backseatlaw16_alive.mono _
   | exact backseatref16_Latest.mono _ _
   | exact backseatref16_Right.mono _ _
   | exact backseatref16_Some.mono _ _ _
   | exact LeO.none _
   | refine LeO.ite ?_ ?_
   | refine LeO.bind ?_ (fun _ => ?_)
def backseatlaw16_SizeTells.B1 : List Nat := [0, 1, 0, 0, 8, 24, 60, 3, 255]
end Go.Proofs.Ytplngfammfdemaa.P
