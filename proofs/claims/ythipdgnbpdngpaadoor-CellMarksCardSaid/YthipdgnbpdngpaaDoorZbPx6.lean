-- A copy of the text YthipdgnbpdngpaaDoorPx6 with what this claim does not reach left out (prune.py, a program of this project).
import Derived.Test.YthipdgnbpdngpaaDoorZbPx0
import Derived.Test.YthipdgnbpdngpaaDoorZbPx3
import Derived.Test.YthipdgnbpdngpaaDoorZbPx4
import Derived.Test.YthipdgnbpdngpaaDoorZbGText
namespace Go.Proofs.YthipdgnbpdngpaaDoor.P
open Go.RowKit Go.Proofs.YthipdgnbpdngpaaDoor Go.Proofs.YthipdgnbpdngpaaDoorW.PrintWords Go.Proofs.YthipdgnbpdngpaaDoorW.PrintLast Go.Proofs.YthipdgnbpdngpaaDoorW.PrintMore
attribute [local go_sem] max2_int min2_int max_two min_two max_three min_three max_four min_four   -- for this text's walks alone
set_option linter.unusedVariables false
set_option linter.unusedSimpArgs false
mutual
def backseatlaw01_UtfBack.j2 : Nat → ByteArray → Option (Bool)
  | 0, _ => none
  | k + 1, x1 => (utf_First.f k x1).bind fun bt141 => (if bt141.2.2 = 0 then ((utf_Text.f bt141.1).bind fun bt144 => ((backseatlaw01_alive.f k).bind fun t146 => (if t146 = true then (if bt144.2 = 0 then (if bt141.2.1 ≤ (x1.size : Int) then (if 0 ≤ bt141.2.1 then (some (bt144.1.toList == (x1.extract 0 (bt141.2.1 : Int).toNat).toList)) else (none)) else (some false)) else (some false)) else (some false)))) else ((backseatlaw01_alive.f k).bind fun t147 => (if t147 = true then (if bt141.1 = 0 then (if bt141.2.2 = 2 then (if bt141.2.1 = 0 then (some true) else (if bt141.2.2 = 4 then (if bt141.2.1 ≥ 1 then (if bt141.2.1 ≤ (x1.size : Int) then ((utf_Valid.f x1).bind fun t148 => (some (!t148))) else (some false)) else (some false)) else (some false))) else (if bt141.2.2 = 4 then (if bt141.2.1 ≥ 1 then (if bt141.2.1 ≤ (x1.size : Int) then ((utf_Valid.f x1).bind fun t149 => (some (!t149))) else (some false)) else (some false)) else (some false))) else (some false)) else (some false))))
def backseatlaw01_UtfBack.j0 : Nat → ByteArray → ByteArray → Bool → Option (Bool)
  | 0, _, _, _ => none
  | k + 1, x1, x5, x56 => if x56 = true then (some false) else (backseatlaw01_UtfBack.l0 k x1 x5 (x5.size : Int) 0)
def backseatlaw01_UtfBack.l0 : Nat → ByteArray → ByteArray → Int → Int → Option (Bool)
  | 0, _, _, _, _ => none
  | k + 1, x1, x5, x58, x59 => if x59 < x58 then (if 0 ≤ x59 then (if x59 ≤ (x5.size : Int) then ((utf_First.f k (x5.extract 0 (x59 : Int).toNat)).bind fun bt138 => (if bt138.2.2 = 2 then (if bt138.2.1 = 0 then (backseatlaw01_UtfBack.l0 k x1 x5 x58 (wrap64 (x59 + 1))) else (some false)) else (some false))) else (none)) else (none)) else (backseatlaw01_UtfBack.j2 k x1)
end
def backseatlaw01_UtfBack.f (k : Nat) (a0 : Int) (a1 : ByteArray) : Option (Bool) := if 0 ≤ (mn (a1.size : Int) 100) then (if (mn (a1.size : Int) 100) ≤ (a1.size : Int) then ((utf_Text.f a0).bind fun bt132 => (if bt132.2 = 0 then (if bt132.1.size + (a1.extract 0 ((mn (a1.size : Int) 100) : Int).toNat).size ≤ 9223372036854775807 then ((utf_First.f k (bt132.1 ++ (a1.extract 0 ((mn (a1.size : Int) 100) : Int).toNat))).bind fun bt134 => (if bt134.2.2 = 0 then (if bt134.1 = a0 then (if bt134.2.1 = (bt132.1.size : Int) then ((utf_Valid.f bt132.1).bind fun t137 => (backseatlaw01_UtfBack.j0 k (a1.extract 0 ((mn (a1.size : Int) 100) : Int).toNat) bt132.1 (!t137))) else (backseatlaw01_UtfBack.j0 k (a1.extract 0 ((mn (a1.size : Int) 100) : Int).toNat) bt132.1 true)) else (backseatlaw01_UtfBack.j0 k (a1.extract 0 ((mn (a1.size : Int) 100) : Int).toNat) bt132.1 true)) else (backseatlaw01_UtfBack.j0 k (a1.extract 0 ((mn (a1.size : Int) 100) : Int).toNat) bt132.1 true))) else (none)) else (backseatlaw01_UtfBack.j2 k (a1.extract 0 ((mn (a1.size : Int) 100) : Int).toNat)))) else (none)) else (none)
theorem backseatlaw01_UtfBack.mono_l : ∀ k, (∀ y0, LeO (backseatlaw01_UtfBack.j2 k y0) (backseatlaw01_UtfBack.j2 (k + 1) y0)) ∧ (∀ y0 y1 y2, LeO (backseatlaw01_UtfBack.j0 k y0 y1 y2) (backseatlaw01_UtfBack.j0 (k + 1) y0 y1 y2)) ∧ (∀ y0 y1 y2 y3, LeO (backseatlaw01_UtfBack.l0 k y0 y1 y2 y3) (backseatlaw01_UtfBack.l0 (k + 1) y0 y1 y2 y3))
  | 0 => ⟨fun _ r h => by simp [backseatlaw01_UtfBack.j2] at h, fun _ _ _ r h => by simp [backseatlaw01_UtfBack.j0] at h, fun _ _ _ _ r h => by simp [backseatlaw01_UtfBack.l0] at h⟩
  | k + 1 => by
    obtain ⟨ih0, ih1, ih2⟩ := backseatlaw01_UtfBack.mono_l k
    refine ⟨?_, ?_, ?_⟩
    · intro y0
      unfold backseatlaw01_UtfBack.j2
      repeat' first
      | (with_reducible exact ih0 _)
      | (with_reducible exact ih1 _ _ _)
      | (with_reducible exact ih2 _ _ _ _)
      | (with_reducible exact backseatlaw01_alive.mono _)
      | (with_reducible exact utf_First.mono _ _)
      | (with_reducible exact LeO.refl _)
      | (with_reducible exact LeO.none _)
      | (with_reducible refine LeO.ite ?_ ?_)
      | (with_reducible refine LeO.bind ?_ (fun _ => ?_))
      | exact ih0 _
      | exact ih1 _ _ _
      | exact ih2 _ _ _ _
      | exact backseatlaw01_alive.mono _
      | exact utf_First.mono _ _
      | exact LeO.none _
      | refine LeO.ite ?_ ?_
      | refine LeO.bind ?_ (fun _ => ?_)
    · intro y0 y1 y2
      unfold backseatlaw01_UtfBack.j0
      repeat' first
      | (with_reducible exact ih0 _)
      | (with_reducible exact ih1 _ _ _)
      | (with_reducible exact ih2 _ _ _ _)
      | (with_reducible exact backseatlaw01_alive.mono _)
      | (with_reducible exact utf_First.mono _ _)
      | (with_reducible exact LeO.refl _)
      | (with_reducible exact LeO.none _)
      | (with_reducible refine LeO.ite ?_ ?_)
      | (with_reducible refine LeO.bind ?_ (fun _ => ?_))
      | exact ih0 _
      | exact ih1 _ _ _
      | exact ih2 _ _ _ _
      | exact backseatlaw01_alive.mono _
      | exact utf_First.mono _ _
      | exact LeO.none _
      | refine LeO.ite ?_ ?_
      | refine LeO.bind ?_ (fun _ => ?_)
    · intro y0 y1 y2 y3
      unfold backseatlaw01_UtfBack.l0
      repeat' first
      | (with_reducible exact ih0 _)
      | (with_reducible exact ih1 _ _ _)
      | (with_reducible exact ih2 _ _ _ _)
      | (with_reducible exact backseatlaw01_alive.mono _)
      | (with_reducible exact utf_First.mono _ _)
      | (with_reducible exact LeO.refl _)
      | (with_reducible exact LeO.none _)
      | (with_reducible refine LeO.ite ?_ ?_)
      | (with_reducible refine LeO.bind ?_ (fun _ => ?_))
      | exact ih0 _
      | exact ih1 _ _ _
      | exact ih2 _ _ _ _
      | exact backseatlaw01_alive.mono _
      | exact utf_First.mono _ _
      | exact LeO.none _
      | refine LeO.ite ?_ ?_
      | refine LeO.bind ?_ (fun _ => ?_)
theorem backseatlaw01_UtfBack.mono : ∀ a0 a1 k, LeO (backseatlaw01_UtfBack.f k a0 a1) (backseatlaw01_UtfBack.f (k + 1) a0 a1) := by
  intro a0 a1 k
  obtain ⟨ih0, ih1, ih2⟩ := backseatlaw01_UtfBack.mono_l k
  unfold backseatlaw01_UtfBack.f
  repeat' first
      | (with_reducible exact ih0 _)
      | (with_reducible exact ih1 _ _ _)
      | (with_reducible exact ih2 _ _ _ _)
      | (with_reducible exact backseatlaw01_alive.mono _)
      | (with_reducible exact utf_First.mono _ _)
      | (with_reducible exact LeO.refl _)
      | (with_reducible exact LeO.none _)
      | (with_reducible refine LeO.ite ?_ ?_)
      | (with_reducible refine LeO.bind ?_ (fun _ => ?_))
      | exact ih0 _
      | exact ih1 _ _ _
      | exact ih2 _ _ _ _
      | exact backseatlaw01_alive.mono _
      | exact utf_First.mono _ _
      | exact LeO.none _
      | refine LeO.ite ?_ ?_
      | refine LeO.bind ?_ (fun _ => ?_)
end Go.Proofs.YthipdgnbpdngpaaDoor.P
