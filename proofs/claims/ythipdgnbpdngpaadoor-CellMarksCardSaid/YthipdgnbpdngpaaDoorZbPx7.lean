-- A copy of the text YthipdgnbpdngpaaDoorPx7 with what this claim does not reach left out (prune.py, a program of this project).
import Derived.Test.YthipdgnbpdngpaaDoorZbPx0
import Derived.Test.YthipdgnbpdngpaaDoorZbPx3
import Derived.Test.YthipdgnbpdngpaaDoorZbPx4
import Derived.Test.YthipdgnbpdngpaaDoorZbGText
namespace Go.Proofs.YthipdgnbpdngpaaDoor.P
open Go.RowKit Go.Proofs.YthipdgnbpdngpaaDoor Go.Proofs.YthipdgnbpdngpaaDoorW.PrintWords Go.Proofs.YthipdgnbpdngpaaDoorW.PrintLast Go.Proofs.YthipdgnbpdngpaaDoorW.PrintMore
attribute [local go_sem] max2_int min2_int max_two min_two max_three min_three max_four min_four   -- for this text's walks alone
set_option linter.unusedVariables false
set_option linter.unusedSimpArgs false
mutual
def backseatlaw01_UtfGoes.j2 : Nat → ByteArray → ByteArray → ByteArray → ByteArray → Option (Bool)
  | 0, _, _, _, _ => none
  | k + 1, x0, x1, x5, x6 => if (x6.size : Int) > 3 then (backseatlaw01_UtfGoes.j3 k x0 x1 true) else ((utf_Valid.f x5).bind fun t155 => (if t155 = true then ((utf_Valid.f x0).bind fun t156 => (if t156 = true then (if x5.toList = x0.toList then ((backseatlaw01_alive.f k).bind fun t157 => (backseatlaw01_UtfGoes.j3 k x0 x1 (!t157))) else (backseatlaw01_UtfGoes.j3 k x0 x1 true)) else ((backseatlaw01_alive.f k).bind fun t158 => (backseatlaw01_UtfGoes.j3 k x0 x1 (!t158))))) else (backseatlaw01_UtfGoes.j3 k x0 x1 true)))
def backseatlaw01_UtfGoes.j3 : Nat → ByteArray → ByteArray → Bool → Option (Bool)
  | 0, _, _, _ => none
  | k + 1, x0, x1, x80 => if x80 = true then (some false) else ((utf_Valid.f x0).bind fun t159 => (if t159 = true then (if x0.size + x1.size ≤ 9223372036854775807 then ((utf_Valid.f (x0 ++ x1)).bind fun t160 => ((utf_Valid.f x1).bind fun t161 => (some (t160 == t161)))) else (none)) else (some true)))
def backseatlaw01_UtfGoes.l0 : Nat → ByteArray → ByteArray → ByteArray → ByteArray → Option (Bool)
  | 0, _, _, _, _ => none
  | k + 1, x0, x1, x5, x6 => if x6.toList = ([] : List UInt8) then (backseatlaw01_UtfGoes.j2 k x0 x1 x5 x6) else ((utf_First.f k x6).bind fun bt150 => (if bt150.2.2 = 2 then (backseatlaw01_UtfGoes.j2 k x0 x1 x5 x6) else (if bt150.2.1 < 1 then (backseatlaw01_UtfGoes.j1 k x0 x1 x5 x6 bt150.1 bt150.2.1 bt150.2.2 true) else (if bt150.2.1 > 4 then (backseatlaw01_UtfGoes.j1 k x0 x1 x5 x6 bt150.1 bt150.2.1 bt150.2.2 true) else (backseatlaw01_UtfGoes.j1 k x0 x1 x5 x6 bt150.1 bt150.2.1 bt150.2.2 (decide (bt150.2.1 > (x6.size : Int))))))))
def backseatlaw01_UtfGoes.j1 : Nat → ByteArray → ByteArray → ByteArray → ByteArray → Int → Int → Int → Bool → Option (Bool)
  | 0, _, _, _, _, _, _, _, _ => none
  | k + 1, x0, x1, x5, x6, x7, x8, x9, x44 => if x44 = true then (some false) else (if x9 = 0 then ((utf_Text.f x7).bind fun bt153 => (if bt153.2 = 0 then (if x5.size + bt153.1.size ≤ 9223372036854775807 then (if 0 ≤ x8 then (if x8 ≤ (x6.size : Int) then (backseatlaw01_UtfGoes.l0 k x0 x1 (x5 ++ bt153.1) (x6.extract (x8 : Int).toNat x6.size)) else (none)) else (none)) else (none)) else (some false))) else (if 0 ≤ x8 then (if x8 ≤ (x6.size : Int) then (backseatlaw01_UtfGoes.l0 k x0 x1 x5 (x6.extract (x8 : Int).toNat x6.size)) else (none)) else (none)))
end
def backseatlaw01_UtfGoes.f (k : Nat) (a0 : ByteArray) (a1 : ByteArray) : Option (Bool) := if 0 ≤ (mn (a0.size : Int) 100) then (if (mn (a0.size : Int) 100) ≤ (a0.size : Int) then (if 0 ≤ (mn (a1.size : Int) 100) then (if (mn (a1.size : Int) 100) ≤ (a1.size : Int) then (backseatlaw01_UtfGoes.l0 k (a0.extract 0 ((mn (a0.size : Int) 100) : Int).toNat) (a1.extract 0 ((mn (a1.size : Int) 100) : Int).toNat) (⟨#[]⟩ : ByteArray) (a0.extract 0 ((mn (a0.size : Int) 100) : Int).toNat)) else (none)) else (none)) else (none)) else (none)
theorem backseatlaw01_UtfGoes.mono_l : ∀ k, (∀ y0 y1 y2 y3, LeO (backseatlaw01_UtfGoes.j2 k y0 y1 y2 y3) (backseatlaw01_UtfGoes.j2 (k + 1) y0 y1 y2 y3)) ∧ (∀ y0 y1 y2, LeO (backseatlaw01_UtfGoes.j3 k y0 y1 y2) (backseatlaw01_UtfGoes.j3 (k + 1) y0 y1 y2)) ∧ (∀ y0 y1 y2 y3, LeO (backseatlaw01_UtfGoes.l0 k y0 y1 y2 y3) (backseatlaw01_UtfGoes.l0 (k + 1) y0 y1 y2 y3)) ∧ (∀ y0 y1 y2 y3 y4 y5 y6 y7, LeO (backseatlaw01_UtfGoes.j1 k y0 y1 y2 y3 y4 y5 y6 y7) (backseatlaw01_UtfGoes.j1 (k + 1) y0 y1 y2 y3 y4 y5 y6 y7))
  | 0 => ⟨fun _ _ _ _ r h => by simp [backseatlaw01_UtfGoes.j2] at h, fun _ _ _ r h => by simp [backseatlaw01_UtfGoes.j3] at h, fun _ _ _ _ r h => by simp [backseatlaw01_UtfGoes.l0] at h, fun _ _ _ _ _ _ _ _ r h => by simp [backseatlaw01_UtfGoes.j1] at h⟩
  | k + 1 => by
    obtain ⟨ih0, ih1, ih2, ih3⟩ := backseatlaw01_UtfGoes.mono_l k
    refine ⟨?_, ?_, ?_, ?_⟩
    · intro y0 y1 y2 y3
      unfold backseatlaw01_UtfGoes.j2
      repeat' first
      | (with_reducible exact ih0 _ _ _ _)
      | (with_reducible exact ih1 _ _ _)
      | (with_reducible exact ih2 _ _ _ _)
      | (with_reducible exact ih3 _ _ _ _ _ _ _ _)
      | (with_reducible exact backseatlaw01_alive.mono _)
      | (with_reducible exact utf_First.mono _ _)
      | (with_reducible exact LeO.refl _)
      | (with_reducible exact LeO.none _)
      | (with_reducible refine LeO.ite ?_ ?_)
      | (with_reducible refine LeO.bind ?_ (fun _ => ?_))
      | exact ih0 _ _ _ _
      | exact ih1 _ _ _
      | exact ih2 _ _ _ _
      | exact ih3 _ _ _ _ _ _ _ _
      | exact backseatlaw01_alive.mono _
      | exact utf_First.mono _ _
      | exact LeO.none _
      | refine LeO.ite ?_ ?_
      | refine LeO.bind ?_ (fun _ => ?_)
    · intro y0 y1 y2
      unfold backseatlaw01_UtfGoes.j3
      repeat' first
      | (with_reducible exact ih0 _ _ _ _)
      | (with_reducible exact ih1 _ _ _)
      | (with_reducible exact ih2 _ _ _ _)
      | (with_reducible exact ih3 _ _ _ _ _ _ _ _)
      | (with_reducible exact backseatlaw01_alive.mono _)
      | (with_reducible exact utf_First.mono _ _)
      | (with_reducible exact LeO.refl _)
      | (with_reducible exact LeO.none _)
      | (with_reducible refine LeO.ite ?_ ?_)
      | (with_reducible refine LeO.bind ?_ (fun _ => ?_))
      | exact ih0 _ _ _ _
      | exact ih1 _ _ _
      | exact ih2 _ _ _ _
      | exact ih3 _ _ _ _ _ _ _ _
      | exact backseatlaw01_alive.mono _
      | exact utf_First.mono _ _
      | exact LeO.none _
      | refine LeO.ite ?_ ?_
      | refine LeO.bind ?_ (fun _ => ?_)
    · intro y0 y1 y2 y3
      unfold backseatlaw01_UtfGoes.l0
      repeat' first
      | (with_reducible exact ih0 _ _ _ _)
      | (with_reducible exact ih1 _ _ _)
      | (with_reducible exact ih2 _ _ _ _)
      | (with_reducible exact ih3 _ _ _ _ _ _ _ _)
      | (with_reducible exact backseatlaw01_alive.mono _)
      | (with_reducible exact utf_First.mono _ _)
      | (with_reducible exact LeO.refl _)
      | (with_reducible exact LeO.none _)
      | (with_reducible refine LeO.ite ?_ ?_)
      | (with_reducible refine LeO.bind ?_ (fun _ => ?_))
      | exact ih0 _ _ _ _
      | exact ih1 _ _ _
      | exact ih2 _ _ _ _
      | exact ih3 _ _ _ _ _ _ _ _
      | exact backseatlaw01_alive.mono _
      | exact utf_First.mono _ _
      | exact LeO.none _
      | refine LeO.ite ?_ ?_
      | refine LeO.bind ?_ (fun _ => ?_)
    · intro y0 y1 y2 y3 y4 y5 y6 y7
      unfold backseatlaw01_UtfGoes.j1
      repeat' first
      | (with_reducible exact ih0 _ _ _ _)
      | (with_reducible exact ih1 _ _ _)
      | (with_reducible exact ih2 _ _ _ _)
      | (with_reducible exact ih3 _ _ _ _ _ _ _ _)
      | (with_reducible exact backseatlaw01_alive.mono _)
      | (with_reducible exact utf_First.mono _ _)
      | (with_reducible exact LeO.refl _)
      | (with_reducible exact LeO.none _)
      | (with_reducible refine LeO.ite ?_ ?_)
      | (with_reducible refine LeO.bind ?_ (fun _ => ?_))
      | exact ih0 _ _ _ _
      | exact ih1 _ _ _
      | exact ih2 _ _ _ _
      | exact ih3 _ _ _ _ _ _ _ _
      | exact backseatlaw01_alive.mono _
      | exact utf_First.mono _ _
      | exact LeO.none _
      | refine LeO.ite ?_ ?_
      | refine LeO.bind ?_ (fun _ => ?_)
theorem backseatlaw01_UtfGoes.mono : ∀ a0 a1 k, LeO (backseatlaw01_UtfGoes.f k a0 a1) (backseatlaw01_UtfGoes.f (k + 1) a0 a1) := by
  intro a0 a1 k
  obtain ⟨ih0, ih1, ih2, ih3⟩ := backseatlaw01_UtfGoes.mono_l k
  unfold backseatlaw01_UtfGoes.f
  repeat' first
      | (with_reducible exact ih0 _ _ _ _)
      | (with_reducible exact ih1 _ _ _)
      | (with_reducible exact ih2 _ _ _ _)
      | (with_reducible exact ih3 _ _ _ _ _ _ _ _)
      | (with_reducible exact backseatlaw01_alive.mono _)
      | (with_reducible exact utf_First.mono _ _)
      | (with_reducible exact LeO.refl _)
      | (with_reducible exact LeO.none _)
      | (with_reducible refine LeO.ite ?_ ?_)
      | (with_reducible refine LeO.bind ?_ (fun _ => ?_))
      | exact ih0 _ _ _ _
      | exact ih1 _ _ _
      | exact ih2 _ _ _ _
      | exact ih3 _ _ _ _ _ _ _ _
      | exact backseatlaw01_alive.mono _
      | exact utf_First.mono _ _
      | exact LeO.none _
      | refine LeO.ite ?_ ?_
      | refine LeO.bind ?_ (fun _ => ?_)
end Go.Proofs.YthipdgnbpdngpaaDoor.P
