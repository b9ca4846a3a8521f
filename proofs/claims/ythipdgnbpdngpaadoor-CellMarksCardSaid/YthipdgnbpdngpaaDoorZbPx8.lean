-- A copy of the text YthipdgnbpdngpaaDoorPx8 with what this claim does not reach left out (prune.py, a program of this project).
import Derived.Test.YthipdgnbpdngpaaDoorZbPx0
namespace Go.Proofs.YthipdgnbpdngpaaDoor.P
open Go.RowKit Go.Proofs.YthipdgnbpdngpaaDoor Go.Proofs.YthipdgnbpdngpaaDoorW.PrintWords Go.Proofs.YthipdgnbpdngpaaDoorW.PrintLast Go.Proofs.YthipdgnbpdngpaaDoorW.PrintMore
attribute [local go_sem] max2_int min2_int max_two min_two max_three min_three max_four min_four   -- for this text's walks alone
set_option linter.unusedVariables false
set_option linter.unusedSimpArgs false
def backseatref01_Is.f (a0 : Int) : Option (Bool) := if a0 ≥ 0 then (if a0 ≤ 1114111 then (if a0 < 55296 then (some true) else (some (decide (a0 > 57343)))) else (some false)) else (some false)
def backseatref01_in.f (a0 : Int) (a1 : Int) (a2 : Int) : Option (Bool) := if a0 ≥ a1 then (some (decide (a0 ≤ a2))) else (some false)
mutual
def backseatref01_Width.j0 : Nat → Int → Bool → Option (Int)
  | 0, _, _ => none
  | k + 1, x0, x13 => if x13 = true then (some (-1)) else ((backseatref01_in.f x0 768 879).bind fun t164 => (if t164 = true then (backseatref01_Width.j1 k x0 true) else ((backseatref01_in.f x0 8203 8205).bind fun t165 => (if t165 = true then (backseatref01_Width.j1 k x0 true) else ((backseatref01_in.f x0 65024 65039).bind fun t166 => (backseatref01_Width.j1 k x0 t166))))))
def backseatref01_Width.j1 : Nat → Int → Bool → Option (Int)
  | 0, _, _ => none
  | k + 1, x0, x23 => if x23 = true then (some 0) else ((backseatref01_in.f x0 4352 4447).bind fun t167 => (if t167 = true then (backseatref01_Width.j2 k x0 true) else ((backseatref01_in.f x0 12353 19903).bind fun t168 => (if t168 = true then (backseatref01_Width.j2 k x0 true) else ((backseatref01_in.f x0 19968 40959).bind fun t169 => (if t169 = true then (backseatref01_Width.j2 k x0 true) else ((backseatref01_in.f x0 44032 55203).bind fun t170 => (backseatref01_Width.j2 k x0 t170))))))))
def backseatref01_Width.j2 : Nat → Int → Bool → Option (Int)
  | 0, _, _ => none
  | k + 1, x0, x37 => if x37 = true then (some 2) else ((backseatref01_in.f x0 63744 64255).bind fun t171 => (if t171 = true then (some 2) else ((backseatref01_in.f x0 65281 65376).bind fun t172 => (if t172 = true then (some 2) else ((backseatref01_in.f x0 127744 129791).bind fun t173 => (if t173 = true then (some 2) else ((backseatref01_in.f x0 131072 262141).bind fun t174 => (if t174 = true then (some 2) else (some 1)))))))))
end
def backseatref01_Width.f (k : Nat) (a0 : Int) : Option (Int) := (backseatref01_Is.f a0).bind fun t162 => (if t162 = true then (if a0 < 32 then (backseatref01_Width.j0 k a0 true) else ((backseatref01_in.f a0 127 159).bind fun t163 => (backseatref01_Width.j0 k a0 t163))) else (backseatref01_Width.j0 k a0 true))
theorem backseatref01_Width.mono_l : ∀ k, (∀ y0 y1, LeO (backseatref01_Width.j0 k y0 y1) (backseatref01_Width.j0 (k + 1) y0 y1)) ∧ (∀ y0 y1, LeO (backseatref01_Width.j1 k y0 y1) (backseatref01_Width.j1 (k + 1) y0 y1)) ∧ (∀ y0 y1, LeO (backseatref01_Width.j2 k y0 y1) (backseatref01_Width.j2 (k + 1) y0 y1))
  | 0 => ⟨fun _ _ r h => by simp [backseatref01_Width.j0] at h, fun _ _ r h => by simp [backseatref01_Width.j1] at h, fun _ _ r h => by simp [backseatref01_Width.j2] at h⟩
  | k + 1 => by
    obtain ⟨ih0, ih1, ih2⟩ := backseatref01_Width.mono_l k
    refine ⟨?_, ?_, ?_⟩
    · intro y0 y1
      unfold backseatref01_Width.j0
      repeat' first
      | (with_reducible exact ih0 _ _)
      | (with_reducible exact ih1 _ _)
      | (with_reducible exact ih2 _ _)
      | (with_reducible exact LeO.refl _)
      | (with_reducible exact LeO.none _)
      | (with_reducible refine LeO.ite ?_ ?_)
      | (with_reducible refine LeO.bind ?_ (fun _ => ?_))
      | exact ih0 _ _
      | exact ih1 _ _
      | exact ih2 _ _
      | exact LeO.none _
      | refine LeO.ite ?_ ?_
      | refine LeO.bind ?_ (fun _ => ?_)
    · intro y0 y1
      unfold backseatref01_Width.j1
      repeat' first
      | (with_reducible exact ih0 _ _)
      | (with_reducible exact ih1 _ _)
      | (with_reducible exact ih2 _ _)
      | (with_reducible exact LeO.refl _)
      | (with_reducible exact LeO.none _)
      | (with_reducible refine LeO.ite ?_ ?_)
      | (with_reducible refine LeO.bind ?_ (fun _ => ?_))
      | exact ih0 _ _
      | exact ih1 _ _
      | exact ih2 _ _
      | exact LeO.none _
      | refine LeO.ite ?_ ?_
      | refine LeO.bind ?_ (fun _ => ?_)
    · intro y0 y1
      unfold backseatref01_Width.j2
      repeat' first
      | (with_reducible exact ih0 _ _)
      | (with_reducible exact ih1 _ _)
      | (with_reducible exact ih2 _ _)
      | (with_reducible exact LeO.refl _)
      | (with_reducible exact LeO.none _)
      | (with_reducible refine LeO.ite ?_ ?_)
      | (with_reducible refine LeO.bind ?_ (fun _ => ?_))
      | exact ih0 _ _
      | exact ih1 _ _
      | exact ih2 _ _
      | exact LeO.none _
      | refine LeO.ite ?_ ?_
      | refine LeO.bind ?_ (fun _ => ?_)
theorem backseatref01_Width.mono : ∀ a0 k, LeO (backseatref01_Width.f k a0) (backseatref01_Width.f (k + 1) a0) := by
  intro a0 k
  obtain ⟨ih0, ih1, ih2⟩ := backseatref01_Width.mono_l k
  unfold backseatref01_Width.f
  repeat' first
      | (with_reducible exact ih0 _ _)
      | (with_reducible exact ih1 _ _)
      | (with_reducible exact ih2 _ _)
      | (with_reducible exact LeO.refl _)
      | (with_reducible exact LeO.none _)
      | (with_reducible refine LeO.ite ?_ ?_)
      | (with_reducible refine LeO.bind ?_ (fun _ => ?_))
      | exact ih0 _ _
      | exact ih1 _ _
      | exact ih2 _ _
      | exact LeO.none _
      | refine LeO.ite ?_ ?_
      | refine LeO.bind ?_ (fun _ => ?_)
def backseatref01_Size.f (a0 : Int) : Option (Int) := if a0 < 128 then (some 1) else (if a0 < 2048 then (some 2) else (if a0 < 65536 then (some 3) else (some 4)))
end Go.Proofs.YthipdgnbpdngpaaDoor.P
