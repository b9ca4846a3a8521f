-- A copy of the text YthipdgnbpdngpaaDoorMWrite with what this claim does not reach left out (prune.py, a program of this project).
import Derived.Test.YthipdgnbpdngpaaDoorZbMBack
import Derived.Test.YthipdgnbpdngpaaDoorZbPx9
namespace Go.Proofs.YthipdgnbpdngpaaDoor
open Go.RowKit Go.Lib Go.Proofs.YthipdgnbpdngpaaDoorW.PrintWords Go.Proofs.YthipdgnbpdngpaaDoorW.PrintLast Go.Proofs.YthipdgnbpdngpaaDoorW.PrintMore Go.Proofs.YthipdgnbpdngpaaDoor.P
theorem in_go (r a b : Int) : backseatref01_in.f r a b = some (decide (a ≤ r ∧ r ≤ b)) := by
  unfold backseatref01_in.f
  by_cases h : r ≥ a
  · rw [if_pos h]; congr 1; rw [decide_eq_decide]; omega
  · rw [if_neg h]; congr 1; symm; rw [decide_eq_false_iff_not]; omega
theorem is_go (r : Int) : backseatref01_Is.f r = some (Lib.validRune r) := by
  unfold backseatref01_Is.f Lib.validRune
  repeat' split
  all_goals (congr 1; first | (symm; rw [decide_eq_true_eq]; omega) | (symm; rw [decide_eq_false_iff_not]; omega) | (rw [decide_eq_decide]; omega))
theorem wj0 (k : Nat) (x : Int) (b : Bool) : backseatref01_Width.j0 (k + 1) x b = if b = true then (some (-1)) else ((backseatref01_in.f x 768 879).bind fun t164 => (if t164 = true then (backseatref01_Width.j1 k x true) else ((backseatref01_in.f x 8203 8205).bind fun t165 => (if t165 = true then (backseatref01_Width.j1 k x true) else ((backseatref01_in.f x 65024 65039).bind fun t166 => (backseatref01_Width.j1 k x t166)))))) := by simp only [backseatref01_Width.j0]
theorem wj1 (k : Nat) (x : Int) (b : Bool) : backseatref01_Width.j1 (k + 1) x b = if b = true then (some 0) else ((backseatref01_in.f x 4352 4447).bind fun t167 => (if t167 = true then (backseatref01_Width.j2 k x true) else ((backseatref01_in.f x 12353 19903).bind fun t168 => (if t168 = true then (backseatref01_Width.j2 k x true) else ((backseatref01_in.f x 19968 40959).bind fun t169 => (if t169 = true then (backseatref01_Width.j2 k x true) else ((backseatref01_in.f x 44032 55203).bind fun t170 => (backseatref01_Width.j2 k x t170)))))))) := by simp only [backseatref01_Width.j1]
theorem wj2 (k : Nat) (x : Int) (b : Bool) : backseatref01_Width.j2 (k + 1) x b = if b = true then (some 2) else ((backseatref01_in.f x 63744 64255).bind fun t171 => (if t171 = true then (some 2) else ((backseatref01_in.f x 65281 65376).bind fun t172 => (if t172 = true then (some 2) else ((backseatref01_in.f x 127744 129791).bind fun t173 => (if t173 = true then (some 2) else ((backseatref01_in.f x 131072 262141).bind fun t174 => (if t174 = true then (some 2) else (some 1)))))))) ) := by simp only [backseatref01_Width.j2]
theorem width_go (r : Int) (k : Nat) (hk : 5 ≤ k) : backseatref01_Width.f k r = some (widthZ r) := by
  obtain ⟨k, rfl⟩ : ∃ m, k = m + 1 + 1 + 1 := ⟨k - 3, by omega⟩
  unfold backseatref01_Width.f widthZ
  rw [is_go, Option.bind_some]
  cases hv : Lib.validRune r with
  | false => rw [if_neg (by decide), wj0, if_pos rfl, if_pos (.inl rfl)]
  | true =>
    rw [if_pos rfl]
    by_cases h32 : r < 32
    · rw [if_pos h32, wj0, if_pos rfl, if_pos (.inr (.inl h32))]
    rw [if_neg h32, in_go, Option.bind_some, wj0]
    by_cases hc : 127 ≤ r ∧ r < 160
    · rw [if_pos (by rw [decide_eq_true_eq]; omega), if_pos (.inr (.inr hc))]
    rw [if_neg (by rw [decide_eq_true_eq]; omega), if_neg (by rintro (h | h | h) <;> first | exact h32 h | exact hc h | exact absurd h (by decide))]
    simp only [in_go, Option.bind_some, zeroL, wideL, List.any_cons, List.any_nil, inSpan, wj1, wj2, decide_eq_true_eq, Bool.or_false, Bool.or_eq_true, Bool.and_eq_true, if_true]
    repeat' split
    all_goals first | rfl | (exfalso; omega)
end Go.Proofs.YthipdgnbpdngpaaDoor
