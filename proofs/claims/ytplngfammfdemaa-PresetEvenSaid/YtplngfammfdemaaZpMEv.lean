-- A copy of the text YtplngfammfdemaaMEv with what this claim does not reach left out (prune.py, a program of this project).
import Derived.Test.YtplngfammfdemaaZpQx18
namespace Go.Proofs.Ytplngfammfdemaa
open Go.RowKit Q
set_option linter.unusedVariables false
theorem alive12 : ∀ k, 30 ≤ k → backseatlaw12_alive.f k = some true := by
  intro k hk
  induction k with
  | zero => omega
  | succ k ih =>
    by_cases h : k = 29
    · subst h; kernel_rfl
    · exact backseatlaw12_alive.mono k _ (ih (by omega))
set_option maxRecDepth 1000000 in
theorem even_small : ∀ c : Nat, c < 81 → ∀ m : Nat, m < 9 → backseatlaw12_PresetEven.f 130 (c : Int) (m : Int) = some true := by decide +kernel
theorem even_refuses (a0 a1 : Int) (h : ¬ (1 ≤ a0 ∧ a0 ≤ 80 ∧ 1 ≤ a1 ∧ a1 ≤ 8)) : preset_Even.f 32 a0 a1 = some ([], 1) := by
  have hj : preset_Even.j0 32 a0 a1 true = some ([], 1) := by
    rw [show (32 : Nat) = 31 + 1 from rfl]
    simp only [preset_Even.j0, if_true]
  unfold preset_Even.f preset_in.f
  by_cases h1 : a0 ≥ 1
  · rw [if_pos h1, Option.bind_some]
    by_cases h2 : a0 ≤ 80
    · rw [if_pos (decide_eq_true h2)]
      by_cases h3 : a1 ≥ 1
      · rw [if_pos h3, Option.bind_some, decide_eq_false (show ¬ a1 ≤ 8 by omega)]
        exact hj
      · rw [if_neg h3, Option.bind_some]
        exact hj
    · rw [if_neg (by simpa using h2)]
      exact hj
  · rw [if_neg h1, Option.bind_some]
    exact hj
theorem PresetEven (a0 a1 : Int) : ∃ k, backseatlaw12_PresetEven.f k a0 a1 = some true := by
  by_cases h : 1 ≤ a0 ∧ a0 ≤ 80 ∧ 1 ≤ a1 ∧ a1 ≤ 8
  · obtain ⟨c, rfl⟩ := Int.eq_ofNat_of_zero_le (show 0 ≤ a0 by omega)
    obtain ⟨m, rfl⟩ := Int.eq_ofNat_of_zero_le (show 0 ≤ a1 by omega)
    exact ⟨130, even_small c (by omega) m (by omega)⟩
  · refine ⟨32, ?_⟩
    have hj : ∀ b, b = true → backseatlaw12_PresetEven.j0 32 a0 a1 [] 1 b = some true := by
      rintro _ rfl
      rw [show (32 : Nat) = 31 + 1 from rfl]
      simp only [backseatlaw12_PresetEven.j0, if_true, alive12 31 (by omega), Option.bind_some]
      rfl
    unfold backseatlaw12_PresetEven.f
    rw [even_refuses a0 a1 h, Option.bind_some]
    by_cases h1 : a0 < 1
    · rw [if_pos h1]; exact hj _ rfl
    · rw [if_neg h1]
      by_cases h2 : a0 > 80
      · rw [if_pos h2]; exact hj _ rfl
      · rw [if_neg h2]
        by_cases h3 : a1 < 1
        · rw [if_pos h3]; exact hj _ rfl
        · rw [if_neg h3]; exact hj _ (decide_eq_true (by omega))
end Go.Proofs.Ytplngfammfdemaa
