-- A copy of the text YtplngfammfdemaaMTell with what this claim does not reach left out (prune.py, a program of this project).
import Derived.Test.YtplngfammfdemaaZtMRf
import Derived.Test.YtplngfammfdemaaZtGOf
namespace Go.Proofs.Ytplngfammfdemaa
set_option linter.unusedVariables false
set_option linter.unusedSimpArgs false
open Go.RowKit Go.Proofs.YtplngfammfdemaaW.PrintWords Go.Proofs.YtplngfammfdemaaW.PrintLast Go.Proofs.YtplngfammfdemaaW.PrintMore Go.Proofs.Ytplngfammfdemaa.P
theorem fold_same (l : List S48) (h : ∀ x ∈ l, mayP x) : ∀ b : S48, b.f0 ≠ 0 → l.foldl better b = l.foldl refB b ∧ (l.foldl better b = b ∨ l.foldl better b ∈ l) := by
  induction l with
  | nil => intro b _; exact ⟨rfl, .inl rfl⟩
  | cons x l ih =>
    intro b hb
    have hx := h x (List.mem_cons_self)
    have e : better b x = refB b x := by unfold better refB; rw [if_neg hb]
    have hb' : (better b x).f0 ≠ 0 := by
      unfold better
      split
      · have := hx.1; omega
      · exact hb
    obtain ⟨h1, h2⟩ := ih (fun y hy => h y (List.mem_cons_of_mem _ hy)) (better b x) hb'
    rw [List.foldl_cons, List.foldl_cons, ← e]
    refine ⟨h1, ?_⟩
    rcases h2 with h2 | h2
    · rw [h2]
      unfold better
      split
      · exact .inr (List.mem_cons_self)
      · exact .inl rfl
    · exact .inr (List.mem_cons_of_mem _ h2)
theorem best_cons (x : S48) (l : List S48) (h : ∀ y ∈ x :: l, mayP y) : latR (x :: l) = (refBest (x :: l), 0) ∧ mayP (refBest (x :: l)) := by
  have hx := h x (List.mem_cons_self)
  obtain ⟨h1, h2⟩ := fold_same l (fun y hy => h y (List.mem_cons_of_mem _ hy)) x (by have := hx.1; omega)
  have e1 : bestF (x :: l) = l.foldl better x := by
    unfold bestF
    rw [List.foldl_cons]
    congr 1
    unfold better
    rw [if_pos (by have := hx.2.2.2.2.2.2.1; show (-1 : Int) < x.f3; omega)]
  have e2 : refBest (x :: l) = l.foldl refB x := by
    unfold refBest
    rw [List.foldl_cons]
    rfl
  have hm : mayP (refBest (x :: l)) := by
    rw [e2, ← h1]
    rcases h2 with h2 | h2
    · rw [h2]; exact hx
    · exact h _ (List.mem_cons_of_mem _ h2)
  refine ⟨?_, hm⟩
  unfold latR
  rw [e1, h1, ← e2, if_neg (by have := hm.2.2.2.2.2.2.1; omega)]
/-- Latest, of seats that may be: as the reference has it. -/
theorem best_all (l : List S48) (h : ∀ y ∈ l, mayP y) : ((refBest l).f0 = 0 ∧ latR l = (⟨0, 0, 0, 0⟩, 5) ∧ refBest l = ⟨0, 0, 0, 0⟩) ∨ (1 ≤ (refBest l).f0 ∧ latR l = (refBest l, 0) ∧ mayP (refBest l)) := by
  cases l with
  | nil => exact .inl ⟨rfl, rfl, rfl⟩
  | cons x l =>
    obtain ⟨h1, h2⟩ := best_cons x l h
    exact .inr ⟨h2.1, h1, h2⟩
end Go.Proofs.Ytplngfammfdemaa
