-- A copy of the text YtplngfammfdemaaGOpen with what this claim does not reach left out (prune.py, a program of this project).
import Derived.Test.YtplngfammfdemaaZyGCont
import Derived.Deep.Slices
import Derived.Deep.Fields
import Derived.ChangeSame
namespace Go.Proofs.Ytplngfammfdemaa
open Go.RowKit Go.Proofs.YtplngfammfdemaaW.PrintWords Go.Proofs.YtplngfammfdemaaW.PrintLast Go.Proofs.YtplngfammfdemaaW.PrintMore P
open Go.ChangeShapes Go.WideShapes Go.Deep
set_option linter.unusedVariables false
section
variable {H : Type} {enc : TypeId × Value → H} {P : Program} {w : World} {base : Nat} {spare : Nat → Bool} {held : Bool}
end
/-- Rows that are read, cell by cell. -/
theorem rows_of {α : Type} {R : α → List Value → Prop} (size : Nat) {w : World} {a : Addr} {len : Nat} (hm : len ≤ 9223372036854775807) (h : ∀ i, i < len → ∃ (x : α) (c : List Value), c.length = size ∧ R x c ∧ ∀ j u, c[j]? = some u → w.cell? (a.add (i * size + j)) = some u) :
    ∃ l : List α, l.length = len ∧ ReadsRow R size w (some a) l.length l := by
  have hl : ∀ m, m ≤ len → ∃ l : List α, l.length = m ∧ ∀ j p, l[j]? = some p → ∃ c, c.length = size ∧ R p c ∧ ∀ i u, c[i]? = some u → w.cell? (a.add (j * size + i)) = some u := by
    intro m
    induction m with
    | zero => exact fun _ => ⟨[], rfl, fun j p h => by simp at h⟩
    | succ m ih =>
      intro hle
      obtain ⟨l, h1, h2⟩ := ih (by omega)
      obtain ⟨x, c, h3, h4, h5⟩ := h m (by omega)
      refine ⟨l ++ [x], by simp [h1], fun j p hj => ?_⟩
      by_cases hjl : j < l.length
      · rw [List.getElem?_append_left hjl] at hj; exact h2 j p hj
      · have hjm : j = m := by
          have := (List.getElem?_eq_some_iff.1 hj).1
          rw [List.length_append, List.length_singleton] at this
          omega
        subst hjm
        rw [List.getElem?_append_right (by omega), h1, Nat.sub_self] at hj
        have : x = p := by simpa using hj
        subst this
        exact ⟨c, h3, h4, h5⟩
  obtain ⟨l, h1, h2⟩ := hl len (Nat.le_refl _)
  exact ⟨l, h1, rfl, by omega, fun _ => ⟨a, rfl, h2⟩⟩
end Go.Proofs.Ytplngfammfdemaa
