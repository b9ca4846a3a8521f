-- A copy of the text YthipdgnbpdngpaaDoorMValid with what this claim does not reach left out (prune.py, a program of this project).
import Derived.Test.YthipdgnbpdngpaaDoorZbMRef
import Derived.Test.YthipdgnbpdngpaaDoorZbPx5
namespace Go.Proofs.YthipdgnbpdngpaaDoor
open Go.RowKit Go.Lib Go.Proofs.YthipdgnbpdngpaaDoorW.PrintWords Go.Proofs.YthipdgnbpdngpaaDoorW.PrintLast Go.Proofs.YthipdgnbpdngpaaDoor.P
theorem sz_cases (b : Nat) (hb : b < 256) (h128 : 128 ≤ b) (h1 : szN b ≠ 1) : szN b = 2 ∨ szN b = 3 ∨ szN b = 4 := by
  unfold szN at h1 ⊢
  rcases lead_cases _ hb with ⟨hb, hf⟩ | ⟨hb, hf⟩ | ⟨hb, hb', hf⟩ | ⟨hb, hf⟩ | ⟨hb, hf⟩ | ⟨hb, hf⟩ | ⟨hb, hf⟩ | ⟨hb, hb', hf⟩ | ⟨hb, hf⟩ <;> rw [hf] at h1 ⊢ <;> omega
end Go.Proofs.YthipdgnbpdngpaaDoor
