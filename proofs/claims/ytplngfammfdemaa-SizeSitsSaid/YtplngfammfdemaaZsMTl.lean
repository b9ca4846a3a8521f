-- A copy of the text YtplngfammfdemaaMTl with what this claim does not reach left out (prune.py, a program of this project).
import Derived.Test.YtplngfammfdemaaZsMAl
import Derived.Test.YtplngfammfdemaaZsPx7
namespace Go.Proofs.Ytplngfammfdemaa
set_option linter.unusedVariables false
set_option linter.unusedSimpArgs false
open Go.RowKit Go.Proofs.YtplngfammfdemaaW.PrintWords Go.Proofs.YtplngfammfdemaaW.PrintLast Go.Proofs.YtplngfammfdemaaW.PrintMore Go.Proofs.Ytplngfammfdemaa.P
theorem few_eq (l : List S48) : backseatlaw16_few.f l = some (l.take (min l.length 8)) := by
  unfold backseatlaw16_few.f
  have e : mn (l.length : Int) 8 = ((min l.length 8 : Nat) : Int) := by unfold mn; split <;> omega
  rw [e, if_pos (by omega), if_pos (by omega), Int.toNat_natCast]
theorem few_len (l : List S48) : (l.take (min l.length 8)).length ≤ 8 := by rw [List.length_take]; omega
end Go.Proofs.Ytplngfammfdemaa
