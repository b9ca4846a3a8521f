-- A copy of the text YtplngfammfdemaaMTl with what this claim does not reach left out (prune.py, a program of this project).
import Derived.Test.YtplngfammfdemaaZaMAl
import Derived.Test.YtplngfammfdemaaZaPx7
namespace Go.Proofs.Ytplngfammfdemaa
set_option linter.unusedVariables false
set_option linter.unusedSimpArgs false
open Go.RowKit Go.Proofs.YtplngfammfdemaaW.PrintWords Go.Proofs.YtplngfammfdemaaW.PrintLast Go.Proofs.YtplngfammfdemaaW.PrintMore Go.Proofs.Ytplngfammfdemaa.P
theorem latest_eq (l : List S48) (h : l.length < 1000) : size_Latest.f l = if RightP l then some ((latR l).1.f0, (latR l).1.f1, (latR l).1.f2, (latR l).1.f3, (latR l).2) else some (0, 0, 0, 0, 1) := by
  unfold size_Latest.f; rw [if_pos (by omega)]
end Go.Proofs.Ytplngfammfdemaa
