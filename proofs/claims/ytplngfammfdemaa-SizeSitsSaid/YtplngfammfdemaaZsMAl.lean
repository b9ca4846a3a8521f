-- A copy of the text YtplngfammfdemaaMAl with what this claim does not reach left out (prune.py, a program of this project).
import Derived.Test.YtplngfammfdemaaZsMRf
import Derived.Test.YtplngfammfdemaaZsGOf
import Derived.Test.YtplngfammfdemaaZsPx5
namespace Go.Proofs.Ytplngfammfdemaa
open Go.RowKit Go.Proofs.YtplngfammfdemaaW.PrintWords Go.Proofs.YtplngfammfdemaaW.PrintLast Go.Proofs.YtplngfammfdemaaW.PrintMore Go.Proofs.Ytplngfammfdemaa.P
set_option maxRecDepth 100000 in
theorem alive_at : backseatlaw16_alive.f 12 = some true := by kernel_rfl
theorem alive_ev : Ev (fun k => backseatlaw16_alive.f k) true := Ev.of (fun k => backseatlaw16_alive.mono k) 12 alive_at
end Go.Proofs.Ytplngfammfdemaa
