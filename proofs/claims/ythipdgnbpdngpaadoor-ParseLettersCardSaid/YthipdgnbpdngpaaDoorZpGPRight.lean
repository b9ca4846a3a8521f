-- A copy of the text YthipdgnbpdngpaaDoorGPRight with what this claim does not reach left out (prune.py, a program of this project).
import Derived.Test.YthipdgnbpdngpaaDoorZpGRdG
namespace Go.Proofs.YthipdgnbpdngpaaDoor
open Go.RowKit Go.Proofs.YthipdgnbpdngpaaDoorW.PrintWords S
set_option linter.unusedVariables false
set_option linter.unusedSimpArgs false
def parse_Right.f (a0_0 a0_1 : Int) (l0_2 : List Int) (a0_3 : Int) (a0_4 a0_5 : ByteArray) : Option Bool := some (rightB ⟨a0_0, a0_1, l0_2, a0_3, a0_4, a0_5⟩)
end Go.Proofs.YthipdgnbpdngpaaDoor
