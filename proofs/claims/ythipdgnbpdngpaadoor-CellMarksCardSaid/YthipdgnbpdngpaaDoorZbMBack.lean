-- A copy of the text YthipdgnbpdngpaaDoorMBack with what this claim does not reach left out (prune.py, a program of this project).
import Derived.Test.YthipdgnbpdngpaaDoorZbMEnc
import Derived.Test.YthipdgnbpdngpaaDoorZbPx6
import Derived.Test.YthipdgnbpdngpaaDoorZbPx7
namespace Go.Proofs.YthipdgnbpdngpaaDoor
open Go.RowKit Go.Lib Go.Proofs.YthipdgnbpdngpaaDoorW.PrintWords Go.Proofs.YthipdgnbpdngpaaDoorW.PrintLast Go.Proofs.YthipdgnbpdngpaaDoorW.PrintMore Go.Proofs.YthipdgnbpdngpaaDoor.P
theorem enc_size (r : Int) : (Utf8.encode r).size = (enc r).length := (len_size _).symm
end Go.Proofs.YthipdgnbpdngpaaDoor
