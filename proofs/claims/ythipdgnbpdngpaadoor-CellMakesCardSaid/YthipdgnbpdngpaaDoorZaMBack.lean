-- A copy of the text YthipdgnbpdngpaaDoorMBack with what this claim does not reach left out (prune.py, a program of this project).
import Derived.Test.YthipdgnbpdngpaaDoorZaMEnc
import Derived.Test.YthipdgnbpdngpaaDoorZaPx6
import Derived.Test.YthipdgnbpdngpaaDoorZaPx7
namespace Go.Proofs.YthipdgnbpdngpaaDoor
open Go.RowKit Go.Lib Go.Proofs.YthipdgnbpdngpaaDoorW.PrintWords Go.Proofs.YthipdgnbpdngpaaDoorW.PrintLast Go.Proofs.YthipdgnbpdngpaaDoorW.PrintMore Go.Proofs.YthipdgnbpdngpaaDoor.P
theorem ba_ext (a b : ByteArray) (h : a.data.toList = b.data.toList) : a = b := ByteArray.ext (Array.ext' h)
theorem enc_size (r : Int) : (Utf8.encode r).size = (enc r).length := (len_size _).symm
end Go.Proofs.YthipdgnbpdngpaaDoor
