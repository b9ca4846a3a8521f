-- A copy of the text YthipdgnbpdngpaaDoorGBegins with what this claim does not reach left out (prune.py, a program of this project).
import Derived.Test.YthipdgnbpdngpaaDoorZbGBytes
import Derived.Test.YthipdgnbpdngpaaDoorZbPx3
import Derived.Lib.AtoiErrMem
import Derived.Deep.DeepMust
namespace Go.Proofs.YthipdgnbpdngpaaDoor
open Go.RowKit Go.Lib Go.Proofs.YthipdgnbpdngpaaDoorW.PrintWords Go.Proofs.YthipdgnbpdngpaaDoorW.PrintLast Go.Proofs.YthipdgnbpdngpaaDoor.P
/-- From place k on all bytes but the first may stand behind a first one. -/
def contFrom (s : ByteArray) (k : Nat) : Bool := (List.range s.size).all fun j => decide (j < k) || (decide (128 ≤ bt s (j : Int)) && decide (bt s (j : Int) ≤ 191))
def padB (s : ByteArray) (n : Nat) (c : Int) : ByteArray := strOfNums (bytesOf s ++ List.replicate (n - s.size) c)
def floorZ (n : Int) : Int := rd [0, 0, 128, 2048, 65536] n
def endsB (lo hi fl : Int) : Bool := !(decide (hi < fl) || decide (lo > 1114111)) && (decide (lo < 55296) || decide (hi > 57343))
def backseatref01_begins.f (a0 : ByteArray) (a1 : Int) : Option Bool :=
  if 1 ≤ a1 ∧ a1 ≤ 4 then
    (if (a0.size : Int) > a1 then some false else if contFrom a0 1 = false then some false else
      (backseatref01_value.f 10 (padB a0 a1.toNat 128)).bind fun lo => (backseatref01_value.f 10 (padB a0 a1.toNat 191)).bind fun hi => some (endsB lo hi (floorZ a1)))
  else none
end Go.Proofs.YthipdgnbpdngpaaDoor
