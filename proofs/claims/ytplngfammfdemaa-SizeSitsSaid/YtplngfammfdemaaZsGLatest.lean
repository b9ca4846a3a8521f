-- A copy of the text YtplngfammfdemaaGLatest with what this claim does not reach left out (prune.py, a program of this project).
import Derived.Test.YtplngfammfdemaaZsGLat
import Derived.Test.YtplngfammfdemaaZsMSz
namespace Go.Proofs.Ytplngfammfdemaa
open Go.RowKit Go.Shelf Go.Proofs.YtplngfammfdemaaW.PrintWords Go.Proofs.YtplngfammfdemaaW.PrintLast Go.Proofs.YtplngfammfdemaaW.PrintMore P
set_option linter.unusedVariables false
set_option linter.unusedSimpArgs false
theorem abides_below {B : Nat} {J : List S48 → World → Prop} (h : AbidesFrom B J) : ∀ s W W', J s W → Below W.heap.size W W' → J s W' := fun s W W' hs hb => h s W W' none hs (grown_of_below hb none) (fun r e => by cases e)
def size_Latest.f (l : List S48) : Option (Int × Int × Int × Int × Int) :=
  if l.length < 1000000000000000000 then (if RightP l then some ((latR l).1.f0, (latR l).1.f1, (latR l).1.f2, (latR l).1.f3, (latR l).2) else some (0, 0, 0, 0, 1)) else none
end Go.Proofs.Ytplngfammfdemaa
