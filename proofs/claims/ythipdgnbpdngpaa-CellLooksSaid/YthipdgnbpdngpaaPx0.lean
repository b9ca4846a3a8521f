-- Written by hybrid.py, a program of this project, for the seat Ythipdgnbpdngpaa.
import Derived.Test.YthipdgnbpdngpaaProg
import Derived.Below
import Derived.Deep.Draws
import Derived.Deep.AppendLies
import Derived.Maps.AppendAt
import Derived.OwnWalk
import Derived.Laws.BytesArg
import Derived.Laws.MakeOwn
import Derived.Laws.OwnMore
import Derived.Deep.OwnRows
import Derived.Tactics
import Derived.Lib.ConvBytes
import Derived.Laws.Slices
import Derived.WalkKit
import Derived.KernelRfl
import Derived.RowKit3
import Derived.Deep.LoopGhost
import Derived.Deep.QuietTactic
import Derived.BigQuiet
import Derived.WideLaws
import Derived.Deep.DeepCutAuto
import Derived.Deep.CutBlock
import Derived.Deep.RegionHeld3
import Derived.Laws.Rows
import Derived.Lib.AppendStr
import Derived.ArgAppend
import Derived.Laws.IdiomCopy
import Derived.OrdersHeld
import Derived.Laws.BitsLemmas
import Derived.RowKit
import Derived.Test.YthipdgnbpdngpaaWWords
import Derived.Test.YthipdgnbpdngpaaWLast
import Derived.Test.YthipdgnbpdngpaaWTab
import Derived.Test.YthipdgnbpdngpaaWFour
import Derived.Test.YthipdgnbpdngpaaWQPut
import Derived.Test.YthipdgnbpdngpaaWApart
import Derived.Test.YthipdgnbpdngpaaWArr
import Derived.Test.YthipdgnbpdngpaaWZeros
import Derived.Test.YthipdgnbpdngpaaWFoot
import Derived.Test.YthipdgnbpdngpaaWKept
import Derived.Test.YthipdgnbpdngpaaWShare
import Derived.Test.YthipdgnbpdngpaaWN
import Derived.Test.YthipdgnbpdngpaaWFootNe
import Derived.Test.YthipdgnbpdngpaaWAt
import Derived.Test.YthipdgnbpdngpaaWEqStruct
import Derived.Test.YthipdgnbpdngpaaWRepsOne
import Derived.Test.YthipdgnbpdngpaaWInv
import Derived.Test.YthipdgnbpdngpaaWInvWords
import Derived.Test.YthipdgnbpdngpaaWGuard
import Derived.Test.YthipdgnbpdngpaaWNEv
import Derived.Test.YthipdgnbpdngpaaWMore
namespace Go.Proofs.Ythipdgnbpdngpaa.P
open Go.RowKit Go.Proofs.Ythipdgnbpdngpaa Go.Proofs.YthipdgnbpdngpaaW.PrintWords Go.Proofs.YthipdgnbpdngpaaW.PrintLast Go.Proofs.YthipdgnbpdngpaaW.PrintMore
attribute [local go_sem] max2_int min2_int max_two min_two max_three min_three max_four min_four   -- for this text's walks alone
set_option linter.unusedVariables false
set_option linter.unusedSimpArgs false



def errW : Option Int → Value
  | none => .nilIface
  | some c => .iface 0 (.int .i64 c)
theorem errW_none : errW none = .nilIface := rfl
theorem errW_some (c : Int) : errW (some c) = .iface 0 (.int .i64 c) := rfl

theorem info3 : (Try.prog.info? 3).map (fun i => (i.zero, i.size, i.bytes)) = some (some (.int .i64 0), 1, 8) := by kernel_rfl
-- the values' own types

end Go.Proofs.Ythipdgnbpdngpaa.P
