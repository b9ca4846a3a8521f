-- A copy of the text YthipdgnbpdngpaaDoorPx0 with what this claim does not reach left out (prune.py, a program of this project).
import Derived.Test.YthipdgnbpdngpaaDoorProg
import Derived.Below
import Derived.Deep.Draws
import Derived.Deep.AppendLies
import Derived.Maps.AppendAt
import Derived.OwnWalk
import Derived.Laws.BytesArg
import Derived.Laws.MakeOwn
import Derived.Laws.OwnMore
import Derived.Deep.OwnRows
import Derived.Tactics
import Derived.Lib.ConvBytes
import Derived.Laws.Slices
import Derived.WalkKit
import Derived.KernelRfl
import Derived.RowKit3
import Derived.Deep.LoopGhost
import Derived.Deep.QuietTactic
import Derived.BigQuiet
import Derived.WideLaws
import Derived.Deep.DeepCutAuto
import Derived.Deep.CutBlock
import Derived.Deep.RegionHeld3
import Derived.Laws.Rows
import Derived.Lib.AppendStr
import Derived.ArgAppend
import Derived.Laws.IdiomCopy
import Derived.OrdersHeld
import Derived.Laws.BitsLemmas
import Derived.RowKit
import Derived.Test.YthipdgnbpdngpaaDoorZpWWords
import Derived.Test.YthipdgnbpdngpaaDoorZpWLast
import Derived.Test.YthipdgnbpdngpaaDoorZpWTab
import Derived.Test.YthipdgnbpdngpaaDoorZpWApart
import Derived.Test.YthipdgnbpdngpaaDoorZpWFoot
import Derived.Test.YthipdgnbpdngpaaDoorZpWKept
import Derived.Test.YthipdgnbpdngpaaDoorZpWShare
import Derived.Test.YthipdgnbpdngpaaDoorZpWN
import Derived.Laws.StructEq
import Derived.Test.YthipdgnbpdngpaaDoorZpWRepsOne
import Derived.Test.YthipdgnbpdngpaaDoorZpWInv
import Derived.Test.YthipdgnbpdngpaaDoorZpWGuard
import Derived.Test.YthipdgnbpdngpaaDoorZpWNEv
import Derived.Test.YthipdgnbpdngpaaDoorZpWMore
namespace Go.Proofs.YthipdgnbpdngpaaDoor.P
open Go.RowKit Go.Proofs.YthipdgnbpdngpaaDoor Go.Proofs.YthipdgnbpdngpaaDoorW.PrintWords Go.Proofs.YthipdgnbpdngpaaDoorW.PrintLast Go.Proofs.YthipdgnbpdngpaaDoorW.PrintMore
attribute [local go_sem] max2_int min2_int max_two min_two max_three min_three max_four min_four   -- for this text's walks alone
set_option linter.unusedVariables false
set_option linter.unusedSimpArgs false
def errW : Option Int → Value
  | none => .nilIface
  | some c => .iface 0 (.int .i64 c)
theorem errW_none : errW none = .nilIface := rfl
theorem errW_some (c : Int) : errW (some c) = .iface 0 (.int .i64 c) := rfl
theorem info3 : (Tryd.prog.info? 3).map (fun i => (i.zero, i.size, i.bytes)) = some (some (.int .i64 0), 1, 8) := by kernel_rfl
theorem info5 : (Tryd.prog.info? 5).map (fun i => (i.zero, i.size, i.bytes)) = some (some (.int .u8 0), 1, 1) := by kernel_rfl
theorem info21 : (Tryd.prog.info? 21).map (fun i => (i.zero, i.size, i.bytes)) = some (some (.int .i32 0), 1, 4) := by kernel_rfl
end Go.Proofs.YthipdgnbpdngpaaDoor.P
