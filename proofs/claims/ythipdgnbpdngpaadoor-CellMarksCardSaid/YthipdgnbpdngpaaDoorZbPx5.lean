-- A copy of the text YthipdgnbpdngpaaDoorPx5 with what this claim does not reach left out (prune.py, a program of this project).
import Derived.Test.YthipdgnbpdngpaaDoorZbPx0
import Derived.Test.YthipdgnbpdngpaaDoorZbPx3
import Derived.Test.YthipdgnbpdngpaaDoorZbPx4
namespace Go.Proofs.YthipdgnbpdngpaaDoor.P
open Go.RowKit Go.Proofs.YthipdgnbpdngpaaDoor Go.Proofs.YthipdgnbpdngpaaDoorW.PrintWords Go.Proofs.YthipdgnbpdngpaaDoorW.PrintLast Go.Proofs.YthipdgnbpdngpaaDoorW.PrintMore
attribute [local go_sem] max2_int min2_int max_two min_two max_three min_three max_four min_four   -- for this text's walks alone
set_option linter.unusedVariables false
set_option linter.unusedSimpArgs false
def backseatlaw01_UtfReads.f (k : Nat) (a0 : ByteArray) : Option (Bool) := if 0 ≤ (mn (a0.size : Int) 200) then (if (mn (a0.size : Int) 200) ≤ (a0.size : Int) then ((utf_First.f k (a0.extract 0 ((mn (a0.size : Int) 200) : Int).toNat)).bind fun bt122 => ((backseatref01_First.f k (a0.extract 0 ((mn (a0.size : Int) 200) : Int).toNat)).bind fun bt125 => ((backseatlaw01_alive.f k).bind fun t129 => (if t129 = true then (if bt122.1 = bt125.1 then (if bt122.2.1 = bt125.2.1 then (if bt122.2.2 = bt125.2.2 then ((utf_Valid.f (a0.extract 0 ((mn (a0.size : Int) 200) : Int).toNat)).bind fun t130 => ((backseatref01_Valid.f k (a0.extract 0 ((mn (a0.size : Int) 200) : Int).toNat)).bind fun t131 => (some (t130 == t131)))) else (some false)) else (some false)) else (some false)) else (some false))))) else (none)) else (none)
theorem backseatlaw01_UtfReads.mono : ∀ a0 k, LeO (backseatlaw01_UtfReads.f k a0) (backseatlaw01_UtfReads.f (k + 1) a0) := by
  intro a0 k
  unfold backseatlaw01_UtfReads.f
  repeat' first
      | (with_reducible exact backseatlaw01_alive.mono _)
      | (with_reducible exact backseatref01_First.mono _ _)
      | (with_reducible exact backseatref01_Valid.mono _ _)
      | (with_reducible exact utf_First.mono _ _)
      | (with_reducible exact LeO.refl _)
      | (with_reducible exact LeO.none _)
      | (with_reducible refine LeO.ite ?_ ?_)
      | (with_reducible refine LeO.bind ?_ (fun _ => ?_))
      | exact backseatlaw01_alive.mono _
      | exact backseatref01_First.mono _ _
      | exact backseatref01_Valid.mono _ _
      | exact utf_First.mono _ _
      | exact LeO.none _
      | refine LeO.ite ?_ ?_
      | refine LeO.bind ?_ (fun _ => ?_)
end Go.Proofs.YthipdgnbpdngpaaDoor.P
