-- A copy of the text YthipdgnbpdngpaaDoorTabs with what this claim does not reach left out (prune.py, a program of this project).
import Derived.Test.YthipdgnbpdngpaaDoorZpGFull
import Derived.Test.YthipdgnbpdngpaaDoorRows
import Derived.PinnedBridge
import Derived.Lib.LaidU8T
import Derived.MakeChecks
namespace Go.Proofs.YthipdgnbpdngpaaDoor
open Go.RowKit Go.Shelf Go.Lib
theorem xU : U8Extra Tryd.prog Tryd.lays260_ren := ⟨by kernel_rfl, by kernel_rfl, by kernel_rfl, by kernel_rfl, by kernel_rfl, by kernel_rfl, by kernel_rfl⟩
theorem accept_eq : (Rows.laid_unicode_utf8_acceptRanges : DataW Unit) = acceptData := by kernel_rfl
theorem tabs_of {w : World} {l : List (String × DataW Unit)} (hL : laidMet Tryd.prog l w) (h1 : ("unicode/utf8.first", Rows.laid_unicode_utf8_first) ∈ l) (h2 : ("unicode/utf8.acceptRanges", Rows.laid_unicode_utf8_acceptRanges) ∈ l) : TabsAt w := by
  have a := Lib.laidMet.reads hL h1
  have b := Lib.laidMet.reads hL h2
  unfold Rows.laid_unicode_utf8_first at a
  rw [Pinned.utf8First_eq] at a
  rw [accept_eq] at b
  exact utf8Tabs_of_readsT (U8Types.of260 Tryd.lays260) xU a b
theorem own : ownKnob Tryd.prog.godebug = none := by kernel_rfl
end Go.Proofs.YthipdgnbpdngpaaDoor
