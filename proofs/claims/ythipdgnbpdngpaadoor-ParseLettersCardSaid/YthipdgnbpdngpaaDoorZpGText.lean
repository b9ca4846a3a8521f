-- A copy of the text YthipdgnbpdngpaaDoorGText with what this claim does not reach left out (prune.py, a program of this project).
import Derived.Test.YthipdgnbpdngpaaDoorZpGFull
import Derived.Lib.Hide
namespace Go.Proofs.YthipdgnbpdngpaaDoor
open Go.RowKit Go.Lib Go.Proofs.YthipdgnbpdngpaaDoorW.PrintWords Go.Proofs.YthipdgnbpdngpaaDoorW.PrintLast
def utf8_FullRuneInString.f (a0 : ByteArray) : Option Bool := some (fullB a0)
theorem utf8_FullRuneInString.calls (a0 : ByteArray) (r : Bool) (w : World) (h : utf8_FullRuneInString.f a0 = some r) (hT : TabsAt w := by first | with_reducible assumption | exact tabs_here (by with_reducible assumption) (by repeat (with_reducible first | assumption | apply below_alloc | apply pw_below_drewN | apply below_drew1 | (refine Below.setCell ?_ ?_ _) | exact Aside0.out (by assumption)))) :
    Calls Tryd.prog 40 #[.string a0] w fun e w' => e = .returned (.bool r) ∧ Below w.heap.size w w' := by
  obtain rfl := Option.some.inj h
  exact full_any a0 w hT
def utf8_DecodeRuneInString.f (a0 : ByteArray) : Option (Int × Int) := some (((Lib.decodeGo a0).1 : Int), ((Lib.decodeGo a0).2 : Int))
theorem utf8_DecodeRuneInString.calls (a0 : ByteArray) (r1 : Int) (r2 : Int) (w : World) (h : utf8_DecodeRuneInString.f a0 = some (r1, r2)) (hT : TabsAt w := by first | with_reducible assumption | exact tabs_here (by with_reducible assumption) (by repeat (with_reducible first | assumption | apply below_alloc | apply pw_below_drewN | apply below_drew1 | (refine Below.setCell ?_ ?_ _) | exact Aside0.out (by assumption)))) :
    Calls Tryd.prog 41 #[.string a0] w fun e w' => e = .returned (.tuple #[.int .i32 r1, .int .i64 r2]) ∧ Below w.heap.size w w' := by
  have h' := Option.some.inj h
  simp only [Prod.mk.injEq] at h'
  obtain ⟨rfl, rfl⟩ := h'
  exact Tryd.utf8_DecodeRuneInString a0 w hT
def utf8_ValidString.f (a0 : ByteArray) : Option Bool := if a0.size ≤ 9223372036854775807 then some (Lib.validD a0.data.toList) else none
def utf_Text.f (a0 : Int) : Option (ByteArray × Int) := if Lib.validRune a0 = true then some (Utf8.encode a0, 0) else some ((⟨#[]⟩ : ByteArray), 1)
end Go.Proofs.YthipdgnbpdngpaaDoor
