-- A copy of the text YthipdgnbpdngpaaDoorGPRight with what this claim does not reach left out (prune.py, a program of this project).
import Derived.Test.YthipdgnbpdngpaaDoorZpGRdG
namespace Go.Proofs.YthipdgnbpdngpaaDoor
open Go.RowKit Go.Proofs.YthipdgnbpdngpaaDoorW.PrintWords S
set_option linter.unusedVariables false
set_option linter.unusedSimpArgs false
def parse_Right.f (a0_0 a0_1 : Int) (l0_2 : List Int) (a0_3 : Int) (a0_4 a0_5 : ByteArray) : Option Bool := some (rightB ⟨a0_0, a0_1, l0_2, a0_3, a0_4, a0_5⟩)
theorem parse_Right.calls (a0_0 a0_1 : Int) (A0_2 : Option Addr) (c0_2 : Nat) (l0_2 : List Int) (a0_3 : Int) (a0_4 a0_5 : ByteArray) (r : Bool) (w : World) (hr0_2 : Kd.C (Kd.int .i64) w A0_2 l0_2.length l0_2) (hc0_2 : l0_2.length ≤ c0_2) (h : parse_Right.f a0_0 a0_1 l0_2 a0_3 a0_4 a0_5 = some r) (hT : TabsAt w := by first | with_reducible assumption | exact tabs_here (by with_reducible assumption) (by repeat (with_reducible first | assumption | apply below_alloc | apply pw_below_drewN | apply below_drew1 | (refine Below.setCell ?_ ?_ _) | exact Aside0.out (by assumption)))) :
    Calls Tryd.prog 34 #[.agg #[.int .i64 a0_0, .int .i64 a0_1, .slice A0_2 l0_2.length c0_2, .int .i64 a0_3, .string a0_4, .string a0_5]] w fun e w' => e = .returned (.bool r) ∧ Below w.heap.size w w' := by
  obtain rfl := Option.some.inj h
  exact right_calls ⟨a0_0, a0_1, l0_2, a0_3, a0_4, a0_5⟩ A0_2 c0_2 w hr0_2 hc0_2 hT
end Go.Proofs.YthipdgnbpdngpaaDoor
