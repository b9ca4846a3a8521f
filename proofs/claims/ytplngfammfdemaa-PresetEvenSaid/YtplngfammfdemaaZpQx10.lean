-- A copy of the text YtplngfammfdemaaQx10 with what this claim does not reach left out (prune.py, a program of this project).
import Derived.Test.YtplngfammfdemaaZpQx0
import Derived.Test.YtplngfammfdemaaZpQx3
import Derived.Test.YtplngfammfdemaaZpQx4
import Derived.Test.YtplngfammfdemaaZpQx6
import Derived.Test.YtplngfammfdemaaZpGFn
import Derived.Test.YtplngfammfdemaaZpQx8
import Derived.Test.YtplngfammfdemaaZpGLayFn
namespace Go.Proofs.Ytplngfammfdemaa.Q
open Go.RowKit Go.Proofs.Ytplngfammfdemaa Go.Proofs.YtplngfammfdemaaW.PrintWords Go.Proofs.YtplngfammfdemaaW.PrintLast Go.Proofs.YtplngfammfdemaaW.PrintMore
attribute [local go_sem] max2_int min2_int max_two min_two max_three min_three max_four min_four   -- for this text's walks alone
set_option linter.unusedVariables false
set_option linter.unusedSimpArgs false
def layRow_ : LayFn := ⟨46, ⟨_, Try.func46, by kernel_rfl, rfl⟩, fun k w h l => preset_size_row.f k w h l, fun a0 a1 a2 k => preset_size_row.mono a0 a1 a2 k, preset_size_row.calls⟩
def preset_mainRow.f (k : Nat) (a0 a0_ a1 : Int) (a2 : List Int) (a3 : Int) : Option (Int × Int × Int × (List (S31)) × Bool) := preset_mainG.f layRow_ k a0 a0_ a1 a2 a3
theorem preset_mainRow.mono : ∀ a0 a1 a2 a3 a4 k, LeO (preset_mainRow.f k a0 a1 a2 a3 a4) (preset_mainRow.f (k + 1) a0 a1 a2 a3 a4) := preset_mainG.mono layRow_
theorem preset_mainRow.calls (k : Nat) (a0_0 : Int) (a0_1 : Int) (a1 : Int) (A2 : Option Addr) (c2 : Nat) (l2 : List Int) (a3 : Int) (r1 : Int) (r2 : Int) (r3 : Int) (r4 : List (S31)) (r5 : Bool) (w : World) (hr2 : Kd.C (Kd.int .i64) w A2 l2.length l2) (hc2 : l2.length ≤ c2) (h : preset_mainRow.f k a0_0 a0_1 a1 l2 a3 = some (r1, r2, r3, r4, r5)) :
    Calls Try.prog 92 #[.agg #[.int .i64 a0_0, .int .i64 a0_1], .int .i64 a1, .slice A2 l2.length c2, .func (.func 46) #[] #[]] w fun e w' => ∃ v3_ : Value, e = .returned (.tuple #[.agg #[.int .i64 r1, .int .i64 r2, .int .i64 r3, v3_], .bool r5]) ∧ Kd.N k31 31 w' w.heap.size (fun k_ => (w.heap.size ≤ k_)) v3_ r4 ∧ Below w.heap.size w w' := preset_mainG.calls layRow_ k a0_0 a0_1 a1 A2 c2 l2 a3 r1 r2 r3 r4 r5 w hr2 hc2 h
end Go.Proofs.Ytplngfammfdemaa.Q
