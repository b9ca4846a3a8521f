-- A copy of the text YtplngfammfdemaaGLayFn with what this claim does not reach left out (prune.py, a program of this project).
import Derived.Test.YtplngfammfdemaaZlGMul
namespace Go.Proofs.Ytplngfammfdemaa
open Go.RowKit Go.Proofs.YtplngfammfdemaaW.PrintWords Go.Proofs.YtplngfammfdemaaW.PrintLast Go.Proofs.YtplngfammfdemaaW.PrintMore Q
structure LayFn where
  f : FuncId
  hx : ∃ fn : Func, Try.prog.funcs[f]? = some fn ∧ (fn.name == "runtime.NumGoroutine") = false ∧ fn.body.isSome = true
  F : Nat → Int → Int → List Int → Option (Int × Int × Int × (List (S31)) × Bool)
  mono : ∀ a0 a1 a2 k, LeO (F k a0 a1 a2) (F (k + 1) a0 a1 a2)
  calls : ∀ (k : Nat) (a0_0 a0_1 : Int) (A1 : Option Addr) (c1 : Nat) (l1 : List Int) (r1 r2 r3 : Int) (r4 : List (S31)) (r5 : Bool) (w : World) (_ : Kd.C (Kd.int .i64) w A1 l1.length l1) (_ : l1.length ≤ c1) (_ : F k a0_0 a0_1 l1 = some (r1, r2, r3, r4, r5)),
    Calls Try.prog f #[.agg #[.int .i64 a0_0, .int .i64 a0_1], .slice A1 l1.length c1] w fun e w' => ∃ v3_ : Value, e = .returned (.tuple #[.agg #[.int .i64 r1, .int .i64 r2, .int .i64 r3, v3_], .bool r5]) ∧ Kd.R k31 31 w' w.heap.size (fun _ => True) v3_ r4 ∧ Below w.heap.size w w'
theorem LayFn.hf (Y : LayFn) : Try.prog.funcs[Y.f]? = some Y.hx.choose := Y.hx.choose_spec.1
theorem LayFn.hn (Y : LayFn) : (Y.hx.choose.name == "runtime.NumGoroutine") = false := Y.hx.choose_spec.2.1
theorem LayFn.hb (Y : LayFn) : Y.hx.choose.body.isSome = true := Y.hx.choose_spec.2.2
end Go.Proofs.Ytplngfammfdemaa
