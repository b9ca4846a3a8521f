-- A copy of the text YtplngfammfdemaaGHow with what this claim does not reach left out (prune.py, a program of this project).
import Derived.Test.YtplngfammfdemaaZpQx6
import Derived.Test.YtplngfammfdemaaZpQx7
import Derived.Test.YtplngfammfdemaaZpQx9
import Derived.Test.YtplngfammfdemaaZpQx11
import Derived.Test.YtplngfammfdemaaZpQx13
namespace Go.Proofs.Ytplngfammfdemaa
open Go.RowKit Go.Proofs.YtplngfammfdemaaW.PrintWords Go.Proofs.YtplngfammfdemaaW.PrintLast Go.Proofs.YtplngfammfdemaaW.PrintMore Q
set_option linter.unusedVariables false
set_option linter.unusedSimpArgs false
noncomputable def layFn : Nat → Func
  | 0 => Try.f46
  | 1 => Try.f47
  | 2 => Try.f48
  | 3 => Try.f49
  | _ => Try.f50
theorem layFn_at {i : Nat} (h : i < 5) : Try.prog.funcs[46 + i]? = some (layFn i) := by
  rcases (show i = 0 ∨ i = 1 ∨ i = 2 ∨ i = 3 ∨ i = 4 by omega) with rfl | rfl | rfl | rfl | rfl
  · exact Try.func46
  · exact Try.func47
  · exact Try.func48
  · exact Try.func49
  · exact Try.func50
theorem layFn_name {i : Nat} (h : i < 5) : ((layFn i).name == "runtime.NumGoroutine") = false := by
  rcases (show i = 0 ∨ i = 1 ∨ i = 2 ∨ i = 3 ∨ i = 4 by omega) with rfl | rfl | rfl | rfl | rfl <;> kernel_rfl
theorem layFn_body {i : Nat} (h : i < 5) : (layFn i).body.isSome = true := by
  rcases (show i = 0 ∨ i = 1 ∨ i = 2 ∨ i = 3 ∨ i = 4 by omega) with rfl | rfl | rfl | rfl | rfl <;> rfl
theorem layHow_cell {w : World} {g i : Nat} (hb : w.heap[g]? = some (.cells #[.func (.func 46) #[] #[], .func (.func 47) #[] #[], .func (.func 48) #[] #[], .func (.func 49) #[] #[], .func (.func 50) #[] #[]] 84 (0, 0))) (h : i < 5) : w.cell? ⟨g, i, none⟩ = some (.func (.func (46 + i)) #[] #[]) := by
  rcases (show i = 0 ∨ i = 1 ∨ i = 2 ∨ i = 3 ∨ i = 4 by omega) with rfl | rfl | rfl | rfl | rfl
  · exact (blk_cell hb 0).trans rfl
  · exact (blk_cell hb 1).trans rfl
  · exact (blk_cell hb 2).trans rfl
  · exact (blk_cell hb 3).trans rfl
  · exact (blk_cell hb 4).trans rfl
def preset_layHow.f (k : Nat) (i w h : Int) (l : List Int) : Option (Int × Int × Int × (List (S31)) × Bool) :=
  if i = 0 then preset_size_row.f k w h l else if i = 1 then preset_size_pile.f k w h l else if i = 2 then preset_size_left.f k w h l else if i = 3 then preset_size_top.f k w h l else if i = 4 then preset_size_rows.f k w h l else none
theorem preset_layHow.mono : ∀ a0 a1 a2 a3 k, LeO (preset_layHow.f k a0 a1 a2 a3) (preset_layHow.f (k + 1) a0 a1 a2 a3) := by
  intro a0 a1 a2 a3 k
  unfold preset_layHow.f
  refine LeO.ite (preset_size_row.mono _ _ _ _) (LeO.ite (preset_size_pile.mono _ _ _ _) (LeO.ite (preset_size_left.mono _ _ _ _) (LeO.ite (preset_size_top.mono _ _ _ _) (LeO.ite (preset_size_rows.mono _ _ _ _) (LeO.refl _)))))
theorem layHow_idx {k : Nat} {i w h : Int} {l : List Int} {r : Int × Int × Int × (List (S31)) × Bool} (hf : preset_layHow.f k i w h l = some r) : ∃ j : Nat, j < 5 ∧ i = (j : Int) := by
  unfold preset_layHow.f at hf
  by_cases h0 : i = 0
  · exact ⟨0, by omega, h0⟩
  by_cases h1 : i = 1
  · exact ⟨1, by omega, h1⟩
  by_cases h2 : i = 2
  · exact ⟨2, by omega, h2⟩
  by_cases h3 : i = 3
  · exact ⟨3, by omega, h3⟩
  by_cases h4 : i = 4
  · exact ⟨4, by omega, h4⟩
  rw [if_neg h0, if_neg h1, if_neg h2, if_neg h3, if_neg h4] at hf
  cases hf
theorem toN {f : FuncId} {args : Array Value} {w : World} {r1 r2 r3 : Int} {r4 : List S31} {r5 : Bool} (h : Calls Try.prog f args w fun e w' => ∃ v3_ : Value, e = .returned (.tuple #[.agg #[.int .i64 r1, .int .i64 r2, .int .i64 r3, v3_], .bool r5]) ∧ Kd.R k31 31 w' w.heap.size (fun _ => True) v3_ r4 ∧ Below w.heap.size w w') :
    Calls Try.prog f args w fun e w' => ∃ v3_ : Value, e = .returned (.tuple #[.agg #[.int .i64 r1, .int .i64 r2, .int .i64 r3, v3_], .bool r5]) ∧ Kd.N k31 31 w' w.heap.size (fun k_ => w.heap.size ≤ k_) v3_ r4 ∧ Below w.heap.size w w' := by
  refine h.mono ?_
  rintro e w' ⟨v, rfl, hr, hb⟩
  exact ⟨v, rfl, Kd.N_mono (Kd.R_N (Kd.R_bound hr)) (fun k hk => hk.2.1), hb⟩
theorem preset_layHow.callsN (k j : Nat) (a0_0 a0_1 : Int) (A1 : Option Addr) (c1 : Nat) (l1 : List Int) (r1 : Int) (r2 : Int) (r3 : Int) (r4 : List (S31)) (r5 : Bool) (w : World) (hr1 : Kd.C (Kd.int .i64) w A1 l1.length l1) (hc1 : l1.length ≤ c1) (h : preset_layHow.f k (j : Int) a0_0 a0_1 l1 = some (r1, r2, r3, r4, r5)) :
    Calls Try.prog (46 + j) #[.agg #[.int .i64 a0_0, .int .i64 a0_1], .slice A1 l1.length c1] w fun e w' => ∃ v3_ : Value, e = .returned (.tuple #[.agg #[.int .i64 r1, .int .i64 r2, .int .i64 r3, v3_], .bool r5]) ∧ Kd.N k31 31 w' w.heap.size (fun k_ => w.heap.size ≤ k_) v3_ r4 ∧ Below w.heap.size w w' := by
  obtain ⟨j', hj, he⟩ := layHow_idx h
  have : j = j' := by omega
  subst this
  rcases (show j = 0 ∨ j = 1 ∨ j = 2 ∨ j = 3 ∨ j = 4 by omega) with rfl | rfl | rfl | rfl | rfl
  · exact toN (preset_size_row.calls k a0_0 a0_1 A1 c1 l1 r1 r2 r3 r4 r5 w hr1 hc1 h)
  · exact toN (preset_size_pile.calls k a0_0 a0_1 A1 c1 l1 r1 r2 r3 r4 r5 w hr1 hc1 h)
  · exact preset_size_left.calls k a0_0 a0_1 A1 c1 l1 r1 r2 r3 r4 r5 w hr1 hc1 h
  · exact preset_size_top.calls k a0_0 a0_1 A1 c1 l1 r1 r2 r3 r4 r5 w hr1 hc1 h
  · exact toN (preset_size_rows.calls k a0_0 a0_1 A1 c1 l1 r1 r2 r3 r4 r5 w hr1 hc1 h)
end Go.Proofs.Ytplngfammfdemaa
