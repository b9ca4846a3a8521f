-- A copy of the text YtplngfammfdemaaGVal with what this claim does not reach left out (prune.py, a program of this project).
import Derived.Test.YtplngfammfdemaaZaPx0
import Derived.RangeFuncNested
import Derived.RangeFuncBound
import Derived.RangeFuncCalls
import Derived.RangeFuncLeaves
import Derived.Shelf.Abstract
import Derived.Shelf.RegionOpen
import Derived.WalkKit
import Derived.OwnWalkIn
import Derived.TacticsInMore
import Derived.LoopNIn
import Derived.LoopIn
namespace Go.Proofs.Ytplngfammfdemaa
open Go.RowKit Go.Shelf Go.Proofs.YtplngfammfdemaaW.PrintWords Go.Proofs.YtplngfammfdemaaW.PrintLast Go.Proofs.YtplngfammfdemaaW.PrintMore P
attribute [local go_sem] Oper.semAt_some
set_option linter.unusedVariables false
set_option linter.unusedSimpArgs false
def seatW (x : S48) : Value := .agg #[.int .i64 x.f0, .int .i64 x.f1, .int .i64 x.f2, .int .i64 x.f3]
def uptoS (l : List S48) (k : Nat) : List S48 := (List.range k).map fun j : Nat => rd_T48 l (j : Int)
theorem uptoS_succ (l : List S48) (k : Nat) : uptoS l (k + 1) = uptoS l k ++ [rd_T48 l (k : Int)] := by simp [uptoS, List.range_succ]
theorem uptoS_length (l : List S48) (k : Nat) : (uptoS l k).length = k := by simp [uptoS]
theorem uptoS_all (l : List S48) : uptoS l l.length = l := by
  apply List.ext_getElem
  · simp [uptoS]
  · intro i h1 h2
    simp only [uptoS, List.getElem_map, List.getElem_range]
    unfold rd_T48
    rw [Int.toNat_natCast, List.getD_eq_getElem?_getD, List.getElem?_eq_getElem h2]; rfl
set_option maxRecDepth 100000 in
set_option maxHeartbeats 4000000 in
theorem values1_in (F : Fence) (n : Nat) (h99 : F.fn 99) (hro : F.round = none) (hn : 1 ≤ n) (l Bs : Nat) (A : Option Addr) (c : Nat) (zs : List S48) (w0 : World) (hlen : zs.length < 1000000000000000000) (hBs : w0.cell? ⟨Bs, 0, none⟩ = some (.slice A zs.length c)) (hC : Kd.C k48 w0 A zs.length zs) (J Jx : List S48 → World → Prop)
    (hJ : ∀ s W W', J s W → Below W.heap.size W W' → J s W')
    (hY : ∀ pre x W, J pre W → pre.length < zs.length → YieldAt F (n - 1) Try.prog l #[seatW x] W fun e W' =>
      (e = .returned (.bool true) ∧ J (pre ++ [x]) W' ∧ Below w0.heap.size W W') ∨ (e = .returned (.bool false) ∧ Jx (pre ++ [x]) W'))
    (W : World) (hW : Below w0.heap.size w0 W) (h0 : J [] W) :
    CallsIn F n Try.prog 99 #[.func (.yield l) #[] #[], .pointer (some ⟨Bs, 0, none⟩)] W fun e W' => (∃ v, e = .returned v) ∧
      ((∃ ys, ys = zs ∧ J ys W') ∨ (∃ pre, Jx pre W')) := by
  have hBs1 := (hW.cell (World.block_lt_of_cell? w0 _ hBs)).trans hBs
  have hu48 := Try.underlying48
  have HC := Aside0.mk hC
  have HL := Aside0.mk hlen
  have HW := Aside0.mk hW
  clear hC hlen hW hBs
  refine callsIn_of_wp Try.func99 rfl h99 ?_ hro
  simp only [Try.ntmps99, List.size_toArray, List.length_cons, List.length_nil, Nat.reduceAdd, Nat.reduceSub, Array.replicate_succ, Array.replicate_zero, List.push_toArray, List.append_toArray, List.nil_append, List.cons_append]
  gi_wp2
  gi_loopw [7] (fun i wr => ∃ k : Nat, i = .int .i64 k ∧ Aside0 (k ≤ zs.length ∧ J (uptoS zs k) wr ∧ Below w0.heap.size w0 wr))
    (fun i _ => zs.length - (intOf i).toNat)
  case atStart => exact ⟨0, rfl, ⟨Nat.zero_le _, h0, HW.out⟩⟩
  case round =>
    obtain ⟨k, rfl, HJ⟩ := hrel
    obtain ⟨hk, hJs, hB⟩ := HJ.out
    have hl := HL.out
    by_cases hlt : k < zs.length
    · have c4b0 : decide ((k : Int) < (zs.length : Int)) = true := decide_eq_true (by omega)
      have p228 : 0 ≤ (k : Int) := by omega
      have q228 : (k : Int) < (zs.length : Int) := by omega
      obtain ⟨ad228, e228, hx0, hx1, hx2, hx3⟩ := at_T48 HC.out k p228 q228
      cases e228
      rw [Int.toNat_natCast] at hx0 hx1 hx2 hx3
      replace hx0 := (hB.cell (World.block_lt_of_cell? w0 _ hx0)).trans hx0
      replace hx1 := (hB.cell (World.block_lt_of_cell? w0 _ hx1)).trans hx1
      replace hx2 := (hB.cell (World.block_lt_of_cell? w0 _ hx2)).trans hx2
      replace hx3 := (hB.cell (World.block_lt_of_cell? w0 _ hx3)).trans hx3
      replace p228 := eq_true p228
      replace q228 := eq_true q228
      obtain ⟨fn, tmps, assign, body, hy, hR⟩ := hY _ (rd_T48 zs k) (wr.alloc (.cells #[.int .i64 (rd_T48 zs k).f0, .int .i64 (rd_T48 zs k).f1, .int .i64 (rd_T48 zs k).f2, .int .i64 (rd_T48 zs k).f3] 48)) (hJ _ _ _ hJs ((Below.refl _ _).alloc (Nat.le_refl _) _)) (by rw [uptoS_length]; exact hlt)
      unfold seatW at hy
      have HBw := Aside0.mk hB
      have HJs := Aside0.mk hJs
      clear hB hJs HJ
      gi_wp2
      refine hR.mono ?_
      rintro e W3 (⟨rfl, hJ3, hk3⟩ | ⟨rfl, hJx3⟩)
      · have HJ3 := Aside0.mk hJ3
        have HK3 := Aside0.mk hk3
        clear hJ3 hk3
        gi_wp2
        go_roundw
        case rel => exact ⟨k + 1, by simp, ⟨by omega, by rw [uptoS_succ]; exact HJ3.out, (HBw.out.alloc HBw.out.size _).trans HK3.out⟩⟩
        case measure => simp [intOf]; omega
      · gi_wp2
        refine bodyPost_ret (results_none rfl _ _ _) rfl ?_
        exact ⟨⟨_, rfl⟩, .inr ⟨_, hJx3⟩⟩
    · obtain rfl : k = zs.length := by omega
      have c4b0 : decide ((zs.length : Int) < (zs.length : Int)) = false := decide_eq_false (by omega)
      gi_wp2
      go_end0
      exact ⟨⟨_, rfl⟩, .inl ⟨_, uptoS_all zs, hJs⟩⟩
end Go.Proofs.Ytplngfammfdemaa
