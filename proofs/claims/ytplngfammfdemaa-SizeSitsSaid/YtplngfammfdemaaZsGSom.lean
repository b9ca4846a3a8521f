-- A copy of the text YtplngfammfdemaaGSom with what this claim does not reach left out (prune.py, a program of this project).
import Derived.Test.YtplngfammfdemaaZsGVal
import Derived.RangeFuncNested
import Derived.RangeFuncBound
import Derived.RangeFuncCalls
import Derived.RangeFuncLeaves
import Derived.Shelf.Abstract
import Derived.Shelf.RegionOpen
import Derived.WalkKit
import Derived.OwnWalkIn
import Derived.TacticsInMore
import Derived.LoopNIn
import Derived.LoopIn
namespace Go.Proofs.Ytplngfammfdemaa
open Go.RowKit Go.Shelf Go.Proofs.YtplngfammfdemaaW.PrintWords Go.Proofs.YtplngfammfdemaaW.PrintLast Go.Proofs.YtplngfammfdemaaW.PrintMore P
attribute [local go_sem] Oper.semAt_some
set_option linter.unusedVariables false
set_option linter.unusedSimpArgs false
theorem filter_take_succ (p : Int → Bool) (zs : List S48) (k : Nat) (h : k < zs.length) : (zs.take (k + 1)).filter (fun x => p x.f0) = (zs.take k).filter (fun x => p x.f0) ++ (if p (rd_T48 zs (k : Int)).f0 = true then [rd_T48 zs (k : Int)] else []) := by
  have e : rd_T48 zs (k : Int) = zs[k] := by unfold rd_T48; rw [Int.toNat_natCast, List.getD_eq_getElem?_getD, List.getElem?_eq_getElem h]; rfl
  rw [e, List.take_succ_eq_append_getElem h, List.filter_append]
  cases h : p zs[k].f0 <;> simp [h]
set_option maxRecDepth 100000 in
set_option maxHeartbeats 4000000 in
theorem some1_in (n : Nat) (hn : 2 ≤ n) (g : FuncId) (lb : Array Value) (p : Int → Bool) (l Bs Bo : Nat) (A : Option Addr) (c : Nat) (zs : List S48) (w0 : World) (hlen : zs.length < 1000000000000000000) (hBs : w0.cell? ⟨Bs, 0, none⟩ = some (.slice A zs.length c)) (hBo : w0.cell? ⟨Bo, 0, none⟩ = some (.func (.func 64) #[] lb)) (hC : Kd.C k48 w0 A zs.length zs) (J Jx : List S48 → World → Prop)
    (hof : ∀ W, Below w0.heap.size w0 W → ∀ c : Int, CallsIn Fence.wide (n - 1) Try.prog 64 (#[.int .i64 c] ++ lb) W fun e W' => e = .returned (.bool (p c)) ∧ Below W.heap.size W W')
    (hJ : ∀ s W W', J s W → Below W.heap.size W W' → J s W')
    (hY : ∀ pre x W, J pre W → pre.length < zs.length → YieldAt Fence.wide (n - 1) Try.prog l #[seatW x] W fun e W' =>
      (e = .returned (.bool true) ∧ J (pre ++ [x]) W' ∧ Below w0.heap.size W W') ∨ (e = .returned (.bool false) ∧ Jx (pre ++ [x]) W'))
    (W : World) (hW : Below w0.heap.size w0 W) (h0 : J [] W) :
    CallsIn Fence.wide n Try.prog 100 #[.func (.yield l) #[] #[], .pointer (some ⟨Bs, 0, none⟩), .pointer (some ⟨Bo, 0, none⟩)] W fun e W' => (∃ v, e = .returned v) ∧
      ((∃ ys, ys = zs.filter (fun x => p x.f0) ∧ J ys W') ∨ (∃ pre, Jx pre W')) := by
  have hBs1 := (hW.cell (World.block_lt_of_cell? w0 _ hBs)).trans hBs
  have hu48 := Try.underlying48
  have HC := Aside0.mk hC
  have HL := Aside0.mk hlen
  have HW := Aside0.mk hW
  have HOF := Aside0.mk hof
  have HBo := Aside0.mk hBo
  clear hC hlen hW hBs hof hBo
  refine callsIn_of_wp Try.func100 rfl trivial ?_ rfl
  simp only [Try.ntmps100, List.size_toArray, List.length_cons, List.length_nil, Nat.reduceAdd, Nat.reduceSub, Array.replicate_succ, Array.replicate_zero, List.push_toArray, List.append_toArray, List.nil_append, List.cons_append]
  gi_wp2
  gi_loopw [8] (fun i wr => ∃ k : Nat, i = .int .i64 k ∧ Aside0 (k ≤ zs.length ∧ J ((zs.take k).filter (fun x => p x.f0)) wr ∧ Below w0.heap.size w0 wr))
    (fun i _ => zs.length - (intOf i).toNat)
  case atStart => exact ⟨0, rfl, ⟨Nat.zero_le _, h0, HW.out⟩⟩
  case round =>
    obtain ⟨k, rfl, HJ⟩ := hrel
    obtain ⟨hk, hJs, hB⟩ := HJ.out
    have hl := HL.out
    have hBo1 := (hB.cell (World.block_lt_of_cell? w0 _ HBo.out)).trans HBo.out
    have hBo3 : Bo < wr.heap.size := World.block_lt_of_cell? _ _ hBo1
    by_cases hlt : k < zs.length
    · have c4b0 : decide ((k : Int) < (zs.length : Int)) = true := decide_eq_true (by omega)
      have p228 : 0 ≤ (k : Int) := by omega
      have q228 : (k : Int) < (zs.length : Int) := by omega
      obtain ⟨ad228, e228, hx0, hx1, hx2, hx3⟩ := at_T48 HC.out k p228 q228
      cases e228
      rw [Int.toNat_natCast] at hx0 hx1 hx2 hx3
      replace hx0 := (hB.cell (World.block_lt_of_cell? w0 _ hx0)).trans hx0
      replace hx1 := (hB.cell (World.block_lt_of_cell? w0 _ hx1)).trans hx1
      replace hx2 := (hB.cell (World.block_lt_of_cell? w0 _ hx2)).trans hx2
      replace hx3 := (hB.cell (World.block_lt_of_cell? w0 _ hx3)).trans hx3
      replace p228 := eq_true p228
      replace q228 := eq_true q228
      have htk := filter_take_succ p zs k hlt
      have HT := Aside0.mk htk
      clear htk
      have HBw := Aside0.mk hB
      have HJs := Aside0.mk hJs
      clear hB hJs HJ
      have hof1 := HOF.out (wr.alloc (.cells #[.int .i64 (rd_T48 zs k).f0, .int .i64 (rd_T48 zs k).f1, .int .i64 (rd_T48 zs k).f2, .int .i64 (rd_T48 zs k).f3] 48)) (HBw.out.alloc HBw.out.size _) (rd_T48 zs k).f0
      have HA0 := Aside0.mk (Below.alloc (Below.refl wr.heap.size wr) (Nat.le_refl _) (.cells #[.int .i64 (rd_T48 zs k).f0, .int .i64 (rd_T48 zs k).f1, .int .i64 (rd_T48 zs k).f2, .int .i64 (rd_T48 zs k).f3] 48))
      have HBK := Aside0.mk (blk_new wr (.cells #[.int .i64 (rd_T48 zs k).f0, .int .i64 (rd_T48 zs k).f1, .int .i64 (rd_T48 zs k).f2, .int .i64 (rd_T48 zs k).f3] 48))
      have HOF1 := Aside0.mk hof1
      clear hof1
      gi_wp2
      refine ⟨trivial, fun _ => by omega, ?_⟩
      refine HOF1.out.mono ?_
      rintro e w1 ⟨rfl, hb⟩
      have hz0 : w1.cell? ⟨wr.heap.size, 0, none⟩ = some (.int .i64 (rd_T48 zs k).f0) := (blk_cell (blk_below HBK.out hb) 0).trans rfl
      have hz1 : w1.cell? ⟨wr.heap.size, 1, none⟩ = some (.int .i64 (rd_T48 zs k).f1) := (blk_cell (blk_below HBK.out hb) 1).trans rfl
      have hz2 : w1.cell? ⟨wr.heap.size, 2, none⟩ = some (.int .i64 (rd_T48 zs k).f2) := (blk_cell (blk_below HBK.out hb) 2).trans rfl
      have hz3 : w1.cell? ⟨wr.heap.size, 3, none⟩ = some (.int .i64 (rd_T48 zs k).f3) := (blk_cell (blk_below HBK.out hb) 3).trans rfl
      have HB1 := Aside0.mk (below_step HA0.out hb)
      have HJ1 := Aside0.mk (hJ _ _ _ HJs.out HB1.out)
      have HW1 := Aside0.mk (HBw.out.trans (HB1.out.mono HBw.out.size))
      clear hb HBK HOF1 HA0 hx0 hx1 hx2 hx3 hBo1 hBo3
      cases hp : p (rd_T48 zs k).f0 with
      | false =>
        gi_wp2
        refine ⟨fun _ h => (by cases h), ?_⟩
        gi_wp2
        go_roundw
        case rel => exact ⟨k + 1, by simp, ⟨by omega, by rw [HT.out, if_neg (by rw [hp]; decide), List.append_nil]; exact HJ1.out, HW1.out⟩⟩
        case measure => simp [intOf]; omega
      | true =>
        obtain ⟨fn, tmps, assign, body, hy, hR⟩ := hY _ (rd_T48 zs k) w1 HJ1.out (by have := List.length_filter_le (fun x : S48 => p x.f0) (zs.take k); rw [List.length_take] at this; omega)
        unfold seatW at hy
        gi_wp2
        refine ⟨fun _ => by omega, ?_⟩
        refine hR.mono ?_
        rintro e W3 (⟨rfl, hJ3, hk3⟩ | ⟨rfl, hJx3⟩)
        · have HJ3 := Aside0.mk hJ3
          have HK3 := Aside0.mk hk3
          clear hJ3 hk3
          gi_wp2
          go_roundw
          case rel => exact ⟨k + 1, by simp, ⟨by omega, by rw [HT.out, if_pos hp]; exact HJ3.out, HW1.out.trans HK3.out⟩⟩
          case measure => simp [intOf]; omega
        · gi_wp2
          refine bodyPost_ret (results_none rfl _ _ _) rfl ?_
          exact ⟨⟨_, rfl⟩, .inr ⟨_, hJx3⟩⟩
    · obtain rfl : k = zs.length := by omega
      have c4b0 : decide ((zs.length : Int) < (zs.length : Int)) = false := decide_eq_false (by omega)
      gi_wp2
      go_end0
      exact ⟨⟨_, rfl⟩, .inl ⟨_, by rw [List.take_length], hJs⟩⟩
end Go.Proofs.Ytplngfammfdemaa
