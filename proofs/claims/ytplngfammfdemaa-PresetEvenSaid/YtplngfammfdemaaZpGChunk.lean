-- A copy of the text YtplngfammfdemaaGChunk with what this claim does not reach left out (prune.py, a program of this project).
import Derived.Test.YtplngfammfdemaaZpGCont
import Derived.RangeFuncNested
import Derived.RangeFuncBound
import Derived.RangeFuncCalls
import Derived.RangeFuncLeaves
import Derived.Shelf.Abstract
import Derived.Shelf.RegionOpen
import Derived.WalkKit
import Derived.OwnWalkIn
import Derived.TacticsInMore
import Derived.LoopNIn
import Derived.LoopIn
import Derived.Sort.QuietIn
namespace Go.Proofs.Ytplngfammfdemaa
open Go.RowKit Go.Shelf Go.Proofs.YtplngfammfdemaaW.PrintWords Go.Proofs.YtplngfammfdemaaW.PrintLast Go.Proofs.YtplngfammfdemaaW.PrintMore
attribute [local go_sem] Oper.semAt_some max2_int min2_int max_two min_two
set_option linter.unusedVariables false
set_option linter.unusedSimpArgs false
theorem chunk_measure {len m i : Nat} (h : i < len) (hm : 1 ≤ m) (h8 : wrap64 ((i : Int) + (m : Int)) = (i : Int) + (m : Int)) : len + m - (intOf (.int .i64 (wrap64 ((i : Int) + (m : Int))))).toNat < len + m - (intOf (.int .i64 (i : Int))).toNat := by
  rw [h8]
  have e1 : intOf (.int .i64 ((i : Int) + (m : Int))) = (i : Int) + (m : Int) := rfl
  have e2 : intOf (.int .i64 (i : Int)) = (i : Int) := rfl
  rw [e1, e2]
  omega
set_option maxRecDepth 100000 in
set_option maxHeartbeats 4000000 in
theorem chunk1_in (n : Nat) (hn : 1 ≤ n) (l Bs Bn : Nat) (ad : Addr) (len c m : Nat) (w0 : World) (hm : 1 ≤ m) (hm2 : m < 1000) (hlen : len < 1000000000000) (hc : len ≤ c) (hBs : w0.cell? ⟨Bs, 0, none⟩ = some (.slice (some ad) len c)) (hBn : w0.cell? ⟨Bn, 0, none⟩ = some (.int .i64 m)) (J : Nat → World → Prop) (Jx : Nat → World → Prop)
    (hJ : ∀ s W W', J s W → Below W.heap.size W W' → J s W')
    (hY : ∀ i W, J i W → i < len → YieldAt Fence.wide (n - 1) Try.prog l #[.slice (some (ad.add i)) (Nat.min m (len - i)) (Nat.min m (len - i))] W fun e W' =>
      (e = .returned (.bool true) ∧ J (i + m) W' ∧ Below w0.heap.size W W') ∨ (e = .returned (.bool false) ∧ Jx i W'))
    (W : World) (hW : Below w0.heap.size w0 W) (h0 : J 0 W) :
    CallsIn Fence.wide n Try.prog 122 #[.func (.yield l) #[] #[], .pointer (some ⟨Bs, 0, none⟩), .pointer (some ⟨Bn, 0, none⟩)] W fun e W' => (∃ v, e = .returned v) ∧
      ((∃ i, len ≤ i ∧ J i W') ∨ (∃ i, Jx i W')) := by
  have hBs1 := (hW.cell (World.block_lt_of_cell? w0 _ hBs)).trans hBs
  have hBn1 := (hW.cell (World.block_lt_of_cell? w0 _ hBn)).trans hBn
  have HL := Aside0.mk hlen
  have HW := Aside0.mk hW
  refine callsIn_of_wp Try.func122 rfl trivial ?_ rfl
  simp only [Try.ntmps122, List.size_toArray, List.length_cons, List.length_nil, Nat.reduceAdd, Nat.reduceSub, Array.replicate_succ, Array.replicate_zero, List.push_toArray, List.append_toArray, List.nil_append, List.cons_append]
  clear hlen hW
  gi_wp2
  gi_loopw [4] (fun v wr => ∃ i : Nat, v = .int .i64 i ∧ Aside0 (J i wr ∧ Below w0.heap.size w0 wr))
    (fun v _ => len + m - (intOf v).toNat)
  case atStart => exact ⟨0, rfl, ⟨h0, HW.out⟩⟩
  case round =>
    clear hBs1 hBn1
    obtain ⟨i, rfl, HJ⟩ := hrel
    obtain ⟨hJs, hB⟩ := HJ.out
    have hl := HL.out
    have hBs1 := (hB.cell (World.block_lt_of_cell? w0 _ hBs)).trans hBs
    have hBn1 := (hB.cell (World.block_lt_of_cell? w0 _ hBn)).trans hBn
    by_cases hlt : i < len
    · as_aux_lemma =>
      have c4b0 : decide ((i : Int) < (len : Int)) = true := decide_eq_true (by omega)
      have n1 : (0 : Int) ≤ (i : Int) := by omega
      have n2 : (i : Int) ≤ (len : Int) := by omega
      have n3 : (i < len) = True := eq_true hlt
      have n4 : (len = i) = False := eq_false (by omega)
      have HH := Aside0.mk hc
      have n5 : (i : Int) ≤ (c : Int) := by have := HH.out; omega
      have n6 : (len : Int) ≤ (c : Int) := by have := HH.out; omega
      have n7 : (c = i) = False := eq_false (by have := HH.out; have := n4; omega)
      have hY1 := fun W' hJ' => hY i W' hJ' hlt
      have hq1 : Nat.min m (len - i) ≤ len - i := Nat.min_le_right _ _
      have hq2 : 1 ≤ Nat.min m (len - i) := by simp only [Nat.min_def]; split <;> omega
      have hqI : (if len - i < m then ((len - i : Nat) : Int) else (m : Int)) = ((Nat.min m (len - i) : Nat) : Int) := by simp only [Nat.min_def]; split <;> split <;> omega
      generalize Nat.min m (len - i) = q at hY1 hq1 hq2 hqI
      have HQ := Aside0.mk (show 1 ≤ q ∧ i + q ≤ len by omega)
      have HY := Aside0.mk hY1
      have k1 : (i : Int) + (q : Int) ≤ (c : Int) := by have := HH.out; omega
      have k2 : (0 : Int) ≤ (i : Int) + (q : Int) := by omega
      have k3 : (i : Int) ≤ (i : Int) + (q : Int) := by omega
      have k4 : IntKind.i64.wrap ((i : Int) + (q : Int)) = (i : Int) + (q : Int) := by rw [IntKind.wrap_i64]; omega
      have k5 : ((i : Int) + (q : Int)).toNat = i + q := by omega
      have k6 : i + q - i = q := by omega
      have K8 : Aside0 (wrap64 ((i : Int) + (m : Int)) = (i : Int) + (m : Int)) := ⟨by rw [← i64_w, IntKind.wrap_i64]; omega⟩
      have k7 : (q = 0) = False := eq_false (by omega)
      have HBw := Aside0.mk hB
      have HJs := Aside0.mk hJs
      clear hlt hl hB hJs HJ hc hq1 hq2 hY hY1
      gi_wp2
      gi_quiet (fail)
      all_goals as_aux_lemma => (
        clear hqI
        obtain ⟨fn, tmps, assign, body, hy, hR⟩ := HY.out _ (hJ _ _ _ HJs.out (pw_below_drewN (Below.refl _ wr) nq))
        have HR := Aside0.mk hR
        clear hR
        gi_wp2
        refine HR.out.mono ?_
        rintro e W3 (⟨rfl, hJ3, hk3⟩ | ⟨rfl, hJx3⟩)
        · as_aux_lemma =>
          have hBn3 : W3.cell? ⟨Bn, 0, none⟩ = some (.int .i64 m) := (((pw_below_drewN HBw.out _).trans hk3).cell (World.block_lt_of_cell? w0 _ hBn)).trans hBn
          have HJ3 := Aside0.mk hJ3
          have HK3 := Aside0.mk hk3
          clear hJ3 hk3
          gi_wp2
          go_roundw
          case rel =>
            as_aux_lemma =>
            exact ⟨i + m, by congr 1; rw [K8.out]; omega, ⟨HJ3.out, (pw_below_drewN HBw.out _).trans HK3.out⟩⟩
          case measure =>
            exact chunk_measure (by have := HQ.out; omega) hm K8.out
        · as_aux_lemma =>
          gi_wp2
          refine bodyPost_ret (results_none rfl _ _ _) rfl ?_
          exact ⟨⟨_, rfl⟩, .inr ⟨_, hJx3⟩⟩)
    · have c4b0 : decide ((i : Int) < (len : Int)) = false := decide_eq_false (by omega)
      have n3 : (i < len) = False := eq_false hlt
      gi_wp2
      go_end0
      exact ⟨⟨_, rfl⟩, .inl ⟨i, by omega, hJs⟩⟩
end Go.Proofs.Ytplngfammfdemaa
