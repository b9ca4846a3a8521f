-- Copies of the texts YtplngfammfdemaaQx4, YtplngfammfdemaaGFn, YtplngfammfdemaaGLayFn with what this claim does not reach left out (prune.py, a program of this project).
import Derived.Test.YtplngfammfdemaaZtGMul
import Derived.Test.YtplngfammfdemaaZtQx14
import Derived.Test.YtplngfammfdemaaZtWMore
import Derived.Test.YtplngfammfdemaaZtWLast
import Derived.Test.YtplngfammfdemaaProg
section
namespace Go.Proofs.Ytplngfammfdemaa.Q
open Go.RowKit Go.Proofs.Ytplngfammfdemaa Go.Proofs.YtplngfammfdemaaW.PrintWords Go.Proofs.YtplngfammfdemaaW.PrintLast Go.Proofs.YtplngfammfdemaaW.PrintMore
attribute [local go_sem] max2_int min2_int max_two min_two max_three min_three max_four min_four   -- for this text's walks alone
set_option linter.unusedVariables false
set_option linter.unusedSimpArgs false
def preset_size_with.f (a0_0 : Int) (a0_1 : Int) (a1 : Int) (a2 : Int) : Option (Int × Int) := if a1 = 1 then (some (a2, a0_1)) else (some (a0_0, a2))
set_option maxHeartbeats 8000000 in
set_option maxRecDepth 100000 in
theorem preset_size_with.calls (a0_0 : Int) (a0_1 : Int) (a1 : Int) (a2 : Int) (r1 : Int) (r2 : Int) (w : World) (h : preset_size_with.f a0_0 a0_1 a1 a2 = some (r1, r2)) :
 Calls Try.prog 120 #[.agg #[.int .i64 a0_0, .int .i64 a0_1], .int .i64 a1, .int .i64 a2] w fun e w' => e = .returned (.agg #[.int .i64 r1, .int .i64 r2]) ∧ Below w.heap.size w w' := by
 have hu83 := Try.underlying83
 have HB := zM (Below.refl w.heap.size w)
 have H : (if a1 = 1 then (some (a2, a0_1)) else (some (a0_0, a2))) = some (r1, r2) := h
 clear h
 by_cases c4 : a1 = 1
 ·rw [if_pos c4] at H
  have c4b0 : (a1 == 1) = true := beq_iff_eq.mpr c4
  have c4b1 : (a1 != 1) = false := bne_eq_false_iff_eq.mpr c4
  clear c4
  simp only [Option.some.injEq, Prod.mk.injEq] at H
  obtain ⟨rfl, rfl⟩ := H
  go_enter Try.func120, Try.ntmps120
  go_wp2_with (first | ((with_reducible refine gate_dst (N := 3) rfl ?_); refine box_event ?hg (N := 3) ?hd (cs := #[.int .i64 a0_0, .int .i64 a0_1]) (t := 83) ?hr ?_; (case hd => rfl); (case hg => rfl); (case hr => first | (go_simp; done) | (go_simp; rfl)); intro gb125 hg w5 hbox hb; have BK125 := zM (hbox); have GW125 := zM ((by rw [hg]; exact (below_size (by first | exact HB.out | exact zN HB.out _ | exact zD HB.out)) : w.heap.size ≤ gb125)); have GE125 := GW125; replace HB := zM (below_step (by first | exact HB.out | exact zN HB.out _ | exact zD HB.out) hb); clear hb hbox hg) | ((with_reducible refine gate_dst (N := 6) rfl ?_); refine box_event ?hg (N := 6) ?hd (cs := #[.int .i64 0, .int .i64 0]) (t := 83) ?hr ?_; (case hd => rfl); (case hg => rfl); (case hr => first | (go_simp; done) | (go_simp; rfl)); intro gb126 hg w6 hbox hb; have BK126 := zM (hbox); have GW126 := zM ((by rw [hg]; exact (below_size (by repeat first | refine zS ?_ GE125.out | exact HB.out | apply zA | apply zN | apply zD)) : w.heap.size ≤ gb126)); have GE126 := GW126; have NB125_126 := zM ((by rw [hg]; exact lt1 BK125.out : gb125 ≠ gb126)); have NB126_125 := zM ((by rw [hg]; exact gt1 BK125.out : gb126 ≠ gb125)); replace BK125 := zM (bb hb BK125.out); replace HB := zM (below_step (by repeat first | refine zS ?_ GE125.out | exact HB.out | apply zA | apply zN | apply zD) hb); clear hb hbox hg; have hnb7 := NB125_126.out; have hnc7 := NB126_125.out; have hcz8_0 : w6.cell? ⟨gb125, 0, none⟩ = some (.int .i64 a0_0) := (blk_cell BK125.out 0).trans rfl; have hcz8_1 : w6.cell? ⟨gb125, 1, none⟩ = some (.int .i64 a0_1) := (blk_cell BK125.out 1).trans rfl; have hfz8_0 := blk_frozen BK125.out 0; have hfz8_1 := blk_frozen BK125.out 1; have hcz9_0 : w6.cell? ⟨gb126, 0, none⟩ = some (.int .i64 0) := (blk_cell BK126.out 0).trans rfl; have hcz9_1 : w6.cell? ⟨gb126, 1, none⟩ = some (.int .i64 0) := (blk_cell BK126.out 1).trans rfl; have hfz9_0 := blk_frozen BK126.out 0; have hfz9_1 := blk_frozen BK126.out 1))
  refine bodyPost_ret (results_cell_row rfl _ _ gb126 83 #[.int .i64 a2, .int .i64 a0_1] (0, 0) _ rfl (by exact (blk_put (blk_put BK126.out 0 _ rfl) 1 _ rfl)) Try.underlying83 rfl (by kernel_rfl)) rfl ?_
  exact ⟨by first | rfl | (simp [errW_none, errW_some] <;> rfl) | (simp [*, errW_none, errW_some] <;> rfl), by repeat first | refine zS ?_ GE125.out | refine zS ?_ GE126.out | exact HB.out | apply zA | apply zN | apply zD⟩
 ·rw [if_neg c4] at H
  have c4b0 : (a1 == 1) = false := beq_eq_false_iff_ne.mpr c4
  have c4b1 : (a1 != 1) = true := bne_iff_ne.mpr c4
  simp only [Option.some.injEq, Prod.mk.injEq] at H
  obtain ⟨rfl, rfl⟩ := H
  go_enter Try.func120, Try.ntmps120
  go_wp2_with (first | ((with_reducible refine gate_dst (N := 3) rfl ?_); refine box_event ?hg (N := 3) ?hd (cs := #[.int .i64 a0_0, .int .i64 a0_1]) (t := 83) ?hr ?_; (case hd => rfl); (case hg => rfl); (case hr => first | (go_simp; done) | (go_simp; rfl)); intro gb125 hg w10 hbox hb; have BK125 := zM (hbox); have GW125 := zM ((by rw [hg]; exact (below_size (by first | exact HB.out | exact zN HB.out _ | exact zD HB.out)) : w.heap.size ≤ gb125)); have GE125 := GW125; replace HB := zM (below_step (by first | exact HB.out | exact zN HB.out _ | exact zD HB.out) hb); clear hb hbox hg) | ((with_reducible refine gate_dst (N := 6) rfl ?_); refine box_event ?hg (N := 6) ?hd (cs := #[.int .i64 0, .int .i64 0]) (t := 83) ?hr ?_; (case hd => rfl); (case hg => rfl); (case hr => first | (go_simp; done) | (go_simp; rfl)); intro gb126 hg w11 hbox hb; have BK126 := zM (hbox); have GW126 := zM ((by rw [hg]; exact (below_size (by repeat first | refine zS ?_ GE125.out | exact HB.out | apply zA | apply zN | apply zD)) : w.heap.size ≤ gb126)); have GE126 := GW126; have NB125_126 := zM ((by rw [hg]; exact lt1 BK125.out : gb125 ≠ gb126)); have NB126_125 := zM ((by rw [hg]; exact gt1 BK125.out : gb126 ≠ gb125)); replace BK125 := zM (bb hb BK125.out); replace HB := zM (below_step (by repeat first | refine zS ?_ GE125.out | exact HB.out | apply zA | apply zN | apply zD) hb); clear hb hbox hg; have hnb12 := NB125_126.out; have hnc12 := NB126_125.out; have hcz13_0 : w11.cell? ⟨gb125, 0, none⟩ = some (.int .i64 a0_0) := (blk_cell BK125.out 0).trans rfl; have hcz13_1 : w11.cell? ⟨gb125, 1, none⟩ = some (.int .i64 a0_1) := (blk_cell BK125.out 1).trans rfl; have hfz13_0 := blk_frozen BK125.out 0; have hfz13_1 := blk_frozen BK125.out 1; have hcz14_0 : w11.cell? ⟨gb126, 0, none⟩ = some (.int .i64 0) := (blk_cell BK126.out 0).trans rfl; have hcz14_1 : w11.cell? ⟨gb126, 1, none⟩ = some (.int .i64 0) := (blk_cell BK126.out 1).trans rfl; have hfz14_0 := blk_frozen BK126.out 0; have hfz14_1 := blk_frozen BK126.out 1))
  refine bodyPost_ret (results_cell_row rfl _ _ gb126 83 #[.int .i64 a0_0, .int .i64 a2] (0, 0) _ rfl (by exact (blk_put (blk_put BK126.out 0 _ rfl) 1 _ rfl)) Try.underlying83 rfl (by kernel_rfl)) rfl ?_
  exact ⟨by first | rfl | (simp [errW_none, errW_some] <;> rfl) | (simp [*, errW_none, errW_some] <;> rfl), by repeat first | refine zS ?_ GE125.out | refine zS ?_ GE126.out | exact HB.out | apply zA | apply zN | apply zD⟩
def preset_size_pane.f (a0_0 : Int) (a0_1 : Int) (l1 : List Int) : Option (Int × Int × Int × (List (S31)) × Bool) := if 0 < (l1.length : Int) then (some (0, rd l1 0, 0, ([] : List (S31)), true)) else (none)
set_option maxHeartbeats 8000000 in
set_option maxRecDepth 100000 in
theorem preset_size_pane.calls (a0_0 : Int) (a0_1 : Int) (A1 : Option Addr) (c1 : Nat) (l1 : List Int) (r1 : Int) (r2 : Int) (r3 : Int) (r4 : List (S31)) (r5 : Bool) (w : World) (hr1 : Kd.C (Kd.int .i64) w A1 l1.length l1) (hc1 : l1.length ≤ c1) (h : preset_size_pane.f a0_0 a0_1 l1 = some (r1, r2, r3, r4, r5)) :
 Calls Try.prog 91 #[.agg #[.int .i64 a0_0, .int .i64 a0_1], .slice A1 l1.length c1] w fun e w' => ∃ v3_ : Value, e = .returned (.tuple #[.agg #[.int .i64 r1, .int .i64 r2, .int .i64 r3, v3_], .bool r5]) ∧ Kd.R k31 31 w' w.heap.size (fun _ => True) v3_ r4 ∧ Below w.heap.size w w' := by
 have hu83 := Try.underlying83
 have hu31 := Try.underlying31
 have HR1 := zM hr1
 have HC1 := zM hc1
 clear hr1 hc1
 have HB := zM (Below.refl w.heap.size w)
 have H : (if 0 < (l1.length : Int) then (some (0, rd l1 0, 0, ([] : List (S31)), true)) else (none)) = some (r1, r2, r3, r4, r5) := h
 clear h
 by_cases c3 : 0 < (l1.length : Int)
 ·rw [if_pos c3] at H
  have c3b0 : decide (0 < (l1.length : Int)) = true := decide_eq_true c3
  have c3b1 : decide (0 < l1.length) = true := decide_eq_true (by omega)
  clear c3
  simp only [Option.some.injEq, Prod.mk.injEq] at H
  obtain ⟨rfl, rfl, rfl, rfl, rfl⟩ := H
  go_enter Try.func91, Try.ntmps91
  go_wp2_with (first | ((with_reducible refine gate_dst (N := 2) rfl ?_); refine box_event ?hg (N := 2) ?hd (cs := #[.int .i64 a0_0, .int .i64 a0_1]) (t := 83) ?hr ?_; (case hd => rfl); (case hg => rfl); (case hr => first | (go_simp; done) | (go_simp; rfl)); intro gb127 hg w4 hbox hb; have BK127 := zM (hbox); have GW127 := zM ((by rw [hg]; exact (below_size (by first | exact HB.out | exact zN HB.out _ | exact zD HB.out)) : w.heap.size ≤ gb127)); have GE127 := GW127; replace HB := zM (below_step (by first | exact HB.out | exact zN HB.out _ | exact zD HB.out) hb); clear hb hbox hg) | ((with_reducible refine gate_dst (N := 4) rfl ?_); refine box_event ?hg (N := 4) ?hd (cs := #[.int .i64 0, .int .i64 0, .int .i64 0, .slice none 0 0]) (t := 31) ?hr ?_; (case hd => rfl); (case hg => rfl); (case hr => first | (go_simp; done) | (go_simp; rfl)); intro gb128 hg w5 hbox hb; have BK128 := zM (hbox); have GW128 := zM ((by rw [hg]; exact (below_size (by repeat first | refine zS ?_ GE127.out | exact HB.out | apply zA | apply zN | apply zD)) : w.heap.size ≤ gb128)); have GE128 := GW128; have NB127_128 := zM ((by rw [hg]; exact lt1 BK127.out : gb127 ≠ gb128)); have NB128_127 := zM ((by rw [hg]; exact gt1 BK127.out : gb128 ≠ gb127)); replace BK127 := zM (bb hb BK127.out); replace HB := zM (below_step (by repeat first | refine zS ?_ GE127.out | exact HB.out | apply zA | apply zN | apply zD) hb); clear hb hbox hg; have p129 : 0 ≤ (0 : Int) := (by omega); have q129 : 0 < (l1.length : Int) := of_decide_eq_true (by first | (with_reducible assumption) | assumption); obtain ⟨ad129, e129, hx129_0⟩ := Kd.at_int HR1.out 0 p129 q129; cases e129; have qi129 : (0 < l1.length) = True := eq_true (by omega); (try rw [show ((0 : Int)).toNat = 0 from rfl] at hx129_0); (try rw [Addr.add_zero'] at hx129_0); replace hx129_0 := (HB.out.cell (zL w _ hx129_0)).trans hx129_0; replace p129 := eq_true p129; replace q129 := eq_true q129; have hnb6 := NB128_127.out; have hnc6 := NB127_128.out; obtain ⟨hcz7_0, hcz7_1, hcz7_2, hcz7_3, hfz7_0, hfz7_1, hfz7_2, hfz7_3⟩ := cz4 BK128.out))
  refine bodyPost_ret (results_ct rfl _ _ gb128 31 #[.int .i64 0, .int .i64 (rd l1 0), .int .i64 0, .slice none 0 0] (0, 0) _ rfl (by exact (put4 BK128.out)) Try.underlying31 rfl (by kernel_rfl)) rfl ?_
  exact ⟨_, by first | rfl | (simp [errW_none, errW_some] <;> rfl) | (simp [*, errW_none, errW_some] <;> rfl), by first | exact Kd.R_nil _ _ _ _ _ | exact Kd.N_nil _ _ _ _ _ | exact Kd.V_nil _ _ _ _ _ | exact Kd.Q_nil _ _ _ _ _ | exact Kd.S_nil _ _ _ _ _, by repeat first | refine zS ?_ GE127.out | refine zS ?_ GE128.out | exact HB.out | apply zA | apply zN | apply zD⟩
 ·rw [if_neg c3] at H
  exact absurd H (by simp)
end Go.Proofs.Ytplngfammfdemaa.Q
end
section
namespace Go.Proofs.Ytplngfammfdemaa
open Go.RowKit Go.Proofs.YtplngfammfdemaaW.PrintWords Go.Proofs.YtplngfammfdemaaW.PrintLast Go.Proofs.YtplngfammfdemaaW.PrintMore
set_option linter.unusedVariables false
set_option linter.unusedSimpArgs false
theorem goesV_ {P : Program} {ops : Array Oper} {Q : Exit → Act → World → Prop} {oi : Oper} {N : Option Tmp} {a : Act} {w : World} {K : Act → World → Prop} {f : FuncId} {fn : Func} {x : Tmp} {os_ : Array Operand} {ts : Array TypeId} (hf : P.funcs[f]? = some fn) (hname : (fn.name == "runtime.NumGoroutine") = false) (hb : fn.body.isSome = true) (args : Array Value)
    (hw : Region.wanted oi (yielded ops a.tmps) = true) (hN : oi.dst = N) (hop : oi.op = .call { callee := .value (.tmp x), args := os_, argTypes := ts }) (hx : a.eval (.tmp x) = .func (.func f) #[] #[]) (hargs : os_.map a.eval = args)
    (h : Calls P f args w fun e w' => ∃ v, e = .returned v ∧ K (a.put N v) w') : if Region.wanted oi (yielded ops a.tmps) = true then Oper.wp P oi a w K Q else K (a.put N undef) w := by
  refine call_ f args hw hN ?_ h
  have he := enters_ hf hname hb args w
  unfold execOp
  simp [hop, hx, resolve, Deferred.ofValue, invoke, hargs, he]
/-- The same in a plain region, as an arm of go_wp2_with. -/
theorem goesP_ {P : Program} {ops : Array Oper} {Q : Exit → Act → World → Prop} {w : World} {rest : List Oper} {oi : Oper} {a : Act} (N : Option Tmp) (hd : oi.dst = N) (hg : oi.guard = none) {f : FuncId} {fn : Func} {x : Tmp} {ops_ : Array Operand} {ts : Array TypeId} (hf : P.funcs[f]? = some fn) (hname : (fn.name == "runtime.NumGoroutine") = false) (hb : fn.body.isSome = true) (args : Array Value)
    (hop : oi.op = .call { callee := .value (.tmp x), args := ops_, argTypes := ts }) (hx : a.eval (.tmp x) = .func (.func f) #[] #[]) (hargs : ops_.map a.eval = args)
    (h : Calls P f args w fun e w' => ∃ v, e = .returned v ∧ wpList P ops Q rest (a.put N v) w') : wpList P ops Q (oi :: rest) a w := by
  refine wpList_plain hg fun K hK => ?_
  have he := enters_ hf hname hb args w
  have hrun : (execOp a.eval oi).run P w = .ok (.enter f args) w := by
    unfold execOp
    simp [hop, hx, resolve, Deferred.ofValue, invoke, hargs, he]
  unfold Oper.wp
  rw [hrun, Oper.upon_enter]
  refine h.mono fun e w'' hh => ?_
  obtain ⟨v, rfl, hk⟩ := hh
  subst hd
  exact hK _ _ hk
end Go.Proofs.Ytplngfammfdemaa
end
section
namespace Go.Proofs.Ytplngfammfdemaa
open Go.RowKit Go.Proofs.YtplngfammfdemaaW.PrintWords Go.Proofs.YtplngfammfdemaaW.PrintLast Go.Proofs.YtplngfammfdemaaW.PrintMore Q
structure LayFn where
  f : FuncId
  hx : ∃ fn : Func, Try.prog.funcs[f]? = some fn ∧ (fn.name == "runtime.NumGoroutine") = false ∧ fn.body.isSome = true
  F : Nat → Int → Int → List Int → Option (Int × Int × Int × (List (S31)) × Bool)
  mono : ∀ a0 a1 a2 k, LeO (F k a0 a1 a2) (F (k + 1) a0 a1 a2)
  calls : ∀ (k : Nat) (a0_0 a0_1 : Int) (A1 : Option Addr) (c1 : Nat) (l1 : List Int) (r1 r2 r3 : Int) (r4 : List (S31)) (r5 : Bool) (w : World) (_ : Kd.C (Kd.int .i64) w A1 l1.length l1) (_ : l1.length ≤ c1) (_ : F k a0_0 a0_1 l1 = some (r1, r2, r3, r4, r5)),
    Calls Try.prog f #[.agg #[.int .i64 a0_0, .int .i64 a0_1], .slice A1 l1.length c1] w fun e w' => ∃ v3_ : Value, e = .returned (.tuple #[.agg #[.int .i64 r1, .int .i64 r2, .int .i64 r3, v3_], .bool r5]) ∧ Kd.R k31 31 w' w.heap.size (fun _ => True) v3_ r4 ∧ Below w.heap.size w w'
theorem LayFn.hf (Y : LayFn) : Try.prog.funcs[Y.f]? = some Y.hx.choose := Y.hx.choose_spec.1
theorem LayFn.hn (Y : LayFn) : (Y.hx.choose.name == "runtime.NumGoroutine") = false := Y.hx.choose_spec.2.1
theorem LayFn.hb (Y : LayFn) : Y.hx.choose.body.isSome = true := Y.hx.choose_spec.2.2
end Go.Proofs.Ytplngfammfdemaa
end
