-- A copy of the text YtplngfammfdemaaQx8 with what this claim does not reach left out (prune.py, a program of this project).
import Derived.Test.YtplngfammfdemaaZtGMul
import Derived.Test.YtplngfammfdemaaZtQx14
import Derived.Test.YtplngfammfdemaaZtGLayFn
import Derived.Test.YtplngfammfdemaaZtQx7
namespace Go.Proofs.Ytplngfammfdemaa.Q
open Go.RowKit Go.Proofs.Ytplngfammfdemaa Go.Proofs.YtplngfammfdemaaW.PrintWords Go.Proofs.YtplngfammfdemaaW.PrintLast Go.Proofs.YtplngfammfdemaaW.PrintMore
attribute [local go_sem] max2_int min2_int max_two min_two max_three min_three max_four min_four   -- for this text's walks alone
set_option linter.unusedVariables false
set_option linter.unusedSimpArgs false
def m92_0_ : Array Bool := mk_ 15 1
def m92_1_ : Array Bool := mk_ 15 5
def m92_2_ : Array Bool := mk_ 15 13
def m92_3_ : Array Bool := mk_ 15 29
def m92_4_ : Array Bool := mk_ 15 93
def m92_5_ : Array Bool := mk_ 15 221
def m92_6_ : Array Bool := mk_ 15 223
def m92_7_ : Array Bool := mk_ 15 8191
def m92_8_ : Array Bool := mk_ 15 255
def m92_9_ : Array Bool := mk_ 15 4319
def m92_10_ : Array Bool := mk_ 15 511
def m92_11_ : Array Bool := mk_ 15 4351
def m92_12_ : Array Bool := mk_ 15 1023
def m92_13_ : Array Bool := mk_ 15 2047
def m92_14_ : Array Bool := mk_ 15 4095
def m92_15_ : Array Bool := mk_ 15 4607
def m92_16_ : Array Bool := mk_ 15 5119
def m92_17_ : Array Bool := mk_ 15 6143
def m92_18_ : Array Bool := mk_ 15 16383
def m92_19_ : Array Bool := mk_ 15 32767
def m92_20_ : Array Bool := mk_ 14 1
def m92_21_ : Array Bool := mk_ 14 3
def m92_22_ : Array Bool := mk_ 14 7
def m92_23_ : Array Bool := mk_ 14 23
def m92_24_ : Array Bool := mk_ 14 55
def m92_25_ : Array Bool := mk_ 14 119
def m92_26_ : Array Bool := mk_ 14 247
def m92_27_ : Array Bool := mk_ 14 255
def m92_28_ : Array Bool := mk_ 14 511
def m92_29_ : Array Bool := mk_ 14 1023
def m92_30_ : Array Bool := mk_ 14 2047
def m92_31_ : Array Bool := mk_ 14 4095
def m92_32_ : Array Bool := mk_ 14 8191
def m92_33_ : Array Bool := mk_ 14 16383
def preset_mainG.f (Y : LayFn) (k : Nat) (a0_0 : Int) (a0_1 : Int) (a1 : Int) (l2 : List Int) (a3 : Int) : Option (Int × Int × Int × (List (S31)) × Bool) := if (l2.length : Int) = 1 then ((preset_size_pane.f a0_0 a0_1 l2).bind fun bt188 => (some (bt188.1, bt188.2.1, bt188.2.2.1, bt188.2.2.2.1, bt188.2.2.2.2))) else ((preset_size_along.f a0_0 a0_1 a1).bind fun t195 => ((preset_size_with.f a0_0 a0_1 a1 (wrap64 (Int.tdiv (wrap64 (t195 - 1)) 2))).bind fun bt196 => (if 1 ≤ (l2.length : Int) then ((Y.F k bt196.1 bt196.2 (l2.drop 1)).bind fun bt199 => (if (wrap64 (t195 - 1)) < 2 then (some (0, 0, 0, ([] : List (S31)), false)) else (if bt199.2.2.2.2 = true then (if 0 < (l2.length : Int) then (some (a1, 0, 0, (([(⟨0, rd l2 0, wrap64 ((wrap64 (t195 - 1)) - (wrap64 (Int.tdiv (wrap64 (t195 - 1)) 2))), ([] : List (S31))⟩ : S31), (⟨bt199.1, bt199.2.1, wrap64 (Int.tdiv (wrap64 (t195 - 1)) 2), bt199.2.2.2.1⟩ : S31)] : List (S31))), true)) else (none)) else (some (0, 0, 0, ([] : List (S31)), false))))) else (none))))
theorem preset_mainG.mono (Y : LayFn) : ∀ a0 a1 a2 a3 a4 k, LeO (preset_mainG.f Y k a0 a1 a2 a3 a4) (preset_mainG.f Y (k + 1) a0 a1 a2 a3 a4) := by
 intro a0 a1 a2 a3 a4 k
 unfold preset_mainG.f
 repeat' first
  | (with_reducible exact Y.mono _ _ _ _)
  | (with_reducible exact LeO.refl _)
  | (with_reducible exact LeO.none _)
  | (with_reducible refine LeO.ite ?_ ?_)
  | (with_reducible refine LeO.bind ?_ (fun _ => ?_))
  | exact Y.mono _ _ _ _
  | exact LeO.none _
  | refine LeO.ite ?_ ?_
  | refine LeO.bind ?_ (fun _ => ?_)
def preset_mainG.T4 : Bool × List (List Nat × List Nat) := (true, [([], []), ([], []), ([], []), ([], []), ([3], [3]), ([1, 2, 4], [1, 2, 4]), ([], []), ([6], [6]), ([0, 5, 7, 5], [0, 5, 7]), ([8], [8]), ([9], [9]), ([9], [9]), ([], []), ([12, 10, 8, 0, 1, 2, 3, 4, 5, 6, 7, 8, 9, 10, 12], [10, 12]), ([11, 13, 0, 1, 2, 3, 4, 5, 6, 7, 8, 9, 10, 11, 12, 13], [11])])
def preset_mainG.B4 : List Nat := [0, 0, 0, 0, 8, 30, 0, 64, 255, 511, 1023, 1023, 0, 6143, 16383]
theorem preset_mainG.tab4 : rtab .any (opsOf Try.f92 4) = preset_mainG.T4 := by kernel_rfl
theorem preset_mainG.bits4 : waitsOk preset_mainG.T4.2 preset_mainG.B4 = true := by kernel_rfl
def preset_mainG.T8 : Bool × List (List Nat × List Nat) := (true, [([], []), ([], []), ([1], [1]), ([2], [2]), ([], []), ([], []), ([5], [5]), ([4, 6], [4, 6]), ([3, 7], [3, 7]), ([], []), ([8, 9], [8, 9]), ([0, 10], [0, 10]), ([11, 0, 1, 2, 3, 4, 5, 6, 7, 8, 9, 10, 11], [11]), ([12, 0, 1, 2, 3, 4, 5, 6, 7, 8, 9, 10, 11, 12], [])])
def preset_mainG.B8 : List Nat := [0, 0, 2, 6, 0, 0, 32, 112, 254, 0, 1022, 2047, 4095, 8191]
theorem preset_mainG.tab8 : rtab .any (opsOf Try.f92 8) = preset_mainG.T8 := by kernel_rfl
theorem preset_mainG.bits8 : waitsOk preset_mainG.T8.2 preset_mainG.B8 = true := by kernel_rfl
set_option maxHeartbeats 8000000 in
set_option maxRecDepth 100000 in
theorem preset_mainG.calls (Y : LayFn) (k : Nat) (a0_0 : Int) (a0_1 : Int) (a1 : Int) (A2 : Option Addr) (c2 : Nat) (l2 : List Int) (a3 : Int) (r1 : Int) (r2 : Int) (r3 : Int) (r4 : List (S31)) (r5 : Bool) (w : World) (hr2 : Kd.C (Kd.int .i64) w A2 l2.length l2) (hc2 : l2.length ≤ c2) (h : preset_mainG.f Y k a0_0 a0_1 a1 l2 a3 = some (r1, r2, r3, r4, r5)) :
 Calls Try.prog 92 #[.agg #[.int .i64 a0_0, .int .i64 a0_1], .int .i64 a1, .slice A2 l2.length c2, .func (.func Y.f) #[] #[]] w fun e w' => ∃ v3_ : Value, e = .returned (.tuple #[.agg #[.int .i64 r1, .int .i64 r2, .int .i64 r3, v3_], .bool r5]) ∧ Kd.N k31 31 w' w.heap.size (fun k_ => (w.heap.size ≤ k_)) v3_ r4 ∧ Below w.heap.size w w' := by
 have hu83 := Try.underlying83
 have hu31 := Try.underlying31
 have HR2 := zM hr2
 have HC2 := zM hc2
 clear hr2 hc2
 have HB := zM (Below.refl w.heap.size w)
 have H : (if (l2.length : Int) = 1 then ((preset_size_pane.f a0_0 a0_1 l2).bind fun bt188 => (some (bt188.1, bt188.2.1, bt188.2.2.1, bt188.2.2.2.1, bt188.2.2.2.2))) else ((preset_size_along.f a0_0 a0_1 a1).bind fun t195 => ((preset_size_with.f a0_0 a0_1 a1 (wrap64 (Int.tdiv (wrap64 (t195 - 1)) 2))).bind fun bt196 => (if 1 ≤ (l2.length : Int) then ((Y.F k bt196.1 bt196.2 (l2.drop 1)).bind fun bt199 => (if (wrap64 (t195 - 1)) < 2 then (some (0, 0, 0, ([] : List (S31)), false)) else (if bt199.2.2.2.2 = true then (if 0 < (l2.length : Int) then (some (a1, 0, 0, (([(⟨0, rd l2 0, wrap64 ((wrap64 (t195 - 1)) - (wrap64 (Int.tdiv (wrap64 (t195 - 1)) 2))), ([] : List (S31))⟩ : S31), (⟨bt199.1, bt199.2.1, wrap64 (Int.tdiv (wrap64 (t195 - 1)) 2), bt199.2.2.2.1⟩ : S31)] : List (S31))), true)) else (none)) else (some (0, 0, 0, ([] : List (S31)), false))))) else (none))))) = some (r1, r2, r3, r4, r5) := h
 clear h
 by_cases c5 : (l2.length : Int) = 1
 ·rw [if_pos c5] at H
  have c5b0 : ((l2.length : Int) == 1) = true := beq_iff_eq.mpr c5
  have c5b1 : ((l2.length : Int) != 1) = false := bne_eq_false_iff_eq.mpr c5
  clear c5
  replace H := Option.bind_eq_some_iff.mp H
  obtain ⟨⟨t188, t189, t190, t191, t194⟩, A60, H⟩ := H
  replace H : (some (t188, t189, t190, t191, t194)) = some (r1, r2, r3, r4, r5) := H
  have A6 := zM A60
  clear A60
  simp only [Option.some.injEq, Prod.mk.injEq] at H
  obtain ⟨rfl, rfl, rfl, rfl, rfl⟩ := H
  go_enter Try.func92, Try.ntmps92
  go_wp2_with (first | ((with_reducible refine gate_dst (N := 4) rfl ?_); refine box_event ?hg (N := 4) ?hd (cs := #[.int .i64 a0_0, .int .i64 a0_1]) (t := 83) ?hr ?_; (case hd => rfl); (case hg => rfl); (case hr => first | (go_simp; done) | (go_simp; rfl)); intro gb186 hg w7 hbox hb; have BK186 := zM (hbox); have GW186 := zM ((by rw [hg]; exact (below_size (by first | exact HB.out | exact zN HB.out _ | exact zD HB.out)) : w.heap.size ≤ gb186)); have GE186 := GW186; replace HB := zM (below_step (by first | exact HB.out | exact zN HB.out _ | exact zD HB.out) hb); clear hb hbox hg) | ((with_reducible refine gate_dst (N := 8) rfl ?_); refine box_event ?hg (N := 8) ?hd (cs := #[.int .i64 0, .int .i64 0, .int .i64 0, .slice none 0 0]) (t := 31) ?hr ?_; (case hd => rfl); (case hg => rfl); (case hr => first | (go_simp; done) | (go_simp; rfl)); intro gb187 hg w8 hbox hb; have BK187 := zM (hbox); have GW187 := zM ((by rw [hg]; exact (below_size (by repeat first | refine zS ?_ GE186.out | exact HB.out | apply zA | apply zN | apply zD)) : w.heap.size ≤ gb187)); have GE187 := GW187; have NB186_187 := zM ((by rw [hg]; exact lt1 BK186.out : gb186 ≠ gb187)); have NB187_186 := zM ((by rw [hg]; exact gt1 BK186.out : gb187 ≠ gb186)); replace BK186 := zM (bb hb BK186.out); replace HB := zM (below_step (by repeat first | refine zS ?_ GE186.out | exact HB.out | apply zA | apply zN | apply zD) hb); clear hb hbox hg; have hnb9 := NB186_187.out; have hnc9 := NB187_186.out; have hcz10_0 : w8.cell? ⟨gb186, 0, none⟩ = some (.int .i64 a0_0) := (blk_cell BK186.out 0).trans rfl; have hcz10_1 : w8.cell? ⟨gb186, 1, none⟩ = some (.int .i64 a0_1) := (blk_cell BK186.out 1).trans rfl; have hfz10_0 := blk_frozen BK186.out 0; have hfz10_1 := blk_frozen BK186.out 1) | ((with_reducible refine gate_callee (f := 91) rfl ?_); refine ga (some 18) rfl rfl Try.func91 (by kernel_rfl) rfl #[.agg #[.int .i64 a0_0, .int .i64 a0_1], .slice A2 l2.length c2] rfl ?_; (with_reducible refine (preset_size_pane.calls a0_0 a0_1 _ _ l2 t188 t189 t190 t191 t194 _ ?side1 ?side2 A6.out).mono ?_); (case side1 => repeat (first | exact (Kd.C_below HR2.out HB.out) | (with_reducible refine Kd.C_alloc ?_ _) | (with_reducible refine Kd.C_drewN ?_ _) | (with_reducible refine Kd.C_drew ?_))); (case side2 => exact HC2.out); rintro e w11 ⟨v192, rfl, ho0, hb⟩; refine ⟨_, rfl, ?_⟩; have HO193 := zM (Kd.N_lower (Kd.N_mono (ok' := fun k_ => (w.heap.size ≤ k_) ∧ k_ ≠ gb186 ∧ k_ ≠ gb187) (Kd.R_N (Kd.R_bound ho0)) (fun k_ hk_ => ⟨(Nat.le_trans (below_size (by repeat first | refine zS ?_ GE186.out | refine zS ?_ GE187.out | exact HB.out | apply zA | apply zN | apply zD)) hk_.2.1), (Kd.freshB (g := gb186) (o := .cells #[.int .i64 a0_0, .int .i64 a0_1] 83 (0, 0)) (by (with_reducible repeat (first | refine blk_drewN ?_ _ | refine blk_drew ?_ | refine blk_alloc ?_ _)); exact BK186.out) k_ hk_.2.1), (Kd.freshB (g := gb187) (o := .cells #[.int .i64 0, .int .i64 0, .int .i64 0, .slice none 0 0] 31 (0, 0)) (by (with_reducible repeat (first | refine blk_drewN ?_ _ | refine blk_drew ?_ | refine blk_alloc ?_ _)); exact BK187.out) k_ hk_.2.1)⟩)) (below_size (by repeat first | refine zS ?_ GE186.out | refine zS ?_ GE187.out | exact HB.out | apply zA | apply zN | apply zD))); replace BK186 := zM (bb hb BK186.out); replace BK187 := zM (bb hb BK187.out); replace HB := zM (below_step (by repeat first | refine zS ?_ GE186.out | refine zS ?_ GE187.out | exact HB.out | apply zA | apply zN | apply zD) hb); (try clear hb); (try clear hb2); (try clear hk); (try clear hi); (try clear ho0); obtain ⟨hcz12_0, hcz12_1, hcz12_2, hcz12_3, hfz12_0, hfz12_1, hfz12_2, hfz12_3⟩ := cz4 BK187.out; obtain ⟨Ao13, co13, eo13⟩ := Kd.N_slice HO193.out; subst eo13))
  refine bodyPost_ret (results_ct rfl _ _ gb187 31 #[.int .i64 t188, .int .i64 t189, .int .i64 t190, .slice Ao13 t191.length co13] (0, 0) _ rfl (by exact (put4 BK187.out)) Try.underlying31 rfl (by kernel_rfl)) rfl ?_
  exact ⟨_, by first | rfl | (simp [errW_none, errW_some] <;> rfl) | (simp [*, errW_none, errW_some] <;> rfl), by (with_reducible repeat (first | apply Kd.N_alloc | apply Kd.N_drewN | apply Kd.N_drew)); exact Kd.N_mono (Kd.N_far (p := ⟨gb187, 3, none⟩) (Kd.N_far (p := ⟨gb187, 2, none⟩) (Kd.N_far (p := ⟨gb187, 1, none⟩) (Kd.N_far (p := ⟨gb187, 0, none⟩) (Kd.N_mono HO193.out (fun k_ hk => (⟨hk, hk.2.2⟩ : _ ∧ k_ ≠ gb187))) (fun _ hk => hk.2) (.int .i64 t188)) (fun _ hk => hk.2) (.int .i64 t189)) (fun _ hk => hk.2) (.int .i64 t190)) (fun _ hk => hk.2) (.slice Ao13 t191.length co13)) (fun _ hk => hk.1.1), by repeat first | refine zS ?_ GE186.out | refine zS ?_ GE187.out | exact HB.out | apply zA | apply zN | apply zD⟩
 ·rw [if_neg c5] at H
  have c5b0 : ((l2.length : Int) == 1) = false := beq_eq_false_iff_ne.mpr c5
  have c5b1 : ((l2.length : Int) != 1) = true := bne_iff_ne.mpr c5
  replace H := Option.bind_eq_some_iff.mp H
  obtain ⟨t195, A140, H⟩ := H
  replace H : ((preset_size_with.f a0_0 a0_1 a1 (wrap64 (Int.tdiv (wrap64 (t195 - 1)) 2))).bind fun bt196 => (if 1 ≤ (l2.length : Int) then ((Y.F k bt196.1 bt196.2 (l2.drop 1)).bind fun bt199 => (if (wrap64 (t195 - 1)) < 2 then (some (0, 0, 0, ([] : List (S31)), false)) else (if bt199.2.2.2.2 = true then (if 0 < (l2.length : Int) then (some (a1, 0, 0, (([(⟨0, rd l2 0, wrap64 ((wrap64 (t195 - 1)) - (wrap64 (Int.tdiv (wrap64 (t195 - 1)) 2))), ([] : List (S31))⟩ : S31), (⟨bt199.1, bt199.2.1, wrap64 (Int.tdiv (wrap64 (t195 - 1)) 2), bt199.2.2.2.1⟩ : S31)] : List (S31))), true)) else (none)) else (some (0, 0, 0, ([] : List (S31)), false))))) else (none))) = some (r1, r2, r3, r4, r5) := H
  have A14 := zM A140
  clear A140
  replace H := Option.bind_eq_some_iff.mp H
  obtain ⟨⟨t196, t197⟩, A150, H⟩ := H
  replace H : (if 1 ≤ (l2.length : Int) then ((Y.F k t196 t197 (l2.drop 1)).bind fun bt199 => (if (wrap64 (t195 - 1)) < 2 then (some (0, 0, 0, ([] : List (S31)), false)) else (if bt199.2.2.2.2 = true then (if 0 < (l2.length : Int) then (some (a1, 0, 0, (([(⟨0, rd l2 0, wrap64 ((wrap64 (t195 - 1)) - (wrap64 (Int.tdiv (wrap64 (t195 - 1)) 2))), ([] : List (S31))⟩ : S31), (⟨bt199.1, bt199.2.1, wrap64 (Int.tdiv (wrap64 (t195 - 1)) 2), bt199.2.2.2.1⟩ : S31)] : List (S31))), true)) else (none)) else (some (0, 0, 0, ([] : List (S31)), false))))) else (none)) = some (r1, r2, r3, r4, r5) := H
  have A15 := zM A150
  clear A150
  by_cases c16 : 1 ≤ (l2.length : Int)
  ·rw [if_pos c16] at H
   have c16b0 := eq_true c16
   have c16b1 : decide (1 ≤ (l2.length : Int)) = true := decide_eq_true c16
   clear c16
   replace H := Option.bind_eq_some_iff.mp H
   obtain ⟨⟨t199, t200, t201, t202, t205⟩, A170, H⟩ := H
   replace H : (if (wrap64 (t195 - 1)) < 2 then (some (0, 0, 0, ([] : List (S31)), false)) else (if t205 = true then (if 0 < (l2.length : Int) then (some (a1, 0, 0, (([(⟨0, rd l2 0, wrap64 ((wrap64 (t195 - 1)) - (wrap64 (Int.tdiv (wrap64 (t195 - 1)) 2))), ([] : List (S31))⟩ : S31), (⟨t199, t200, wrap64 (Int.tdiv (wrap64 (t195 - 1)) 2), t202⟩ : S31)] : List (S31))), true)) else (none)) else (some (0, 0, 0, ([] : List (S31)), false)))) = some (r1, r2, r3, r4, r5) := H
   have A17 := zM A170
   clear A170
   by_cases c18 : (wrap64 (t195 - 1)) < 2
   ·rw [if_pos c18] at H
    have c18b0 : decide ((wrap64 (t195 - 1)) < 2) = true := decide_eq_true c18
    clear c18
    simp only [Option.some.injEq, Prod.mk.injEq] at H
    obtain ⟨rfl, rfl, rfl, rfl, rfl⟩ := H
    go_enter Try.func92, Try.ntmps92
    try go_wp2_with (first | ((with_reducible refine gate_dst (N := 4) rfl ?_); refine box_event ?hg (N := 4) ?hd (cs := #[.int .i64 a0_0, .int .i64 a0_1]) (t := 83) ?hr ?_; (case hd => rfl); (case hg => rfl); (case hr => first | (go_simp; done) | (go_simp; rfl)); intro gb186 hg w19 hbox hb; have BK186 := zM (hbox); have GW186 := zM ((by rw [hg]; exact (below_size (by first | exact HB.out | exact zN HB.out _ | exact zD HB.out)) : w.heap.size ≤ gb186)); have GE186 := GW186; replace HB := zM (below_step (by first | exact HB.out | exact zN HB.out _ | exact zD HB.out) hb); clear hb hbox hg) | ((with_reducible refine gate_dst (N := 8) rfl ?_); refine box_event ?hg (N := 8) ?hd (cs := #[.int .i64 0, .int .i64 0, .int .i64 0, .slice none 0 0]) (t := 31) ?hr ?_; (case hd => rfl); (case hg => rfl); (case hr => first | (go_simp; done) | (go_simp; rfl)); intro gb187 hg w20 hbox hb; have BK187 := zM (hbox); have GW187 := zM ((by rw [hg]; exact (below_size (by repeat first | refine zS ?_ GE186.out | exact HB.out | apply zA | apply zN | apply zD)) : w.heap.size ≤ gb187)); have GE187 := GW187; have NB186_187 := zM ((by rw [hg]; exact lt1 BK186.out : gb186 ≠ gb187)); have NB187_186 := zM ((by rw [hg]; exact gt1 BK186.out : gb187 ≠ gb186)); replace BK186 := zM (bb hb BK186.out); replace HB := zM (below_step (by repeat first | refine zS ?_ GE186.out | exact HB.out | apply zA | apply zN | apply zD) hb); clear hb hbox hg; have hnb21 := NB186_187.out; have hnc21 := NB187_186.out; have hcz22_0 : w20.cell? ⟨gb186, 0, none⟩ = some (.int .i64 a0_0) := (blk_cell BK186.out 0).trans rfl; have hcz22_1 : w20.cell? ⟨gb186, 1, none⟩ = some (.int .i64 a0_1) := (blk_cell BK186.out 1).trans rfl; have hfz22_0 := blk_frozen BK186.out 0; have hfz22_1 := blk_frozen BK186.out 1) | ((with_reducible refine gate_callee (f := 119) rfl ?_); refine ga (some 23) rfl rfl Try.func119 (by kernel_rfl) rfl #[.agg #[.int .i64 a0_0, .int .i64 a0_1], .int .i64 a1] rfl ?_; (with_reducible refine (preset_size_along.calls a0_0 a0_1 a1 t195 _ A14.out).mono ?_); rintro e w23 ⟨rfl, hb⟩; refine ⟨_, rfl, ?_⟩; replace BK186 := zM (bb hb BK186.out); replace BK187 := zM (bb hb BK187.out); replace HB := zM (below_step (by repeat first | refine zS ?_ GE186.out | refine zS ?_ GE187.out | exact HB.out | apply zA | apply zN | apply zD) hb); (try clear hb); (try clear hb2); (try clear hk); (try clear hi)))
    replace BK186 := zM (blk_drew BK186.out); replace BK187 := zM (blk_drew BK187.out); replace HB := zM (zD HB.out)
    obtain ⟨i025, hi025, _, hsz25, _⟩ := info_parts info3
    obtain ⟨A25, hcut25, hA25, hC25⟩ := print_drop_of (P := Try.prog) (Value.int .i64) 0 22 3 .i64 Try.underlying22 hi025 hsz25 A2 c2 l2 1 (by omega) (of_decide_eq_true (by first | (with_reducible assumption) | assumption)) HC2.out
    have HR198 := zM (Kd.C_of_reads (h1 := fun _ => rfl) (hA25 _ (Kd.reads_of_C HR2.out)))
    have HC198 := zM hC25
    clear hA25 hC25 hi025 hsz25
    refine start_ (n := 15) (S := fun w' => w'.cell? ⟨gb186, 0, none⟩ = some (.int .i64 a0_0) ∧ w'.cell? ⟨gb186, 1, none⟩ = some (.int .i64 a0_1)) (ds := []) #[false, false, false, false, false, false, false, false, false, false, false, false, false, false, false] (by kernel_rfl) rfl rfl ⟨(blk_cell BK186.out 0).trans rfl, (blk_cell BK186.out 1).trans rfl⟩ (fun hHeld => ?_); refine with_tabW preset_mainG.tab4 preset_mainG.bits4 (fun HT_ HW_ => ?_)
    generalize w23.drew = w24 at BK186 BK187 HB HR198 hHeld ⊢
    refine pv (v := ?_) (a' := ?_) HT_.out 0 (some 26) m92_0_ ?_ ?_ ?_; rotate_left 2; (·intro w'; go_simp; with_reducible rfl); (·simp only [Act.put, s1, s2, s3, i64_w, i32_w]; rfl)
    refine pv (v := ?_) (a' := ?_) HT_.out 2 (some 28) m92_1_ ?_ ?_ ?_; rotate_left 2; (·intro w'; go_simp; with_reducible rfl); (·simp only [Act.put, s1, s2, s3, i64_w, i32_w]; rfl)
    refine pv (v := ?_) (a' := ?_) HT_.out 3 (some 29) m92_2_ ?_ ?_ ?_; rotate_left 2; (·intro w'; go_simp; with_reducible rfl); (·simp only [Act.put, s1, s2, s3, i64_w, i32_w]; rfl)
    refine pv (v := ?_) (a' := ?_) HT_.out 4 (some 30) m92_3_ ?_ ?_ ?_; rotate_left 2; (·intro w'; go_simp; with_reducible rfl); (·simp only [Act.put, s1, s2, s3, i64_w, i32_w]; rfl)
    refine pv (v := ?_) (a' := ?_) HT_.out 6 (some 32) m92_4_ ?_ ?_ ?_; rotate_left 2; (·intro w'; go_simp; with_reducible rfl); (·simp only [Act.put, s1, s2, s3, i64_w, i32_w]; rfl)
    refine pv (v := ?_) (a' := ?_) HT_.out 7 (some 33) m92_5_ ?_ ?_ ?_; rotate_left 2; (·intro w'; go_simp; with_reducible rfl); (·simp only [Act.put, s1, s2, s3, i64_w, i32_w]; rfl)
    refine take_ (i := 1) (N := some 27) (v := ?_) (a' := ?_) m92_6_ rfl rfl (take_ofW HT_.out HW_.out (by kernel_rfl)) (fun _ _ _ h => h) (Or.inl ⟨by rfl, ?_⟩) hHeld ?_ ?_; rotate_left; (·rintro w' ⟨s0, s1⟩; go_simp; with_reducible rfl); rotate_left; (·simp only [Act.put, s1, s2, s3, i64_w, i32_w]; rfl)
    refine join_ (σ := Value × Nat) 2 m92_7_ (fun s_ => [(31, .agg #[.int .i64 t196, .int .i64 t197]), (34, .tuple #[.agg #[.int .i64 t199, .int .i64 t200, .int .i64 t201, s_.1], .bool t205]), (11, .pointer (some ⟨s_.2, 0, none⟩)), (25, .tuple #[.agg #[.int .i64 t199, .int .i64 t200, .int .i64 t201, s_.1], .bool t205]), (35, .agg #[.int .i64 t199, .int .i64 t200, .int .i64 t201, s_.1]), (36, .bool t205)]) (fun s_ w' => (w'.cell? ⟨gb186, 0, none⟩ = some (.int .i64 a0_0) ∧ w'.cell? ⟨gb186, 1, none⟩ = some (.int .i64 a0_1)) ∧ (Kd.N k31 31 w' w.heap.size (fun k_ => (w.heap.size ≤ k_) ∧ k_ ≠ gb186 ∧ k_ ≠ gb187 ∧ k_ ≠ s_.2) s_.1 t202) ∧ (w'.heap[gb186]? = some (.cells #[.int .i64 a0_0, .int .i64 a0_1] 83 (0, 0))) ∧ (w'.heap[gb187]? = some (.cells #[.int .i64 0, .int .i64 0, .int .i64 0, .slice none 0 0] 31 (0, 0))) ∧ (w'.heap[s_.2]? = some (.cells #[.int .i64 0, .int .i64 0, .int .i64 0, .slice none 0 0] 31 (0, 0))) ∧ (w.heap.size ≤ s_.2) ∧ (w.heap.size ≤ s_.2) ∧ (gb186 ≠ s_.2) ∧ (s_.2 ≠ gb186) ∧ (gb187 ≠ s_.2) ∧ (s_.2 ≠ gb187) ∧ (Below w.heap.size w w')) ?_ ?_
    rotate_left
    ·intro hCont
     refine two_ (i := 5) (j := 12) (Ni := some 31) (Nj := some 11) m92_8_ m92_9_ rfl rfl rfl rfl (two_of HT_.out (by kernel_rfl)) (by decide) (by decide) (fun K hK => ?_) (fun K hK => ?_)
     ·skip
      refine goes_ Try.func120 (by kernel_rfl) rfl #[.agg #[.int .i64 a0_0, .int .i64 a0_1], .int .i64 a1, .int .i64 (wrap64 (Int.tdiv (wrap64 (t195 - 1)) 2))] (by rfl) rfl rfl (by (try simp only [List.map_toArray, List.map_cons, List.map_nil]); first | done | rfl | (simp only [List.length_drop, List.length_take]; rfl)) ?_
      with_reducible refine (preset_size_with.calls a0_0 a0_1 a1 (wrap64 (Int.tdiv (wrap64 (t195 - 1)) 2)) t196 t197 _ A15.out).mono ?_
      rintro e w26 ⟨rfl, hb⟩
      refine ⟨_, rfl, ?_⟩
      replace BK186 := zM (bb hb BK186.out); replace BK187 := zM (bb hb BK187.out); replace HB := zM (below_step (by repeat first | refine zS ?_ GE186.out | refine zS ?_ GE187.out | exact HB.out | apply zA | apply zN | apply zD) hb)
      (try clear hb)
      (try clear hb2)
      (try clear hk)
      (try clear hi)
      refine hK.out _ _ ⟨(blk_cell BK186.out 0).trans rfl, (blk_cell BK186.out 1).trans rfl⟩ (fun hHeld => ?_)
      clear hK K
      refine norm_ (a' := ?_) ?_ ?_
      rotate_left
      ·show Act.put _ (some 31) _ = _
       simp only [Act.put, s1, s2, s3, i64_w, i32_w]
       rfl
      refine two_ (i := 8) (j := 12) (Ni := some 34) (Nj := some 11) m92_10_ m92_11_ rfl rfl rfl rfl (two_of HT_.out (by kernel_rfl)) (by decide) (by decide) (fun K hK => ?_) (fun K hK => ?_)
      ·skip
       refine goesV_ Y.hf Y.hn Y.hb #[.agg #[.int .i64 t196, .int .i64 t197], .slice A25 (l2.drop 1).length (c2 - 1)] (by rfl) rfl rfl rfl (by (try simp only [List.map_toArray, List.map_cons, List.map_nil]); first | done | (rw [show (l2.drop 1).length = (l2.length - 1) from List.length_drop] <;> rfl) | rfl | (simp only [List.length_drop, List.length_take]; rfl)) ?_
       with_reducible refine (Y.calls k t196 t197 _ _ (l2.drop 1) t199 t200 t201 t202 t205 _ ?side1 ?side2 A17.out).mono ?_
       (case side1 => repeat (first | exact (Kd.C_below HR198.out HB.out) | (with_reducible refine Kd.C_alloc ?_ _) | (with_reducible refine Kd.C_drewN ?_ _) | (with_reducible refine Kd.C_drew ?_)))
       (case side2 => exact HC198.out)
       rintro e w27 ⟨v203, rfl, ho0, hb⟩
       refine ⟨_, rfl, ?_⟩
       have HO204 := zM (Kd.N_lower (Kd.N_mono (ok' := fun k_ => (w.heap.size ≤ k_) ∧ k_ ≠ gb186 ∧ k_ ≠ gb187) (Kd.R_N (Kd.R_bound ho0)) (fun k_ hk_ => ⟨(Nat.le_trans (below_size (by repeat first | refine zS ?_ GE186.out | refine zS ?_ GE187.out | exact HB.out | apply zA | apply zN | apply zD)) hk_.2.1), (Kd.freshB (g := gb186) (o := .cells #[.int .i64 a0_0, .int .i64 a0_1] 83 (0, 0)) (by (with_reducible repeat (first | refine blk_drewN ?_ _ | refine blk_drew ?_ | refine blk_alloc ?_ _)); exact BK186.out) k_ hk_.2.1), (Kd.freshB (g := gb187) (o := .cells #[.int .i64 0, .int .i64 0, .int .i64 0, .slice none 0 0] 31 (0, 0)) (by (with_reducible repeat (first | refine blk_drewN ?_ _ | refine blk_drew ?_ | refine blk_alloc ?_ _)); exact BK187.out) k_ hk_.2.1)⟩)) (below_size (by repeat first | refine zS ?_ GE186.out | refine zS ?_ GE187.out | exact HB.out | apply zA | apply zN | apply zD))); replace BK186 := zM (bb hb BK186.out); replace BK187 := zM (bb hb BK187.out); replace HB := zM (below_step (by repeat first | refine zS ?_ GE186.out | refine zS ?_ GE187.out | exact HB.out | apply zA | apply zN | apply zD) hb)
       (try clear hb)
       (try clear hb2)
       (try clear hk)
       (try clear hi)
       (try clear ho0)
       refine hK.out _ _ ⟨(blk_cell BK186.out 0).trans rfl, (blk_cell BK186.out 1).trans rfl⟩ (fun hHeld => ?_)
       clear hK K
       refine norm_ (a' := ?_) ?_ ?_
       rotate_left
       ·show Act.put _ (some 34) _ = _
        simp only [Act.put, s1, s2, s3, i64_w, i32_w]
        rfl
       refine pv (v := ?_) (a' := ?_) HT_.out 9 (some 25) m92_12_ ?_ ?_ ?_; rotate_left 2; (·intro w'; go_simp; with_reducible rfl); (·simp only [Act.put, s1, s2, s3, i64_w, i32_w]; rfl)
       refine pv (v := ?_) (a' := ?_) HT_.out 10 (some 35) m92_13_ ?_ ?_ ?_; rotate_left 2; (·intro w'; go_simp; with_reducible rfl); (·simp only [Act.put, s1, s2, s3, i64_w, i32_w]; rfl)
       refine pv (v := ?_) (a' := ?_) HT_.out 11 (some 36) m92_14_ ?_ ?_ ?_; rotate_left 2; (·intro w'; go_simp; with_reducible rfl); (·simp only [Act.put, s1, s2, s3, i64_w, i32_w]; rfl)
       refine one_ (i := 12) (N := some 11) m92_7_ rfl rfl (one_of HT_.out (by kernel_rfl)) (by decide) (fun K hK => ?_)
       refine box_step ?hg (N := 11) ?hd (cs := #[.int .i64 0, .int .i64 0, .int .i64 0, .slice none 0 0]) (t := 31) ?hr ?_; (case hd => rfl); (case hg => rfl); (case hr => first | (go_simp; done) | (go_simp; rfl))
       intro gb206 hg w28 hbox hb
       have BK206 := zM (hbox); have GW206 := zM ((by rw [hg]; exact (below_size (by repeat first | refine zS ?_ GE186.out | refine zS ?_ GE187.out | exact HB.out | apply zA | apply zN | apply zD)) : w.heap.size ≤ gb206)); have GE206 := GW206; have NB186_206 := zM ((by rw [hg]; exact lt1 BK186.out : gb186 ≠ gb206)); have NB206_186 := zM ((by rw [hg]; exact gt1 BK186.out : gb206 ≠ gb186)); have NB187_206 := zM ((by rw [hg]; exact lt1 BK187.out : gb187 ≠ gb206)); have NB206_187 := zM ((by rw [hg]; exact gt1 BK187.out : gb206 ≠ gb187)); replace HO204 := zM (Kd.N_below (Kd.N_elderB (by (with_reducible repeat (first | apply Kd.N_alloc | apply Kd.N_drewN | apply Kd.N_drew)); exact HO204.out) gb206 (Nat.le_of_eq hg.symm)) hb); replace BK186 := zM (bb hb BK186.out); replace BK187 := zM (bb hb BK187.out); replace HB := zM (below_step (by repeat first | refine zS ?_ GE186.out | refine zS ?_ GE187.out | exact HB.out | apply zA | apply zN | apply zD) hb)
       clear hb hbox hg
       refine hK.out _ _ ⟨(blk_cell BK186.out 0).trans rfl, (blk_cell BK186.out 1).trans rfl⟩ (fun hHeld => ?_)
       clear hK K
       refine norm_ (a' := ?_) ?_ ?_
       rotate_left
       ·show Act.put _ (some 11) _ = _
        simp only [Act.put, s1, s2, s3, i64_w, i32_w]
        rfl
       exact norm_ (by simp only [putAll, Act.put, List.setIfInBounds_toArray, List.set_cons_zero, List.set_cons_succ]) (hCont (v203, gb206) _ ⟨hHeld, (by (with_reducible repeat (first | apply Kd.N_alloc | apply Kd.N_drewN | apply Kd.N_drew)); exact Kd.N_mono HO204.out (fun _ hk => ⟨hk.1.1, ⟨hk.1.2.1, ⟨hk.1.2.2, hk.2⟩⟩⟩)), (by (with_reducible repeat (first | refine blk_drewN ?_ _ | refine blk_drew ?_ | refine blk_alloc ?_ _)); exact BK186.out), (by (with_reducible repeat (first | refine blk_drewN ?_ _ | refine blk_drew ?_ | refine blk_alloc ?_ _)); exact BK187.out), (by (with_reducible repeat (first | refine blk_drewN ?_ _ | refine blk_drew ?_ | refine blk_alloc ?_ _)); exact BK206.out), GW206.out, GE206.out, NB186_206.out, NB206_186.out, NB187_206.out, NB206_187.out, (by repeat first | refine zS ?_ GE186.out | refine zS ?_ GE187.out | refine zS ?_ GE206.out | exact HB.out | apply zA | apply zN | apply zD)⟩)
      ·skip
       refine box_step ?hg (N := 11) ?hd (cs := #[.int .i64 0, .int .i64 0, .int .i64 0, .slice none 0 0]) (t := 31) ?hr ?_; (case hd => rfl); (case hg => rfl); (case hr => first | (go_simp; done) | (go_simp; rfl))
       intro gb206 hg w27 hbox hb
       have BK206 := zM (hbox); have GW206 := zM ((by rw [hg]; exact (below_size (by repeat first | refine zS ?_ GE186.out | refine zS ?_ GE187.out | exact HB.out | apply zA | apply zN | apply zD)) : w.heap.size ≤ gb206)); have GE206 := GW206; have NB186_206 := zM ((by rw [hg]; exact lt1 BK186.out : gb186 ≠ gb206)); have NB206_186 := zM ((by rw [hg]; exact gt1 BK186.out : gb206 ≠ gb186)); have NB187_206 := zM ((by rw [hg]; exact lt1 BK187.out : gb187 ≠ gb206)); have NB206_187 := zM ((by rw [hg]; exact gt1 BK187.out : gb206 ≠ gb187)); replace BK186 := zM (bb hb BK186.out); replace BK187 := zM (bb hb BK187.out); replace HB := zM (below_step (by repeat first | refine zS ?_ GE186.out | refine zS ?_ GE187.out | exact HB.out | apply zA | apply zN | apply zD) hb)
       clear hb hbox hg
       refine hK.out _ _ ⟨(blk_cell BK186.out 0).trans rfl, (blk_cell BK186.out 1).trans rfl⟩ (fun hHeld => ?_)
       clear hK K
       refine norm_ (a' := ?_) ?_ ?_
       rotate_left
       ·show Act.put _ (some 11) _ = _
        simp only [Act.put, s1, s2, s3, i64_w, i32_w]
        rfl
       refine one_ (i := 8) (N := some 34) m92_15_ rfl rfl (one_of HT_.out (by kernel_rfl)) (by decide) (fun K hK => ?_)
       refine goesV_ Y.hf Y.hn Y.hb #[.agg #[.int .i64 t196, .int .i64 t197], .slice A25 (l2.drop 1).length (c2 - 1)] (by rfl) rfl rfl rfl (by (try simp only [List.map_toArray, List.map_cons, List.map_nil]); first | done | (rw [show (l2.drop 1).length = (l2.length - 1) from List.length_drop] <;> rfl) | rfl | (simp only [List.length_drop, List.length_take]; rfl)) ?_
       with_reducible refine (Y.calls k t196 t197 _ _ (l2.drop 1) t199 t200 t201 t202 t205 _ ?side1 ?side2 A17.out).mono ?_
       (case side1 => repeat (first | exact (Kd.C_below HR198.out HB.out) | (with_reducible refine Kd.C_alloc ?_ _) | (with_reducible refine Kd.C_drewN ?_ _) | (with_reducible refine Kd.C_drew ?_)))
       (case side2 => exact HC198.out)
       rintro e w28 ⟨v203, rfl, ho0, hb⟩
       refine ⟨_, rfl, ?_⟩
       have HO204 := zM (Kd.N_lower (Kd.N_mono (ok' := fun k_ => (w.heap.size ≤ k_) ∧ k_ ≠ gb186 ∧ k_ ≠ gb187 ∧ k_ ≠ gb206) (Kd.R_N (Kd.R_bound ho0)) (fun k_ hk_ => ⟨(Nat.le_trans (below_size (by repeat first | refine zS ?_ GE186.out | refine zS ?_ GE187.out | refine zS ?_ GE206.out | exact HB.out | apply zA | apply zN | apply zD)) hk_.2.1), (Kd.freshB (g := gb186) (o := .cells #[.int .i64 a0_0, .int .i64 a0_1] 83 (0, 0)) (by (with_reducible repeat (first | refine blk_drewN ?_ _ | refine blk_drew ?_ | refine blk_alloc ?_ _)); exact BK186.out) k_ hk_.2.1), (Kd.freshB (g := gb187) (o := .cells #[.int .i64 0, .int .i64 0, .int .i64 0, .slice none 0 0] 31 (0, 0)) (by (with_reducible repeat (first | refine blk_drewN ?_ _ | refine blk_drew ?_ | refine blk_alloc ?_ _)); exact BK187.out) k_ hk_.2.1), (Kd.freshB (g := gb206) (o := .cells #[.int .i64 0, .int .i64 0, .int .i64 0, .slice none 0 0] 31 (0, 0)) (by (with_reducible repeat (first | refine blk_drewN ?_ _ | refine blk_drew ?_ | refine blk_alloc ?_ _)); exact BK206.out) k_ hk_.2.1)⟩)) (below_size (by repeat first | refine zS ?_ GE186.out | refine zS ?_ GE187.out | refine zS ?_ GE206.out | exact HB.out | apply zA | apply zN | apply zD))); replace BK186 := zM (bb hb BK186.out); replace BK187 := zM (bb hb BK187.out); replace BK206 := zM (bb hb BK206.out); replace HB := zM (below_step (by repeat first | refine zS ?_ GE186.out | refine zS ?_ GE187.out | refine zS ?_ GE206.out | exact HB.out | apply zA | apply zN | apply zD) hb)
       (try clear hb)
       (try clear hb2)
       (try clear hk)
       (try clear hi)
       (try clear ho0)
       refine hK.out _ _ ⟨(blk_cell BK186.out 0).trans rfl, (blk_cell BK186.out 1).trans rfl⟩ (fun hHeld => ?_)
       clear hK K
       refine norm_ (a' := ?_) ?_ ?_
       rotate_left
       ·show Act.put _ (some 34) _ = _
        simp only [Act.put, s1, s2, s3, i64_w, i32_w]
        rfl
       refine pv (v := ?_) (a' := ?_) HT_.out 9 (some 25) m92_16_ ?_ ?_ ?_; rotate_left 2; (·intro w'; go_simp; with_reducible rfl); (·simp only [Act.put, s1, s2, s3, i64_w, i32_w]; rfl)
       refine pv (v := ?_) (a' := ?_) HT_.out 10 (some 35) m92_17_ ?_ ?_ ?_; rotate_left 2; (·intro w'; go_simp; with_reducible rfl); (·simp only [Act.put, s1, s2, s3, i64_w, i32_w]; rfl)
       refine pv (v := ?_) (a' := ?_) HT_.out 11 (some 36) m92_7_ ?_ ?_ ?_; rotate_left 2; (·intro w'; go_simp; with_reducible rfl); (·simp only [Act.put, s1, s2, s3, i64_w, i32_w]; rfl)
       exact norm_ (by simp only [putAll, Act.put, List.setIfInBounds_toArray, List.set_cons_zero, List.set_cons_succ]) (hCont (v203, gb206) _ ⟨hHeld, (by (with_reducible repeat (first | apply Kd.N_alloc | apply Kd.N_drewN | apply Kd.N_drew)); exact HO204.out), (by (with_reducible repeat (first | refine blk_drewN ?_ _ | refine blk_drew ?_ | refine blk_alloc ?_ _)); exact BK186.out), (by (with_reducible repeat (first | refine blk_drewN ?_ _ | refine blk_drew ?_ | refine blk_alloc ?_ _)); exact BK187.out), (by (with_reducible repeat (first | refine blk_drewN ?_ _ | refine blk_drew ?_ | refine blk_alloc ?_ _)); exact BK206.out), GW206.out, GE206.out, NB186_206.out, NB206_186.out, NB187_206.out, NB206_187.out, (by repeat first | refine zS ?_ GE186.out | refine zS ?_ GE187.out | refine zS ?_ GE206.out | exact HB.out | apply zA | apply zN | apply zD)⟩)
     ·skip
      refine box_step ?hg (N := 11) ?hd (cs := #[.int .i64 0, .int .i64 0, .int .i64 0, .slice none 0 0]) (t := 31) ?hr ?_; (case hd => rfl); (case hg => rfl); (case hr => first | (go_simp; done) | (go_simp; rfl))
      intro gb206 hg w26 hbox hb
      have BK206 := zM (hbox); have GW206 := zM ((by rw [hg]; exact (below_size (by repeat first | refine zS ?_ GE186.out | refine zS ?_ GE187.out | exact HB.out | apply zA | apply zN | apply zD)) : w.heap.size ≤ gb206)); have GE206 := GW206; have NB186_206 := zM ((by rw [hg]; exact lt1 BK186.out : gb186 ≠ gb206)); have NB206_186 := zM ((by rw [hg]; exact gt1 BK186.out : gb206 ≠ gb186)); have NB187_206 := zM ((by rw [hg]; exact lt1 BK187.out : gb187 ≠ gb206)); have NB206_187 := zM ((by rw [hg]; exact gt1 BK187.out : gb206 ≠ gb187)); replace BK186 := zM (bb hb BK186.out); replace BK187 := zM (bb hb BK187.out); replace HB := zM (below_step (by repeat first | refine zS ?_ GE186.out | refine zS ?_ GE187.out | exact HB.out | apply zA | apply zN | apply zD) hb)
      clear hb hbox hg
      refine hK.out _ _ ⟨(blk_cell BK186.out 0).trans rfl, (blk_cell BK186.out 1).trans rfl⟩ (fun hHeld => ?_)
      clear hK K
      refine norm_ (a' := ?_) ?_ ?_
      rotate_left
      ·show Act.put _ (some 11) _ = _
       simp only [Act.put, s1, s2, s3, i64_w, i32_w]
       rfl
      refine one_ (i := 5) (N := some 31) m92_11_ rfl rfl (one_of HT_.out (by kernel_rfl)) (by decide) (fun K hK => ?_)
      refine goes_ Try.func120 (by kernel_rfl) rfl #[.agg #[.int .i64 a0_0, .int .i64 a0_1], .int .i64 a1, .int .i64 (wrap64 (Int.tdiv (wrap64 (t195 - 1)) 2))] (by rfl) rfl rfl (by (try simp only [List.map_toArray, List.map_cons, List.map_nil]); first | done | rfl | (simp only [List.length_drop, List.length_take]; rfl)) ?_
      with_reducible refine (preset_size_with.calls a0_0 a0_1 a1 (wrap64 (Int.tdiv (wrap64 (t195 - 1)) 2)) t196 t197 _ A15.out).mono ?_
      rintro e w27 ⟨rfl, hb⟩
      refine ⟨_, rfl, ?_⟩
      replace BK186 := zM (bb hb BK186.out); replace BK187 := zM (bb hb BK187.out); replace BK206 := zM (bb hb BK206.out); replace HB := zM (below_step (by repeat first | refine zS ?_ GE186.out | refine zS ?_ GE187.out | refine zS ?_ GE206.out | exact HB.out | apply zA | apply zN | apply zD) hb)
      (try clear hb)
      (try clear hb2)
      (try clear hk)
      (try clear hi)
      refine hK.out _ _ ⟨(blk_cell BK186.out 0).trans rfl, (blk_cell BK186.out 1).trans rfl⟩ (fun hHeld => ?_)
      clear hK K
      refine norm_ (a' := ?_) ?_ ?_
      rotate_left
      ·show Act.put _ (some 31) _ = _
       simp only [Act.put, s1, s2, s3, i64_w, i32_w]
       rfl
      refine one_ (i := 8) (N := some 34) m92_15_ rfl rfl (one_of HT_.out (by kernel_rfl)) (by decide) (fun K hK => ?_)
      refine goesV_ Y.hf Y.hn Y.hb #[.agg #[.int .i64 t196, .int .i64 t197], .slice A25 (l2.drop 1).length (c2 - 1)] (by rfl) rfl rfl rfl (by (try simp only [List.map_toArray, List.map_cons, List.map_nil]); first | done | (rw [show (l2.drop 1).length = (l2.length - 1) from List.length_drop] <;> rfl) | rfl | (simp only [List.length_drop, List.length_take]; rfl)) ?_
      with_reducible refine (Y.calls k t196 t197 _ _ (l2.drop 1) t199 t200 t201 t202 t205 _ ?side1 ?side2 A17.out).mono ?_
      (case side1 => repeat (first | exact (Kd.C_below HR198.out HB.out) | (with_reducible refine Kd.C_alloc ?_ _) | (with_reducible refine Kd.C_drewN ?_ _) | (with_reducible refine Kd.C_drew ?_)))
      (case side2 => exact HC198.out)
      rintro e w28 ⟨v203, rfl, ho0, hb⟩
      refine ⟨_, rfl, ?_⟩
      have HO204 := zM (Kd.N_lower (Kd.N_mono (ok' := fun k_ => (w.heap.size ≤ k_) ∧ k_ ≠ gb186 ∧ k_ ≠ gb187 ∧ k_ ≠ gb206) (Kd.R_N (Kd.R_bound ho0)) (fun k_ hk_ => ⟨(Nat.le_trans (below_size (by repeat first | refine zS ?_ GE186.out | refine zS ?_ GE187.out | refine zS ?_ GE206.out | exact HB.out | apply zA | apply zN | apply zD)) hk_.2.1), (Kd.freshB (g := gb186) (o := .cells #[.int .i64 a0_0, .int .i64 a0_1] 83 (0, 0)) (by (with_reducible repeat (first | refine blk_drewN ?_ _ | refine blk_drew ?_ | refine blk_alloc ?_ _)); exact BK186.out) k_ hk_.2.1), (Kd.freshB (g := gb187) (o := .cells #[.int .i64 0, .int .i64 0, .int .i64 0, .slice none 0 0] 31 (0, 0)) (by (with_reducible repeat (first | refine blk_drewN ?_ _ | refine blk_drew ?_ | refine blk_alloc ?_ _)); exact BK187.out) k_ hk_.2.1), (Kd.freshB (g := gb206) (o := .cells #[.int .i64 0, .int .i64 0, .int .i64 0, .slice none 0 0] 31 (0, 0)) (by (with_reducible repeat (first | refine blk_drewN ?_ _ | refine blk_drew ?_ | refine blk_alloc ?_ _)); exact BK206.out) k_ hk_.2.1)⟩)) (below_size (by repeat first | refine zS ?_ GE186.out | refine zS ?_ GE187.out | refine zS ?_ GE206.out | exact HB.out | apply zA | apply zN | apply zD))); replace BK186 := zM (bb hb BK186.out); replace BK187 := zM (bb hb BK187.out); replace BK206 := zM (bb hb BK206.out); replace HB := zM (below_step (by repeat first | refine zS ?_ GE186.out | refine zS ?_ GE187.out | refine zS ?_ GE206.out | exact HB.out | apply zA | apply zN | apply zD) hb)
      (try clear hb)
      (try clear hb2)
      (try clear hk)
      (try clear hi)
      (try clear ho0)
      refine hK.out _ _ ⟨(blk_cell BK186.out 0).trans rfl, (blk_cell BK186.out 1).trans rfl⟩ (fun hHeld => ?_)
      clear hK K
      refine norm_ (a' := ?_) ?_ ?_
      rotate_left
      ·show Act.put _ (some 34) _ = _
       simp only [Act.put, s1, s2, s3, i64_w, i32_w]
       rfl
      refine pv (v := ?_) (a' := ?_) HT_.out 9 (some 25) m92_16_ ?_ ?_ ?_; rotate_left 2; (·intro w'; go_simp; with_reducible rfl); (·simp only [Act.put, s1, s2, s3, i64_w, i32_w]; rfl)
      refine pv (v := ?_) (a' := ?_) HT_.out 10 (some 35) m92_17_ ?_ ?_ ?_; rotate_left 2; (·intro w'; go_simp; with_reducible rfl); (·simp only [Act.put, s1, s2, s3, i64_w, i32_w]; rfl)
      refine pv (v := ?_) (a' := ?_) HT_.out 11 (some 36) m92_7_ ?_ ?_ ?_; rotate_left 2; (·intro w'; go_simp; with_reducible rfl); (·simp only [Act.put, s1, s2, s3, i64_w, i32_w]; rfl)
      exact norm_ (by simp only [putAll, Act.put, List.setIfInBounds_toArray, List.set_cons_zero, List.set_cons_succ]) (hCont (v203, gb206) _ ⟨hHeld, (by (with_reducible repeat (first | apply Kd.N_alloc | apply Kd.N_drewN | apply Kd.N_drew)); exact HO204.out), (by (with_reducible repeat (first | refine blk_drewN ?_ _ | refine blk_drew ?_ | refine blk_alloc ?_ _)); exact BK186.out), (by (with_reducible repeat (first | refine blk_drewN ?_ _ | refine blk_drew ?_ | refine blk_alloc ?_ _)); exact BK187.out), (by (with_reducible repeat (first | refine blk_drewN ?_ _ | refine blk_drew ?_ | refine blk_alloc ?_ _)); exact BK206.out), GW206.out, GE206.out, NB186_206.out, NB206_186.out, NB187_206.out, NB206_187.out, (by repeat first | refine zS ?_ GE186.out | refine zS ?_ GE187.out | refine zS ?_ GE206.out | exact HB.out | apply zA | apply zN | apply zD)⟩)
    rintro ⟨v203, gb206⟩ w29 ⟨hS_, h0_, h1_, h2_, h3_, h4_, h5_, h6_, h7_, h8_, h9_, h10_⟩
    have n0_ : Aside0 (Kd.N k31 31 w29 w.heap.size (fun k_ => (w.heap.size ≤ k_) ∧ k_ ≠ gb186 ∧ k_ ≠ gb187 ∧ k_ ≠ gb206) v203 t202) := ⟨h0_⟩
    have n1_ : Aside0 (w29.heap[gb186]? = some (.cells #[.int .i64 a0_0, .int .i64 a0_1] 83 (0, 0))) := ⟨h1_⟩
    have n2_ : Aside0 (w29.heap[gb187]? = some (.cells #[.int .i64 0, .int .i64 0, .int .i64 0, .slice none 0 0] 31 (0, 0))) := ⟨h2_⟩
    have n3_ : Aside0 (w29.heap[gb206]? = some (.cells #[.int .i64 0, .int .i64 0, .int .i64 0, .slice none 0 0] 31 (0, 0))) := ⟨h3_⟩
    have n4_ : Aside0 (w.heap.size ≤ gb206) := ⟨h4_⟩
    have n5_ : Aside0 (w.heap.size ≤ gb206) := ⟨h5_⟩
    have n6_ : Aside0 (gb186 ≠ gb206) := ⟨h6_⟩
    have n7_ : Aside0 (gb206 ≠ gb186) := ⟨h7_⟩
    have n8_ : Aside0 (gb187 ≠ gb206) := ⟨h8_⟩
    have n9_ : Aside0 (gb206 ≠ gb187) := ⟨h9_⟩
    have n10_ : Aside0 (Below w.heap.size w w29) := ⟨h10_⟩
    clear BK186
    clear BK187
    clear HB
    clear h0_ h1_ h2_ h3_ h4_ h5_ h6_ h7_ h8_ h9_ h10_
    have HO204 := n0_
    have BK186 := n1_
    have BK187 := n2_
    have BK206 := n3_
    have GW206 := n4_
    have GE206 := n5_
    have NB186_206 := n6_
    have NB206_186 := n7_
    have NB187_206 := n8_
    have NB206_187 := n9_
    have HB := n10_
    clear n0_ n1_ n2_ n3_ n4_ n5_ n6_ n7_ n8_ n9_ n10_
    have hHeld : w29.cell? ⟨gb186, 0, none⟩ = some (.int .i64 a0_0) ∧ w29.cell? ⟨gb186, 1, none⟩ = some (.int .i64 a0_1) := hS_
    obtain ⟨Ao33, co33, eo33⟩ := Kd.N_slice HO204.out
    (first | subst eo33 | (injection eo33 with f1_ f2_ f3_; have f4_ := f1_.symm; have f5_ := f3_.symm; clear f1_ f2_ f3_; subst f4_; subst f5_))
    refine norm_ (a' := ?_) ?_ ?_
    rotate_left
    ·simp only [putAll, Act.put, List.setIfInBounds_toArray, List.set_cons_zero, List.set_cons_succ]
     rfl
    refine one_ (i := 13) (N := none) m92_18_ rfl rfl (one_of HT_.out (by kernel_rfl)) (by decide) (fun K hK => ?_)
    have hs30 : w29.cell? ⟨gb206, 0, none⟩ = some (.int .i64 0) := (blk_cell BK206.out 0).trans rfl
    have hfs30 := blk_frozen BK206.out 0
    have hns30_0 := NB186_206.out
    have hns30_1 := NB187_206.out
    have hms30_0 := NB206_186.out
    have hms30_1 := NB206_187.out
    have hs31 : w29.cell? ⟨gb206, 1, none⟩ = some (.int .i64 0) := (blk_cell BK206.out 1).trans rfl
    have hfs31 := blk_frozen BK206.out 1
    have hns31_0 := NB186_206.out
    have hns31_1 := NB187_206.out
    have hms31_0 := NB206_186.out
    have hms31_1 := NB206_187.out
    have hs32 : w29.cell? ⟨gb206, 2, none⟩ = some (.int .i64 0) := (blk_cell BK206.out 2).trans rfl
    have hfs32 := blk_frozen BK206.out 2
    have hns32_0 := NB186_206.out
    have hns32_1 := NB187_206.out
    have hms32_0 := NB206_186.out
    have hms32_1 := NB206_187.out
    have hs34 : w29.cell? ⟨gb206, 3, none⟩ = some (.slice none 0 0) := (blk_cell BK206.out 3).trans rfl
    have hfs34 := blk_frozen BK206.out 3
    have hns34_0 := NB186_206.out
    have hns34_1 := NB187_206.out
    have hms34_0 := NB206_186.out
    have hms34_1 := NB206_187.out
    refine skip_ (w1 := ?_) (by rfl) rfl ?_ ?_
    rotate_left
    ·go_simp
     rfl
    refine hK.out _ _ ⟨((cell_far (p := ⟨gb206, _, none⟩) NB186_206.out _).trans (((cell_far (p := ⟨gb206, _, none⟩) NB186_206.out _).trans (((cell_far (p := ⟨gb206, _, none⟩) NB186_206.out _).trans (((cell_far (p := ⟨gb206, _, none⟩) NB186_206.out _).trans (hHeld.1)))))))), ((cell_far (p := ⟨gb206, _, none⟩) NB186_206.out _).trans (((cell_far (p := ⟨gb206, _, none⟩) NB186_206.out _).trans (((cell_far (p := ⟨gb206, _, none⟩) NB186_206.out _).trans (((cell_far (p := ⟨gb206, _, none⟩) NB186_206.out _).trans (hHeld.2))))))))⟩ (fun hHeld => ?_)
    clear hK K
    refine pv (v := ?_) (a' := ?_) HT_.out 14 (some 12) m92_19_ ?_ ?_ ?_; rotate_left 2; (·intro w'; go_simp; with_reducible rfl); (·simp only [Act.put, s1, s2, s3, i64_w, i32_w]; rfl)
    refine done_ (done_of HT_.out (by kernel_rfl)) ?_
    have hnb35 := NB187_206.out
    have hnc35 := NB206_187.out
    have hcz36_0 : w29.cell? ⟨gb187, 0, none⟩ = some (.int .i64 0) := (blk_cell BK187.out 0).trans rfl
    have hcz36_1 : w29.cell? ⟨gb187, 1, none⟩ = some (.int .i64 0) := (blk_cell BK187.out 1).trans rfl
    have hcz36_2 : w29.cell? ⟨gb187, 2, none⟩ = some (.int .i64 0) := (blk_cell BK187.out 2).trans rfl
    have hcz36_3 : w29.cell? ⟨gb187, 3, none⟩ = some (.slice none 0 0) := (blk_cell BK187.out 3).trans rfl
    have hfz36_0 := blk_frozen BK187.out 0
    have hfz36_1 := blk_frozen BK187.out 1
    have hfz36_2 := blk_frozen BK187.out 2
    have hfz36_3 := blk_frozen BK187.out 3
    try go_wp2
    refine bodyPost_ret (results_ct rfl _ _ gb187 31 #[.int .i64 0, .int .i64 0, .int .i64 0, .slice none 0 0] (0, 0) _ rfl (by exact (put4 (blk_far (blk_far (blk_far (blk_far BK187.out NB187_206.out _) NB187_206.out _) NB187_206.out _) NB187_206.out _))) Try.underlying31 rfl (by kernel_rfl)) rfl ?_
    exact ⟨_, by first | rfl | (simp [errW_none, errW_some] <;> rfl) | (simp [*, errW_none, errW_some] <;> rfl), by first | exact Kd.R_nil _ _ _ _ _ | exact Kd.N_nil _ _ _ _ _ | exact Kd.V_nil _ _ _ _ _ | exact Kd.Q_nil _ _ _ _ _ | exact Kd.S_nil _ _ _ _ _, by repeat first | refine zS ?_ GE186.out | refine zS ?_ GE187.out | refine zS ?_ GE206.out | exact HB.out | apply zA | apply zN | apply zD⟩
   ·rw [if_neg c18] at H
    have c18b0 : decide ((wrap64 (t195 - 1)) < 2) = false := decide_eq_false c18
    clear c18
    by_cases c37 : t205 = true
    ·subst c37
     have H1 : (if 0 < (l2.length : Int) then (some (a1, 0, 0, (([(⟨0, rd l2 0, wrap64 ((wrap64 (t195 - 1)) - (wrap64 (Int.tdiv (wrap64 (t195 - 1)) 2))), ([] : List (S31))⟩ : S31), (⟨t199, t200, wrap64 (Int.tdiv (wrap64 (t195 - 1)) 2), t202⟩ : S31)] : List (S31))), true)) else (none)) = some (r1, r2, r3, r4, r5) := by rw [if_pos rfl] at H; exact H
     clear H
     have H := H1
     clear H1
     by_cases c38 : 0 < (l2.length : Int)
     ·rw [if_pos c38] at H
      have c38b0 : decide (0 < (l2.length : Int)) = true := decide_eq_true c38
      have c38b1 : decide (0 < l2.length) = true := decide_eq_true (by omega)
      clear c38
      obtain ⟨y208, hy208⟩ : ∃ y_ : List (S31), y_ = (([(⟨0, rd l2 0, wrap64 ((wrap64 (t195 - 1)) - (wrap64 (Int.tdiv (wrap64 (t195 - 1)) 2))), ([] : List (S31))⟩ : S31), (⟨t199, t200, wrap64 (Int.tdiv (wrap64 (t195 - 1)) 2), t202⟩ : S31)] : List (S31))) := ⟨_, rfl⟩
      replace H : (some (a1, 0, 0, y208, true)) = some (r1, r2, r3, r4, r5) := by first | (rw [hy208]; with_reducible exact H) | (have H2_ := (Option.bind_some _ _).symm.trans H; rw [hy208]; with_reducible exact H2_) | (have H2_ := (Option.bind_some _ _).symm.trans H; with_reducible exact H2_) | with_reducible exact H | (rw [hy208]; exact H) | exact H
      have Ny208 := zM hy208
      clear hy208
      simp only [Option.some.injEq, Prod.mk.injEq] at H
      obtain ⟨rfl, rfl, rfl, rfl, rfl⟩ := H
      go_enter Try.func92, Try.ntmps92
      try go_wp2_with (first | ((with_reducible refine gate_dst (N := 4) rfl ?_); refine box_event ?hg (N := 4) ?hd (cs := #[.int .i64 a0_0, .int .i64 a0_1]) (t := 83) ?hr ?_; (case hd => rfl); (case hg => rfl); (case hr => first | (go_simp; done) | (go_simp; rfl)); intro gb186 hg w39 hbox hb; have BK186 := zM (hbox); have GW186 := zM ((by rw [hg]; exact (below_size (by first | exact HB.out | exact zN HB.out _ | exact zD HB.out)) : w.heap.size ≤ gb186)); have GE186 := GW186; replace HB := zM (below_step (by first | exact HB.out | exact zN HB.out _ | exact zD HB.out) hb); clear hb hbox hg) | ((with_reducible refine gate_dst (N := 8) rfl ?_); refine box_event ?hg (N := 8) ?hd (cs := #[.int .i64 0, .int .i64 0, .int .i64 0, .slice none 0 0]) (t := 31) ?hr ?_; (case hd => rfl); (case hg => rfl); (case hr => first | (go_simp; done) | (go_simp; rfl)); intro gb187 hg w40 hbox hb; have BK187 := zM (hbox); have GW187 := zM ((by rw [hg]; exact (below_size (by repeat first | refine zS ?_ GE186.out | exact HB.out | apply zA | apply zN | apply zD)) : w.heap.size ≤ gb187)); have GE187 := GW187; have NB186_187 := zM ((by rw [hg]; exact lt1 BK186.out : gb186 ≠ gb187)); have NB187_186 := zM ((by rw [hg]; exact gt1 BK186.out : gb187 ≠ gb186)); replace BK186 := zM (bb hb BK186.out); replace HB := zM (below_step (by repeat first | refine zS ?_ GE186.out | exact HB.out | apply zA | apply zN | apply zD) hb); clear hb hbox hg; have hnb41 := NB186_187.out; have hnc41 := NB187_186.out; have hcz42_0 : w40.cell? ⟨gb186, 0, none⟩ = some (.int .i64 a0_0) := (blk_cell BK186.out 0).trans rfl; have hcz42_1 : w40.cell? ⟨gb186, 1, none⟩ = some (.int .i64 a0_1) := (blk_cell BK186.out 1).trans rfl; have hfz42_0 := blk_frozen BK186.out 0; have hfz42_1 := blk_frozen BK186.out 1) | ((with_reducible refine gate_callee (f := 119) rfl ?_); refine ga (some 23) rfl rfl Try.func119 (by kernel_rfl) rfl #[.agg #[.int .i64 a0_0, .int .i64 a0_1], .int .i64 a1] rfl ?_; (with_reducible refine (preset_size_along.calls a0_0 a0_1 a1 t195 _ A14.out).mono ?_); rintro e w43 ⟨rfl, hb⟩; refine ⟨_, rfl, ?_⟩; replace BK186 := zM (bb hb BK186.out); replace BK187 := zM (bb hb BK187.out); replace HB := zM (below_step (by repeat first | refine zS ?_ GE186.out | refine zS ?_ GE187.out | exact HB.out | apply zA | apply zN | apply zD) hb); (try clear hb); (try clear hb2); (try clear hk); (try clear hi)))
      replace BK186 := zM (blk_drew BK186.out); replace BK187 := zM (blk_drew BK187.out); replace HB := zM (zD HB.out)
      obtain ⟨i045, hi045, _, hsz45, _⟩ := info_parts info3
      obtain ⟨A45, hcut45, hA45, hC45⟩ := print_drop_of (P := Try.prog) (Value.int .i64) 0 22 3 .i64 Try.underlying22 hi045 hsz45 A2 c2 l2 1 (by omega) (of_decide_eq_true (by first | (with_reducible assumption) | assumption)) HC2.out
      have HR198 := zM (Kd.C_of_reads (h1 := fun _ => rfl) (hA45 _ (Kd.reads_of_C HR2.out)))
      have HC198 := zM hC45
      clear hA45 hC45 hi045 hsz45
      refine start_ (n := 15) (S := fun w' => w'.cell? ⟨gb186, 0, none⟩ = some (.int .i64 a0_0) ∧ w'.cell? ⟨gb186, 1, none⟩ = some (.int .i64 a0_1)) (ds := []) #[false, false, false, false, false, false, false, false, false, false, false, false, false, false, false] (by kernel_rfl) rfl rfl ⟨(blk_cell BK186.out 0).trans rfl, (blk_cell BK186.out 1).trans rfl⟩ (fun hHeld => ?_); refine with_tabW preset_mainG.tab4 preset_mainG.bits4 (fun HT_ HW_ => ?_)
      generalize w43.drew = w44 at BK186 BK187 HB HR198 hHeld ⊢
      refine pv (v := ?_) (a' := ?_) HT_.out 0 (some 26) m92_0_ ?_ ?_ ?_; rotate_left 2; (·intro w'; go_simp; with_reducible rfl); (·simp only [Act.put, s1, s2, s3, i64_w, i32_w]; rfl)
      refine pv (v := ?_) (a' := ?_) HT_.out 2 (some 28) m92_1_ ?_ ?_ ?_; rotate_left 2; (·intro w'; go_simp; with_reducible rfl); (·simp only [Act.put, s1, s2, s3, i64_w, i32_w]; rfl)
      refine pv (v := ?_) (a' := ?_) HT_.out 3 (some 29) m92_2_ ?_ ?_ ?_; rotate_left 2; (·intro w'; go_simp; with_reducible rfl); (·simp only [Act.put, s1, s2, s3, i64_w, i32_w]; rfl)
      refine pv (v := ?_) (a' := ?_) HT_.out 4 (some 30) m92_3_ ?_ ?_ ?_; rotate_left 2; (·intro w'; go_simp; with_reducible rfl); (·simp only [Act.put, s1, s2, s3, i64_w, i32_w]; rfl)
      refine pv (v := ?_) (a' := ?_) HT_.out 6 (some 32) m92_4_ ?_ ?_ ?_; rotate_left 2; (·intro w'; go_simp; with_reducible rfl); (·simp only [Act.put, s1, s2, s3, i64_w, i32_w]; rfl)
      refine pv (v := ?_) (a' := ?_) HT_.out 7 (some 33) m92_5_ ?_ ?_ ?_; rotate_left 2; (·intro w'; go_simp; with_reducible rfl); (·simp only [Act.put, s1, s2, s3, i64_w, i32_w]; rfl)
      refine take_ (i := 1) (N := some 27) (v := ?_) (a' := ?_) m92_6_ rfl rfl (take_ofW HT_.out HW_.out (by kernel_rfl)) (fun _ _ _ h => h) (Or.inl ⟨by rfl, ?_⟩) hHeld ?_ ?_; rotate_left; (·rintro w' ⟨s0, s1⟩; go_simp; with_reducible rfl); rotate_left; (·simp only [Act.put, s1, s2, s3, i64_w, i32_w]; rfl)
      refine join_ (σ := Value × Nat) 2 m92_7_ (fun s_ => [(31, .agg #[.int .i64 t196, .int .i64 t197]), (34, .tuple #[.agg #[.int .i64 t199, .int .i64 t200, .int .i64 t201, s_.1], .bool true]), (11, .pointer (some ⟨s_.2, 0, none⟩)), (25, .tuple #[.agg #[.int .i64 t199, .int .i64 t200, .int .i64 t201, s_.1], .bool true]), (35, .agg #[.int .i64 t199, .int .i64 t200, .int .i64 t201, s_.1]), (36, .bool true)]) (fun s_ w' => (w'.cell? ⟨gb186, 0, none⟩ = some (.int .i64 a0_0) ∧ w'.cell? ⟨gb186, 1, none⟩ = some (.int .i64 a0_1)) ∧ (Kd.N k31 31 w' w.heap.size (fun k_ => (w.heap.size ≤ k_) ∧ k_ ≠ gb186 ∧ k_ ≠ gb187 ∧ k_ ≠ s_.2) s_.1 t202) ∧ (w'.heap[gb186]? = some (.cells #[.int .i64 a0_0, .int .i64 a0_1] 83 (0, 0))) ∧ (w'.heap[gb187]? = some (.cells #[.int .i64 0, .int .i64 0, .int .i64 0, .slice none 0 0] 31 (0, 0))) ∧ (w'.heap[s_.2]? = some (.cells #[.int .i64 0, .int .i64 0, .int .i64 0, .slice none 0 0] 31 (0, 0))) ∧ (w.heap.size ≤ s_.2) ∧ (w.heap.size ≤ s_.2) ∧ (gb186 ≠ s_.2) ∧ (s_.2 ≠ gb186) ∧ (gb187 ≠ s_.2) ∧ (s_.2 ≠ gb187) ∧ (Below w.heap.size w w')) ?_ ?_
      rotate_left
      ·intro hCont
       refine two_ (i := 5) (j := 12) (Ni := some 31) (Nj := some 11) m92_8_ m92_9_ rfl rfl rfl rfl (two_of HT_.out (by kernel_rfl)) (by decide) (by decide) (fun K hK => ?_) (fun K hK => ?_)
       ·skip
        refine goes_ Try.func120 (by kernel_rfl) rfl #[.agg #[.int .i64 a0_0, .int .i64 a0_1], .int .i64 a1, .int .i64 (wrap64 (Int.tdiv (wrap64 (t195 - 1)) 2))] (by rfl) rfl rfl (by (try simp only [List.map_toArray, List.map_cons, List.map_nil]); first | done | rfl | (simp only [List.length_drop, List.length_take]; rfl)) ?_
        with_reducible refine (preset_size_with.calls a0_0 a0_1 a1 (wrap64 (Int.tdiv (wrap64 (t195 - 1)) 2)) t196 t197 _ A15.out).mono ?_
        rintro e w46 ⟨rfl, hb⟩
        refine ⟨_, rfl, ?_⟩
        replace BK186 := zM (bb hb BK186.out); replace BK187 := zM (bb hb BK187.out); replace HB := zM (below_step (by repeat first | refine zS ?_ GE186.out | refine zS ?_ GE187.out | exact HB.out | apply zA | apply zN | apply zD) hb)
        (try clear hb)
        (try clear hb2)
        (try clear hk)
        (try clear hi)
        refine hK.out _ _ ⟨(blk_cell BK186.out 0).trans rfl, (blk_cell BK186.out 1).trans rfl⟩ (fun hHeld => ?_)
        clear hK K
        refine norm_ (a' := ?_) ?_ ?_
        rotate_left
        ·show Act.put _ (some 31) _ = _
         simp only [Act.put, s1, s2, s3, i64_w, i32_w]
         rfl
        refine two_ (i := 8) (j := 12) (Ni := some 34) (Nj := some 11) m92_10_ m92_11_ rfl rfl rfl rfl (two_of HT_.out (by kernel_rfl)) (by decide) (by decide) (fun K hK => ?_) (fun K hK => ?_)
        ·skip
         refine goesV_ Y.hf Y.hn Y.hb #[.agg #[.int .i64 t196, .int .i64 t197], .slice A45 (l2.drop 1).length (c2 - 1)] (by rfl) rfl rfl rfl (by (try simp only [List.map_toArray, List.map_cons, List.map_nil]); first | done | (rw [show (l2.drop 1).length = (l2.length - 1) from List.length_drop] <;> rfl) | rfl | (simp only [List.length_drop, List.length_take]; rfl)) ?_
         with_reducible refine (Y.calls k t196 t197 _ _ (l2.drop 1) t199 t200 t201 t202 true _ ?side1 ?side2 A17.out).mono ?_
         (case side1 => repeat (first | exact (Kd.C_below HR198.out HB.out) | (with_reducible refine Kd.C_alloc ?_ _) | (with_reducible refine Kd.C_drewN ?_ _) | (with_reducible refine Kd.C_drew ?_)))
         (case side2 => exact HC198.out)
         rintro e w47 ⟨v203, rfl, ho0, hb⟩
         refine ⟨_, rfl, ?_⟩
         have HO204 := zM (Kd.N_lower (Kd.N_mono (ok' := fun k_ => (w.heap.size ≤ k_) ∧ k_ ≠ gb186 ∧ k_ ≠ gb187) (Kd.R_N (Kd.R_bound ho0)) (fun k_ hk_ => ⟨(Nat.le_trans (below_size (by repeat first | refine zS ?_ GE186.out | refine zS ?_ GE187.out | exact HB.out | apply zA | apply zN | apply zD)) hk_.2.1), (Kd.freshB (g := gb186) (o := .cells #[.int .i64 a0_0, .int .i64 a0_1] 83 (0, 0)) (by (with_reducible repeat (first | refine blk_drewN ?_ _ | refine blk_drew ?_ | refine blk_alloc ?_ _)); exact BK186.out) k_ hk_.2.1), (Kd.freshB (g := gb187) (o := .cells #[.int .i64 0, .int .i64 0, .int .i64 0, .slice none 0 0] 31 (0, 0)) (by (with_reducible repeat (first | refine blk_drewN ?_ _ | refine blk_drew ?_ | refine blk_alloc ?_ _)); exact BK187.out) k_ hk_.2.1)⟩)) (below_size (by repeat first | refine zS ?_ GE186.out | refine zS ?_ GE187.out | exact HB.out | apply zA | apply zN | apply zD))); replace BK186 := zM (bb hb BK186.out); replace BK187 := zM (bb hb BK187.out); replace HB := zM (below_step (by repeat first | refine zS ?_ GE186.out | refine zS ?_ GE187.out | exact HB.out | apply zA | apply zN | apply zD) hb)
         (try clear hb)
         (try clear hb2)
         (try clear hk)
         (try clear hi)
         (try clear ho0)
         refine hK.out _ _ ⟨(blk_cell BK186.out 0).trans rfl, (blk_cell BK186.out 1).trans rfl⟩ (fun hHeld => ?_)
         clear hK K
         refine norm_ (a' := ?_) ?_ ?_
         rotate_left
         ·show Act.put _ (some 34) _ = _
          simp only [Act.put, s1, s2, s3, i64_w, i32_w]
          rfl
         refine pv (v := ?_) (a' := ?_) HT_.out 9 (some 25) m92_12_ ?_ ?_ ?_; rotate_left 2; (·intro w'; go_simp; with_reducible rfl); (·simp only [Act.put, s1, s2, s3, i64_w, i32_w]; rfl)
         refine pv (v := ?_) (a' := ?_) HT_.out 10 (some 35) m92_13_ ?_ ?_ ?_; rotate_left 2; (·intro w'; go_simp; with_reducible rfl); (·simp only [Act.put, s1, s2, s3, i64_w, i32_w]; rfl)
         refine pv (v := ?_) (a' := ?_) HT_.out 11 (some 36) m92_14_ ?_ ?_ ?_; rotate_left 2; (·intro w'; go_simp; with_reducible rfl); (·simp only [Act.put, s1, s2, s3, i64_w, i32_w]; rfl)
         refine one_ (i := 12) (N := some 11) m92_7_ rfl rfl (one_of HT_.out (by kernel_rfl)) (by decide) (fun K hK => ?_)
         refine box_step ?hg (N := 11) ?hd (cs := #[.int .i64 0, .int .i64 0, .int .i64 0, .slice none 0 0]) (t := 31) ?hr ?_; (case hd => rfl); (case hg => rfl); (case hr => first | (go_simp; done) | (go_simp; rfl))
         intro gb206 hg w48 hbox hb
         have BK206 := zM (hbox); have GW206 := zM ((by rw [hg]; exact (below_size (by repeat first | refine zS ?_ GE186.out | refine zS ?_ GE187.out | exact HB.out | apply zA | apply zN | apply zD)) : w.heap.size ≤ gb206)); have GE206 := GW206; have NB186_206 := zM ((by rw [hg]; exact lt1 BK186.out : gb186 ≠ gb206)); have NB206_186 := zM ((by rw [hg]; exact gt1 BK186.out : gb206 ≠ gb186)); have NB187_206 := zM ((by rw [hg]; exact lt1 BK187.out : gb187 ≠ gb206)); have NB206_187 := zM ((by rw [hg]; exact gt1 BK187.out : gb206 ≠ gb187)); replace HO204 := zM (Kd.N_below (Kd.N_elderB (by (with_reducible repeat (first | apply Kd.N_alloc | apply Kd.N_drewN | apply Kd.N_drew)); exact HO204.out) gb206 (Nat.le_of_eq hg.symm)) hb); replace BK186 := zM (bb hb BK186.out); replace BK187 := zM (bb hb BK187.out); replace HB := zM (below_step (by repeat first | refine zS ?_ GE186.out | refine zS ?_ GE187.out | exact HB.out | apply zA | apply zN | apply zD) hb)
         clear hb hbox hg
         refine hK.out _ _ ⟨(blk_cell BK186.out 0).trans rfl, (blk_cell BK186.out 1).trans rfl⟩ (fun hHeld => ?_)
         clear hK K
         refine norm_ (a' := ?_) ?_ ?_
         rotate_left
         ·show Act.put _ (some 11) _ = _
          simp only [Act.put, s1, s2, s3, i64_w, i32_w]
          rfl
         exact norm_ (by simp only [putAll, Act.put, List.setIfInBounds_toArray, List.set_cons_zero, List.set_cons_succ]) (hCont (v203, gb206) _ ⟨hHeld, (by (with_reducible repeat (first | apply Kd.N_alloc | apply Kd.N_drewN | apply Kd.N_drew)); exact Kd.N_mono HO204.out (fun _ hk => ⟨hk.1.1, ⟨hk.1.2.1, ⟨hk.1.2.2, hk.2⟩⟩⟩)), (by (with_reducible repeat (first | refine blk_drewN ?_ _ | refine blk_drew ?_ | refine blk_alloc ?_ _)); exact BK186.out), (by (with_reducible repeat (first | refine blk_drewN ?_ _ | refine blk_drew ?_ | refine blk_alloc ?_ _)); exact BK187.out), (by (with_reducible repeat (first | refine blk_drewN ?_ _ | refine blk_drew ?_ | refine blk_alloc ?_ _)); exact BK206.out), GW206.out, GE206.out, NB186_206.out, NB206_186.out, NB187_206.out, NB206_187.out, (by repeat first | refine zS ?_ GE186.out | refine zS ?_ GE187.out | refine zS ?_ GE206.out | exact HB.out | apply zA | apply zN | apply zD)⟩)
        ·skip
         refine box_step ?hg (N := 11) ?hd (cs := #[.int .i64 0, .int .i64 0, .int .i64 0, .slice none 0 0]) (t := 31) ?hr ?_; (case hd => rfl); (case hg => rfl); (case hr => first | (go_simp; done) | (go_simp; rfl))
         intro gb206 hg w47 hbox hb
         have BK206 := zM (hbox); have GW206 := zM ((by rw [hg]; exact (below_size (by repeat first | refine zS ?_ GE186.out | refine zS ?_ GE187.out | exact HB.out | apply zA | apply zN | apply zD)) : w.heap.size ≤ gb206)); have GE206 := GW206; have NB186_206 := zM ((by rw [hg]; exact lt1 BK186.out : gb186 ≠ gb206)); have NB206_186 := zM ((by rw [hg]; exact gt1 BK186.out : gb206 ≠ gb186)); have NB187_206 := zM ((by rw [hg]; exact lt1 BK187.out : gb187 ≠ gb206)); have NB206_187 := zM ((by rw [hg]; exact gt1 BK187.out : gb206 ≠ gb187)); replace BK186 := zM (bb hb BK186.out); replace BK187 := zM (bb hb BK187.out); replace HB := zM (below_step (by repeat first | refine zS ?_ GE186.out | refine zS ?_ GE187.out | exact HB.out | apply zA | apply zN | apply zD) hb)
         clear hb hbox hg
         refine hK.out _ _ ⟨(blk_cell BK186.out 0).trans rfl, (blk_cell BK186.out 1).trans rfl⟩ (fun hHeld => ?_)
         clear hK K
         refine norm_ (a' := ?_) ?_ ?_
         rotate_left
         ·show Act.put _ (some 11) _ = _
          simp only [Act.put, s1, s2, s3, i64_w, i32_w]
          rfl
         refine one_ (i := 8) (N := some 34) m92_15_ rfl rfl (one_of HT_.out (by kernel_rfl)) (by decide) (fun K hK => ?_)
         refine goesV_ Y.hf Y.hn Y.hb #[.agg #[.int .i64 t196, .int .i64 t197], .slice A45 (l2.drop 1).length (c2 - 1)] (by rfl) rfl rfl rfl (by (try simp only [List.map_toArray, List.map_cons, List.map_nil]); first | done | (rw [show (l2.drop 1).length = (l2.length - 1) from List.length_drop] <;> rfl) | rfl | (simp only [List.length_drop, List.length_take]; rfl)) ?_
         with_reducible refine (Y.calls k t196 t197 _ _ (l2.drop 1) t199 t200 t201 t202 true _ ?side1 ?side2 A17.out).mono ?_
         (case side1 => repeat (first | exact (Kd.C_below HR198.out HB.out) | (with_reducible refine Kd.C_alloc ?_ _) | (with_reducible refine Kd.C_drewN ?_ _) | (with_reducible refine Kd.C_drew ?_)))
         (case side2 => exact HC198.out)
         rintro e w48 ⟨v203, rfl, ho0, hb⟩
         refine ⟨_, rfl, ?_⟩
         have HO204 := zM (Kd.N_lower (Kd.N_mono (ok' := fun k_ => (w.heap.size ≤ k_) ∧ k_ ≠ gb186 ∧ k_ ≠ gb187 ∧ k_ ≠ gb206) (Kd.R_N (Kd.R_bound ho0)) (fun k_ hk_ => ⟨(Nat.le_trans (below_size (by repeat first | refine zS ?_ GE186.out | refine zS ?_ GE187.out | refine zS ?_ GE206.out | exact HB.out | apply zA | apply zN | apply zD)) hk_.2.1), (Kd.freshB (g := gb186) (o := .cells #[.int .i64 a0_0, .int .i64 a0_1] 83 (0, 0)) (by (with_reducible repeat (first | refine blk_drewN ?_ _ | refine blk_drew ?_ | refine blk_alloc ?_ _)); exact BK186.out) k_ hk_.2.1), (Kd.freshB (g := gb187) (o := .cells #[.int .i64 0, .int .i64 0, .int .i64 0, .slice none 0 0] 31 (0, 0)) (by (with_reducible repeat (first | refine blk_drewN ?_ _ | refine blk_drew ?_ | refine blk_alloc ?_ _)); exact BK187.out) k_ hk_.2.1), (Kd.freshB (g := gb206) (o := .cells #[.int .i64 0, .int .i64 0, .int .i64 0, .slice none 0 0] 31 (0, 0)) (by (with_reducible repeat (first | refine blk_drewN ?_ _ | refine blk_drew ?_ | refine blk_alloc ?_ _)); exact BK206.out) k_ hk_.2.1)⟩)) (below_size (by repeat first | refine zS ?_ GE186.out | refine zS ?_ GE187.out | refine zS ?_ GE206.out | exact HB.out | apply zA | apply zN | apply zD))); replace BK186 := zM (bb hb BK186.out); replace BK187 := zM (bb hb BK187.out); replace BK206 := zM (bb hb BK206.out); replace HB := zM (below_step (by repeat first | refine zS ?_ GE186.out | refine zS ?_ GE187.out | refine zS ?_ GE206.out | exact HB.out | apply zA | apply zN | apply zD) hb)
         (try clear hb)
         (try clear hb2)
         (try clear hk)
         (try clear hi)
         (try clear ho0)
         refine hK.out _ _ ⟨(blk_cell BK186.out 0).trans rfl, (blk_cell BK186.out 1).trans rfl⟩ (fun hHeld => ?_)
         clear hK K
         refine norm_ (a' := ?_) ?_ ?_
         rotate_left
         ·show Act.put _ (some 34) _ = _
          simp only [Act.put, s1, s2, s3, i64_w, i32_w]
          rfl
         refine pv (v := ?_) (a' := ?_) HT_.out 9 (some 25) m92_16_ ?_ ?_ ?_; rotate_left 2; (·intro w'; go_simp; with_reducible rfl); (·simp only [Act.put, s1, s2, s3, i64_w, i32_w]; rfl)
         refine pv (v := ?_) (a' := ?_) HT_.out 10 (some 35) m92_17_ ?_ ?_ ?_; rotate_left 2; (·intro w'; go_simp; with_reducible rfl); (·simp only [Act.put, s1, s2, s3, i64_w, i32_w]; rfl)
         refine pv (v := ?_) (a' := ?_) HT_.out 11 (some 36) m92_7_ ?_ ?_ ?_; rotate_left 2; (·intro w'; go_simp; with_reducible rfl); (·simp only [Act.put, s1, s2, s3, i64_w, i32_w]; rfl)
         exact norm_ (by simp only [putAll, Act.put, List.setIfInBounds_toArray, List.set_cons_zero, List.set_cons_succ]) (hCont (v203, gb206) _ ⟨hHeld, (by (with_reducible repeat (first | apply Kd.N_alloc | apply Kd.N_drewN | apply Kd.N_drew)); exact HO204.out), (by (with_reducible repeat (first | refine blk_drewN ?_ _ | refine blk_drew ?_ | refine blk_alloc ?_ _)); exact BK186.out), (by (with_reducible repeat (first | refine blk_drewN ?_ _ | refine blk_drew ?_ | refine blk_alloc ?_ _)); exact BK187.out), (by (with_reducible repeat (first | refine blk_drewN ?_ _ | refine blk_drew ?_ | refine blk_alloc ?_ _)); exact BK206.out), GW206.out, GE206.out, NB186_206.out, NB206_186.out, NB187_206.out, NB206_187.out, (by repeat first | refine zS ?_ GE186.out | refine zS ?_ GE187.out | refine zS ?_ GE206.out | exact HB.out | apply zA | apply zN | apply zD)⟩)
       ·skip
        refine box_step ?hg (N := 11) ?hd (cs := #[.int .i64 0, .int .i64 0, .int .i64 0, .slice none 0 0]) (t := 31) ?hr ?_; (case hd => rfl); (case hg => rfl); (case hr => first | (go_simp; done) | (go_simp; rfl))
        intro gb206 hg w46 hbox hb
        have BK206 := zM (hbox); have GW206 := zM ((by rw [hg]; exact (below_size (by repeat first | refine zS ?_ GE186.out | refine zS ?_ GE187.out | exact HB.out | apply zA | apply zN | apply zD)) : w.heap.size ≤ gb206)); have GE206 := GW206; have NB186_206 := zM ((by rw [hg]; exact lt1 BK186.out : gb186 ≠ gb206)); have NB206_186 := zM ((by rw [hg]; exact gt1 BK186.out : gb206 ≠ gb186)); have NB187_206 := zM ((by rw [hg]; exact lt1 BK187.out : gb187 ≠ gb206)); have NB206_187 := zM ((by rw [hg]; exact gt1 BK187.out : gb206 ≠ gb187)); replace BK186 := zM (bb hb BK186.out); replace BK187 := zM (bb hb BK187.out); replace HB := zM (below_step (by repeat first | refine zS ?_ GE186.out | refine zS ?_ GE187.out | exact HB.out | apply zA | apply zN | apply zD) hb)
        clear hb hbox hg
        refine hK.out _ _ ⟨(blk_cell BK186.out 0).trans rfl, (blk_cell BK186.out 1).trans rfl⟩ (fun hHeld => ?_)
        clear hK K
        refine norm_ (a' := ?_) ?_ ?_
        rotate_left
        ·show Act.put _ (some 11) _ = _
         simp only [Act.put, s1, s2, s3, i64_w, i32_w]
         rfl
        refine one_ (i := 5) (N := some 31) m92_11_ rfl rfl (one_of HT_.out (by kernel_rfl)) (by decide) (fun K hK => ?_)
        refine goes_ Try.func120 (by kernel_rfl) rfl #[.agg #[.int .i64 a0_0, .int .i64 a0_1], .int .i64 a1, .int .i64 (wrap64 (Int.tdiv (wrap64 (t195 - 1)) 2))] (by rfl) rfl rfl (by (try simp only [List.map_toArray, List.map_cons, List.map_nil]); first | done | rfl | (simp only [List.length_drop, List.length_take]; rfl)) ?_
        with_reducible refine (preset_size_with.calls a0_0 a0_1 a1 (wrap64 (Int.tdiv (wrap64 (t195 - 1)) 2)) t196 t197 _ A15.out).mono ?_
        rintro e w47 ⟨rfl, hb⟩
        refine ⟨_, rfl, ?_⟩
        replace BK186 := zM (bb hb BK186.out); replace BK187 := zM (bb hb BK187.out); replace BK206 := zM (bb hb BK206.out); replace HB := zM (below_step (by repeat first | refine zS ?_ GE186.out | refine zS ?_ GE187.out | refine zS ?_ GE206.out | exact HB.out | apply zA | apply zN | apply zD) hb)
        (try clear hb)
        (try clear hb2)
        (try clear hk)
        (try clear hi)
        refine hK.out _ _ ⟨(blk_cell BK186.out 0).trans rfl, (blk_cell BK186.out 1).trans rfl⟩ (fun hHeld => ?_)
        clear hK K
        refine norm_ (a' := ?_) ?_ ?_
        rotate_left
        ·show Act.put _ (some 31) _ = _
         simp only [Act.put, s1, s2, s3, i64_w, i32_w]
         rfl
        refine one_ (i := 8) (N := some 34) m92_15_ rfl rfl (one_of HT_.out (by kernel_rfl)) (by decide) (fun K hK => ?_)
        refine goesV_ Y.hf Y.hn Y.hb #[.agg #[.int .i64 t196, .int .i64 t197], .slice A45 (l2.drop 1).length (c2 - 1)] (by rfl) rfl rfl rfl (by (try simp only [List.map_toArray, List.map_cons, List.map_nil]); first | done | (rw [show (l2.drop 1).length = (l2.length - 1) from List.length_drop] <;> rfl) | rfl | (simp only [List.length_drop, List.length_take]; rfl)) ?_
        with_reducible refine (Y.calls k t196 t197 _ _ (l2.drop 1) t199 t200 t201 t202 true _ ?side1 ?side2 A17.out).mono ?_
        (case side1 => repeat (first | exact (Kd.C_below HR198.out HB.out) | (with_reducible refine Kd.C_alloc ?_ _) | (with_reducible refine Kd.C_drewN ?_ _) | (with_reducible refine Kd.C_drew ?_)))
        (case side2 => exact HC198.out)
        rintro e w48 ⟨v203, rfl, ho0, hb⟩
        refine ⟨_, rfl, ?_⟩
        have HO204 := zM (Kd.N_lower (Kd.N_mono (ok' := fun k_ => (w.heap.size ≤ k_) ∧ k_ ≠ gb186 ∧ k_ ≠ gb187 ∧ k_ ≠ gb206) (Kd.R_N (Kd.R_bound ho0)) (fun k_ hk_ => ⟨(Nat.le_trans (below_size (by repeat first | refine zS ?_ GE186.out | refine zS ?_ GE187.out | refine zS ?_ GE206.out | exact HB.out | apply zA | apply zN | apply zD)) hk_.2.1), (Kd.freshB (g := gb186) (o := .cells #[.int .i64 a0_0, .int .i64 a0_1] 83 (0, 0)) (by (with_reducible repeat (first | refine blk_drewN ?_ _ | refine blk_drew ?_ | refine blk_alloc ?_ _)); exact BK186.out) k_ hk_.2.1), (Kd.freshB (g := gb187) (o := .cells #[.int .i64 0, .int .i64 0, .int .i64 0, .slice none 0 0] 31 (0, 0)) (by (with_reducible repeat (first | refine blk_drewN ?_ _ | refine blk_drew ?_ | refine blk_alloc ?_ _)); exact BK187.out) k_ hk_.2.1), (Kd.freshB (g := gb206) (o := .cells #[.int .i64 0, .int .i64 0, .int .i64 0, .slice none 0 0] 31 (0, 0)) (by (with_reducible repeat (first | refine blk_drewN ?_ _ | refine blk_drew ?_ | refine blk_alloc ?_ _)); exact BK206.out) k_ hk_.2.1)⟩)) (below_size (by repeat first | refine zS ?_ GE186.out | refine zS ?_ GE187.out | refine zS ?_ GE206.out | exact HB.out | apply zA | apply zN | apply zD))); replace BK186 := zM (bb hb BK186.out); replace BK187 := zM (bb hb BK187.out); replace BK206 := zM (bb hb BK206.out); replace HB := zM (below_step (by repeat first | refine zS ?_ GE186.out | refine zS ?_ GE187.out | refine zS ?_ GE206.out | exact HB.out | apply zA | apply zN | apply zD) hb)
        (try clear hb)
        (try clear hb2)
        (try clear hk)
        (try clear hi)
        (try clear ho0)
        refine hK.out _ _ ⟨(blk_cell BK186.out 0).trans rfl, (blk_cell BK186.out 1).trans rfl⟩ (fun hHeld => ?_)
        clear hK K
        refine norm_ (a' := ?_) ?_ ?_
        rotate_left
        ·show Act.put _ (some 34) _ = _
         simp only [Act.put, s1, s2, s3, i64_w, i32_w]
         rfl
        refine pv (v := ?_) (a' := ?_) HT_.out 9 (some 25) m92_16_ ?_ ?_ ?_; rotate_left 2; (·intro w'; go_simp; with_reducible rfl); (·simp only [Act.put, s1, s2, s3, i64_w, i32_w]; rfl)
        refine pv (v := ?_) (a' := ?_) HT_.out 10 (some 35) m92_17_ ?_ ?_ ?_; rotate_left 2; (·intro w'; go_simp; with_reducible rfl); (·simp only [Act.put, s1, s2, s3, i64_w, i32_w]; rfl)
        refine pv (v := ?_) (a' := ?_) HT_.out 11 (some 36) m92_7_ ?_ ?_ ?_; rotate_left 2; (·intro w'; go_simp; with_reducible rfl); (·simp only [Act.put, s1, s2, s3, i64_w, i32_w]; rfl)
        exact norm_ (by simp only [putAll, Act.put, List.setIfInBounds_toArray, List.set_cons_zero, List.set_cons_succ]) (hCont (v203, gb206) _ ⟨hHeld, (by (with_reducible repeat (first | apply Kd.N_alloc | apply Kd.N_drewN | apply Kd.N_drew)); exact HO204.out), (by (with_reducible repeat (first | refine blk_drewN ?_ _ | refine blk_drew ?_ | refine blk_alloc ?_ _)); exact BK186.out), (by (with_reducible repeat (first | refine blk_drewN ?_ _ | refine blk_drew ?_ | refine blk_alloc ?_ _)); exact BK187.out), (by (with_reducible repeat (first | refine blk_drewN ?_ _ | refine blk_drew ?_ | refine blk_alloc ?_ _)); exact BK206.out), GW206.out, GE206.out, NB186_206.out, NB206_186.out, NB187_206.out, NB206_187.out, (by repeat first | refine zS ?_ GE186.out | refine zS ?_ GE187.out | refine zS ?_ GE206.out | exact HB.out | apply zA | apply zN | apply zD)⟩)
      rintro ⟨v203, gb206⟩ w49 ⟨hS_, h0_, h1_, h2_, h3_, h4_, h5_, h6_, h7_, h8_, h9_, h10_⟩
      have n0_ : Aside0 (Kd.N k31 31 w49 w.heap.size (fun k_ => (w.heap.size ≤ k_) ∧ k_ ≠ gb186 ∧ k_ ≠ gb187 ∧ k_ ≠ gb206) v203 t202) := ⟨h0_⟩
      have n1_ : Aside0 (w49.heap[gb186]? = some (.cells #[.int .i64 a0_0, .int .i64 a0_1] 83 (0, 0))) := ⟨h1_⟩
      have n2_ : Aside0 (w49.heap[gb187]? = some (.cells #[.int .i64 0, .int .i64 0, .int .i64 0, .slice none 0 0] 31 (0, 0))) := ⟨h2_⟩
      have n3_ : Aside0 (w49.heap[gb206]? = some (.cells #[.int .i64 0, .int .i64 0, .int .i64 0, .slice none 0 0] 31 (0, 0))) := ⟨h3_⟩
      have n4_ : Aside0 (w.heap.size ≤ gb206) := ⟨h4_⟩
      have n5_ : Aside0 (w.heap.size ≤ gb206) := ⟨h5_⟩
      have n6_ : Aside0 (gb186 ≠ gb206) := ⟨h6_⟩
      have n7_ : Aside0 (gb206 ≠ gb186) := ⟨h7_⟩
      have n8_ : Aside0 (gb187 ≠ gb206) := ⟨h8_⟩
      have n9_ : Aside0 (gb206 ≠ gb187) := ⟨h9_⟩
      have n10_ : Aside0 (Below w.heap.size w w49) := ⟨h10_⟩
      clear BK186
      clear BK187
      clear HB
      clear h0_ h1_ h2_ h3_ h4_ h5_ h6_ h7_ h8_ h9_ h10_
      have HO204 := n0_
      have BK186 := n1_
      have BK187 := n2_
      have BK206 := n3_
      have GW206 := n4_
      have GE206 := n5_
      have NB186_206 := n6_
      have NB206_186 := n7_
      have NB187_206 := n8_
      have NB206_187 := n9_
      have HB := n10_
      clear n0_ n1_ n2_ n3_ n4_ n5_ n6_ n7_ n8_ n9_ n10_
      have hHeld : w49.cell? ⟨gb186, 0, none⟩ = some (.int .i64 a0_0) ∧ w49.cell? ⟨gb186, 1, none⟩ = some (.int .i64 a0_1) := hS_
      obtain ⟨Ao53, co53, eo53⟩ := Kd.N_slice HO204.out
      (first | subst eo53 | (injection eo53 with f1_ f2_ f3_; have f4_ := f1_.symm; have f5_ := f3_.symm; clear f1_ f2_ f3_; subst f4_; subst f5_))
      refine norm_ (a' := ?_) ?_ ?_
      rotate_left
      ·simp only [putAll, Act.put, List.setIfInBounds_toArray, List.set_cons_zero, List.set_cons_succ]
       rfl
      refine one_ (i := 13) (N := none) m92_18_ rfl rfl (one_of HT_.out (by kernel_rfl)) (by decide) (fun K hK => ?_)
      have hs50 : w49.cell? ⟨gb206, 0, none⟩ = some (.int .i64 0) := (blk_cell BK206.out 0).trans rfl
      have hfs50 := blk_frozen BK206.out 0
      have hns50_0 := NB186_206.out
      have hns50_1 := NB187_206.out
      have hms50_0 := NB206_186.out
      have hms50_1 := NB206_187.out
      have hs51 : w49.cell? ⟨gb206, 1, none⟩ = some (.int .i64 0) := (blk_cell BK206.out 1).trans rfl
      have hfs51 := blk_frozen BK206.out 1
      have hns51_0 := NB186_206.out
      have hns51_1 := NB187_206.out
      have hms51_0 := NB206_186.out
      have hms51_1 := NB206_187.out
      have hs52 : w49.cell? ⟨gb206, 2, none⟩ = some (.int .i64 0) := (blk_cell BK206.out 2).trans rfl
      have hfs52 := blk_frozen BK206.out 2
      have hns52_0 := NB186_206.out
      have hns52_1 := NB187_206.out
      have hms52_0 := NB206_186.out
      have hms52_1 := NB206_187.out
      have hs54 : w49.cell? ⟨gb206, 3, none⟩ = some (.slice none 0 0) := (blk_cell BK206.out 3).trans rfl
      have hfs54 := blk_frozen BK206.out 3
      have hns54_0 := NB186_206.out
      have hns54_1 := NB187_206.out
      have hms54_0 := NB206_186.out
      have hms54_1 := NB206_187.out
      refine skip_ (w1 := ?_) (by rfl) rfl ?_ ?_
      rotate_left
      ·go_simp
       rfl
      refine hK.out _ _ ⟨((cell_far (p := ⟨gb206, _, none⟩) NB186_206.out _).trans (((cell_far (p := ⟨gb206, _, none⟩) NB186_206.out _).trans (((cell_far (p := ⟨gb206, _, none⟩) NB186_206.out _).trans (((cell_far (p := ⟨gb206, _, none⟩) NB186_206.out _).trans (hHeld.1)))))))), ((cell_far (p := ⟨gb206, _, none⟩) NB186_206.out _).trans (((cell_far (p := ⟨gb206, _, none⟩) NB186_206.out _).trans (((cell_far (p := ⟨gb206, _, none⟩) NB186_206.out _).trans (((cell_far (p := ⟨gb206, _, none⟩) NB186_206.out _).trans (hHeld.2))))))))⟩ (fun hHeld => ?_)
      clear hK K
      refine pv (v := ?_) (a' := ?_) HT_.out 14 (some 12) m92_19_ ?_ ?_ ?_; rotate_left 2; (·intro w'; go_simp; with_reducible rfl); (·simp only [Act.put, s1, s2, s3, i64_w, i32_w]; rfl)
      refine done_ (done_of HT_.out (by kernel_rfl)) ?_
      have hnb55 := NB206_186.out
      have hnc55 := NB186_206.out
      have hnb56 := NB206_187.out
      have hnc56 := NB187_206.out
      have hcz57_0 : w49.cell? ⟨gb206, 0, none⟩ = some (.int .i64 0) := (blk_cell BK206.out 0).trans rfl
      have hcz57_1 : w49.cell? ⟨gb206, 1, none⟩ = some (.int .i64 0) := (blk_cell BK206.out 1).trans rfl
      have hcz57_2 : w49.cell? ⟨gb206, 2, none⟩ = some (.int .i64 0) := (blk_cell BK206.out 2).trans rfl
      have hcz57_3 : w49.cell? ⟨gb206, 3, none⟩ = some (.slice none 0 0) := (blk_cell BK206.out 3).trans rfl
      have hfz57_0 := blk_frozen BK206.out 0
      have hfz57_1 := blk_frozen BK206.out 1
      have hfz57_2 := blk_frozen BK206.out 2
      have hfz57_3 := blk_frozen BK206.out 3
      try go_wp2
      have n0_ : Aside0 (Kd.N k31 31 (((((w49.setCell ⟨gb206, 0, none⟩ (.int .i64 t199)).setCell ⟨gb206, 1, none⟩ (.int .i64 t200)).setCell ⟨gb206, 2, none⟩ (.int .i64 t201)).setCell ⟨gb206, 3, none⟩ (.slice Ao53 t202.length co53)).setCell ⟨gb206, 2, none⟩ (.int .i64 (wrap64 (Int.tdiv (wrap64 (t195 - 1)) 2)))) w.heap.size (fun k_ => (w.heap.size ≤ k_) ∧ k_ ≠ gb186 ∧ k_ ≠ gb187 ∧ k_ ≠ gb206) (.slice Ao53 t202.length co53) t202) := ⟨by (with_reducible repeat (first | apply Kd.N_alloc | apply Kd.N_drewN | apply Kd.N_drew)); exact Kd.N_mono (Kd.N_far (p := ⟨gb206, 2, none⟩) (Kd.N_far (p := ⟨gb206, 3, none⟩) (Kd.N_far (p := ⟨gb206, 2, none⟩) (Kd.N_far (p := ⟨gb206, 1, none⟩) (Kd.N_far (p := ⟨gb206, 0, none⟩) (Kd.N_mono HO204.out (fun k_ hk => (⟨hk, hk.2.2.2⟩ : _ ∧ k_ ≠ gb206))) (fun _ hk => hk.2) (.int .i64 t199)) (fun _ hk => hk.2) (.int .i64 t200)) (fun _ hk => hk.2) (.int .i64 t201)) (fun _ hk => hk.2) (.slice Ao53 t202.length co53)) (fun _ hk => hk.2) (.int .i64 (wrap64 (Int.tdiv (wrap64 (t195 - 1)) 2)))) (fun _ hk => ⟨hk.1.1, ⟨hk.1.2.1, ⟨hk.1.2.2.1, hk.1.2.2.2⟩⟩⟩)⟩
      have n1_ : Aside0 ((((((w49.setCell ⟨gb206, 0, none⟩ (.int .i64 t199)).setCell ⟨gb206, 1, none⟩ (.int .i64 t200)).setCell ⟨gb206, 2, none⟩ (.int .i64 t201)).setCell ⟨gb206, 3, none⟩ (.slice Ao53 t202.length co53)).setCell ⟨gb206, 2, none⟩ (.int .i64 (wrap64 (Int.tdiv (wrap64 (t195 - 1)) 2)))).heap[gb186]? = some (.cells #[.int .i64 a0_0, .int .i64 a0_1] 83 (0, 0))) := ⟨by exact (blk_far (blk_far (blk_far (blk_far (blk_far BK186.out NB186_206.out _) NB186_206.out _) NB186_206.out _) NB186_206.out _) NB186_206.out _)⟩
      have n2_ : Aside0 ((((((w49.setCell ⟨gb206, 0, none⟩ (.int .i64 t199)).setCell ⟨gb206, 1, none⟩ (.int .i64 t200)).setCell ⟨gb206, 2, none⟩ (.int .i64 t201)).setCell ⟨gb206, 3, none⟩ (.slice Ao53 t202.length co53)).setCell ⟨gb206, 2, none⟩ (.int .i64 (wrap64 (Int.tdiv (wrap64 (t195 - 1)) 2)))).heap[gb187]? = some (.cells #[.int .i64 0, .int .i64 0, .int .i64 0, .slice none 0 0] 31 (0, 0))) := ⟨by exact (blk_far (blk_far (blk_far (blk_far (blk_far BK187.out NB187_206.out _) NB187_206.out _) NB187_206.out _) NB187_206.out _) NB187_206.out _)⟩
      have n3_ : Aside0 ((((((w49.setCell ⟨gb206, 0, none⟩ (.int .i64 t199)).setCell ⟨gb206, 1, none⟩ (.int .i64 t200)).setCell ⟨gb206, 2, none⟩ (.int .i64 t201)).setCell ⟨gb206, 3, none⟩ (.slice Ao53 t202.length co53)).setCell ⟨gb206, 2, none⟩ (.int .i64 (wrap64 (Int.tdiv (wrap64 (t195 - 1)) 2)))).heap[gb206]? = some (.cells #[.int .i64 t199, .int .i64 t200, .int .i64 (wrap64 (Int.tdiv (wrap64 (t195 - 1)) 2)), .slice Ao53 t202.length co53] 31 (0, 0))) := ⟨by exact (blk_put (put4 BK206.out) 2 _ rfl)⟩
      have n4_ : Aside0 (Below w.heap.size w (((((w49.setCell ⟨gb206, 0, none⟩ (.int .i64 t199)).setCell ⟨gb206, 1, none⟩ (.int .i64 t200)).setCell ⟨gb206, 2, none⟩ (.int .i64 t201)).setCell ⟨gb206, 3, none⟩ (.slice Ao53 t202.length co53)).setCell ⟨gb206, 2, none⟩ (.int .i64 (wrap64 (Int.tdiv (wrap64 (t195 - 1)) 2))))) := ⟨by repeat first | refine zS ?_ GE186.out | refine zS ?_ GE187.out | refine zS ?_ GE206.out | exact HB.out | apply zA | apply zN | apply zD⟩
      (try clear HO204)
      (try clear BK186)
      (try clear BK187)
      (try clear BK206)
      (try clear HB)
      generalize (((((w49.setCell ⟨gb206, 0, none⟩ (.int .i64 t199)).setCell ⟨gb206, 1, none⟩ (.int .i64 t200)).setCell ⟨gb206, 2, none⟩ (.int .i64 t201)).setCell ⟨gb206, 3, none⟩ (.slice Ao53 t202.length co53)).setCell ⟨gb206, 2, none⟩ (.int .i64 (wrap64 (Int.tdiv (wrap64 (t195 - 1)) 2)))) = w58 at n0_ n1_ n2_ n3_ n4_ ⊢
      have HO204 := n0_
      have BK186 := n1_
      have BK187 := n2_
      have BK206 := n3_
      have HB := n4_
      clear n0_ n1_ n2_ n3_ n4_
      replace HO204 := zM (Kd.N_drew HO204.out); replace BK186 := zM (blk_drew BK186.out); replace BK187 := zM (blk_drew BK187.out); replace BK206 := zM (blk_drew BK206.out); replace HB := zM (zD HB.out)
      have p207 : 0 ≤ (0 : Int) := (by omega)
      have q207 : 0 < (l2.length : Int) := of_decide_eq_true (by first | (with_reducible assumption) | assumption)
      obtain ⟨ad207, e207, hx207_0⟩ := Kd.at_int HR2.out 0 p207 q207
      have hw207_0 := hx207_0
      (try rw [show ((0 : Int)).toNat = 0 from rfl] at hw207_0)
      (try rw [show 0 * 1 = 0 from rfl] at hw207_0)
      (try rw [Addr.add_zero'] at hw207_0)
      cases e207
      have qi207 : (0 < l2.length) = True := eq_true (by omega)
      (try rw [show ((0 : Int)).toNat = 0 from rfl] at hx207_0)
      (try rw [Addr.add_zero'] at hx207_0)
      replace hx207_0 := (HB.out.cell (zL w _ hx207_0)).trans hx207_0
      replace p207 := eq_true p207
      replace q207 := eq_true q207
      refine start_ (n := 14) (S := fun w' => w'.cell? ⟨gb206, 0, none⟩ = some (.int .i64 t199) ∧ w'.cell? ⟨gb206, 1, none⟩ = some (.int .i64 t200) ∧ w'.cell? ⟨gb206, 2, none⟩ = some (.int .i64 (wrap64 (Int.tdiv (wrap64 (t195 - 1)) 2))) ∧ w'.cell? ⟨gb206, 3, none⟩ = some (.slice Ao53 t202.length co53) ∧ w'.cell? ad207 = some (.int .i64 (rd l2 0))) (ds := []) #[false, false, false, false, false, false, false, false, false, false, false, false, false, false] (by kernel_rfl) rfl rfl ⟨(blk_cell BK206.out 0).trans rfl, (blk_cell BK206.out 1).trans rfl, (blk_cell BK206.out 2).trans rfl, (blk_cell BK206.out 3).trans rfl, ((HB.out.cell (zL w _ hw207_0)).trans hw207_0)⟩ (fun hHeld => ?_); refine with_tabW preset_mainG.tab8 preset_mainG.bits8 (fun HT_ HW_ => ?_)
      generalize w58.drew = w59 at HO204 BK186 BK187 BK206 HB hx207_0 hHeld ⊢
      refine pv (v := ?_) (a' := ?_) HT_.out 0 (some 47) m92_20_ ?_ ?_ ?_; rotate_left 2; (·intro w'; go_simp; with_reducible rfl); (·simp only [Act.put, s1, s2, s3, i64_w, i32_w]; rfl)
      refine pv (v := ?_) (a' := ?_) HT_.out 1 (some 48) m92_21_ ?_ ?_ ?_; rotate_left 2; (·intro w'; go_simp; with_reducible rfl); (·simp only [Act.put, s1, s2, s3, i64_w, i32_w]; rfl)
      refine pv (v := ?_) (a' := ?_) HT_.out 2 (some 49) m92_22_ ?_ ?_ ?_; rotate_left 2; (·intro w'; go_simp; with_reducible rfl); (·simp only [Act.put, s1, s2, s3, i64_w, i32_w]; rfl)
      refine pv (v := ?_) (a' := ?_) HT_.out 4 (some 51) m92_23_ ?_ ?_ ?_; rotate_left 2; (·intro w'; go_simp; with_reducible rfl); (·simp only [Act.put, s1, s2, s3, i64_w, i32_w]; rfl)
      refine pv (v := ?_) (a' := ?_) HT_.out 5 (some 52) m92_24_ ?_ ?_ ?_; rotate_left 2; (·intro w'; go_simp; with_reducible rfl); (·simp only [Act.put, s1, s2, s3, i64_w, i32_w]; rfl)
      refine pv (v := ?_) (a' := ?_) HT_.out 6 (some 53) m92_25_ ?_ ?_ ?_; rotate_left 2; (·intro w'; go_simp; with_reducible rfl); (·simp only [Act.put, s1, s2, s3, i64_w, i32_w]; rfl)
      refine pv (v := ?_) (a' := ?_) HT_.out 7 (some 54) m92_26_ ?_ ?_ ?_; rotate_left 2; (·intro w'; go_simp; with_reducible rfl); (·simp only [Act.put, s1, s2, s3, i64_w, i32_w]; rfl)
      refine take_ (i := 3) (N := some 50) (v := ?_) (a' := ?_) m92_27_ rfl rfl (take_ofW HT_.out HW_.out (by kernel_rfl)) (fun _ _ _ h => h) (Or.inl ⟨by rfl, ?_⟩) hHeld ?_ ?_; rotate_left; (·rintro w' ⟨s0, s1, s2, s3, s4⟩; go_simp; with_reducible rfl); rotate_left; (·simp only [Act.put, s1, s2, s3, i64_w, i32_w]; rfl)
      refine pv (v := ?_) (a' := ?_) HT_.out 8 (some 55) m92_28_ ?_ ?_ ?_; rotate_left 2; (·intro w'; go_simp; with_reducible rfl); (·simp only [Act.put, s1, s2, s3, i64_w, i32_w]; rfl)
      refine take_ (i := 9) (N := some 56) (v := ?_) (a' := ?_) m92_29_ rfl rfl (take_ofW HT_.out HW_.out (by kernel_rfl)) (fun _ _ _ h => h) (Or.inl ⟨by rfl, ?_⟩) hHeld ?_ ?_; rotate_left; (·rintro w' ⟨s0, s1, s2, s3, s4⟩; go_simp; with_reducible rfl); rotate_left; (·simp only [Act.put, s1, s2, s3, i64_w, i32_w]; rfl)
      refine one_ (i := 10) (N := some 57) m92_30_ rfl rfl (one_of HT_.out (by kernel_rfl)) (by decide) (fun K hK => ?_)
      refine Kd.N_lit_step k31 _ 31 ?hg (N' := 57) ?hd (xs := ([(⟨0, rd l2 0, wrap64 ((wrap64 (t195 - 1)) - (wrap64 (Int.tdiv (wrap64 (t195 - 1)) 2))), ([] : List (S31))⟩ : S31), (⟨t199, t200, wrap64 (Int.tdiv (wrap64 (t195 - 1)) 2), t202⟩ : S31)] : List (S31))) (inner := [.int .i64 0, .int .i64 (rd l2 0), .int .i64 (wrap64 ((wrap64 (t195 - 1)) - (wrap64 (Int.tdiv (wrap64 (t195 - 1)) 2)))), .slice none 0 0, .int .i64 t199, .int .i64 t200, .int .i64 (wrap64 (Int.tdiv (wrap64 (t195 - 1)) 2)), .slice Ao53 t202.length co53]) (ok := (fun k_ => (w.heap.size ≤ k_) ∧ k_ ≠ gb186 ∧ k_ ≠ gb187 ∧ k_ ≠ gb206)) (okp := (fun k_ => (w.heap.size ≤ k_) ∧ k_ ≠ gb186 ∧ k_ ≠ gb187 ∧ k_ ≠ gb206)) ?hr ?hp (fun _ hk => hk) ((show ∀ k_, w59.heap.size ≤ k_ → (fun k_ => (w.heap.size ≤ k_) ∧ k_ ≠ gb186 ∧ k_ ≠ gb187 ∧ k_ ≠ gb206) k_ from fun k_ hk => ⟨(Nat.le_trans (below_size (by repeat first | refine zS ?_ GE186.out | refine zS ?_ GE187.out | refine zS ?_ GE206.out | exact HB.out | apply zA | apply zN | apply zD)) hk), Kd.freshB (g := gb186) (o := .cells #[.int .i64 a0_0, .int .i64 a0_1] 83 (0, 0)) (by (with_reducible repeat (first | refine blk_drewN ?_ _ | refine blk_drew ?_ | refine blk_alloc ?_ _)); exact BK186.out) k_ hk, Kd.freshB (g := gb187) (o := .cells #[.int .i64 0, .int .i64 0, .int .i64 0, .slice none 0 0] 31 (0, 0)) (by (with_reducible repeat (first | refine blk_drewN ?_ _ | refine blk_drew ?_ | refine blk_alloc ?_ _)); exact BK187.out) k_ hk, Kd.freshB (g := gb206) (o := .cells #[.int .i64 t199, .int .i64 t200, .int .i64 (wrap64 (Int.tdiv (wrap64 (t195 - 1)) 2)), .slice Ao53 t202.length co53] 31 (0, 0)) (by (with_reducible repeat (first | refine blk_drewN ?_ _ | refine blk_drew ?_ | refine blk_alloc ?_ _)); exact BK206.out) k_ hk⟩) _ (Nat.le_refl _)) (Below.refl _ _) (Nat.le_refl _) (by simp) ?_; (case hd => rfl); (case hg => rfl); (case hr => first | (go_simp; done) | (go_simp; rfl)); (case hp => exact (Reps.c4 (show Kd.FK k31 _ _ (⟨0, rd l2 0, wrap64 ((wrap64 (t195 - 1)) - (wrap64 (Int.tdiv (wrap64 (t195 - 1)) 2))), ([] : List (S31))⟩ : S31) [.int .i64 0, .int .i64 (rd l2 0), .int .i64 (wrap64 ((wrap64 (t195 - 1)) - (wrap64 (Int.tdiv (wrap64 (t195 - 1)) 2)))), .slice none 0 0] from (k31_mkF _ _ (⟨0, rd l2 0, wrap64 ((wrap64 (t195 - 1)) - (wrap64 (Int.tdiv (wrap64 (t195 - 1)) 2))), ([] : List (S31))⟩ : S31) (Nat.le_refl _) (Kd.F_nil _ _ _))) (Reps.c4 (show Kd.FK k31 _ _ (⟨t199, t200, wrap64 (Int.tdiv (wrap64 (t195 - 1)) 2), t202⟩ : S31) [.int .i64 t199, .int .i64 t200, .int .i64 (wrap64 (Int.tdiv (wrap64 (t195 - 1)) 2)), .slice Ao53 t202.length co53] from (k31_mkF _ _ (⟨t199, t200, wrap64 (Int.tdiv (wrap64 (t195 - 1)) 2), t202⟩ : S31) (Kd.N_reads' (Kd.N_mono (ok' := (fun k_ => (w.heap.size ≤ k_) ∧ k_ ≠ gb186 ∧ k_ ≠ gb187 ∧ k_ ≠ gb206)) (HO204.out) (fun k_ hk => ⟨hk.1, ⟨hk.2.1, ⟨hk.2.2.1, hk.2.2.2⟩⟩⟩))).2.1 (Kd.N_F (Kd.N_mono (ok' := (fun k_ => (w.heap.size ≤ k_) ∧ k_ ≠ gb186 ∧ k_ ≠ gb187 ∧ k_ ≠ gb206)) (HO204.out) (fun k_ hk => ⟨hk.1, ⟨hk.2.1, ⟨hk.2.2.1, hk.2.2.2⟩⟩⟩))))) (Reps.none _ _))))
      intro v209 w60 ho61 hb hg_ hnew_
      clear hg_ hnew_
      (first | rw [← Ny208.out] at ho61 | (simp only [Int.reduceToNat] at ho61; rw [← Ny208.out] at ho61))
      have n0_ := zM (Kd.N_lower ho61 (below_size (by repeat first | refine zS ?_ GE186.out | refine zS ?_ GE187.out | refine zS ?_ GE206.out | exact HB.out | apply zA | apply zN | apply zD)))
      have n1_ := zM (bb hb BK186.out)
      have n2_ := zM (bb hb BK187.out)
      have n3_ := zM (bb hb BK206.out)
      have n4_ := zM (below_step (by repeat first | refine zS ?_ GE186.out | refine zS ?_ GE187.out | refine zS ?_ GE206.out | exact HB.out | apply zA | apply zN | apply zD) hb)
      clear BK186
      clear BK187
      clear BK206
      clear HB
      clear HO204
      have HO210 := n0_
      have BK186 := n1_
      have BK187 := n2_
      have BK206 := n3_
      have HB := n4_
      clear n0_ n1_ n2_ n3_ n4_
      clear hb ho61
      obtain ⟨Ao62, co62, eo62⟩ := Kd.N_slice HO210.out
      (first | subst eo62 | (injection eo62 with f1_ f2_ f3_; have f4_ := f1_.symm; have f5_ := f3_.symm; clear f1_ f2_ f3_; subst f4_; subst f5_))
      refine hK.out _ _ ⟨(blk_cell BK206.out 0).trans rfl, (blk_cell BK206.out 1).trans rfl, (blk_cell BK206.out 2).trans rfl, (blk_cell BK206.out 3).trans rfl, ((HB.out.cell (zL w _ hw207_0)).trans hw207_0)⟩ (fun hHeld => ?_)
      clear hK K
      refine norm_ (a' := ?_) ?_ ?_
      rotate_left
      ·show Act.put _ (some 57) _ = _
       simp only [Act.put, s1, s2, s3, i64_w, i32_w]
       rfl
      refine pv (v := ?_) (a' := ?_) HT_.out 11 (some 58) m92_31_ ?_ ?_ ?_; rotate_left 2; (·intro w'; go_simp; with_reducible rfl); (·simp only [Act.put, s1, s2, s3, i64_w, i32_w]; rfl)
      refine one_ (i := 12) (N := none) m92_32_ rfl rfl (one_of HT_.out (by kernel_rfl)) (by decide) (fun K hK => ?_)
      have hs63 : w60.cell? ⟨gb187, 0, none⟩ = some (.int .i64 0) := (blk_cell BK187.out 0).trans rfl
      have hfs63 := blk_frozen BK187.out 0
      have hns63_0 := NB186_187.out
      have hns63_2 := NB206_187.out
      have hms63_0 := NB187_186.out
      have hms63_2 := NB187_206.out
      have hs64 : w60.cell? ⟨gb187, 1, none⟩ = some (.int .i64 0) := (blk_cell BK187.out 1).trans rfl
      have hfs64 := blk_frozen BK187.out 1
      have hns64_0 := NB186_187.out
      have hns64_2 := NB206_187.out
      have hms64_0 := NB187_186.out
      have hms64_2 := NB187_206.out
      have hs65 : w60.cell? ⟨gb187, 2, none⟩ = some (.int .i64 0) := (blk_cell BK187.out 2).trans rfl
      have hfs65 := blk_frozen BK187.out 2
      have hns65_0 := NB186_187.out
      have hns65_2 := NB206_187.out
      have hms65_0 := NB187_186.out
      have hms65_2 := NB187_206.out
      have hs66 : w60.cell? ⟨gb187, 3, none⟩ = some (.slice none 0 0) := (blk_cell BK187.out 3).trans rfl
      have hfs66 := blk_frozen BK187.out 3
      have hns66_0 := NB186_187.out
      have hns66_2 := NB206_187.out
      have hms66_0 := NB187_186.out
      have hms66_2 := NB187_206.out
      refine skip_ (w1 := ?_) (by rfl) rfl ?_ ?_
      rotate_left
      ·go_simp
       rfl
      refine hK.out _ _ ⟨((cell_far (p := ⟨gb187, _, none⟩) NB206_187.out _).trans (((cell_far (p := ⟨gb187, _, none⟩) NB206_187.out _).trans (((cell_far (p := ⟨gb187, _, none⟩) NB206_187.out _).trans (((cell_far (p := ⟨gb187, _, none⟩) NB206_187.out _).trans (hHeld.1)))))))), ((cell_far (p := ⟨gb187, _, none⟩) NB206_187.out _).trans (((cell_far (p := ⟨gb187, _, none⟩) NB206_187.out _).trans (((cell_far (p := ⟨gb187, _, none⟩) NB206_187.out _).trans (((cell_far (p := ⟨gb187, _, none⟩) NB206_187.out _).trans (hHeld.2.1)))))))), ((cell_far (p := ⟨gb187, _, none⟩) NB206_187.out _).trans (((cell_far (p := ⟨gb187, _, none⟩) NB206_187.out _).trans (((cell_far (p := ⟨gb187, _, none⟩) NB206_187.out _).trans (((cell_far (p := ⟨gb187, _, none⟩) NB206_187.out _).trans (hHeld.2.2.1)))))))), ((cell_far (p := ⟨gb187, _, none⟩) NB206_187.out _).trans (((cell_far (p := ⟨gb187, _, none⟩) NB206_187.out _).trans (((cell_far (p := ⟨gb187, _, none⟩) NB206_187.out _).trans (((cell_far (p := ⟨gb187, _, none⟩) NB206_187.out _).trans (hHeld.2.2.2.1)))))))), ((cell_far (p := ⟨gb187, _, none⟩) (by first | exact Nat.ne_of_lt (Nat.lt_of_lt_of_le (by have := zL _ _ hw207_0; first | rwa [add_block] at this | exact this) GW187.out) | (rw [add_block]; exact Nat.ne_of_lt (Nat.lt_of_lt_of_le (by have := zL _ _ hw207_0; first | rwa [add_block] at this | exact this) GW187.out)) | (show (Addr.add _ _).block ≠ _; rw [add_block]; exact Nat.ne_of_lt (Nat.lt_of_lt_of_le (by have := zL _ _ hw207_0; first | rwa [add_block] at this | exact this) GW187.out)) | (dsimp only; exact Nat.ne_of_lt (Nat.lt_of_lt_of_le (by have := zL _ _ hw207_0; first | rwa [add_block] at this | exact this) GW187.out))) _).trans (((cell_far (p := ⟨gb187, _, none⟩) (by first | exact Nat.ne_of_lt (Nat.lt_of_lt_of_le (by have := zL _ _ hw207_0; first | rwa [add_block] at this | exact this) GW187.out) | (rw [add_block]; exact Nat.ne_of_lt (Nat.lt_of_lt_of_le (by have := zL _ _ hw207_0; first | rwa [add_block] at this | exact this) GW187.out)) | (show (Addr.add _ _).block ≠ _; rw [add_block]; exact Nat.ne_of_lt (Nat.lt_of_lt_of_le (by have := zL _ _ hw207_0; first | rwa [add_block] at this | exact this) GW187.out)) | (dsimp only; exact Nat.ne_of_lt (Nat.lt_of_lt_of_le (by have := zL _ _ hw207_0; first | rwa [add_block] at this | exact this) GW187.out))) _).trans (((cell_far (p := ⟨gb187, _, none⟩) (by first | exact Nat.ne_of_lt (Nat.lt_of_lt_of_le (by have := zL _ _ hw207_0; first | rwa [add_block] at this | exact this) GW187.out) | (rw [add_block]; exact Nat.ne_of_lt (Nat.lt_of_lt_of_le (by have := zL _ _ hw207_0; first | rwa [add_block] at this | exact this) GW187.out)) | (show (Addr.add _ _).block ≠ _; rw [add_block]; exact Nat.ne_of_lt (Nat.lt_of_lt_of_le (by have := zL _ _ hw207_0; first | rwa [add_block] at this | exact this) GW187.out)) | (dsimp only; exact Nat.ne_of_lt (Nat.lt_of_lt_of_le (by have := zL _ _ hw207_0; first | rwa [add_block] at this | exact this) GW187.out))) _).trans (((cell_far (p := ⟨gb187, _, none⟩) (by first | exact Nat.ne_of_lt (Nat.lt_of_lt_of_le (by have := zL _ _ hw207_0; first | rwa [add_block] at this | exact this) GW187.out) | (rw [add_block]; exact Nat.ne_of_lt (Nat.lt_of_lt_of_le (by have := zL _ _ hw207_0; first | rwa [add_block] at this | exact this) GW187.out)) | (show (Addr.add _ _).block ≠ _; rw [add_block]; exact Nat.ne_of_lt (Nat.lt_of_lt_of_le (by have := zL _ _ hw207_0; first | rwa [add_block] at this | exact this) GW187.out)) | (dsimp only; exact Nat.ne_of_lt (Nat.lt_of_lt_of_le (by have := zL _ _ hw207_0; first | rwa [add_block] at this | exact this) GW187.out))) _).trans (hHeld.2.2.2.2))))))))⟩ (fun hHeld => ?_)
      clear hK K
      refine pv (v := ?_) (a' := ?_) HT_.out 13 (some 9) m92_33_ ?_ ?_ ?_; rotate_left 2; (·intro w'; go_simp; with_reducible rfl); (·simp only [Act.put, s1, s2, s3, i64_w, i32_w]; rfl)
      refine done_ (done_of HT_.out (by kernel_rfl)) ?_
      try go_wp2
      refine bodyPost_ret (results_ct rfl _ _ gb187 31 #[.int .i64 a1, .int .i64 0, .int .i64 0, .slice Ao62 y208.length co62] (0, 0) _ rfl (by exact (put4 BK187.out)) Try.underlying31 rfl (by kernel_rfl)) rfl ?_
      exact ⟨_, by first | rfl | (simp [errW_none, errW_some] <;> rfl) | (simp [*, errW_none, errW_some] <;> rfl), by (with_reducible repeat (first | apply Kd.N_alloc | apply Kd.N_drewN | apply Kd.N_drew)); exact Kd.N_mono (Kd.N_far (p := ⟨gb187, 3, none⟩) (Kd.N_far (p := ⟨gb187, 2, none⟩) (Kd.N_far (p := ⟨gb187, 1, none⟩) (Kd.N_far (p := ⟨gb187, 0, none⟩) (Kd.N_mono HO210.out (fun k_ hk => (⟨hk, hk.2.2.1⟩ : _ ∧ k_ ≠ gb187))) (fun _ hk => hk.2) (.int .i64 a1)) (fun _ hk => hk.2) (.int .i64 0)) (fun _ hk => hk.2) (.int .i64 0)) (fun _ hk => hk.2) (.slice Ao62 y208.length co62)) (fun _ hk => hk.1.1), by repeat first | refine zS ?_ GE186.out | refine zS ?_ GE187.out | refine zS ?_ GE206.out | exact HB.out | apply zA | apply zN | apply zD⟩
     ·rw [if_neg c38] at H
      exact absurd H (by simp)
    ·replace c37 := Bool.eq_false_iff.mpr c37
     subst c37
     have H1 : (some (0, 0, 0, ([] : List (S31)), false)) = some (r1, r2, r3, r4, r5) := by rw [if_neg (show ¬ (false = true) by decide)] at H; exact H
     clear H
     have H := H1
     clear H1
     simp only [Option.some.injEq, Prod.mk.injEq] at H
     obtain ⟨rfl, rfl, rfl, rfl, rfl⟩ := H
     go_enter Try.func92, Try.ntmps92
     try go_wp2_with (first | ((with_reducible refine gate_dst (N := 4) rfl ?_); refine box_event ?hg (N := 4) ?hd (cs := #[.int .i64 a0_0, .int .i64 a0_1]) (t := 83) ?hr ?_; (case hd => rfl); (case hg => rfl); (case hr => first | (go_simp; done) | (go_simp; rfl)); intro gb186 hg w67 hbox hb; have BK186 := zM (hbox); have GW186 := zM ((by rw [hg]; exact (below_size (by first | exact HB.out | exact zN HB.out _ | exact zD HB.out)) : w.heap.size ≤ gb186)); have GE186 := GW186; replace HB := zM (below_step (by first | exact HB.out | exact zN HB.out _ | exact zD HB.out) hb); clear hb hbox hg) | ((with_reducible refine gate_dst (N := 8) rfl ?_); refine box_event ?hg (N := 8) ?hd (cs := #[.int .i64 0, .int .i64 0, .int .i64 0, .slice none 0 0]) (t := 31) ?hr ?_; (case hd => rfl); (case hg => rfl); (case hr => first | (go_simp; done) | (go_simp; rfl)); intro gb187 hg w68 hbox hb; have BK187 := zM (hbox); have GW187 := zM ((by rw [hg]; exact (below_size (by repeat first | refine zS ?_ GE186.out | exact HB.out | apply zA | apply zN | apply zD)) : w.heap.size ≤ gb187)); have GE187 := GW187; have NB186_187 := zM ((by rw [hg]; exact lt1 BK186.out : gb186 ≠ gb187)); have NB187_186 := zM ((by rw [hg]; exact gt1 BK186.out : gb187 ≠ gb186)); replace BK186 := zM (bb hb BK186.out); replace HB := zM (below_step (by repeat first | refine zS ?_ GE186.out | exact HB.out | apply zA | apply zN | apply zD) hb); clear hb hbox hg; have hnb69 := NB186_187.out; have hnc69 := NB187_186.out; have hcz70_0 : w68.cell? ⟨gb186, 0, none⟩ = some (.int .i64 a0_0) := (blk_cell BK186.out 0).trans rfl; have hcz70_1 : w68.cell? ⟨gb186, 1, none⟩ = some (.int .i64 a0_1) := (blk_cell BK186.out 1).trans rfl; have hfz70_0 := blk_frozen BK186.out 0; have hfz70_1 := blk_frozen BK186.out 1) | ((with_reducible refine gate_callee (f := 119) rfl ?_); refine ga (some 23) rfl rfl Try.func119 (by kernel_rfl) rfl #[.agg #[.int .i64 a0_0, .int .i64 a0_1], .int .i64 a1] rfl ?_; (with_reducible refine (preset_size_along.calls a0_0 a0_1 a1 t195 _ A14.out).mono ?_); rintro e w71 ⟨rfl, hb⟩; refine ⟨_, rfl, ?_⟩; replace BK186 := zM (bb hb BK186.out); replace BK187 := zM (bb hb BK187.out); replace HB := zM (below_step (by repeat first | refine zS ?_ GE186.out | refine zS ?_ GE187.out | exact HB.out | apply zA | apply zN | apply zD) hb); (try clear hb); (try clear hb2); (try clear hk); (try clear hi)))
     replace BK186 := zM (blk_drew BK186.out); replace BK187 := zM (blk_drew BK187.out); replace HB := zM (zD HB.out)
     obtain ⟨i073, hi073, _, hsz73, _⟩ := info_parts info3
     obtain ⟨A73, hcut73, hA73, hC73⟩ := print_drop_of (P := Try.prog) (Value.int .i64) 0 22 3 .i64 Try.underlying22 hi073 hsz73 A2 c2 l2 1 (by omega) (of_decide_eq_true (by first | (with_reducible assumption) | assumption)) HC2.out
     have HR198 := zM (Kd.C_of_reads (h1 := fun _ => rfl) (hA73 _ (Kd.reads_of_C HR2.out)))
     have HC198 := zM hC73
     clear hA73 hC73 hi073 hsz73
     refine start_ (n := 15) (S := fun w' => w'.cell? ⟨gb186, 0, none⟩ = some (.int .i64 a0_0) ∧ w'.cell? ⟨gb186, 1, none⟩ = some (.int .i64 a0_1)) (ds := []) #[false, false, false, false, false, false, false, false, false, false, false, false, false, false, false] (by kernel_rfl) rfl rfl ⟨(blk_cell BK186.out 0).trans rfl, (blk_cell BK186.out 1).trans rfl⟩ (fun hHeld => ?_); refine with_tabW preset_mainG.tab4 preset_mainG.bits4 (fun HT_ HW_ => ?_)
     generalize w71.drew = w72 at BK186 BK187 HB HR198 hHeld ⊢
     refine pv (v := ?_) (a' := ?_) HT_.out 0 (some 26) m92_0_ ?_ ?_ ?_; rotate_left 2; (·intro w'; go_simp; with_reducible rfl); (·simp only [Act.put, s1, s2, s3, i64_w, i32_w]; rfl)
     refine pv (v := ?_) (a' := ?_) HT_.out 2 (some 28) m92_1_ ?_ ?_ ?_; rotate_left 2; (·intro w'; go_simp; with_reducible rfl); (·simp only [Act.put, s1, s2, s3, i64_w, i32_w]; rfl)
     refine pv (v := ?_) (a' := ?_) HT_.out 3 (some 29) m92_2_ ?_ ?_ ?_; rotate_left 2; (·intro w'; go_simp; with_reducible rfl); (·simp only [Act.put, s1, s2, s3, i64_w, i32_w]; rfl)
     refine pv (v := ?_) (a' := ?_) HT_.out 4 (some 30) m92_3_ ?_ ?_ ?_; rotate_left 2; (·intro w'; go_simp; with_reducible rfl); (·simp only [Act.put, s1, s2, s3, i64_w, i32_w]; rfl)
     refine pv (v := ?_) (a' := ?_) HT_.out 6 (some 32) m92_4_ ?_ ?_ ?_; rotate_left 2; (·intro w'; go_simp; with_reducible rfl); (·simp only [Act.put, s1, s2, s3, i64_w, i32_w]; rfl)
     refine pv (v := ?_) (a' := ?_) HT_.out 7 (some 33) m92_5_ ?_ ?_ ?_; rotate_left 2; (·intro w'; go_simp; with_reducible rfl); (·simp only [Act.put, s1, s2, s3, i64_w, i32_w]; rfl)
     refine take_ (i := 1) (N := some 27) (v := ?_) (a' := ?_) m92_6_ rfl rfl (take_ofW HT_.out HW_.out (by kernel_rfl)) (fun _ _ _ h => h) (Or.inl ⟨by rfl, ?_⟩) hHeld ?_ ?_; rotate_left; (·rintro w' ⟨s0, s1⟩; go_simp; with_reducible rfl); rotate_left; (·simp only [Act.put, s1, s2, s3, i64_w, i32_w]; rfl)
     refine join_ (σ := Value × Nat) 2 m92_7_ (fun s_ => [(31, .agg #[.int .i64 t196, .int .i64 t197]), (34, .tuple #[.agg #[.int .i64 t199, .int .i64 t200, .int .i64 t201, s_.1], .bool false]), (11, .pointer (some ⟨s_.2, 0, none⟩)), (25, .tuple #[.agg #[.int .i64 t199, .int .i64 t200, .int .i64 t201, s_.1], .bool false]), (35, .agg #[.int .i64 t199, .int .i64 t200, .int .i64 t201, s_.1]), (36, .bool false)]) (fun s_ w' => (w'.cell? ⟨gb186, 0, none⟩ = some (.int .i64 a0_0) ∧ w'.cell? ⟨gb186, 1, none⟩ = some (.int .i64 a0_1)) ∧ (Kd.N k31 31 w' w.heap.size (fun k_ => (w.heap.size ≤ k_) ∧ k_ ≠ gb186 ∧ k_ ≠ gb187 ∧ k_ ≠ s_.2) s_.1 t202) ∧ (w'.heap[gb186]? = some (.cells #[.int .i64 a0_0, .int .i64 a0_1] 83 (0, 0))) ∧ (w'.heap[gb187]? = some (.cells #[.int .i64 0, .int .i64 0, .int .i64 0, .slice none 0 0] 31 (0, 0))) ∧ (w'.heap[s_.2]? = some (.cells #[.int .i64 0, .int .i64 0, .int .i64 0, .slice none 0 0] 31 (0, 0))) ∧ (w.heap.size ≤ s_.2) ∧ (w.heap.size ≤ s_.2) ∧ (gb186 ≠ s_.2) ∧ (s_.2 ≠ gb186) ∧ (gb187 ≠ s_.2) ∧ (s_.2 ≠ gb187) ∧ (Below w.heap.size w w')) ?_ ?_
     rotate_left
     ·intro hCont
      refine two_ (i := 5) (j := 12) (Ni := some 31) (Nj := some 11) m92_8_ m92_9_ rfl rfl rfl rfl (two_of HT_.out (by kernel_rfl)) (by decide) (by decide) (fun K hK => ?_) (fun K hK => ?_)
      ·skip
       refine goes_ Try.func120 (by kernel_rfl) rfl #[.agg #[.int .i64 a0_0, .int .i64 a0_1], .int .i64 a1, .int .i64 (wrap64 (Int.tdiv (wrap64 (t195 - 1)) 2))] (by rfl) rfl rfl (by (try simp only [List.map_toArray, List.map_cons, List.map_nil]); first | done | rfl | (simp only [List.length_drop, List.length_take]; rfl)) ?_
       with_reducible refine (preset_size_with.calls a0_0 a0_1 a1 (wrap64 (Int.tdiv (wrap64 (t195 - 1)) 2)) t196 t197 _ A15.out).mono ?_
       rintro e w74 ⟨rfl, hb⟩
       refine ⟨_, rfl, ?_⟩
       replace BK186 := zM (bb hb BK186.out); replace BK187 := zM (bb hb BK187.out); replace HB := zM (below_step (by repeat first | refine zS ?_ GE186.out | refine zS ?_ GE187.out | exact HB.out | apply zA | apply zN | apply zD) hb)
       (try clear hb)
       (try clear hb2)
       (try clear hk)
       (try clear hi)
       refine hK.out _ _ ⟨(blk_cell BK186.out 0).trans rfl, (blk_cell BK186.out 1).trans rfl⟩ (fun hHeld => ?_)
       clear hK K
       refine norm_ (a' := ?_) ?_ ?_
       rotate_left
       ·show Act.put _ (some 31) _ = _
        simp only [Act.put, s1, s2, s3, i64_w, i32_w]
        rfl
       refine two_ (i := 8) (j := 12) (Ni := some 34) (Nj := some 11) m92_10_ m92_11_ rfl rfl rfl rfl (two_of HT_.out (by kernel_rfl)) (by decide) (by decide) (fun K hK => ?_) (fun K hK => ?_)
       ·skip
        refine goesV_ Y.hf Y.hn Y.hb #[.agg #[.int .i64 t196, .int .i64 t197], .slice A73 (l2.drop 1).length (c2 - 1)] (by rfl) rfl rfl rfl (by (try simp only [List.map_toArray, List.map_cons, List.map_nil]); first | done | (rw [show (l2.drop 1).length = (l2.length - 1) from List.length_drop] <;> rfl) | rfl | (simp only [List.length_drop, List.length_take]; rfl)) ?_
        with_reducible refine (Y.calls k t196 t197 _ _ (l2.drop 1) t199 t200 t201 t202 false _ ?side1 ?side2 A17.out).mono ?_
        (case side1 => repeat (first | exact (Kd.C_below HR198.out HB.out) | (with_reducible refine Kd.C_alloc ?_ _) | (with_reducible refine Kd.C_drewN ?_ _) | (with_reducible refine Kd.C_drew ?_)))
        (case side2 => exact HC198.out)
        rintro e w75 ⟨v203, rfl, ho0, hb⟩
        refine ⟨_, rfl, ?_⟩
        have HO204 := zM (Kd.N_lower (Kd.N_mono (ok' := fun k_ => (w.heap.size ≤ k_) ∧ k_ ≠ gb186 ∧ k_ ≠ gb187) (Kd.R_N (Kd.R_bound ho0)) (fun k_ hk_ => ⟨(Nat.le_trans (below_size (by repeat first | refine zS ?_ GE186.out | refine zS ?_ GE187.out | exact HB.out | apply zA | apply zN | apply zD)) hk_.2.1), (Kd.freshB (g := gb186) (o := .cells #[.int .i64 a0_0, .int .i64 a0_1] 83 (0, 0)) (by (with_reducible repeat (first | refine blk_drewN ?_ _ | refine blk_drew ?_ | refine blk_alloc ?_ _)); exact BK186.out) k_ hk_.2.1), (Kd.freshB (g := gb187) (o := .cells #[.int .i64 0, .int .i64 0, .int .i64 0, .slice none 0 0] 31 (0, 0)) (by (with_reducible repeat (first | refine blk_drewN ?_ _ | refine blk_drew ?_ | refine blk_alloc ?_ _)); exact BK187.out) k_ hk_.2.1)⟩)) (below_size (by repeat first | refine zS ?_ GE186.out | refine zS ?_ GE187.out | exact HB.out | apply zA | apply zN | apply zD))); replace BK186 := zM (bb hb BK186.out); replace BK187 := zM (bb hb BK187.out); replace HB := zM (below_step (by repeat first | refine zS ?_ GE186.out | refine zS ?_ GE187.out | exact HB.out | apply zA | apply zN | apply zD) hb)
        (try clear hb)
        (try clear hb2)
        (try clear hk)
        (try clear hi)
        (try clear ho0)
        refine hK.out _ _ ⟨(blk_cell BK186.out 0).trans rfl, (blk_cell BK186.out 1).trans rfl⟩ (fun hHeld => ?_)
        clear hK K
        refine norm_ (a' := ?_) ?_ ?_
        rotate_left
        ·show Act.put _ (some 34) _ = _
         simp only [Act.put, s1, s2, s3, i64_w, i32_w]
         rfl
        refine pv (v := ?_) (a' := ?_) HT_.out 9 (some 25) m92_12_ ?_ ?_ ?_; rotate_left 2; (·intro w'; go_simp; with_reducible rfl); (·simp only [Act.put, s1, s2, s3, i64_w, i32_w]; rfl)
        refine pv (v := ?_) (a' := ?_) HT_.out 10 (some 35) m92_13_ ?_ ?_ ?_; rotate_left 2; (·intro w'; go_simp; with_reducible rfl); (·simp only [Act.put, s1, s2, s3, i64_w, i32_w]; rfl)
        refine pv (v := ?_) (a' := ?_) HT_.out 11 (some 36) m92_14_ ?_ ?_ ?_; rotate_left 2; (·intro w'; go_simp; with_reducible rfl); (·simp only [Act.put, s1, s2, s3, i64_w, i32_w]; rfl)
        refine one_ (i := 12) (N := some 11) m92_7_ rfl rfl (one_of HT_.out (by kernel_rfl)) (by decide) (fun K hK => ?_)
        refine box_step ?hg (N := 11) ?hd (cs := #[.int .i64 0, .int .i64 0, .int .i64 0, .slice none 0 0]) (t := 31) ?hr ?_; (case hd => rfl); (case hg => rfl); (case hr => first | (go_simp; done) | (go_simp; rfl))
        intro gb206 hg w76 hbox hb
        have BK206 := zM (hbox); have GW206 := zM ((by rw [hg]; exact (below_size (by repeat first | refine zS ?_ GE186.out | refine zS ?_ GE187.out | exact HB.out | apply zA | apply zN | apply zD)) : w.heap.size ≤ gb206)); have GE206 := GW206; have NB186_206 := zM ((by rw [hg]; exact lt1 BK186.out : gb186 ≠ gb206)); have NB206_186 := zM ((by rw [hg]; exact gt1 BK186.out : gb206 ≠ gb186)); have NB187_206 := zM ((by rw [hg]; exact lt1 BK187.out : gb187 ≠ gb206)); have NB206_187 := zM ((by rw [hg]; exact gt1 BK187.out : gb206 ≠ gb187)); replace HO204 := zM (Kd.N_below (Kd.N_elderB (by (with_reducible repeat (first | apply Kd.N_alloc | apply Kd.N_drewN | apply Kd.N_drew)); exact HO204.out) gb206 (Nat.le_of_eq hg.symm)) hb); replace BK186 := zM (bb hb BK186.out); replace BK187 := zM (bb hb BK187.out); replace HB := zM (below_step (by repeat first | refine zS ?_ GE186.out | refine zS ?_ GE187.out | exact HB.out | apply zA | apply zN | apply zD) hb)
        clear hb hbox hg
        refine hK.out _ _ ⟨(blk_cell BK186.out 0).trans rfl, (blk_cell BK186.out 1).trans rfl⟩ (fun hHeld => ?_)
        clear hK K
        refine norm_ (a' := ?_) ?_ ?_
        rotate_left
        ·show Act.put _ (some 11) _ = _
         simp only [Act.put, s1, s2, s3, i64_w, i32_w]
         rfl
        exact norm_ (by simp only [putAll, Act.put, List.setIfInBounds_toArray, List.set_cons_zero, List.set_cons_succ]) (hCont (v203, gb206) _ ⟨hHeld, (by (with_reducible repeat (first | apply Kd.N_alloc | apply Kd.N_drewN | apply Kd.N_drew)); exact Kd.N_mono HO204.out (fun _ hk => ⟨hk.1.1, ⟨hk.1.2.1, ⟨hk.1.2.2, hk.2⟩⟩⟩)), (by (with_reducible repeat (first | refine blk_drewN ?_ _ | refine blk_drew ?_ | refine blk_alloc ?_ _)); exact BK186.out), (by (with_reducible repeat (first | refine blk_drewN ?_ _ | refine blk_drew ?_ | refine blk_alloc ?_ _)); exact BK187.out), (by (with_reducible repeat (first | refine blk_drewN ?_ _ | refine blk_drew ?_ | refine blk_alloc ?_ _)); exact BK206.out), GW206.out, GE206.out, NB186_206.out, NB206_186.out, NB187_206.out, NB206_187.out, (by repeat first | refine zS ?_ GE186.out | refine zS ?_ GE187.out | refine zS ?_ GE206.out | exact HB.out | apply zA | apply zN | apply zD)⟩)
       ·skip
        refine box_step ?hg (N := 11) ?hd (cs := #[.int .i64 0, .int .i64 0, .int .i64 0, .slice none 0 0]) (t := 31) ?hr ?_; (case hd => rfl); (case hg => rfl); (case hr => first | (go_simp; done) | (go_simp; rfl))
        intro gb206 hg w75 hbox hb
        have BK206 := zM (hbox); have GW206 := zM ((by rw [hg]; exact (below_size (by repeat first | refine zS ?_ GE186.out | refine zS ?_ GE187.out | exact HB.out | apply zA | apply zN | apply zD)) : w.heap.size ≤ gb206)); have GE206 := GW206; have NB186_206 := zM ((by rw [hg]; exact lt1 BK186.out : gb186 ≠ gb206)); have NB206_186 := zM ((by rw [hg]; exact gt1 BK186.out : gb206 ≠ gb186)); have NB187_206 := zM ((by rw [hg]; exact lt1 BK187.out : gb187 ≠ gb206)); have NB206_187 := zM ((by rw [hg]; exact gt1 BK187.out : gb206 ≠ gb187)); replace BK186 := zM (bb hb BK186.out); replace BK187 := zM (bb hb BK187.out); replace HB := zM (below_step (by repeat first | refine zS ?_ GE186.out | refine zS ?_ GE187.out | exact HB.out | apply zA | apply zN | apply zD) hb)
        clear hb hbox hg
        refine hK.out _ _ ⟨(blk_cell BK186.out 0).trans rfl, (blk_cell BK186.out 1).trans rfl⟩ (fun hHeld => ?_)
        clear hK K
        refine norm_ (a' := ?_) ?_ ?_
        rotate_left
        ·show Act.put _ (some 11) _ = _
         simp only [Act.put, s1, s2, s3, i64_w, i32_w]
         rfl
        refine one_ (i := 8) (N := some 34) m92_15_ rfl rfl (one_of HT_.out (by kernel_rfl)) (by decide) (fun K hK => ?_)
        refine goesV_ Y.hf Y.hn Y.hb #[.agg #[.int .i64 t196, .int .i64 t197], .slice A73 (l2.drop 1).length (c2 - 1)] (by rfl) rfl rfl rfl (by (try simp only [List.map_toArray, List.map_cons, List.map_nil]); first | done | (rw [show (l2.drop 1).length = (l2.length - 1) from List.length_drop] <;> rfl) | rfl | (simp only [List.length_drop, List.length_take]; rfl)) ?_
        with_reducible refine (Y.calls k t196 t197 _ _ (l2.drop 1) t199 t200 t201 t202 false _ ?side1 ?side2 A17.out).mono ?_
        (case side1 => repeat (first | exact (Kd.C_below HR198.out HB.out) | (with_reducible refine Kd.C_alloc ?_ _) | (with_reducible refine Kd.C_drewN ?_ _) | (with_reducible refine Kd.C_drew ?_)))
        (case side2 => exact HC198.out)
        rintro e w76 ⟨v203, rfl, ho0, hb⟩
        refine ⟨_, rfl, ?_⟩
        have HO204 := zM (Kd.N_lower (Kd.N_mono (ok' := fun k_ => (w.heap.size ≤ k_) ∧ k_ ≠ gb186 ∧ k_ ≠ gb187 ∧ k_ ≠ gb206) (Kd.R_N (Kd.R_bound ho0)) (fun k_ hk_ => ⟨(Nat.le_trans (below_size (by repeat first | refine zS ?_ GE186.out | refine zS ?_ GE187.out | refine zS ?_ GE206.out | exact HB.out | apply zA | apply zN | apply zD)) hk_.2.1), (Kd.freshB (g := gb186) (o := .cells #[.int .i64 a0_0, .int .i64 a0_1] 83 (0, 0)) (by (with_reducible repeat (first | refine blk_drewN ?_ _ | refine blk_drew ?_ | refine blk_alloc ?_ _)); exact BK186.out) k_ hk_.2.1), (Kd.freshB (g := gb187) (o := .cells #[.int .i64 0, .int .i64 0, .int .i64 0, .slice none 0 0] 31 (0, 0)) (by (with_reducible repeat (first | refine blk_drewN ?_ _ | refine blk_drew ?_ | refine blk_alloc ?_ _)); exact BK187.out) k_ hk_.2.1), (Kd.freshB (g := gb206) (o := .cells #[.int .i64 0, .int .i64 0, .int .i64 0, .slice none 0 0] 31 (0, 0)) (by (with_reducible repeat (first | refine blk_drewN ?_ _ | refine blk_drew ?_ | refine blk_alloc ?_ _)); exact BK206.out) k_ hk_.2.1)⟩)) (below_size (by repeat first | refine zS ?_ GE186.out | refine zS ?_ GE187.out | refine zS ?_ GE206.out | exact HB.out | apply zA | apply zN | apply zD))); replace BK186 := zM (bb hb BK186.out); replace BK187 := zM (bb hb BK187.out); replace BK206 := zM (bb hb BK206.out); replace HB := zM (below_step (by repeat first | refine zS ?_ GE186.out | refine zS ?_ GE187.out | refine zS ?_ GE206.out | exact HB.out | apply zA | apply zN | apply zD) hb)
        (try clear hb)
        (try clear hb2)
        (try clear hk)
        (try clear hi)
        (try clear ho0)
        refine hK.out _ _ ⟨(blk_cell BK186.out 0).trans rfl, (blk_cell BK186.out 1).trans rfl⟩ (fun hHeld => ?_)
        clear hK K
        refine norm_ (a' := ?_) ?_ ?_
        rotate_left
        ·show Act.put _ (some 34) _ = _
         simp only [Act.put, s1, s2, s3, i64_w, i32_w]
         rfl
        refine pv (v := ?_) (a' := ?_) HT_.out 9 (some 25) m92_16_ ?_ ?_ ?_; rotate_left 2; (·intro w'; go_simp; with_reducible rfl); (·simp only [Act.put, s1, s2, s3, i64_w, i32_w]; rfl)
        refine pv (v := ?_) (a' := ?_) HT_.out 10 (some 35) m92_17_ ?_ ?_ ?_; rotate_left 2; (·intro w'; go_simp; with_reducible rfl); (·simp only [Act.put, s1, s2, s3, i64_w, i32_w]; rfl)
        refine pv (v := ?_) (a' := ?_) HT_.out 11 (some 36) m92_7_ ?_ ?_ ?_; rotate_left 2; (·intro w'; go_simp; with_reducible rfl); (·simp only [Act.put, s1, s2, s3, i64_w, i32_w]; rfl)
        exact norm_ (by simp only [putAll, Act.put, List.setIfInBounds_toArray, List.set_cons_zero, List.set_cons_succ]) (hCont (v203, gb206) _ ⟨hHeld, (by (with_reducible repeat (first | apply Kd.N_alloc | apply Kd.N_drewN | apply Kd.N_drew)); exact HO204.out), (by (with_reducible repeat (first | refine blk_drewN ?_ _ | refine blk_drew ?_ | refine blk_alloc ?_ _)); exact BK186.out), (by (with_reducible repeat (first | refine blk_drewN ?_ _ | refine blk_drew ?_ | refine blk_alloc ?_ _)); exact BK187.out), (by (with_reducible repeat (first | refine blk_drewN ?_ _ | refine blk_drew ?_ | refine blk_alloc ?_ _)); exact BK206.out), GW206.out, GE206.out, NB186_206.out, NB206_186.out, NB187_206.out, NB206_187.out, (by repeat first | refine zS ?_ GE186.out | refine zS ?_ GE187.out | refine zS ?_ GE206.out | exact HB.out | apply zA | apply zN | apply zD)⟩)
      ·skip
       refine box_step ?hg (N := 11) ?hd (cs := #[.int .i64 0, .int .i64 0, .int .i64 0, .slice none 0 0]) (t := 31) ?hr ?_; (case hd => rfl); (case hg => rfl); (case hr => first | (go_simp; done) | (go_simp; rfl))
       intro gb206 hg w74 hbox hb
       have BK206 := zM (hbox); have GW206 := zM ((by rw [hg]; exact (below_size (by repeat first | refine zS ?_ GE186.out | refine zS ?_ GE187.out | exact HB.out | apply zA | apply zN | apply zD)) : w.heap.size ≤ gb206)); have GE206 := GW206; have NB186_206 := zM ((by rw [hg]; exact lt1 BK186.out : gb186 ≠ gb206)); have NB206_186 := zM ((by rw [hg]; exact gt1 BK186.out : gb206 ≠ gb186)); have NB187_206 := zM ((by rw [hg]; exact lt1 BK187.out : gb187 ≠ gb206)); have NB206_187 := zM ((by rw [hg]; exact gt1 BK187.out : gb206 ≠ gb187)); replace BK186 := zM (bb hb BK186.out); replace BK187 := zM (bb hb BK187.out); replace HB := zM (below_step (by repeat first | refine zS ?_ GE186.out | refine zS ?_ GE187.out | exact HB.out | apply zA | apply zN | apply zD) hb)
       clear hb hbox hg
       refine hK.out _ _ ⟨(blk_cell BK186.out 0).trans rfl, (blk_cell BK186.out 1).trans rfl⟩ (fun hHeld => ?_)
       clear hK K
       refine norm_ (a' := ?_) ?_ ?_
       rotate_left
       ·show Act.put _ (some 11) _ = _
        simp only [Act.put, s1, s2, s3, i64_w, i32_w]
        rfl
       refine one_ (i := 5) (N := some 31) m92_11_ rfl rfl (one_of HT_.out (by kernel_rfl)) (by decide) (fun K hK => ?_)
       refine goes_ Try.func120 (by kernel_rfl) rfl #[.agg #[.int .i64 a0_0, .int .i64 a0_1], .int .i64 a1, .int .i64 (wrap64 (Int.tdiv (wrap64 (t195 - 1)) 2))] (by rfl) rfl rfl (by (try simp only [List.map_toArray, List.map_cons, List.map_nil]); first | done | rfl | (simp only [List.length_drop, List.length_take]; rfl)) ?_
       with_reducible refine (preset_size_with.calls a0_0 a0_1 a1 (wrap64 (Int.tdiv (wrap64 (t195 - 1)) 2)) t196 t197 _ A15.out).mono ?_
       rintro e w75 ⟨rfl, hb⟩
       refine ⟨_, rfl, ?_⟩
       replace BK186 := zM (bb hb BK186.out); replace BK187 := zM (bb hb BK187.out); replace BK206 := zM (bb hb BK206.out); replace HB := zM (below_step (by repeat first | refine zS ?_ GE186.out | refine zS ?_ GE187.out | refine zS ?_ GE206.out | exact HB.out | apply zA | apply zN | apply zD) hb)
       (try clear hb)
       (try clear hb2)
       (try clear hk)
       (try clear hi)
       refine hK.out _ _ ⟨(blk_cell BK186.out 0).trans rfl, (blk_cell BK186.out 1).trans rfl⟩ (fun hHeld => ?_)
       clear hK K
       refine norm_ (a' := ?_) ?_ ?_
       rotate_left
       ·show Act.put _ (some 31) _ = _
        simp only [Act.put, s1, s2, s3, i64_w, i32_w]
        rfl
       refine one_ (i := 8) (N := some 34) m92_15_ rfl rfl (one_of HT_.out (by kernel_rfl)) (by decide) (fun K hK => ?_)
       refine goesV_ Y.hf Y.hn Y.hb #[.agg #[.int .i64 t196, .int .i64 t197], .slice A73 (l2.drop 1).length (c2 - 1)] (by rfl) rfl rfl rfl (by (try simp only [List.map_toArray, List.map_cons, List.map_nil]); first | done | (rw [show (l2.drop 1).length = (l2.length - 1) from List.length_drop] <;> rfl) | rfl | (simp only [List.length_drop, List.length_take]; rfl)) ?_
       with_reducible refine (Y.calls k t196 t197 _ _ (l2.drop 1) t199 t200 t201 t202 false _ ?side1 ?side2 A17.out).mono ?_
       (case side1 => repeat (first | exact (Kd.C_below HR198.out HB.out) | (with_reducible refine Kd.C_alloc ?_ _) | (with_reducible refine Kd.C_drewN ?_ _) | (with_reducible refine Kd.C_drew ?_)))
       (case side2 => exact HC198.out)
       rintro e w76 ⟨v203, rfl, ho0, hb⟩
       refine ⟨_, rfl, ?_⟩
       have HO204 := zM (Kd.N_lower (Kd.N_mono (ok' := fun k_ => (w.heap.size ≤ k_) ∧ k_ ≠ gb186 ∧ k_ ≠ gb187 ∧ k_ ≠ gb206) (Kd.R_N (Kd.R_bound ho0)) (fun k_ hk_ => ⟨(Nat.le_trans (below_size (by repeat first | refine zS ?_ GE186.out | refine zS ?_ GE187.out | refine zS ?_ GE206.out | exact HB.out | apply zA | apply zN | apply zD)) hk_.2.1), (Kd.freshB (g := gb186) (o := .cells #[.int .i64 a0_0, .int .i64 a0_1] 83 (0, 0)) (by (with_reducible repeat (first | refine blk_drewN ?_ _ | refine blk_drew ?_ | refine blk_alloc ?_ _)); exact BK186.out) k_ hk_.2.1), (Kd.freshB (g := gb187) (o := .cells #[.int .i64 0, .int .i64 0, .int .i64 0, .slice none 0 0] 31 (0, 0)) (by (with_reducible repeat (first | refine blk_drewN ?_ _ | refine blk_drew ?_ | refine blk_alloc ?_ _)); exact BK187.out) k_ hk_.2.1), (Kd.freshB (g := gb206) (o := .cells #[.int .i64 0, .int .i64 0, .int .i64 0, .slice none 0 0] 31 (0, 0)) (by (with_reducible repeat (first | refine blk_drewN ?_ _ | refine blk_drew ?_ | refine blk_alloc ?_ _)); exact BK206.out) k_ hk_.2.1)⟩)) (below_size (by repeat first | refine zS ?_ GE186.out | refine zS ?_ GE187.out | refine zS ?_ GE206.out | exact HB.out | apply zA | apply zN | apply zD))); replace BK186 := zM (bb hb BK186.out); replace BK187 := zM (bb hb BK187.out); replace BK206 := zM (bb hb BK206.out); replace HB := zM (below_step (by repeat first | refine zS ?_ GE186.out | refine zS ?_ GE187.out | refine zS ?_ GE206.out | exact HB.out | apply zA | apply zN | apply zD) hb)
       (try clear hb)
       (try clear hb2)
       (try clear hk)
       (try clear hi)
       (try clear ho0)
       refine hK.out _ _ ⟨(blk_cell BK186.out 0).trans rfl, (blk_cell BK186.out 1).trans rfl⟩ (fun hHeld => ?_)
       clear hK K
       refine norm_ (a' := ?_) ?_ ?_
       rotate_left
       ·show Act.put _ (some 34) _ = _
        simp only [Act.put, s1, s2, s3, i64_w, i32_w]
        rfl
       refine pv (v := ?_) (a' := ?_) HT_.out 9 (some 25) m92_16_ ?_ ?_ ?_; rotate_left 2; (·intro w'; go_simp; with_reducible rfl); (·simp only [Act.put, s1, s2, s3, i64_w, i32_w]; rfl)
       refine pv (v := ?_) (a' := ?_) HT_.out 10 (some 35) m92_17_ ?_ ?_ ?_; rotate_left 2; (·intro w'; go_simp; with_reducible rfl); (·simp only [Act.put, s1, s2, s3, i64_w, i32_w]; rfl)
       refine pv (v := ?_) (a' := ?_) HT_.out 11 (some 36) m92_7_ ?_ ?_ ?_; rotate_left 2; (·intro w'; go_simp; with_reducible rfl); (·simp only [Act.put, s1, s2, s3, i64_w, i32_w]; rfl)
       exact norm_ (by simp only [putAll, Act.put, List.setIfInBounds_toArray, List.set_cons_zero, List.set_cons_succ]) (hCont (v203, gb206) _ ⟨hHeld, (by (with_reducible repeat (first | apply Kd.N_alloc | apply Kd.N_drewN | apply Kd.N_drew)); exact HO204.out), (by (with_reducible repeat (first | refine blk_drewN ?_ _ | refine blk_drew ?_ | refine blk_alloc ?_ _)); exact BK186.out), (by (with_reducible repeat (first | refine blk_drewN ?_ _ | refine blk_drew ?_ | refine blk_alloc ?_ _)); exact BK187.out), (by (with_reducible repeat (first | refine blk_drewN ?_ _ | refine blk_drew ?_ | refine blk_alloc ?_ _)); exact BK206.out), GW206.out, GE206.out, NB186_206.out, NB206_186.out, NB187_206.out, NB206_187.out, (by repeat first | refine zS ?_ GE186.out | refine zS ?_ GE187.out | refine zS ?_ GE206.out | exact HB.out | apply zA | apply zN | apply zD)⟩)
     rintro ⟨v203, gb206⟩ w77 ⟨hS_, h0_, h1_, h2_, h3_, h4_, h5_, h6_, h7_, h8_, h9_, h10_⟩
     have n0_ : Aside0 (Kd.N k31 31 w77 w.heap.size (fun k_ => (w.heap.size ≤ k_) ∧ k_ ≠ gb186 ∧ k_ ≠ gb187 ∧ k_ ≠ gb206) v203 t202) := ⟨h0_⟩
     have n1_ : Aside0 (w77.heap[gb186]? = some (.cells #[.int .i64 a0_0, .int .i64 a0_1] 83 (0, 0))) := ⟨h1_⟩
     have n2_ : Aside0 (w77.heap[gb187]? = some (.cells #[.int .i64 0, .int .i64 0, .int .i64 0, .slice none 0 0] 31 (0, 0))) := ⟨h2_⟩
     have n3_ : Aside0 (w77.heap[gb206]? = some (.cells #[.int .i64 0, .int .i64 0, .int .i64 0, .slice none 0 0] 31 (0, 0))) := ⟨h3_⟩
     have n4_ : Aside0 (w.heap.size ≤ gb206) := ⟨h4_⟩
     have n5_ : Aside0 (w.heap.size ≤ gb206) := ⟨h5_⟩
     have n6_ : Aside0 (gb186 ≠ gb206) := ⟨h6_⟩
     have n7_ : Aside0 (gb206 ≠ gb186) := ⟨h7_⟩
     have n8_ : Aside0 (gb187 ≠ gb206) := ⟨h8_⟩
     have n9_ : Aside0 (gb206 ≠ gb187) := ⟨h9_⟩
     have n10_ : Aside0 (Below w.heap.size w w77) := ⟨h10_⟩
     clear BK186
     clear BK187
     clear HB
     clear h0_ h1_ h2_ h3_ h4_ h5_ h6_ h7_ h8_ h9_ h10_
     have HO204 := n0_
     have BK186 := n1_
     have BK187 := n2_
     have BK206 := n3_
     have GW206 := n4_
     have GE206 := n5_
     have NB186_206 := n6_
     have NB206_186 := n7_
     have NB187_206 := n8_
     have NB206_187 := n9_
     have HB := n10_
     clear n0_ n1_ n2_ n3_ n4_ n5_ n6_ n7_ n8_ n9_ n10_
     have hHeld : w77.cell? ⟨gb186, 0, none⟩ = some (.int .i64 a0_0) ∧ w77.cell? ⟨gb186, 1, none⟩ = some (.int .i64 a0_1) := hS_
     obtain ⟨Ao81, co81, eo81⟩ := Kd.N_slice HO204.out
     (first | subst eo81 | (injection eo81 with f1_ f2_ f3_; have f4_ := f1_.symm; have f5_ := f3_.symm; clear f1_ f2_ f3_; subst f4_; subst f5_))
     refine norm_ (a' := ?_) ?_ ?_
     rotate_left
     ·simp only [putAll, Act.put, List.setIfInBounds_toArray, List.set_cons_zero, List.set_cons_succ]
      rfl
     refine one_ (i := 13) (N := none) m92_18_ rfl rfl (one_of HT_.out (by kernel_rfl)) (by decide) (fun K hK => ?_)
     have hs78 : w77.cell? ⟨gb206, 0, none⟩ = some (.int .i64 0) := (blk_cell BK206.out 0).trans rfl
     have hfs78 := blk_frozen BK206.out 0
     have hns78_0 := NB186_206.out
     have hns78_1 := NB187_206.out
     have hms78_0 := NB206_186.out
     have hms78_1 := NB206_187.out
     have hs79 : w77.cell? ⟨gb206, 1, none⟩ = some (.int .i64 0) := (blk_cell BK206.out 1).trans rfl
     have hfs79 := blk_frozen BK206.out 1
     have hns79_0 := NB186_206.out
     have hns79_1 := NB187_206.out
     have hms79_0 := NB206_186.out
     have hms79_1 := NB206_187.out
     have hs80 : w77.cell? ⟨gb206, 2, none⟩ = some (.int .i64 0) := (blk_cell BK206.out 2).trans rfl
     have hfs80 := blk_frozen BK206.out 2
     have hns80_0 := NB186_206.out
     have hns80_1 := NB187_206.out
     have hms80_0 := NB206_186.out
     have hms80_1 := NB206_187.out
     have hs82 : w77.cell? ⟨gb206, 3, none⟩ = some (.slice none 0 0) := (blk_cell BK206.out 3).trans rfl
     have hfs82 := blk_frozen BK206.out 3
     have hns82_0 := NB186_206.out
     have hns82_1 := NB187_206.out
     have hms82_0 := NB206_186.out
     have hms82_1 := NB206_187.out
     refine skip_ (w1 := ?_) (by rfl) rfl ?_ ?_
     rotate_left
     ·go_simp
      rfl
     refine hK.out _ _ ⟨((cell_far (p := ⟨gb206, _, none⟩) NB186_206.out _).trans (((cell_far (p := ⟨gb206, _, none⟩) NB186_206.out _).trans (((cell_far (p := ⟨gb206, _, none⟩) NB186_206.out _).trans (((cell_far (p := ⟨gb206, _, none⟩) NB186_206.out _).trans (hHeld.1)))))))), ((cell_far (p := ⟨gb206, _, none⟩) NB186_206.out _).trans (((cell_far (p := ⟨gb206, _, none⟩) NB186_206.out _).trans (((cell_far (p := ⟨gb206, _, none⟩) NB186_206.out _).trans (((cell_far (p := ⟨gb206, _, none⟩) NB186_206.out _).trans (hHeld.2))))))))⟩ (fun hHeld => ?_)
     clear hK K
     refine pv (v := ?_) (a' := ?_) HT_.out 14 (some 12) m92_19_ ?_ ?_ ?_; rotate_left 2; (·intro w'; go_simp; with_reducible rfl); (·simp only [Act.put, s1, s2, s3, i64_w, i32_w]; rfl)
     refine done_ (done_of HT_.out (by kernel_rfl)) ?_
     have hnb83 := NB187_206.out
     have hnc83 := NB206_187.out
     have hcz84_0 : w77.cell? ⟨gb187, 0, none⟩ = some (.int .i64 0) := (blk_cell BK187.out 0).trans rfl
     have hcz84_1 : w77.cell? ⟨gb187, 1, none⟩ = some (.int .i64 0) := (blk_cell BK187.out 1).trans rfl
     have hcz84_2 : w77.cell? ⟨gb187, 2, none⟩ = some (.int .i64 0) := (blk_cell BK187.out 2).trans rfl
     have hcz84_3 : w77.cell? ⟨gb187, 3, none⟩ = some (.slice none 0 0) := (blk_cell BK187.out 3).trans rfl
     have hfz84_0 := blk_frozen BK187.out 0
     have hfz84_1 := blk_frozen BK187.out 1
     have hfz84_2 := blk_frozen BK187.out 2
     have hfz84_3 := blk_frozen BK187.out 3
     try go_wp2
     refine bodyPost_ret (results_ct rfl _ _ gb187 31 #[.int .i64 0, .int .i64 0, .int .i64 0, .slice none 0 0] (0, 0) _ rfl (by exact (put4 (blk_far (blk_far (blk_far (blk_far BK187.out NB187_206.out _) NB187_206.out _) NB187_206.out _) NB187_206.out _))) Try.underlying31 rfl (by kernel_rfl)) rfl ?_
     exact ⟨_, by first | rfl | (simp [errW_none, errW_some] <;> rfl) | (simp [*, errW_none, errW_some] <;> rfl), by first | exact Kd.R_nil _ _ _ _ _ | exact Kd.N_nil _ _ _ _ _ | exact Kd.V_nil _ _ _ _ _ | exact Kd.Q_nil _ _ _ _ _ | exact Kd.S_nil _ _ _ _ _, by repeat first | refine zS ?_ GE186.out | refine zS ?_ GE187.out | refine zS ?_ GE206.out | exact HB.out | apply zA | apply zN | apply zD⟩
  ·rw [if_neg c16] at H
   exact absurd H (by simp)
def layPile : LayFn := ⟨47, ⟨_, Try.func47, by kernel_rfl, rfl⟩, fun k w h l => preset_size_pile.f k w h l, fun a0 a1 a2 k => preset_size_pile.mono a0 a1 a2 k, preset_size_pile.calls⟩
def preset_mainPile.f (k : Nat) (a0 a0_ a1 : Int) (a2 : List Int) (a3 : Int) : Option (Int × Int × Int × (List (S31)) × Bool) := preset_mainG.f layPile k a0 a0_ a1 a2 a3
theorem preset_mainPile.mono : ∀ a0 a1 a2 a3 a4 k, LeO (preset_mainPile.f k a0 a1 a2 a3 a4) (preset_mainPile.f (k + 1) a0 a1 a2 a3 a4) := preset_mainG.mono layPile
theorem preset_mainPile.calls (k : Nat) (a0_0 : Int) (a0_1 : Int) (a1 : Int) (A2 : Option Addr) (c2 : Nat) (l2 : List Int) (a3 : Int) (r1 : Int) (r2 : Int) (r3 : Int) (r4 : List (S31)) (r5 : Bool) (w : World) (hr2 : Kd.C (Kd.int .i64) w A2 l2.length l2) (hc2 : l2.length ≤ c2) (h : preset_mainPile.f k a0_0 a0_1 a1 l2 a3 = some (r1, r2, r3, r4, r5)) :
 Calls Try.prog 92 #[.agg #[.int .i64 a0_0, .int .i64 a0_1], .int .i64 a1, .slice A2 l2.length c2, .func (.func 47) #[] #[]] w fun e w' => ∃ v3_ : Value, e = .returned (.tuple #[.agg #[.int .i64 r1, .int .i64 r2, .int .i64 r3, v3_], .bool r5]) ∧ Kd.N k31 31 w' w.heap.size (fun k_ => (w.heap.size ≤ k_)) v3_ r4 ∧ Below w.heap.size w w' := preset_mainG.calls layPile k a0_0 a0_1 a1 A2 c2 l2 a3 r1 r2 r3 r4 r5 w hr2 hc2 h
end Go.Proofs.Ytplngfammfdemaa.Q
