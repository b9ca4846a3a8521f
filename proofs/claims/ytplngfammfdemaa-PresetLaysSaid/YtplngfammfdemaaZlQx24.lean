-- A copy of the text YtplngfammfdemaaQx24 with what this claim does not reach left out (prune.py, a program of this project).
import Derived.Test.YtplngfammfdemaaZlGMul
import Derived.Test.YtplngfammfdemaaZlQx22
import Derived.Test.YtplngfammfdemaaZlQx4
namespace Go.Proofs.Ytplngfammfdemaa.Q
open Go.RowKit Go.Proofs.Ytplngfammfdemaa Go.Proofs.YtplngfammfdemaaW.PrintWords Go.Proofs.YtplngfammfdemaaW.PrintLast Go.Proofs.YtplngfammfdemaaW.PrintMore
attribute [local go_sem] max2_int min2_int max_two min_two max_three min_three max_four min_four   -- for this text's walks alone
set_option linter.unusedVariables false
set_option linter.unusedSimpArgs false
def m56_0_ : Array Bool := mk_ 15 1
def m56_1_ : Array Bool := mk_ 15 3
def m56_2_ : Array Bool := mk_ 15 7
def m56_3_ : Array Bool := mk_ 15 23
def m56_4_ : Array Bool := mk_ 15 55
def m56_5_ : Array Bool := mk_ 15 119
def m56_6_ : Array Bool := mk_ 15 247
def m56_7_ : Array Bool := mk_ 15 759
def m56_8_ : Array Bool := mk_ 15 767
def m56_9_ : Array Bool := mk_ 15 1023
def m56_10_ : Array Bool := mk_ 15 2047
def m56_11_ : Array Bool := mk_ 15 4095
def m56_12_ : Array Bool := mk_ 15 8191
def m56_13_ : Array Bool := mk_ 15 16383
def m56_14_ : Array Bool := mk_ 15 32767
def backseatref12_Main.j0 : Nat → List Int → Int → Int → Int → Int → Option (Int × Int × Int × (List (S31)) × Bool)
 | 0, _, _, _, _, _ => none
 | k + 1, x0, x1, x2, x3, x9 => if 1 ≤ (x0.length : Int) then ((backseatref12_Line.f k (x0.drop 1) (wrap64 (3 - x1)) (wrap64 (Int.tdiv x9 2)) x3).bind fun bt427 => (if x1 = 2 then ((backseatref12_Line.f k (x0.drop 1) (wrap64 (3 - x1)) x2 (wrap64 (Int.tdiv x9 2))).bind fun bt436 => (if x9 < 2 then (some (0, 0, 0, ([] : List (S31)), false)) else (if bt436.2.2.2.2 = true then (if 0 < (x0.length : Int) then (some (x1, 0, 0, (([(⟨0, rd x0 0, wrap64 (x9 - (wrap64 (Int.tdiv x9 2))), ([] : List (S31))⟩ : S31), (⟨bt436.1, bt436.2.1, wrap64 (Int.tdiv x9 2), bt436.2.2.2.1⟩ : S31)] : List (S31))), true)) else (none)) else (some (0, 0, 0, ([] : List (S31)), false))))) else (if x9 < 2 then (some (0, 0, 0, ([] : List (S31)), false)) else (if bt427.2.2.2.2 = true then (if 0 < (x0.length : Int) then (some (x1, 0, 0, (([(⟨0, rd x0 0, wrap64 (x9 - (wrap64 (Int.tdiv x9 2))), ([] : List (S31))⟩ : S31), (⟨bt427.1, bt427.2.1, wrap64 (Int.tdiv x9 2), bt427.2.2.2.1⟩ : S31)] : List (S31))), true)) else (none)) else (some (0, 0, 0, ([] : List (S31)), false)))))) else (none)
def backseatref12_Main.f (k : Nat) (l0 : List Int) (a1 : Int) (a2 : Int) (a3 : Int) : Option (Int × Int × Int × (List (S31)) × Bool) := if (l0.length : Int) = 1 then (if 0 < (l0.length : Int) then (some (0, rd l0 0, 0, ([] : List (S31)), true)) else (none)) else (if a1 = 2 then (backseatref12_Main.j0 k l0 a1 a2 a3 (wrap64 (a3 - 1))) else (backseatref12_Main.j0 k l0 a1 a2 a3 (wrap64 (a2 - 1))))
theorem backseatref12_Main.mono_l : ∀ k, (∀ y0 y1 y2 y3 y4, LeO (backseatref12_Main.j0 k y0 y1 y2 y3 y4) (backseatref12_Main.j0 (k + 1) y0 y1 y2 y3 y4))
 | 0 => fun _ _ _ _ _ r h => by simp [backseatref12_Main.j0] at h
 | k + 1 => by
  have ih0 := backseatref12_Main.mono_l k
  ·intro y0 y1 y2 y3 y4
   unfold backseatref12_Main.j0
   repeat' first
   | (with_reducible exact ih0 _ _ _ _ _)
   | (with_reducible exact backseatref12_Line.mono _ _ _ _ _)
   | (with_reducible exact LeO.refl _)
   | (with_reducible exact LeO.none _)
   | (with_reducible refine LeO.ite ?_ ?_)
   | (with_reducible refine LeO.bind ?_ (fun _ => ?_))
   | exact ih0 _ _ _ _ _
   | exact backseatref12_Line.mono _ _ _ _ _
   | exact LeO.none _
   | refine LeO.ite ?_ ?_
   | refine LeO.bind ?_ (fun _ => ?_)
theorem backseatref12_Main.mono : ∀ a0 a1 a2 a3 k, LeO (backseatref12_Main.f k a0 a1 a2 a3) (backseatref12_Main.f (k + 1) a0 a1 a2 a3) := by
 intro a0 a1 a2 a3 k
 have ih0 := backseatref12_Main.mono_l k
 unfold backseatref12_Main.f
 repeat' first
  | (with_reducible exact ih0 _ _ _ _ _)
  | (with_reducible exact backseatref12_Line.mono _ _ _ _ _)
  | (with_reducible exact LeO.refl _)
  | (with_reducible exact LeO.none _)
  | (with_reducible refine LeO.ite ?_ ?_)
  | (with_reducible refine LeO.bind ?_ (fun _ => ?_))
  | exact ih0 _ _ _ _ _
  | exact backseatref12_Line.mono _ _ _ _ _
  | exact LeO.none _
  | refine LeO.ite ?_ ?_
  | refine LeO.bind ?_ (fun _ => ?_)
def backseatref12_Main.T12 : Bool × List (List Nat × List Nat) := (true, [([], []), ([], []), ([1], [1]), ([2], [2]), ([], []), ([], []), ([5], [5]), ([4, 6], [4, 6]), ([3, 7], [3, 7]), ([], []), ([9], [9]), ([8, 10], [8, 10]), ([0, 11], [0, 11]), ([12], [12]), ([13, 0, 1, 2, 3, 4, 5, 6, 7, 8, 9, 10, 11, 12, 13], [13])])
def backseatref12_Main.B12 : List Nat := [0, 0, 2, 6, 0, 0, 32, 112, 254, 0, 512, 2046, 4095, 8191, 16383]
theorem backseatref12_Main.tab12 : rtab .any (opsOf Try.f56 12) = backseatref12_Main.T12 := by kernel_rfl
theorem backseatref12_Main.bits12 : waitsOk backseatref12_Main.T12.2 backseatref12_Main.B12 = true := by kernel_rfl
set_option maxHeartbeats 8000000 in
set_option maxRecDepth 100000 in
theorem backseatref12_Main.calls (k : Nat) (A0 : Option Addr) (c0 : Nat) (l0 : List Int) (a1 : Int) (a2 : Int) (a3 : Int) (r1 : Int) (r2 : Int) (r3 : Int) (r4 : List (S31)) (r5 : Bool) (w : World) (hr0 : Kd.C (Kd.int .i64) w A0 l0.length l0) (hc0 : l0.length ≤ c0) (h : backseatref12_Main.f k l0 a1 a2 a3 = some (r1, r2, r3, r4, r5)) :
 Calls Try.prog 56 #[.slice A0 l0.length c0, .int .i64 a1, .int .i64 a2, .int .i64 a3] w fun e w' => ∃ v3_ : Value, e = .returned (.agg #[.int .i64 r1, .int .i64 r2, .int .i64 r3, v3_, .bool r5]) ∧ Kd.N k31 31 w' w.heap.size (fun k_ => (w.heap.size ≤ k_)) v3_ r4 ∧ Below w.heap.size w w' := by
 have hu37 := Try.underlying37
 have hu31 := Try.underlying31
 have HR0 := zM hr0
 have HC0 := zM hc0
 clear hr0 hc0
 have HB := zM (Below.refl w.heap.size w)
 have H : (if (l0.length : Int) = 1 then (if 0 < (l0.length : Int) then (some (0, rd l0 0, 0, ([] : List (S31)), true)) else (none)) else (if a1 = 2 then (backseatref12_Main.j0 k l0 a1 a2 a3 (wrap64 (a3 - 1))) else (backseatref12_Main.j0 k l0 a1 a2 a3 (wrap64 (a2 - 1))))) = some (r1, r2, r3, r4, r5) := h
 clear h
 by_cases c5 : (l0.length : Int) = 1
 ·rw [if_pos c5] at H
  have c5b0 : ((l0.length : Int) == 1) = true := beq_iff_eq.mpr c5
  have c5b1 : ((l0.length : Int) != 1) = false := bne_eq_false_iff_eq.mpr c5
  clear c5
  by_cases c6 : 0 < (l0.length : Int)
  ·rw [if_pos c6] at H
   have c6b0 : decide (0 < (l0.length : Int)) = true := decide_eq_true c6
   have c6b1 : decide (0 < l0.length) = true := decide_eq_true (by omega)
   clear c6
   simp only [Option.some.injEq, Prod.mk.injEq] at H
   obtain ⟨rfl, rfl, rfl, rfl, rfl⟩ := H
   go_enter Try.func56, Try.ntmps56
   go_wp2_with (first | ((with_reducible refine gate_dst (N := 8) rfl ?_); refine box_event ?hg (N := 8) ?hd (cs := #[.int .i64 0, .int .i64 0, .int .i64 0, .slice none 0 0, .bool false]) (t := 37) ?hr ?_; (case hd => rfl); (case hg => rfl); (case hr => first | (go_simp; done) | (go_simp; rfl)); intro gb424 hg w7 hbox hb; have BK424 := zM (hbox); have GW424 := zM ((by rw [hg]; exact (below_size (by first | exact HB.out | exact zN HB.out _ | exact zD HB.out)) : w.heap.size ≤ gb424)); have GE424 := GW424; replace HB := zM (below_step (by first | exact HB.out | exact zN HB.out _ | exact zD HB.out) hb); clear hb hbox hg; have p425 : 0 ≤ (0 : Int) := (by omega); have q425 : 0 < (l0.length : Int) := of_decide_eq_true (by first | (with_reducible assumption) | assumption); obtain ⟨ad425, e425, hx425_0⟩ := Kd.at_int HR0.out 0 p425 q425; cases e425; have qi425 : (0 < l0.length) = True := eq_true (by omega); (try rw [show ((0 : Int)).toNat = 0 from rfl] at hx425_0); (try rw [Addr.add_zero'] at hx425_0); replace hx425_0 := (HB.out.cell (zL w _ hx425_0)).trans hx425_0; replace p425 := eq_true p425; replace q425 := eq_true q425; obtain ⟨hcz8_0, hcz8_1, hcz8_2, hcz8_3, hcz8_4, hfz8_0, hfz8_1, hfz8_2, hfz8_3, hfz8_4⟩ := cz5 BK424.out))
   refine bodyPost_ret (results_cell_row rfl _ _ gb424 37 #[.int .i64 0, .int .i64 (rd l0 0), .int .i64 0, .slice none 0 0, .bool true] (0, 0) _ rfl (by exact (put5 BK424.out)) Try.underlying37 rfl (by kernel_rfl)) rfl ?_
   exact ⟨_, by first | rfl | (simp [errW_none, errW_some] <;> rfl) | (simp [*, errW_none, errW_some] <;> rfl), by first | exact Kd.R_nil _ _ _ _ _ | exact Kd.N_nil _ _ _ _ _ | exact Kd.V_nil _ _ _ _ _ | exact Kd.Q_nil _ _ _ _ _ | exact Kd.S_nil _ _ _ _ _, by repeat first | refine zS ?_ GE424.out | exact HB.out | apply zA | apply zN | apply zD⟩
  ·rw [if_neg c6] at H
   exact absurd H (by simp)
 ·rw [if_neg c5] at H
  have c5b0 : ((l0.length : Int) == 1) = false := beq_eq_false_iff_ne.mpr c5
  have c5b1 : ((l0.length : Int) != 1) = true := bne_iff_ne.mpr c5
  have HC9 := zM H
  clear H
  go_enter Try.func56, Try.ntmps56
  go_upto_if 22 with (first | ((with_reducible refine gate_dst (N := 8) rfl ?_); refine box_event ?hg (N := 8) ?hd (cs := #[.int .i64 0, .int .i64 0, .int .i64 0, .slice none 0 0, .bool false]) (t := 37) ?hr ?_; (case hd => rfl); (case hg => rfl); (case hr => first | (go_simp; done) | (go_simp; rfl)); intro gb424 hg w10 hbox hb; have BK424 := zM (hbox); have GW424 := zM ((by rw [hg]; exact (below_size (by first | exact HB.out | exact zN HB.out _ | exact zD HB.out)) : w.heap.size ≤ gb424)); have GE424 := GW424; replace HB := zM (below_step (by first | exact HB.out | exact zN HB.out _ | exact zD HB.out) hb); clear hb hbox hg))
  (try simp only [Act.put, List.setIfInBounds_toArray, List.set_cons_zero, List.set_cons_succ])
  go_cut [9] (fun v9 wc => ∃ (kq : Nat) (x9_8 : Int), v9 = .int .i64 x9_8 ∧ Aside0 (backseatref12_Main.j0 kq l0 a1 a2 a3 x9_8 = some (r1, r2, r3, r4, r5)) ∧ Aside0 (kq ≤ k) ∧ Aside0 (wc.heap[gb424]? = some (.cells #[.int .i64 0, .int .i64 0, .int .i64 0, (.slice none 0 0), .bool false] 37 (0, 0))) ∧ Aside0 (Below w.heap.size w wc))
  case first =>
   have H := HC9.out
   clear HC9
   by_cases c11 : a1 = 2
   ·rw [if_pos c11] at H
    have c11b0 : (a1 == 2) = true := beq_iff_eq.mpr c11
    have c11b1 : (a1 != 2) = false := bne_eq_false_iff_eq.mpr c11
    clear c11
    (first | rw [c11b0] | (simp only [i64_w, i32_w]; rw [c11b0]) | skip)
    have H' := zM H
    clear H
    go_wp2
    go_meet
    case rel => exact ⟨_, (wrap64 (a3 - 1)), (by first | rfl | (simp; done) | (simp [*]; done)), H', ⟨by first | omega | exact Nat.le_refl _⟩, ⟨by (with_reducible repeat (first | refine blk_drewN ?_ _ | refine blk_drew ?_ | refine blk_alloc ?_ _)); exact BK424.out⟩, ⟨by repeat first | refine zS ?_ GE424.out | exact HB.out | apply zA | apply zN | apply zD⟩⟩
   ·rw [if_neg c11] at H
    have c11b0 : (a1 == 2) = false := beq_eq_false_iff_ne.mpr c11
    have c11b1 : (a1 != 2) = true := bne_iff_ne.mpr c11
    (first | rw [c11b0] | (simp only [i64_w, i32_w]; rw [c11b0]) | skip)
    have H' := zM H
    clear H
    go_wp2
    go_meet
    case rel => exact ⟨_, (wrap64 (a2 - 1)), (by first | rfl | (simp; done) | (simp [*]; done)), H', ⟨by first | omega | exact Nat.le_refl _⟩, ⟨by (with_reducible repeat (first | refine blk_drewN ?_ _ | refine blk_drew ?_ | refine blk_alloc ?_ _)); exact BK424.out⟩, ⟨by repeat first | refine zS ?_ GE424.out | exact HB.out | apply zA | apply zN | apply zD⟩⟩
  case rest =>
   clear HC9
   (try clear c1); (try clear p2); (try clear p4); (try clear q4); (try clear hx4); (try clear qi4); (try clear c5); (try clear c5b0); (try clear c5b1); (try clear c6); (try clear c6b0); (try clear c6b1); (try clear p6); (try clear c11); (try clear c11b0); (try clear c11b1); (try clear hcz8_0); (try clear hcz8_1); (try clear hcz8_2); (try clear hcz8_3); (try clear hcz8_4); (try clear hfz8_0); (try clear hfz8_1); (try clear hfz8_2); (try clear hfz8_3); (try clear hfz8_4); (try clear hx425_0); (try clear p425); (try clear q425)
   obtain ⟨kq, x9_8, rfl, HA, HJ8, BK424, HB⟩ := hcut
   cases kq with
   | zero => exact absurd HA.out (by simp [backseatref12_Main.j0])
   | succ kj8 =>
    have H := HA.out
    clear HA
    simp only [backseatref12_Main.j0] at H
    by_cases c12 : 1 ≤ (l0.length : Int)
    ·rw [if_pos c12] at H
     have c12b0 := eq_true c12
     have c12b1 : decide (1 ≤ (l0.length : Int)) = true := decide_eq_true c12
     clear c12
     replace H := Option.bind_eq_some_iff.mp H
     obtain ⟨⟨t427, t428, t429, t430, t433⟩, A130, H⟩ := H
     replace H : (if a1 = 2 then ((backseatref12_Line.f kj8 (l0.drop 1) (wrap64 (3 - a1)) a2 (wrap64 (Int.tdiv x9_8 2))).bind fun bt436 => (if x9_8 < 2 then (some (0, 0, 0, ([] : List (S31)), false)) else (if bt436.2.2.2.2 = true then (if 0 < (l0.length : Int) then (some (a1, 0, 0, (([(⟨0, rd l0 0, wrap64 (x9_8 - (wrap64 (Int.tdiv x9_8 2))), ([] : List (S31))⟩ : S31), (⟨bt436.1, bt436.2.1, wrap64 (Int.tdiv x9_8 2), bt436.2.2.2.1⟩ : S31)] : List (S31))), true)) else (none)) else (some (0, 0, 0, ([] : List (S31)), false))))) else (if x9_8 < 2 then (some (0, 0, 0, ([] : List (S31)), false)) else (if t433 = true then (if 0 < (l0.length : Int) then (some (a1, 0, 0, (([(⟨0, rd l0 0, wrap64 (x9_8 - (wrap64 (Int.tdiv x9_8 2))), ([] : List (S31))⟩ : S31), (⟨t427, t428, wrap64 (Int.tdiv x9_8 2), t430⟩ : S31)] : List (S31))), true)) else (none)) else (some (0, 0, 0, ([] : List (S31)), false))))) = some (r1, r2, r3, r4, r5) := H
     have A13 := zM A130
     clear A130
     by_cases c14 : a1 = 2
     ·rw [if_pos c14] at H
      have c14b0 : (a1 == 2) = true := beq_iff_eq.mpr c14
      have c14b1 : (a1 != 2) = false := bne_eq_false_iff_eq.mpr c14
      clear c14
      have c15b0 := eq_true (of_decide_eq_true (by first | (with_reducible assumption) | assumption) : 1 ≤ (l0.length : Int))
      replace H := Option.bind_eq_some_iff.mp H
      obtain ⟨⟨t436, t437, t438, t439, t442⟩, A160, H⟩ := H
      replace H : (if x9_8 < 2 then (some (0, 0, 0, ([] : List (S31)), false)) else (if t442 = true then (if 0 < (l0.length : Int) then (some (a1, 0, 0, (([(⟨0, rd l0 0, wrap64 (x9_8 - (wrap64 (Int.tdiv x9_8 2))), ([] : List (S31))⟩ : S31), (⟨t436, t437, wrap64 (Int.tdiv x9_8 2), t439⟩ : S31)] : List (S31))), true)) else (none)) else (some (0, 0, 0, ([] : List (S31)), false)))) = some (r1, r2, r3, r4, r5) := H
      have A16 := zM A160
      clear A160
      by_cases c17 : x9_8 < 2
      ·rw [if_pos c17] at H
       have c17b0 : decide (x9_8 < 2) = true := decide_eq_true c17
       clear c17
       simp only [Option.some.injEq, Prod.mk.injEq] at H
       obtain ⟨rfl, rfl, rfl, rfl, rfl⟩ := H
       obtain ⟨i018, hi018, _, hsz18, _⟩ := info_parts info3
       (try clear hcut24); (try clear hcut31); (try clear hcut37); (try clear hcut51); (try clear hcut57); (try clear hcut63); (try clear hcut72); (try clear hcut88); obtain ⟨A18, hcut18, hA18, hC18⟩ := print_drop_of (P := Try.prog) (Value.int .i64) 0 22 3 .i64 Try.underlying22 hi018 hsz18 A0 c0 l0 1 (by omega) (of_decide_eq_true (by first | (with_reducible assumption) | assumption)) HC0.out
       have HR426 := zM (Kd.C_of_reads (h1 := fun _ => rfl) (hA18 _ (Kd.reads_of_C HR0.out)))
       have HC426 := zM hC18
       clear hA18 hC18 hi018 hsz18
       go_wp2_with (first | ((with_reducible refine gate_callee (f := 54) rfl ?_); refine goesL_ (some 32) rfl rfl Try.func54 (by kernel_rfl) rfl #[.slice A18 (l0.drop 1).length (c0 - 1), .int .i64 (wrap64 (3 - a1)), .int .i64 (wrap64 (Int.tdiv x9_8 2)), .int .i64 a3] rfl (by (try simp only [List.map_toArray, List.map_cons, List.map_nil]); first | done | (rw [show (l0.drop 1).length = (l0.length - 1) from List.length_drop] <;> rfl) | rfl | (simp only [List.length_drop, List.length_take]; rfl)) ?_; (with_reducible refine (backseatref12_Line.calls kj8 _ _ (l0.drop 1) (wrap64 (3 - a1)) (wrap64 (Int.tdiv x9_8 2)) a3 t427 t428 t429 t430 t433 _ ?side1 ?side2 A13.out).mono ?_); (case side1 => repeat (first | exact (Kd.C_below HR426.out HB.out) | (with_reducible refine Kd.C_alloc ?_ _) | (with_reducible refine Kd.C_drewN ?_ _) | (with_reducible refine Kd.C_drew ?_))); (case side2 => exact HC426.out); rintro e w19 ⟨v431, rfl, ho0, hb⟩; refine ⟨_, rfl, ?_⟩; have HO432 := zM (Kd.N_lower (Kd.N_mono (ok' := fun k_ => (w.heap.size ≤ k_) ∧ k_ ≠ gb424) (Kd.R_N (Kd.R_bound ho0)) (fun k_ hk_ => ⟨(Nat.le_trans (below_size (by repeat first | refine zS ?_ GE424.out | exact HB.out | apply zA | apply zN | apply zD)) hk_.2.1), (Kd.freshB (g := gb424) (o := .cells #[.int .i64 0, .int .i64 0, .int .i64 0, .slice none 0 0, .bool false] 37 (0, 0)) (by (with_reducible repeat (first | refine blk_drewN ?_ _ | refine blk_drew ?_ | refine blk_alloc ?_ _)); exact BK424.out) k_ hk_.2.1)⟩)) (below_size (by repeat first | refine zS ?_ GE424.out | exact HB.out | apply zA | apply zN | apply zD))); replace BK424 := zM (bb hb BK424.out); replace HB := zM (below_step (by repeat first | refine zS ?_ GE424.out | exact HB.out | apply zA | apply zN | apply zD) hb); (try clear hb); (try clear hb2); (try clear hk); (try clear hi); (try clear ho0)) | ((with_reducible refine gate_dst (N := 10) rfl ?_); refine box_event ?hg (N := 10) ?hd (cs := #[.int .i64 0, .int .i64 0, .int .i64 0, .slice none 0 0, .bool false]) (t := 37) ?hr ?_; (case hd => rfl); (case hg => rfl); (case hr => first | (go_simp; done) | (go_simp; rfl)); intro gb434 hg w20 hbox hb; have BK434 := zM (hbox); have GW434 := zM ((by rw [hg]; exact (below_size (by repeat first | refine zS ?_ GE424.out | exact HB.out | apply zA | apply zN | apply zD)) : w.heap.size ≤ gb434)); have GE434 := GW434; have NB424_434 := zM ((by rw [hg]; exact lt1 BK424.out : gb424 ≠ gb434)); have NB434_424 := zM ((by rw [hg]; exact gt1 BK424.out : gb434 ≠ gb424)); replace HO432 := zM (Kd.N_below (Kd.N_elderB (by (with_reducible repeat (first | apply Kd.N_alloc | apply Kd.N_drewN | apply Kd.N_drew)); exact HO432.out) gb434 (Nat.le_of_eq hg.symm)) hb); replace BK424 := zM (bb hb BK424.out); replace HB := zM (below_step (by repeat first | refine zS ?_ GE424.out | exact HB.out | apply zA | apply zN | apply zD) hb); clear hb hbox hg; have hnb21 := NB434_424.out; have hnc21 := NB424_434.out; obtain ⟨hcz22_0, hcz22_1, hcz22_2, hcz22_3, hcz22_4, hfz22_0, hfz22_1, hfz22_2, hfz22_3, hfz22_4⟩ := cz5 BK434.out; obtain ⟨Ao23, co23, eo23⟩ := Kd.N_slice HO432.out; subst eo23; obtain ⟨i024, hi024, _, hsz24, _⟩ := info_parts info3; (try clear hcut18); (try clear hcut31); (try clear hcut37); (try clear hcut51); (try clear hcut57); (try clear hcut63); (try clear hcut72); (try clear hcut88); obtain ⟨A24, hcut24, hA24, hC24⟩ := print_drop_of (P := Try.prog) (Value.int .i64) 0 22 3 .i64 Try.underlying22 hi024 hsz24 A0 c0 l0 1 (by omega) (of_decide_eq_true (by first | (with_reducible assumption) | assumption)) HC0.out; have HR435 := zM (Kd.C_of_reads (h1 := fun _ => rfl) (hA24 _ (Kd.reads_of_C HR0.out))); have HC435 := zM hC24; clear hA24 hC24 hi024 hsz24) | ((with_reducible refine gate_callee (f := 54) rfl ?_); refine goesL_ (some 42) rfl rfl Try.func54 (by kernel_rfl) rfl #[.slice A24 (l0.drop 1).length (c0 - 1), .int .i64 (wrap64 (3 - a1)), .int .i64 a2, .int .i64 (wrap64 (Int.tdiv x9_8 2))] rfl (by (try simp only [List.map_toArray, List.map_cons, List.map_nil]); first | done | (rw [show (l0.drop 1).length = (l0.length - 1) from List.length_drop] <;> rfl) | rfl | (simp only [List.length_drop, List.length_take]; rfl)) ?_; (with_reducible refine (backseatref12_Line.calls kj8 _ _ (l0.drop 1) (wrap64 (3 - a1)) a2 (wrap64 (Int.tdiv x9_8 2)) t436 t437 t438 t439 t442 _ ?side1 ?side2 A16.out).mono ?_); (case side1 => exact Kd.C_below HR435.out (by repeat first | refine zS ?_ GE424.out | refine zS ?_ GE434.out | exact HB.out | apply zA | apply zN | apply zD)); (case side2 => exact HC435.out); rintro e w25 ⟨v440, rfl, ho0, hb⟩; refine ⟨_, rfl, ?_⟩; have HO441 := zM (Kd.N_lower (Kd.N_mono (ok' := fun k_ => (w.heap.size ≤ k_) ∧ some k_ ≠ (.slice Ao23 t430.length co23 : Value).ownBlock ∧ k_ ≠ gb424 ∧ k_ ≠ gb434) (Kd.R_N (Kd.R_bound ho0)) (fun k_ hk_ => ⟨(Nat.le_trans (below_size (by repeat first | refine zS ?_ GE424.out | refine zS ?_ GE434.out | exact HB.out | apply zA | apply zN | apply zD)) hk_.2.1), (Kd.fresh' (Kd.N_lt (by (with_reducible repeat (first | apply Kd.N_alloc | apply Kd.N_drewN | apply Kd.N_drew)); exact (Kd.N_mono (Kd.N_far (p := ⟨gb434, 4, none⟩) (Kd.N_far (p := ⟨gb434, 3, none⟩) (Kd.N_far (p := ⟨gb434, 2, none⟩) (Kd.N_far (p := ⟨gb434, 1, none⟩) (Kd.N_far (p := ⟨gb434, 0, none⟩) (Kd.N_mono HO432.out (fun k_ hk => (⟨hk, hk.2⟩ : _ ∧ k_ ≠ gb434))) (fun _ hk => hk.2) (.int .i64 t427)) (fun _ hk => hk.2) (.int .i64 t428)) (fun _ hk => hk.2) (.int .i64 t429)) (fun _ hk => hk.2) (.slice Ao23 t430.length co23)) (fun _ hk => hk.2) (.bool t433)) (fun _ h_ => h_.1)))) k_ hk_.2.1), (Kd.freshB (g := gb424) (o := .cells #[.int .i64 0, .int .i64 0, .int .i64 0, .slice none 0 0, .bool false] 37 (0, 0)) (by exact (far5 NB424_434.out BK424.out)) k_ hk_.2.1), (Kd.freshB (g := gb434) (o := .cells #[.int .i64 t427, .int .i64 t428, .int .i64 t429, .slice Ao23 t430.length co23, .bool t433] 37 (0, 0)) (by exact (put5 BK434.out)) k_ hk_.2.1)⟩)) (below_size (by repeat first | refine zS ?_ GE424.out | refine zS ?_ GE434.out | exact HB.out | apply zA | apply zN | apply zD))); replace HO432 := zM (Kd.N_elder' (by (with_reducible repeat (first | apply Kd.N_alloc | apply Kd.N_drewN | apply Kd.N_drew)); exact (Kd.N_mono (Kd.N_far (p := ⟨gb434, 4, none⟩) (Kd.N_far (p := ⟨gb434, 3, none⟩) (Kd.N_far (p := ⟨gb434, 2, none⟩) (Kd.N_far (p := ⟨gb434, 1, none⟩) (Kd.N_far (p := ⟨gb434, 0, none⟩) (Kd.N_mono HO432.out (fun k_ hk => (⟨hk, hk.2⟩ : _ ∧ k_ ≠ gb434))) (fun _ hk => hk.2) (.int .i64 t427)) (fun _ hk => hk.2) (.int .i64 t428)) (fun _ hk => hk.2) (.int .i64 t429)) (fun _ hk => hk.2) (.slice Ao23 t430.length co23)) (fun _ hk => hk.2) (.bool t433)) (fun _ h_ => h_.1))) (Kd.R_base ho0) hb); replace BK424 := zM (bb hb (far5 NB424_434.out BK424.out)); replace BK434 := zM (bb hb (put5 BK434.out)); replace HB := zM (below_step (by repeat first | refine zS ?_ GE424.out | refine zS ?_ GE434.out | exact HB.out | apply zA | apply zN | apply zD) hb); (try clear hb); (try clear hb2); (try clear hk); (try clear hi); (try clear ho0); obtain ⟨hcz26_0, hcz26_1, hcz26_2, hcz26_3, hcz26_4, hfz26_0, hfz26_1, hfz26_2, hfz26_3, hfz26_4⟩ := cz5 BK434.out; obtain ⟨Ao27, co27, eo27⟩ := Kd.N_slice HO441.out; subst eo27; obtain ⟨hcz28_0, hcz28_1, hcz28_2, hcz28_3, hcz28_4, hfz28_0, hfz28_1, hfz28_2, hfz28_3, hfz28_4⟩ := cz5 BK424.out))
       refine bodyPost_ret (results_cell_row rfl _ _ gb424 37 #[.int .i64 0, .int .i64 0, .int .i64 0, .slice none 0 0, .bool false] (0, 0) _ rfl (by exact (put5 (far5 NB424_434.out BK424.out))) Try.underlying37 rfl (by kernel_rfl)) rfl ?_
       exact ⟨_, by first | rfl | (simp [errW_none, errW_some] <;> rfl) | (simp [*, errW_none, errW_some] <;> rfl), by first | exact Kd.R_nil _ _ _ _ _ | exact Kd.N_nil _ _ _ _ _ | exact Kd.V_nil _ _ _ _ _ | exact Kd.Q_nil _ _ _ _ _ | exact Kd.S_nil _ _ _ _ _, by repeat first | refine zS ?_ GE424.out | refine zS ?_ GE434.out | exact HB.out | apply zA | apply zN | apply zD⟩
      ·rw [if_neg c17] at H
       have c17b0 : decide (x9_8 < 2) = false := decide_eq_false c17
       clear c17
       by_cases c29 : t442 = true
       ·subst c29
        have H1 : (if 0 < (l0.length : Int) then (some (a1, 0, 0, (([(⟨0, rd l0 0, wrap64 (x9_8 - (wrap64 (Int.tdiv x9_8 2))), ([] : List (S31))⟩ : S31), (⟨t436, t437, wrap64 (Int.tdiv x9_8 2), t439⟩ : S31)] : List (S31))), true)) else (none)) = some (r1, r2, r3, r4, r5) := by rw [if_pos rfl] at H; exact H
        clear H
        have H := H1
        clear H1
        by_cases c30 : 0 < (l0.length : Int)
        ·rw [if_pos c30] at H
         have c30b0 : decide (0 < (l0.length : Int)) = true := decide_eq_true c30
         have c30b1 : decide (0 < l0.length) = true := decide_eq_true (by omega)
         clear c30
         obtain ⟨y444, hy444⟩ : ∃ y_ : List (S31), y_ = (([(⟨0, rd l0 0, wrap64 (x9_8 - (wrap64 (Int.tdiv x9_8 2))), ([] : List (S31))⟩ : S31), (⟨t436, t437, wrap64 (Int.tdiv x9_8 2), t439⟩ : S31)] : List (S31))) := ⟨_, rfl⟩
         replace H : (some (a1, 0, 0, y444, true)) = some (r1, r2, r3, r4, r5) := by first | (rw [hy444]; with_reducible exact H) | (have H2_ := (Option.bind_some _ _).symm.trans H; rw [hy444]; with_reducible exact H2_) | (have H2_ := (Option.bind_some _ _).symm.trans H; with_reducible exact H2_) | with_reducible exact H | (rw [hy444]; exact H) | exact H
         have Ny444 := zM hy444
         clear hy444
         simp only [Option.some.injEq, Prod.mk.injEq] at H
         obtain ⟨rfl, rfl, rfl, rfl, rfl⟩ := H
         obtain ⟨i031, hi031, _, hsz31, _⟩ := info_parts info3
         (try clear hcut18); (try clear hcut24); (try clear hcut37); (try clear hcut51); (try clear hcut57); (try clear hcut63); (try clear hcut72); (try clear hcut88); obtain ⟨A31, hcut31, hA31, hC31⟩ := print_drop_of (P := Try.prog) (Value.int .i64) 0 22 3 .i64 Try.underlying22 hi031 hsz31 A0 c0 l0 1 (by omega) (of_decide_eq_true (by first | (with_reducible assumption) | assumption)) HC0.out
         have HR426 := zM (Kd.C_of_reads (h1 := fun _ => rfl) (hA31 _ (Kd.reads_of_C HR0.out)))
         have HC426 := zM hC31
         clear hA31 hC31 hi031 hsz31
         try go_wp2_with (first | ((with_reducible refine gate_callee (f := 54) rfl ?_); refine goesL_ (some 32) rfl rfl Try.func54 (by kernel_rfl) rfl #[.slice A31 (l0.drop 1).length (c0 - 1), .int .i64 (wrap64 (3 - a1)), .int .i64 (wrap64 (Int.tdiv x9_8 2)), .int .i64 a3] rfl (by (try simp only [List.map_toArray, List.map_cons, List.map_nil]); first | done | (rw [show (l0.drop 1).length = (l0.length - 1) from List.length_drop] <;> rfl) | rfl | (simp only [List.length_drop, List.length_take]; rfl)) ?_; (with_reducible refine (backseatref12_Line.calls kj8 _ _ (l0.drop 1) (wrap64 (3 - a1)) (wrap64 (Int.tdiv x9_8 2)) a3 t427 t428 t429 t430 t433 _ ?side1 ?side2 A13.out).mono ?_); (case side1 => repeat (first | exact (Kd.C_below HR426.out HB.out) | (with_reducible refine Kd.C_alloc ?_ _) | (with_reducible refine Kd.C_drewN ?_ _) | (with_reducible refine Kd.C_drew ?_))); (case side2 => exact HC426.out); rintro e w32 ⟨v431, rfl, ho0, hb⟩; refine ⟨_, rfl, ?_⟩; have HO432 := zM (Kd.N_lower (Kd.N_mono (ok' := fun k_ => (w.heap.size ≤ k_) ∧ k_ ≠ gb424) (Kd.R_N (Kd.R_bound ho0)) (fun k_ hk_ => ⟨(Nat.le_trans (below_size (by repeat first | refine zS ?_ GE424.out | exact HB.out | apply zA | apply zN | apply zD)) hk_.2.1), (Kd.freshB (g := gb424) (o := .cells #[.int .i64 0, .int .i64 0, .int .i64 0, .slice none 0 0, .bool false] 37 (0, 0)) (by (with_reducible repeat (first | refine blk_drewN ?_ _ | refine blk_drew ?_ | refine blk_alloc ?_ _)); exact BK424.out) k_ hk_.2.1)⟩)) (below_size (by repeat first | refine zS ?_ GE424.out | exact HB.out | apply zA | apply zN | apply zD))); replace BK424 := zM (bb hb BK424.out); replace HB := zM (below_step (by repeat first | refine zS ?_ GE424.out | exact HB.out | apply zA | apply zN | apply zD) hb); (try clear hb); (try clear hb2); (try clear hk); (try clear hi); (try clear ho0)) | ((with_reducible refine gate_dst (N := 10) rfl ?_); refine box_event ?hg (N := 10) ?hd (cs := #[.int .i64 0, .int .i64 0, .int .i64 0, .slice none 0 0, .bool false]) (t := 37) ?hr ?_; (case hd => rfl); (case hg => rfl); (case hr => first | (go_simp; done) | (go_simp; rfl)); intro gb434 hg w33 hbox hb; have BK434 := zM (hbox); have GW434 := zM ((by rw [hg]; exact (below_size (by repeat first | refine zS ?_ GE424.out | exact HB.out | apply zA | apply zN | apply zD)) : w.heap.size ≤ gb434)); have GE434 := GW434; have NB424_434 := zM ((by rw [hg]; exact lt1 BK424.out : gb424 ≠ gb434)); have NB434_424 := zM ((by rw [hg]; exact gt1 BK424.out : gb434 ≠ gb424)); replace HO432 := zM (Kd.N_below (Kd.N_elderB (by (with_reducible repeat (first | apply Kd.N_alloc | apply Kd.N_drewN | apply Kd.N_drew)); exact HO432.out) gb434 (Nat.le_of_eq hg.symm)) hb); replace BK424 := zM (bb hb BK424.out); replace HB := zM (below_step (by repeat first | refine zS ?_ GE424.out | exact HB.out | apply zA | apply zN | apply zD) hb); clear hb hbox hg; have hnb34 := NB434_424.out; have hnc34 := NB424_434.out; obtain ⟨hcz35_0, hcz35_1, hcz35_2, hcz35_3, hcz35_4, hfz35_0, hfz35_1, hfz35_2, hfz35_3, hfz35_4⟩ := cz5 BK434.out; obtain ⟨Ao36, co36, eo36⟩ := Kd.N_slice HO432.out; subst eo36; obtain ⟨i037, hi037, _, hsz37, _⟩ := info_parts info3; (try clear hcut18); (try clear hcut24); (try clear hcut31); (try clear hcut51); (try clear hcut57); (try clear hcut63); (try clear hcut72); (try clear hcut88); obtain ⟨A37, hcut37, hA37, hC37⟩ := print_drop_of (P := Try.prog) (Value.int .i64) 0 22 3 .i64 Try.underlying22 hi037 hsz37 A0 c0 l0 1 (by omega) (of_decide_eq_true (by first | (with_reducible assumption) | assumption)) HC0.out; have HR435 := zM (Kd.C_of_reads (h1 := fun _ => rfl) (hA37 _ (Kd.reads_of_C HR0.out))); have HC435 := zM hC37; clear hA37 hC37 hi037 hsz37) | ((with_reducible refine gate_callee (f := 54) rfl ?_); refine goesL_ (some 42) rfl rfl Try.func54 (by kernel_rfl) rfl #[.slice A37 (l0.drop 1).length (c0 - 1), .int .i64 (wrap64 (3 - a1)), .int .i64 a2, .int .i64 (wrap64 (Int.tdiv x9_8 2))] rfl (by (try simp only [List.map_toArray, List.map_cons, List.map_nil]); first | done | (rw [show (l0.drop 1).length = (l0.length - 1) from List.length_drop] <;> rfl) | rfl | (simp only [List.length_drop, List.length_take]; rfl)) ?_; (with_reducible refine (backseatref12_Line.calls kj8 _ _ (l0.drop 1) (wrap64 (3 - a1)) a2 (wrap64 (Int.tdiv x9_8 2)) t436 t437 t438 t439 true _ ?side1 ?side2 A16.out).mono ?_); (case side1 => exact Kd.C_below HR435.out (by repeat first | refine zS ?_ GE424.out | refine zS ?_ GE434.out | exact HB.out | apply zA | apply zN | apply zD)); (case side2 => exact HC435.out); rintro e w38 ⟨v440, rfl, ho0, hb⟩; refine ⟨_, rfl, ?_⟩; have HO441 := zM (Kd.N_lower (Kd.N_mono (ok' := fun k_ => (w.heap.size ≤ k_) ∧ some k_ ≠ (.slice Ao36 t430.length co36 : Value).ownBlock ∧ k_ ≠ gb424 ∧ k_ ≠ gb434) (Kd.R_N (Kd.R_bound ho0)) (fun k_ hk_ => ⟨(Nat.le_trans (below_size (by repeat first | refine zS ?_ GE424.out | refine zS ?_ GE434.out | exact HB.out | apply zA | apply zN | apply zD)) hk_.2.1), (Kd.fresh' (Kd.N_lt (by (with_reducible repeat (first | apply Kd.N_alloc | apply Kd.N_drewN | apply Kd.N_drew)); exact (Kd.N_mono (Kd.N_far (p := ⟨gb434, 4, none⟩) (Kd.N_far (p := ⟨gb434, 3, none⟩) (Kd.N_far (p := ⟨gb434, 2, none⟩) (Kd.N_far (p := ⟨gb434, 1, none⟩) (Kd.N_far (p := ⟨gb434, 0, none⟩) (Kd.N_mono HO432.out (fun k_ hk => (⟨hk, hk.2⟩ : _ ∧ k_ ≠ gb434))) (fun _ hk => hk.2) (.int .i64 t427)) (fun _ hk => hk.2) (.int .i64 t428)) (fun _ hk => hk.2) (.int .i64 t429)) (fun _ hk => hk.2) (.slice Ao36 t430.length co36)) (fun _ hk => hk.2) (.bool t433)) (fun _ h_ => h_.1)))) k_ hk_.2.1), (Kd.freshB (g := gb424) (o := .cells #[.int .i64 0, .int .i64 0, .int .i64 0, .slice none 0 0, .bool false] 37 (0, 0)) (by exact (far5 NB424_434.out BK424.out)) k_ hk_.2.1), (Kd.freshB (g := gb434) (o := .cells #[.int .i64 t427, .int .i64 t428, .int .i64 t429, .slice Ao36 t430.length co36, .bool t433] 37 (0, 0)) (by exact (put5 BK434.out)) k_ hk_.2.1)⟩)) (below_size (by repeat first | refine zS ?_ GE424.out | refine zS ?_ GE434.out | exact HB.out | apply zA | apply zN | apply zD))); replace HO432 := zM (Kd.N_elder' (by (with_reducible repeat (first | apply Kd.N_alloc | apply Kd.N_drewN | apply Kd.N_drew)); exact (Kd.N_mono (Kd.N_far (p := ⟨gb434, 4, none⟩) (Kd.N_far (p := ⟨gb434, 3, none⟩) (Kd.N_far (p := ⟨gb434, 2, none⟩) (Kd.N_far (p := ⟨gb434, 1, none⟩) (Kd.N_far (p := ⟨gb434, 0, none⟩) (Kd.N_mono HO432.out (fun k_ hk => (⟨hk, hk.2⟩ : _ ∧ k_ ≠ gb434))) (fun _ hk => hk.2) (.int .i64 t427)) (fun _ hk => hk.2) (.int .i64 t428)) (fun _ hk => hk.2) (.int .i64 t429)) (fun _ hk => hk.2) (.slice Ao36 t430.length co36)) (fun _ hk => hk.2) (.bool t433)) (fun _ h_ => h_.1))) (Kd.R_base ho0) hb); replace BK424 := zM (bb hb (far5 NB424_434.out BK424.out)); replace BK434 := zM (bb hb (put5 BK434.out)); replace HB := zM (below_step (by repeat first | refine zS ?_ GE424.out | refine zS ?_ GE434.out | exact HB.out | apply zA | apply zN | apply zD) hb); (try clear hb); (try clear hb2); (try clear hk); (try clear hi); (try clear ho0); obtain ⟨hcz39_0, hcz39_1, hcz39_2, hcz39_3, hcz39_4, hfz39_0, hfz39_1, hfz39_2, hfz39_3, hfz39_4⟩ := cz5 BK434.out; obtain ⟨Ao40, co40, eo40⟩ := Kd.N_slice HO441.out; subst eo40))
         have n0_ : Aside0 (Kd.N k31 31 ((((((w38.setCell ⟨gb434, 0, none⟩ (.int .i64 t436)).setCell ⟨gb434, 1, none⟩ (.int .i64 t437)).setCell ⟨gb434, 2, none⟩ (.int .i64 t438)).setCell ⟨gb434, 3, none⟩ (.slice Ao40 t439.length co40)).setCell ⟨gb434, 4, none⟩ (.bool true)).setCell ⟨gb434, 2, none⟩ (.int .i64 (wrap64 (Int.tdiv x9_8 2)))) w.heap.size (fun k_ => (w.heap.size ≤ k_) ∧ some k_ ≠ (.slice Ao40 t439.length co40 : Value).ownBlock ∧ k_ ≠ gb424 ∧ k_ ≠ gb434) (.slice Ao36 t430.length co36) t430) := ⟨by (with_reducible repeat (first | apply Kd.N_alloc | apply Kd.N_drewN | apply Kd.N_drew)); exact Kd.N_mono (Kd.N_far (p := ⟨gb434, 2, none⟩) (Kd.N_far (p := ⟨gb434, 4, none⟩) (Kd.N_far (p := ⟨gb434, 3, none⟩) (Kd.N_far (p := ⟨gb434, 2, none⟩) (Kd.N_far (p := ⟨gb434, 1, none⟩) (Kd.N_far (p := ⟨gb434, 0, none⟩) (Kd.N_mono HO432.out (fun k_ hk => (⟨hk, hk.1.2⟩ : _ ∧ k_ ≠ gb434))) (fun _ hk => hk.2) (.int .i64 t436)) (fun _ hk => hk.2) (.int .i64 t437)) (fun _ hk => hk.2) (.int .i64 t438)) (fun _ hk => hk.2) (.slice Ao40 t439.length co40)) (fun _ hk => hk.2) (.bool true)) (fun _ hk => hk.2) (.int .i64 (wrap64 (Int.tdiv x9_8 2)))) (fun _ hk => ⟨hk.1.1.1.1, ⟨hk.1.2, ⟨hk.1.1.1.2, hk.1.1.2⟩⟩⟩)⟩
         have n1_ : Aside0 (Kd.N k31 31 ((((((w38.setCell ⟨gb434, 0, none⟩ (.int .i64 t436)).setCell ⟨gb434, 1, none⟩ (.int .i64 t437)).setCell ⟨gb434, 2, none⟩ (.int .i64 t438)).setCell ⟨gb434, 3, none⟩ (.slice Ao40 t439.length co40)).setCell ⟨gb434, 4, none⟩ (.bool true)).setCell ⟨gb434, 2, none⟩ (.int .i64 (wrap64 (Int.tdiv x9_8 2)))) w.heap.size (fun k_ => (w.heap.size ≤ k_) ∧ some k_ ≠ (.slice Ao36 t430.length co36 : Value).ownBlock ∧ k_ ≠ gb424 ∧ k_ ≠ gb434) (.slice Ao40 t439.length co40) t439) := ⟨by (with_reducible repeat (first | apply Kd.N_alloc | apply Kd.N_drewN | apply Kd.N_drew)); exact Kd.N_mono (Kd.N_far (p := ⟨gb434, 2, none⟩) (Kd.N_far (p := ⟨gb434, 4, none⟩) (Kd.N_far (p := ⟨gb434, 3, none⟩) (Kd.N_far (p := ⟨gb434, 2, none⟩) (Kd.N_far (p := ⟨gb434, 1, none⟩) (Kd.N_far (p := ⟨gb434, 0, none⟩) (Kd.N_mono HO441.out (fun k_ hk => (⟨hk, hk.2.2.2⟩ : _ ∧ k_ ≠ gb434))) (fun _ hk => hk.2) (.int .i64 t436)) (fun _ hk => hk.2) (.int .i64 t437)) (fun _ hk => hk.2) (.int .i64 t438)) (fun _ hk => hk.2) (.slice Ao40 t439.length co40)) (fun _ hk => hk.2) (.bool true)) (fun _ hk => hk.2) (.int .i64 (wrap64 (Int.tdiv x9_8 2)))) (fun _ hk => ⟨hk.1.1, ⟨hk.1.2.1, ⟨hk.1.2.2.1, hk.1.2.2.2⟩⟩⟩)⟩
         have n2_ : Aside0 (((((((w38.setCell ⟨gb434, 0, none⟩ (.int .i64 t436)).setCell ⟨gb434, 1, none⟩ (.int .i64 t437)).setCell ⟨gb434, 2, none⟩ (.int .i64 t438)).setCell ⟨gb434, 3, none⟩ (.slice Ao40 t439.length co40)).setCell ⟨gb434, 4, none⟩ (.bool true)).setCell ⟨gb434, 2, none⟩ (.int .i64 (wrap64 (Int.tdiv x9_8 2)))).heap[gb424]? = some (.cells #[.int .i64 0, .int .i64 0, .int .i64 0, .slice none 0 0, .bool false] 37 (0, 0))) := ⟨by exact (blk_far (far5 NB424_434.out BK424.out) NB424_434.out _)⟩
         have n3_ : Aside0 (((((((w38.setCell ⟨gb434, 0, none⟩ (.int .i64 t436)).setCell ⟨gb434, 1, none⟩ (.int .i64 t437)).setCell ⟨gb434, 2, none⟩ (.int .i64 t438)).setCell ⟨gb434, 3, none⟩ (.slice Ao40 t439.length co40)).setCell ⟨gb434, 4, none⟩ (.bool true)).setCell ⟨gb434, 2, none⟩ (.int .i64 (wrap64 (Int.tdiv x9_8 2)))).heap[gb434]? = some (.cells #[.int .i64 t436, .int .i64 t437, .int .i64 (wrap64 (Int.tdiv x9_8 2)), .slice Ao40 t439.length co40, .bool true] 37 (0, 0))) := ⟨by exact (blk_put (put5 BK434.out) 2 _ rfl)⟩
         have n4_ : Aside0 (Below w.heap.size w ((((((w38.setCell ⟨gb434, 0, none⟩ (.int .i64 t436)).setCell ⟨gb434, 1, none⟩ (.int .i64 t437)).setCell ⟨gb434, 2, none⟩ (.int .i64 t438)).setCell ⟨gb434, 3, none⟩ (.slice Ao40 t439.length co40)).setCell ⟨gb434, 4, none⟩ (.bool true)).setCell ⟨gb434, 2, none⟩ (.int .i64 (wrap64 (Int.tdiv x9_8 2))))) := ⟨by repeat first | refine zS ?_ GE424.out | refine zS ?_ GE434.out | exact HB.out | apply zA | apply zN | apply zD⟩
         (try clear HO432)
         (try clear HO441)
         (try clear BK424)
         (try clear BK434)
         (try clear HB)
         generalize ((((((w38.setCell ⟨gb434, 0, none⟩ (.int .i64 t436)).setCell ⟨gb434, 1, none⟩ (.int .i64 t437)).setCell ⟨gb434, 2, none⟩ (.int .i64 t438)).setCell ⟨gb434, 3, none⟩ (.slice Ao40 t439.length co40)).setCell ⟨gb434, 4, none⟩ (.bool true)).setCell ⟨gb434, 2, none⟩ (.int .i64 (wrap64 (Int.tdiv x9_8 2)))) = w41 at n0_ n1_ n2_ n3_ n4_ ⊢
         have HO432 := n0_
         have HO441 := n1_
         have BK424 := n2_
         have BK434 := n3_
         have HB := n4_
         clear n0_ n1_ n2_ n3_ n4_
         replace HO432 := zM (Kd.N_drew HO432.out); replace HO441 := zM (Kd.N_drew HO441.out); replace BK424 := zM (blk_drew BK424.out); replace BK434 := zM (blk_drew BK434.out); replace HB := zM (zD HB.out)
         have p443 : 0 ≤ (0 : Int) := (by omega)
         have q443 : 0 < (l0.length : Int) := of_decide_eq_true (by first | (with_reducible assumption) | assumption)
         obtain ⟨ad443, e443, hx443_0⟩ := Kd.at_int HR0.out 0 p443 q443
         have hw443_0 := hx443_0
         (try rw [show ((0 : Int)).toNat = 0 from rfl] at hw443_0)
         (try rw [show 0 * 1 = 0 from rfl] at hw443_0)
         (try rw [Addr.add_zero'] at hw443_0)
         cases e443
         have qi443 : (0 < l0.length) = True := eq_true (by omega)
         (try rw [show ((0 : Int)).toNat = 0 from rfl] at hx443_0)
         (try rw [Addr.add_zero'] at hx443_0)
         replace hx443_0 := (HB.out.cell (zL w _ hx443_0)).trans hx443_0
         replace p443 := eq_true p443
         replace q443 := eq_true q443
         refine start_ (n := 15) (S := fun w' => w'.cell? ⟨gb434, 0, none⟩ = some (.int .i64 t436) ∧ w'.cell? ⟨gb434, 1, none⟩ = some (.int .i64 t437) ∧ w'.cell? ⟨gb434, 2, none⟩ = some (.int .i64 (wrap64 (Int.tdiv x9_8 2))) ∧ w'.cell? ⟨gb434, 3, none⟩ = some (.slice Ao40 t439.length co40) ∧ w'.cell? ⟨gb434, 4, none⟩ = some (.bool true) ∧ w'.cell? ad443 = some (.int .i64 (rd l0 0))) (ds := []) #[false, false, false, false, false, false, false, false, false, false, false, false, false, false, false] (by kernel_rfl) rfl rfl ⟨(blk_cell BK434.out 0).trans rfl, (blk_cell BK434.out 1).trans rfl, (blk_cell BK434.out 2).trans rfl, (blk_cell BK434.out 3).trans rfl, (blk_cell BK434.out 4).trans rfl, ((HB.out.cell (zL w _ hw443_0)).trans hw443_0)⟩ (fun hHeld => ?_); refine with_tabW backseatref12_Main.tab12 backseatref12_Main.bits12 (fun HT_ HW_ => ?_)
         generalize w41.drew = w42 at HO432 HO441 BK424 BK434 HB hx443_0 hHeld ⊢
         refine pv (v := ?_) (a' := ?_) HT_.out 0 (some 55) m56_0_ ?_ ?_ ?_; rotate_left 2; (·intro w'; go_simp; with_reducible rfl); (·simp only [Act.put, s1, s2, s3, i64_w, i32_w]; rfl)
         refine pv (v := ?_) (a' := ?_) HT_.out 1 (some 56) m56_1_ ?_ ?_ ?_; rotate_left 2; (·intro w'; go_simp; with_reducible rfl); (·simp only [Act.put, s1, s2, s3, i64_w, i32_w]; rfl)
         refine pv (v := ?_) (a' := ?_) HT_.out 2 (some 57) m56_2_ ?_ ?_ ?_; rotate_left 2; (·intro w'; go_simp; with_reducible rfl); (·simp only [Act.put, s1, s2, s3, i64_w, i32_w]; rfl)
         refine pv (v := ?_) (a' := ?_) HT_.out 4 (some 59) m56_3_ ?_ ?_ ?_; rotate_left 2; (·intro w'; go_simp; with_reducible rfl); (·simp only [Act.put, s1, s2, s3, i64_w, i32_w]; rfl)
         refine pv (v := ?_) (a' := ?_) HT_.out 5 (some 60) m56_4_ ?_ ?_ ?_; rotate_left 2; (·intro w'; go_simp; with_reducible rfl); (·simp only [Act.put, s1, s2, s3, i64_w, i32_w]; rfl)
         refine pv (v := ?_) (a' := ?_) HT_.out 6 (some 61) m56_5_ ?_ ?_ ?_; rotate_left 2; (·intro w'; go_simp; with_reducible rfl); (·simp only [Act.put, s1, s2, s3, i64_w, i32_w]; rfl)
         refine pv (v := ?_) (a' := ?_) HT_.out 7 (some 62) m56_6_ ?_ ?_ ?_; rotate_left 2; (·intro w'; go_simp; with_reducible rfl); (·simp only [Act.put, s1, s2, s3, i64_w, i32_w]; rfl)
         refine pv (v := ?_) (a' := ?_) HT_.out 9 (some 64) m56_7_ ?_ ?_ ?_; rotate_left 2; (·intro w'; go_simp; with_reducible rfl); (·simp only [Act.put, s1, s2, s3, i64_w, i32_w]; rfl)
         refine take_ (i := 3) (N := some 58) (v := ?_) (a' := ?_) m56_8_ rfl rfl (take_ofW HT_.out HW_.out (by kernel_rfl)) (fun _ _ _ h => h) (Or.inl ⟨by rfl, ?_⟩) hHeld ?_ ?_; rotate_left; (·rintro w' ⟨s0, s1, s2, s3, s4, s5⟩; go_simp; with_reducible rfl); rotate_left; (·simp only [Act.put, s1, s2, s3, i64_w, i32_w]; rfl)
         refine pv (v := ?_) (a' := ?_) HT_.out 8 (some 63) m56_9_ ?_ ?_ ?_; rotate_left 2; (·intro w'; go_simp; with_reducible rfl); (·simp only [Act.put, s1, s2, s3, i64_w, i32_w]; rfl)
         refine take_ (i := 10) (N := some 65) (v := ?_) (a' := ?_) m56_10_ rfl rfl (take_ofW HT_.out HW_.out (by kernel_rfl)) (fun _ _ _ h => h) (Or.inl ⟨by rfl, ?_⟩) hHeld ?_ ?_; rotate_left; (·rintro w' ⟨s0, s1, s2, s3, s4, s5⟩; go_simp; with_reducible rfl); rotate_left; (·simp only [Act.put, s1, s2, s3, i64_w, i32_w]; rfl)
         refine one_ (i := 11) (N := some 66) m56_11_ rfl rfl (one_of HT_.out (by kernel_rfl)) (by decide) (fun K hK => ?_)
         refine Kd.N_lit_step k31 _ 31 ?hg (N' := 66) ?hd (xs := ([(⟨0, rd l0 0, wrap64 (x9_8 - (wrap64 (Int.tdiv x9_8 2))), ([] : List (S31))⟩ : S31), (⟨t436, t437, wrap64 (Int.tdiv x9_8 2), t439⟩ : S31)] : List (S31))) (inner := [.int .i64 0, .int .i64 (rd l0 0), .int .i64 (wrap64 (x9_8 - (wrap64 (Int.tdiv x9_8 2)))), .slice none 0 0, .int .i64 t436, .int .i64 t437, .int .i64 (wrap64 (Int.tdiv x9_8 2)), .slice Ao40 t439.length co40]) (ok := (fun k_ => (w.heap.size ≤ k_) ∧ some k_ ≠ (.slice Ao36 t430.length co36 : Value).ownBlock ∧ k_ ≠ gb424 ∧ k_ ≠ gb434)) (okp := (fun k_ => (w.heap.size ≤ k_) ∧ some k_ ≠ (.slice Ao36 t430.length co36 : Value).ownBlock ∧ k_ ≠ gb424 ∧ k_ ≠ gb434)) ?hr ?hp (fun _ hk => hk) ((show ∀ k_, w42.heap.size ≤ k_ → (fun k_ => (w.heap.size ≤ k_) ∧ some k_ ≠ (.slice Ao36 t430.length co36 : Value).ownBlock ∧ k_ ≠ gb424 ∧ k_ ≠ gb434) k_ from fun k_ hk => ⟨(Nat.le_trans (below_size (by repeat first | refine zS ?_ GE424.out | refine zS ?_ GE434.out | exact HB.out | apply zA | apply zN | apply zD)) hk), Kd.fresh' (Kd.N_lt (by (with_reducible repeat (first | apply Kd.N_alloc | apply Kd.N_drewN | apply Kd.N_drew)); exact HO432.out)) k_ hk, Kd.freshB (g := gb424) (o := .cells #[.int .i64 0, .int .i64 0, .int .i64 0, .slice none 0 0, .bool false] 37 (0, 0)) (by (with_reducible repeat (first | refine blk_drewN ?_ _ | refine blk_drew ?_ | refine blk_alloc ?_ _)); exact BK424.out) k_ hk, Kd.freshB (g := gb434) (o := .cells #[.int .i64 t436, .int .i64 t437, .int .i64 (wrap64 (Int.tdiv x9_8 2)), .slice Ao40 t439.length co40, .bool true] 37 (0, 0)) (by (with_reducible repeat (first | refine blk_drewN ?_ _ | refine blk_drew ?_ | refine blk_alloc ?_ _)); exact BK434.out) k_ hk⟩) _ (Nat.le_refl _)) (Below.refl _ _) (Nat.le_refl _) (by simp) ?_; (case hd => rfl); (case hg => rfl); (case hr => first | (go_simp; done) | (go_simp; rfl)); (case hp => exact (Reps.c4 (show Kd.FK k31 _ _ (⟨0, rd l0 0, wrap64 (x9_8 - (wrap64 (Int.tdiv x9_8 2))), ([] : List (S31))⟩ : S31) [.int .i64 0, .int .i64 (rd l0 0), .int .i64 (wrap64 (x9_8 - (wrap64 (Int.tdiv x9_8 2)))), .slice none 0 0] from (k31_mkF _ _ (⟨0, rd l0 0, wrap64 (x9_8 - (wrap64 (Int.tdiv x9_8 2))), ([] : List (S31))⟩ : S31) (Nat.le_refl _) (Kd.F_nil _ _ _))) (Reps.c4 (show Kd.FK k31 _ _ (⟨t436, t437, wrap64 (Int.tdiv x9_8 2), t439⟩ : S31) [.int .i64 t436, .int .i64 t437, .int .i64 (wrap64 (Int.tdiv x9_8 2)), .slice Ao40 t439.length co40] from (k31_mkF _ _ (⟨t436, t437, wrap64 (Int.tdiv x9_8 2), t439⟩ : S31) (Kd.N_reads' (Kd.N_mono (ok' := (fun k_ => (w.heap.size ≤ k_) ∧ some k_ ≠ (.slice Ao36 t430.length co36 : Value).ownBlock ∧ k_ ≠ gb424 ∧ k_ ≠ gb434)) (HO441.out) (fun k_ hk => ⟨hk.1, ⟨hk.2.1, ⟨hk.2.2.1, hk.2.2.2⟩⟩⟩))).2.1 (Kd.N_F (Kd.N_mono (ok' := (fun k_ => (w.heap.size ≤ k_) ∧ some k_ ≠ (.slice Ao36 t430.length co36 : Value).ownBlock ∧ k_ ≠ gb424 ∧ k_ ≠ gb434)) (HO441.out) (fun k_ hk => ⟨hk.1, ⟨hk.2.1, ⟨hk.2.2.1, hk.2.2.2⟩⟩⟩))))) (Reps.none _ _))))
         intro v445 w43 ho44 hb hg_ hnew_
         clear hg_ hnew_
         (first | rw [← Ny444.out] at ho44 | (simp only [Int.reduceToNat] at ho44; rw [← Ny444.out] at ho44))
         have n0_ := zM (Kd.N_elder' (by (with_reducible repeat (first | apply Kd.N_alloc | apply Kd.N_drewN | apply Kd.N_drew)); exact HO432.out) (Kd.N_base ho44) hb)
         have n1_ := zM (Kd.N_lower ho44 (below_size (by repeat first | refine zS ?_ GE424.out | refine zS ?_ GE434.out | exact HB.out | apply zA | apply zN | apply zD)))
         have n2_ := zM (bb hb BK424.out)
         have n3_ := zM (bb hb BK434.out)
         have n4_ := zM (below_step (by repeat first | refine zS ?_ GE424.out | refine zS ?_ GE434.out | exact HB.out | apply zA | apply zN | apply zD) hb)
         clear HO432
         clear BK424
         clear BK434
         clear HB
         clear HO441
         have HO432 := n0_
         have HO446 := n1_
         have BK424 := n2_
         have BK434 := n3_
         have HB := n4_
         clear n0_ n1_ n2_ n3_ n4_
         clear hb ho44
         obtain ⟨Ao45, co45, eo45⟩ := Kd.N_slice HO446.out
         (first | subst eo45 | (injection eo45 with f1_ f2_ f3_; have f4_ := f1_.symm; have f5_ := f3_.symm; clear f1_ f2_ f3_; subst f4_; subst f5_))
         refine hK.out _ _ ⟨(blk_cell BK434.out 0).trans rfl, (blk_cell BK434.out 1).trans rfl, (blk_cell BK434.out 2).trans rfl, (blk_cell BK434.out 3).trans rfl, (blk_cell BK434.out 4).trans rfl, ((HB.out.cell (zL w _ hw443_0)).trans hw443_0)⟩ (fun hHeld => ?_)
         clear hK K
         refine norm_ (a' := ?_) ?_ ?_
         rotate_left
         ·show Act.put _ (some 66) _ = _
          simp only [Act.put, s1, s2, s3, i64_w, i32_w]
          rfl
         refine pv (v := ?_) (a' := ?_) HT_.out 12 (some 67) m56_12_ ?_ ?_ ?_; rotate_left 2; (·intro w'; go_simp; with_reducible rfl); (·simp only [Act.put, s1, s2, s3, i64_w, i32_w]; rfl)
         refine pv (v := ?_) (a' := ?_) HT_.out 13 (some 68) m56_13_ ?_ ?_ ?_; rotate_left 2; (·intro w'; go_simp; with_reducible rfl); (·simp only [Act.put, s1, s2, s3, i64_w, i32_w]; rfl)
         refine one_ (i := 14) (N := none) m56_14_ rfl rfl (one_of HT_.out (by kernel_rfl)) (by decide) (fun K hK => ?_)
         have hs46 : w43.cell? ⟨gb424, 0, none⟩ = some (.int .i64 0) := (blk_cell BK424.out 0).trans rfl
         have hfs46 := blk_frozen BK424.out 0
         have hns46_1 := NB434_424.out
         have hms46_1 := NB424_434.out
         have hs47 : w43.cell? ⟨gb424, 1, none⟩ = some (.int .i64 0) := (blk_cell BK424.out 1).trans rfl
         have hfs47 := blk_frozen BK424.out 1
         have hns47_1 := NB434_424.out
         have hms47_1 := NB424_434.out
         have hs48 : w43.cell? ⟨gb424, 2, none⟩ = some (.int .i64 0) := (blk_cell BK424.out 2).trans rfl
         have hfs48 := blk_frozen BK424.out 2
         have hns48_1 := NB434_424.out
         have hms48_1 := NB424_434.out
         have hs49 : w43.cell? ⟨gb424, 3, none⟩ = some (.slice none 0 0) := (blk_cell BK424.out 3).trans rfl
         have hfs49 := blk_frozen BK424.out 3
         have hns49_1 := NB434_424.out
         have hms49_1 := NB424_434.out
         have hs50 : w43.cell? ⟨gb424, 4, none⟩ = some (.bool false) := (blk_cell BK424.out 4).trans rfl
         have hfs50 := blk_frozen BK424.out 4
         have hns50_1 := NB434_424.out
         have hms50_1 := NB424_434.out
         refine skip_ (w1 := ?_) (by rfl) rfl ?_ ?_
         rotate_left
         ·go_simp
          rfl
         refine hK.out _ _ ⟨((cell_far (p := ⟨gb424, _, none⟩) NB434_424.out _).trans (((cell_far (p := ⟨gb424, _, none⟩) NB434_424.out _).trans (((cell_far (p := ⟨gb424, _, none⟩) NB434_424.out _).trans (((cell_far (p := ⟨gb424, _, none⟩) NB434_424.out _).trans (((cell_far (p := ⟨gb424, _, none⟩) NB434_424.out _).trans (hHeld.1)))))))))), ((cell_far (p := ⟨gb424, _, none⟩) NB434_424.out _).trans (((cell_far (p := ⟨gb424, _, none⟩) NB434_424.out _).trans (((cell_far (p := ⟨gb424, _, none⟩) NB434_424.out _).trans (((cell_far (p := ⟨gb424, _, none⟩) NB434_424.out _).trans (((cell_far (p := ⟨gb424, _, none⟩) NB434_424.out _).trans (hHeld.2.1)))))))))), ((cell_far (p := ⟨gb424, _, none⟩) NB434_424.out _).trans (((cell_far (p := ⟨gb424, _, none⟩) NB434_424.out _).trans (((cell_far (p := ⟨gb424, _, none⟩) NB434_424.out _).trans (((cell_far (p := ⟨gb424, _, none⟩) NB434_424.out _).trans (((cell_far (p := ⟨gb424, _, none⟩) NB434_424.out _).trans (hHeld.2.2.1)))))))))), ((cell_far (p := ⟨gb424, _, none⟩) NB434_424.out _).trans (((cell_far (p := ⟨gb424, _, none⟩) NB434_424.out _).trans (((cell_far (p := ⟨gb424, _, none⟩) NB434_424.out _).trans (((cell_far (p := ⟨gb424, _, none⟩) NB434_424.out _).trans (((cell_far (p := ⟨gb424, _, none⟩) NB434_424.out _).trans (hHeld.2.2.2.1)))))))))), ((cell_far (p := ⟨gb424, _, none⟩) NB434_424.out _).trans (((cell_far (p := ⟨gb424, _, none⟩) NB434_424.out _).trans (((cell_far (p := ⟨gb424, _, none⟩) NB434_424.out _).trans (((cell_far (p := ⟨gb424, _, none⟩) NB434_424.out _).trans (((cell_far (p := ⟨gb424, _, none⟩) NB434_424.out _).trans (hHeld.2.2.2.2.1)))))))))), ((cell_far (p := ⟨gb424, _, none⟩) (by first | exact Nat.ne_of_lt (Nat.lt_of_lt_of_le (by have := zL _ _ hw443_0; first | rwa [add_block] at this | exact this) GW424.out) | (rw [add_block]; exact Nat.ne_of_lt (Nat.lt_of_lt_of_le (by have := zL _ _ hw443_0; first | rwa [add_block] at this | exact this) GW424.out)) | (show (Addr.add _ _).block ≠ _; rw [add_block]; exact Nat.ne_of_lt (Nat.lt_of_lt_of_le (by have := zL _ _ hw443_0; first | rwa [add_block] at this | exact this) GW424.out)) | (dsimp only; exact Nat.ne_of_lt (Nat.lt_of_lt_of_le (by have := zL _ _ hw443_0; first | rwa [add_block] at this | exact this) GW424.out))) _).trans (((cell_far (p := ⟨gb424, _, none⟩) (by first | exact Nat.ne_of_lt (Nat.lt_of_lt_of_le (by have := zL _ _ hw443_0; first | rwa [add_block] at this | exact this) GW424.out) | (rw [add_block]; exact Nat.ne_of_lt (Nat.lt_of_lt_of_le (by have := zL _ _ hw443_0; first | rwa [add_block] at this | exact this) GW424.out)) | (show (Addr.add _ _).block ≠ _; rw [add_block]; exact Nat.ne_of_lt (Nat.lt_of_lt_of_le (by have := zL _ _ hw443_0; first | rwa [add_block] at this | exact this) GW424.out)) | (dsimp only; exact Nat.ne_of_lt (Nat.lt_of_lt_of_le (by have := zL _ _ hw443_0; first | rwa [add_block] at this | exact this) GW424.out))) _).trans (((cell_far (p := ⟨gb424, _, none⟩) (by first | exact Nat.ne_of_lt (Nat.lt_of_lt_of_le (by have := zL _ _ hw443_0; first | rwa [add_block] at this | exact this) GW424.out) | (rw [add_block]; exact Nat.ne_of_lt (Nat.lt_of_lt_of_le (by have := zL _ _ hw443_0; first | rwa [add_block] at this | exact this) GW424.out)) | (show (Addr.add _ _).block ≠ _; rw [add_block]; exact Nat.ne_of_lt (Nat.lt_of_lt_of_le (by have := zL _ _ hw443_0; first | rwa [add_block] at this | exact this) GW424.out)) | (dsimp only; exact Nat.ne_of_lt (Nat.lt_of_lt_of_le (by have := zL _ _ hw443_0; first | rwa [add_block] at this | exact this) GW424.out))) _).trans (((cell_far (p := ⟨gb424, _, none⟩) (by first | exact Nat.ne_of_lt (Nat.lt_of_lt_of_le (by have := zL _ _ hw443_0; first | rwa [add_block] at this | exact this) GW424.out) | (rw [add_block]; exact Nat.ne_of_lt (Nat.lt_of_lt_of_le (by have := zL _ _ hw443_0; first | rwa [add_block] at this | exact this) GW424.out)) | (show (Addr.add _ _).block ≠ _; rw [add_block]; exact Nat.ne_of_lt (Nat.lt_of_lt_of_le (by have := zL _ _ hw443_0; first | rwa [add_block] at this | exact this) GW424.out)) | (dsimp only; exact Nat.ne_of_lt (Nat.lt_of_lt_of_le (by have := zL _ _ hw443_0; first | rwa [add_block] at this | exact this) GW424.out))) _).trans (((cell_far (p := ⟨gb424, _, none⟩) (by first | exact Nat.ne_of_lt (Nat.lt_of_lt_of_le (by have := zL _ _ hw443_0; first | rwa [add_block] at this | exact this) GW424.out) | (rw [add_block]; exact Nat.ne_of_lt (Nat.lt_of_lt_of_le (by have := zL _ _ hw443_0; first | rwa [add_block] at this | exact this) GW424.out)) | (show (Addr.add _ _).block ≠ _; rw [add_block]; exact Nat.ne_of_lt (Nat.lt_of_lt_of_le (by have := zL _ _ hw443_0; first | rwa [add_block] at this | exact this) GW424.out)) | (dsimp only; exact Nat.ne_of_lt (Nat.lt_of_lt_of_le (by have := zL _ _ hw443_0; first | rwa [add_block] at this | exact this) GW424.out))) _).trans (hHeld.2.2.2.2.2))))))))))⟩ (fun hHeld => ?_)
         clear hK K
         refine done_ (done_of HT_.out (by kernel_rfl)) ?_
         try go_wp2
         refine bodyPost_ret (results_cell_row rfl _ _ gb424 37 #[.int .i64 a1, .int .i64 0, .int .i64 0, .slice Ao45 y444.length co45, .bool true] (0, 0) _ rfl (by exact (put5 BK424.out)) Try.underlying37 rfl (by kernel_rfl)) rfl ?_
         exact ⟨_, by first | rfl | (simp [errW_none, errW_some] <;> rfl) | (simp [*, errW_none, errW_some] <;> rfl), by (with_reducible repeat (first | apply Kd.N_alloc | apply Kd.N_drewN | apply Kd.N_drew)); exact Kd.N_mono (Kd.N_far (p := ⟨gb424, 4, none⟩) (Kd.N_far (p := ⟨gb424, 3, none⟩) (Kd.N_far (p := ⟨gb424, 2, none⟩) (Kd.N_far (p := ⟨gb424, 1, none⟩) (Kd.N_far (p := ⟨gb424, 0, none⟩) (Kd.N_mono HO446.out (fun k_ hk => (⟨hk, hk.2.2.1⟩ : _ ∧ k_ ≠ gb424))) (fun _ hk => hk.2) (.int .i64 a1)) (fun _ hk => hk.2) (.int .i64 0)) (fun _ hk => hk.2) (.int .i64 0)) (fun _ hk => hk.2) (.slice Ao45 y444.length co45)) (fun _ hk => hk.2) (.bool true)) (fun _ hk => hk.1.1), by repeat first | refine zS ?_ GE424.out | refine zS ?_ GE434.out | exact HB.out | apply zA | apply zN | apply zD⟩
        ·rw [if_neg c30] at H
         exact absurd H (by simp)
       ·replace c29 := Bool.eq_false_iff.mpr c29
        subst c29
        have H1 : (some (0, 0, 0, ([] : List (S31)), false)) = some (r1, r2, r3, r4, r5) := by rw [if_neg (show ¬ (false = true) by decide)] at H; exact H
        clear H
        have H := H1
        clear H1
        simp only [Option.some.injEq, Prod.mk.injEq] at H
        obtain ⟨rfl, rfl, rfl, rfl, rfl⟩ := H
        obtain ⟨i051, hi051, _, hsz51, _⟩ := info_parts info3
        (try clear hcut18); (try clear hcut24); (try clear hcut31); (try clear hcut37); (try clear hcut57); (try clear hcut63); (try clear hcut72); (try clear hcut88); obtain ⟨A51, hcut51, hA51, hC51⟩ := print_drop_of (P := Try.prog) (Value.int .i64) 0 22 3 .i64 Try.underlying22 hi051 hsz51 A0 c0 l0 1 (by omega) (of_decide_eq_true (by first | (with_reducible assumption) | assumption)) HC0.out
        have HR426 := zM (Kd.C_of_reads (h1 := fun _ => rfl) (hA51 _ (Kd.reads_of_C HR0.out)))
        have HC426 := zM hC51
        clear hA51 hC51 hi051 hsz51
        go_wp2_with (first | ((with_reducible refine gate_callee (f := 54) rfl ?_); refine goesL_ (some 32) rfl rfl Try.func54 (by kernel_rfl) rfl #[.slice A51 (l0.drop 1).length (c0 - 1), .int .i64 (wrap64 (3 - a1)), .int .i64 (wrap64 (Int.tdiv x9_8 2)), .int .i64 a3] rfl (by (try simp only [List.map_toArray, List.map_cons, List.map_nil]); first | done | (rw [show (l0.drop 1).length = (l0.length - 1) from List.length_drop] <;> rfl) | rfl | (simp only [List.length_drop, List.length_take]; rfl)) ?_; (with_reducible refine (backseatref12_Line.calls kj8 _ _ (l0.drop 1) (wrap64 (3 - a1)) (wrap64 (Int.tdiv x9_8 2)) a3 t427 t428 t429 t430 t433 _ ?side1 ?side2 A13.out).mono ?_); (case side1 => repeat (first | exact (Kd.C_below HR426.out HB.out) | (with_reducible refine Kd.C_alloc ?_ _) | (with_reducible refine Kd.C_drewN ?_ _) | (with_reducible refine Kd.C_drew ?_))); (case side2 => exact HC426.out); rintro e w52 ⟨v431, rfl, ho0, hb⟩; refine ⟨_, rfl, ?_⟩; have HO432 := zM (Kd.N_lower (Kd.N_mono (ok' := fun k_ => (w.heap.size ≤ k_) ∧ k_ ≠ gb424) (Kd.R_N (Kd.R_bound ho0)) (fun k_ hk_ => ⟨(Nat.le_trans (below_size (by repeat first | refine zS ?_ GE424.out | exact HB.out | apply zA | apply zN | apply zD)) hk_.2.1), (Kd.freshB (g := gb424) (o := .cells #[.int .i64 0, .int .i64 0, .int .i64 0, .slice none 0 0, .bool false] 37 (0, 0)) (by (with_reducible repeat (first | refine blk_drewN ?_ _ | refine blk_drew ?_ | refine blk_alloc ?_ _)); exact BK424.out) k_ hk_.2.1)⟩)) (below_size (by repeat first | refine zS ?_ GE424.out | exact HB.out | apply zA | apply zN | apply zD))); replace BK424 := zM (bb hb BK424.out); replace HB := zM (below_step (by repeat first | refine zS ?_ GE424.out | exact HB.out | apply zA | apply zN | apply zD) hb); (try clear hb); (try clear hb2); (try clear hk); (try clear hi); (try clear ho0)) | ((with_reducible refine gate_dst (N := 10) rfl ?_); refine box_event ?hg (N := 10) ?hd (cs := #[.int .i64 0, .int .i64 0, .int .i64 0, .slice none 0 0, .bool false]) (t := 37) ?hr ?_; (case hd => rfl); (case hg => rfl); (case hr => first | (go_simp; done) | (go_simp; rfl)); intro gb434 hg w53 hbox hb; have BK434 := zM (hbox); have GW434 := zM ((by rw [hg]; exact (below_size (by repeat first | refine zS ?_ GE424.out | exact HB.out | apply zA | apply zN | apply zD)) : w.heap.size ≤ gb434)); have GE434 := GW434; have NB424_434 := zM ((by rw [hg]; exact lt1 BK424.out : gb424 ≠ gb434)); have NB434_424 := zM ((by rw [hg]; exact gt1 BK424.out : gb434 ≠ gb424)); replace HO432 := zM (Kd.N_below (Kd.N_elderB (by (with_reducible repeat (first | apply Kd.N_alloc | apply Kd.N_drewN | apply Kd.N_drew)); exact HO432.out) gb434 (Nat.le_of_eq hg.symm)) hb); replace BK424 := zM (bb hb BK424.out); replace HB := zM (below_step (by repeat first | refine zS ?_ GE424.out | exact HB.out | apply zA | apply zN | apply zD) hb); clear hb hbox hg; have hnb54 := NB434_424.out; have hnc54 := NB424_434.out; obtain ⟨hcz55_0, hcz55_1, hcz55_2, hcz55_3, hcz55_4, hfz55_0, hfz55_1, hfz55_2, hfz55_3, hfz55_4⟩ := cz5 BK434.out; obtain ⟨Ao56, co56, eo56⟩ := Kd.N_slice HO432.out; subst eo56; obtain ⟨i057, hi057, _, hsz57, _⟩ := info_parts info3; (try clear hcut18); (try clear hcut24); (try clear hcut31); (try clear hcut37); (try clear hcut51); (try clear hcut63); (try clear hcut72); (try clear hcut88); obtain ⟨A57, hcut57, hA57, hC57⟩ := print_drop_of (P := Try.prog) (Value.int .i64) 0 22 3 .i64 Try.underlying22 hi057 hsz57 A0 c0 l0 1 (by omega) (of_decide_eq_true (by first | (with_reducible assumption) | assumption)) HC0.out; have HR435 := zM (Kd.C_of_reads (h1 := fun _ => rfl) (hA57 _ (Kd.reads_of_C HR0.out))); have HC435 := zM hC57; clear hA57 hC57 hi057 hsz57) | ((with_reducible refine gate_callee (f := 54) rfl ?_); refine goesL_ (some 42) rfl rfl Try.func54 (by kernel_rfl) rfl #[.slice A57 (l0.drop 1).length (c0 - 1), .int .i64 (wrap64 (3 - a1)), .int .i64 a2, .int .i64 (wrap64 (Int.tdiv x9_8 2))] rfl (by (try simp only [List.map_toArray, List.map_cons, List.map_nil]); first | done | (rw [show (l0.drop 1).length = (l0.length - 1) from List.length_drop] <;> rfl) | rfl | (simp only [List.length_drop, List.length_take]; rfl)) ?_; (with_reducible refine (backseatref12_Line.calls kj8 _ _ (l0.drop 1) (wrap64 (3 - a1)) a2 (wrap64 (Int.tdiv x9_8 2)) t436 t437 t438 t439 false _ ?side1 ?side2 A16.out).mono ?_); (case side1 => exact Kd.C_below HR435.out (by repeat first | refine zS ?_ GE424.out | refine zS ?_ GE434.out | exact HB.out | apply zA | apply zN | apply zD)); (case side2 => exact HC435.out); rintro e w58 ⟨v440, rfl, ho0, hb⟩; refine ⟨_, rfl, ?_⟩; have HO441 := zM (Kd.N_lower (Kd.N_mono (ok' := fun k_ => (w.heap.size ≤ k_) ∧ some k_ ≠ (.slice Ao56 t430.length co56 : Value).ownBlock ∧ k_ ≠ gb424 ∧ k_ ≠ gb434) (Kd.R_N (Kd.R_bound ho0)) (fun k_ hk_ => ⟨(Nat.le_trans (below_size (by repeat first | refine zS ?_ GE424.out | refine zS ?_ GE434.out | exact HB.out | apply zA | apply zN | apply zD)) hk_.2.1), (Kd.fresh' (Kd.N_lt (by (with_reducible repeat (first | apply Kd.N_alloc | apply Kd.N_drewN | apply Kd.N_drew)); exact (Kd.N_mono (Kd.N_far (p := ⟨gb434, 4, none⟩) (Kd.N_far (p := ⟨gb434, 3, none⟩) (Kd.N_far (p := ⟨gb434, 2, none⟩) (Kd.N_far (p := ⟨gb434, 1, none⟩) (Kd.N_far (p := ⟨gb434, 0, none⟩) (Kd.N_mono HO432.out (fun k_ hk => (⟨hk, hk.2⟩ : _ ∧ k_ ≠ gb434))) (fun _ hk => hk.2) (.int .i64 t427)) (fun _ hk => hk.2) (.int .i64 t428)) (fun _ hk => hk.2) (.int .i64 t429)) (fun _ hk => hk.2) (.slice Ao56 t430.length co56)) (fun _ hk => hk.2) (.bool t433)) (fun _ h_ => h_.1)))) k_ hk_.2.1), (Kd.freshB (g := gb424) (o := .cells #[.int .i64 0, .int .i64 0, .int .i64 0, .slice none 0 0, .bool false] 37 (0, 0)) (by exact (far5 NB424_434.out BK424.out)) k_ hk_.2.1), (Kd.freshB (g := gb434) (o := .cells #[.int .i64 t427, .int .i64 t428, .int .i64 t429, .slice Ao56 t430.length co56, .bool t433] 37 (0, 0)) (by exact (put5 BK434.out)) k_ hk_.2.1)⟩)) (below_size (by repeat first | refine zS ?_ GE424.out | refine zS ?_ GE434.out | exact HB.out | apply zA | apply zN | apply zD))); replace HO432 := zM (Kd.N_elder' (by (with_reducible repeat (first | apply Kd.N_alloc | apply Kd.N_drewN | apply Kd.N_drew)); exact (Kd.N_mono (Kd.N_far (p := ⟨gb434, 4, none⟩) (Kd.N_far (p := ⟨gb434, 3, none⟩) (Kd.N_far (p := ⟨gb434, 2, none⟩) (Kd.N_far (p := ⟨gb434, 1, none⟩) (Kd.N_far (p := ⟨gb434, 0, none⟩) (Kd.N_mono HO432.out (fun k_ hk => (⟨hk, hk.2⟩ : _ ∧ k_ ≠ gb434))) (fun _ hk => hk.2) (.int .i64 t427)) (fun _ hk => hk.2) (.int .i64 t428)) (fun _ hk => hk.2) (.int .i64 t429)) (fun _ hk => hk.2) (.slice Ao56 t430.length co56)) (fun _ hk => hk.2) (.bool t433)) (fun _ h_ => h_.1))) (Kd.R_base ho0) hb); replace BK424 := zM (bb hb (far5 NB424_434.out BK424.out)); replace BK434 := zM (bb hb (put5 BK434.out)); replace HB := zM (below_step (by repeat first | refine zS ?_ GE424.out | refine zS ?_ GE434.out | exact HB.out | apply zA | apply zN | apply zD) hb); (try clear hb); (try clear hb2); (try clear hk); (try clear hi); (try clear ho0); obtain ⟨hcz59_0, hcz59_1, hcz59_2, hcz59_3, hcz59_4, hfz59_0, hfz59_1, hfz59_2, hfz59_3, hfz59_4⟩ := cz5 BK434.out; obtain ⟨Ao60, co60, eo60⟩ := Kd.N_slice HO441.out; subst eo60; obtain ⟨hcz61_0, hcz61_1, hcz61_2, hcz61_3, hcz61_4, hfz61_0, hfz61_1, hfz61_2, hfz61_3, hfz61_4⟩ := cz5 BK424.out))
        refine bodyPost_ret (results_cell_row rfl _ _ gb424 37 #[.int .i64 0, .int .i64 0, .int .i64 0, .slice none 0 0, .bool false] (0, 0) _ rfl (by exact (put5 (far5 NB424_434.out BK424.out))) Try.underlying37 rfl (by kernel_rfl)) rfl ?_
        exact ⟨_, by first | rfl | (simp [errW_none, errW_some] <;> rfl) | (simp [*, errW_none, errW_some] <;> rfl), by first | exact Kd.R_nil _ _ _ _ _ | exact Kd.N_nil _ _ _ _ _ | exact Kd.V_nil _ _ _ _ _ | exact Kd.Q_nil _ _ _ _ _ | exact Kd.S_nil _ _ _ _ _, by repeat first | refine zS ?_ GE424.out | refine zS ?_ GE434.out | exact HB.out | apply zA | apply zN | apply zD⟩
     ·rw [if_neg c14] at H
      have c14b0 : (a1 == 2) = false := beq_eq_false_iff_ne.mpr c14
      have c14b1 : (a1 != 2) = true := bne_iff_ne.mpr c14
      by_cases c62 : x9_8 < 2
      ·rw [if_pos c62] at H
       have c62b0 : decide (x9_8 < 2) = true := decide_eq_true c62
       clear c62
       simp only [Option.some.injEq, Prod.mk.injEq] at H
       obtain ⟨rfl, rfl, rfl, rfl, rfl⟩ := H
       obtain ⟨i063, hi063, _, hsz63, _⟩ := info_parts info3
       (try clear hcut18); (try clear hcut24); (try clear hcut31); (try clear hcut37); (try clear hcut51); (try clear hcut57); (try clear hcut72); (try clear hcut88); obtain ⟨A63, hcut63, hA63, hC63⟩ := print_drop_of (P := Try.prog) (Value.int .i64) 0 22 3 .i64 Try.underlying22 hi063 hsz63 A0 c0 l0 1 (by omega) (of_decide_eq_true (by first | (with_reducible assumption) | assumption)) HC0.out
       have HR426 := zM (Kd.C_of_reads (h1 := fun _ => rfl) (hA63 _ (Kd.reads_of_C HR0.out)))
       have HC426 := zM hC63
       clear hA63 hC63 hi063 hsz63
       go_wp2_with (first | ((with_reducible refine gate_callee (f := 54) rfl ?_); refine goesL_ (some 32) rfl rfl Try.func54 (by kernel_rfl) rfl #[.slice A63 (l0.drop 1).length (c0 - 1), .int .i64 (wrap64 (3 - a1)), .int .i64 (wrap64 (Int.tdiv x9_8 2)), .int .i64 a3] rfl (by (try simp only [List.map_toArray, List.map_cons, List.map_nil]); first | done | (rw [show (l0.drop 1).length = (l0.length - 1) from List.length_drop] <;> rfl) | rfl | (simp only [List.length_drop, List.length_take]; rfl)) ?_; (with_reducible refine (backseatref12_Line.calls kj8 _ _ (l0.drop 1) (wrap64 (3 - a1)) (wrap64 (Int.tdiv x9_8 2)) a3 t427 t428 t429 t430 t433 _ ?side1 ?side2 A13.out).mono ?_); (case side1 => repeat (first | exact (Kd.C_below HR426.out HB.out) | (with_reducible refine Kd.C_alloc ?_ _) | (with_reducible refine Kd.C_drewN ?_ _) | (with_reducible refine Kd.C_drew ?_))); (case side2 => exact HC426.out); rintro e w64 ⟨v431, rfl, ho0, hb⟩; refine ⟨_, rfl, ?_⟩; have HO432 := zM (Kd.N_lower (Kd.N_mono (ok' := fun k_ => (w.heap.size ≤ k_) ∧ k_ ≠ gb424) (Kd.R_N (Kd.R_bound ho0)) (fun k_ hk_ => ⟨(Nat.le_trans (below_size (by repeat first | refine zS ?_ GE424.out | exact HB.out | apply zA | apply zN | apply zD)) hk_.2.1), (Kd.freshB (g := gb424) (o := .cells #[.int .i64 0, .int .i64 0, .int .i64 0, .slice none 0 0, .bool false] 37 (0, 0)) (by (with_reducible repeat (first | refine blk_drewN ?_ _ | refine blk_drew ?_ | refine blk_alloc ?_ _)); exact BK424.out) k_ hk_.2.1)⟩)) (below_size (by repeat first | refine zS ?_ GE424.out | exact HB.out | apply zA | apply zN | apply zD))); replace BK424 := zM (bb hb BK424.out); replace HB := zM (below_step (by repeat first | refine zS ?_ GE424.out | exact HB.out | apply zA | apply zN | apply zD) hb); (try clear hb); (try clear hb2); (try clear hk); (try clear hi); (try clear ho0)) | ((with_reducible refine gate_dst (N := 10) rfl ?_); refine box_event ?hg (N := 10) ?hd (cs := #[.int .i64 0, .int .i64 0, .int .i64 0, .slice none 0 0, .bool false]) (t := 37) ?hr ?_; (case hd => rfl); (case hg => rfl); (case hr => first | (go_simp; done) | (go_simp; rfl)); intro gb434 hg w65 hbox hb; have BK434 := zM (hbox); have GW434 := zM ((by rw [hg]; exact (below_size (by repeat first | refine zS ?_ GE424.out | exact HB.out | apply zA | apply zN | apply zD)) : w.heap.size ≤ gb434)); have GE434 := GW434; have NB424_434 := zM ((by rw [hg]; exact lt1 BK424.out : gb424 ≠ gb434)); have NB434_424 := zM ((by rw [hg]; exact gt1 BK424.out : gb434 ≠ gb424)); replace HO432 := zM (Kd.N_below (Kd.N_elderB (by (with_reducible repeat (first | apply Kd.N_alloc | apply Kd.N_drewN | apply Kd.N_drew)); exact HO432.out) gb434 (Nat.le_of_eq hg.symm)) hb); replace BK424 := zM (bb hb BK424.out); replace HB := zM (below_step (by repeat first | refine zS ?_ GE424.out | exact HB.out | apply zA | apply zN | apply zD) hb); clear hb hbox hg; have hnb66 := NB434_424.out; have hnc66 := NB424_434.out; obtain ⟨hcz67_0, hcz67_1, hcz67_2, hcz67_3, hcz67_4, hfz67_0, hfz67_1, hfz67_2, hfz67_3, hfz67_4⟩ := cz5 BK434.out; obtain ⟨Ao68, co68, eo68⟩ := Kd.N_slice HO432.out; subst eo68; obtain ⟨hcz69_0, hcz69_1, hcz69_2, hcz69_3, hcz69_4, hfz69_0, hfz69_1, hfz69_2, hfz69_3, hfz69_4⟩ := cz5 BK424.out))
       refine bodyPost_ret (results_cell_row rfl _ _ gb424 37 #[.int .i64 0, .int .i64 0, .int .i64 0, .slice none 0 0, .bool false] (0, 0) _ rfl (by exact (put5 (far5 NB424_434.out BK424.out))) Try.underlying37 rfl (by kernel_rfl)) rfl ?_
       exact ⟨_, by first | rfl | (simp [errW_none, errW_some] <;> rfl) | (simp [*, errW_none, errW_some] <;> rfl), by first | exact Kd.R_nil _ _ _ _ _ | exact Kd.N_nil _ _ _ _ _ | exact Kd.V_nil _ _ _ _ _ | exact Kd.Q_nil _ _ _ _ _ | exact Kd.S_nil _ _ _ _ _, by repeat first | refine zS ?_ GE424.out | refine zS ?_ GE434.out | exact HB.out | apply zA | apply zN | apply zD⟩
      ·rw [if_neg c62] at H
       have c62b0 : decide (x9_8 < 2) = false := decide_eq_false c62
       clear c62
       by_cases c70 : t433 = true
       ·subst c70
        have H1 : (if 0 < (l0.length : Int) then (some (a1, 0, 0, (([(⟨0, rd l0 0, wrap64 (x9_8 - (wrap64 (Int.tdiv x9_8 2))), ([] : List (S31))⟩ : S31), (⟨t427, t428, wrap64 (Int.tdiv x9_8 2), t430⟩ : S31)] : List (S31))), true)) else (none)) = some (r1, r2, r3, r4, r5) := by rw [if_pos rfl] at H; exact H
        clear H
        have H := H1
        clear H1
        by_cases c71 : 0 < (l0.length : Int)
        ·rw [if_pos c71] at H
         have c71b0 : decide (0 < (l0.length : Int)) = true := decide_eq_true c71
         have c71b1 : decide (0 < l0.length) = true := decide_eq_true (by omega)
         clear c71
         obtain ⟨y448, hy448⟩ : ∃ y_ : List (S31), y_ = (([(⟨0, rd l0 0, wrap64 (x9_8 - (wrap64 (Int.tdiv x9_8 2))), ([] : List (S31))⟩ : S31), (⟨t427, t428, wrap64 (Int.tdiv x9_8 2), t430⟩ : S31)] : List (S31))) := ⟨_, rfl⟩
         replace H : (some (a1, 0, 0, y448, true)) = some (r1, r2, r3, r4, r5) := by first | (rw [hy448]; with_reducible exact H) | (have H2_ := (Option.bind_some _ _).symm.trans H; rw [hy448]; with_reducible exact H2_) | (have H2_ := (Option.bind_some _ _).symm.trans H; with_reducible exact H2_) | with_reducible exact H | (rw [hy448]; exact H) | exact H
         have Ny448 := zM hy448
         clear hy448
         simp only [Option.some.injEq, Prod.mk.injEq] at H
         obtain ⟨rfl, rfl, rfl, rfl, rfl⟩ := H
         obtain ⟨i072, hi072, _, hsz72, _⟩ := info_parts info3
         (try clear hcut18); (try clear hcut24); (try clear hcut31); (try clear hcut37); (try clear hcut51); (try clear hcut57); (try clear hcut63); (try clear hcut88); obtain ⟨A72, hcut72, hA72, hC72⟩ := print_drop_of (P := Try.prog) (Value.int .i64) 0 22 3 .i64 Try.underlying22 hi072 hsz72 A0 c0 l0 1 (by omega) (of_decide_eq_true (by first | (with_reducible assumption) | assumption)) HC0.out
         have HR426 := zM (Kd.C_of_reads (h1 := fun _ => rfl) (hA72 _ (Kd.reads_of_C HR0.out)))
         have HC426 := zM hC72
         clear hA72 hC72 hi072 hsz72
         try go_wp2_with (first | ((with_reducible refine gate_callee (f := 54) rfl ?_); refine goesL_ (some 32) rfl rfl Try.func54 (by kernel_rfl) rfl #[.slice A72 (l0.drop 1).length (c0 - 1), .int .i64 (wrap64 (3 - a1)), .int .i64 (wrap64 (Int.tdiv x9_8 2)), .int .i64 a3] rfl (by (try simp only [List.map_toArray, List.map_cons, List.map_nil]); first | done | (rw [show (l0.drop 1).length = (l0.length - 1) from List.length_drop] <;> rfl) | rfl | (simp only [List.length_drop, List.length_take]; rfl)) ?_; (with_reducible refine (backseatref12_Line.calls kj8 _ _ (l0.drop 1) (wrap64 (3 - a1)) (wrap64 (Int.tdiv x9_8 2)) a3 t427 t428 t429 t430 true _ ?side1 ?side2 A13.out).mono ?_); (case side1 => repeat (first | exact (Kd.C_below HR426.out HB.out) | (with_reducible refine Kd.C_alloc ?_ _) | (with_reducible refine Kd.C_drewN ?_ _) | (with_reducible refine Kd.C_drew ?_))); (case side2 => exact HC426.out); rintro e w73 ⟨v431, rfl, ho0, hb⟩; refine ⟨_, rfl, ?_⟩; have HO432 := zM (Kd.N_lower (Kd.N_mono (ok' := fun k_ => (w.heap.size ≤ k_) ∧ k_ ≠ gb424) (Kd.R_N (Kd.R_bound ho0)) (fun k_ hk_ => ⟨(Nat.le_trans (below_size (by repeat first | refine zS ?_ GE424.out | exact HB.out | apply zA | apply zN | apply zD)) hk_.2.1), (Kd.freshB (g := gb424) (o := .cells #[.int .i64 0, .int .i64 0, .int .i64 0, .slice none 0 0, .bool false] 37 (0, 0)) (by (with_reducible repeat (first | refine blk_drewN ?_ _ | refine blk_drew ?_ | refine blk_alloc ?_ _)); exact BK424.out) k_ hk_.2.1)⟩)) (below_size (by repeat first | refine zS ?_ GE424.out | exact HB.out | apply zA | apply zN | apply zD))); replace BK424 := zM (bb hb BK424.out); replace HB := zM (below_step (by repeat first | refine zS ?_ GE424.out | exact HB.out | apply zA | apply zN | apply zD) hb); (try clear hb); (try clear hb2); (try clear hk); (try clear hi); (try clear ho0)) | ((with_reducible refine gate_dst (N := 10) rfl ?_); refine box_event ?hg (N := 10) ?hd (cs := #[.int .i64 0, .int .i64 0, .int .i64 0, .slice none 0 0, .bool false]) (t := 37) ?hr ?_; (case hd => rfl); (case hg => rfl); (case hr => first | (go_simp; done) | (go_simp; rfl)); intro gb434 hg w74 hbox hb; have BK434 := zM (hbox); have GW434 := zM ((by rw [hg]; exact (below_size (by repeat first | refine zS ?_ GE424.out | exact HB.out | apply zA | apply zN | apply zD)) : w.heap.size ≤ gb434)); have GE434 := GW434; have NB424_434 := zM ((by rw [hg]; exact lt1 BK424.out : gb424 ≠ gb434)); have NB434_424 := zM ((by rw [hg]; exact gt1 BK424.out : gb434 ≠ gb424)); replace HO432 := zM (Kd.N_below (Kd.N_elderB (by (with_reducible repeat (first | apply Kd.N_alloc | apply Kd.N_drewN | apply Kd.N_drew)); exact HO432.out) gb434 (Nat.le_of_eq hg.symm)) hb); replace BK424 := zM (bb hb BK424.out); replace HB := zM (below_step (by repeat first | refine zS ?_ GE424.out | exact HB.out | apply zA | apply zN | apply zD) hb); clear hb hbox hg; have hnb75 := NB434_424.out; have hnc75 := NB424_434.out; obtain ⟨hcz76_0, hcz76_1, hcz76_2, hcz76_3, hcz76_4, hfz76_0, hfz76_1, hfz76_2, hfz76_3, hfz76_4⟩ := cz5 BK434.out; obtain ⟨Ao77, co77, eo77⟩ := Kd.N_slice HO432.out; subst eo77))
         have n0_ : Aside0 (Kd.N k31 31 ((((((w74.setCell ⟨gb434, 0, none⟩ (.int .i64 t427)).setCell ⟨gb434, 1, none⟩ (.int .i64 t428)).setCell ⟨gb434, 2, none⟩ (.int .i64 t429)).setCell ⟨gb434, 3, none⟩ (.slice Ao77 t430.length co77)).setCell ⟨gb434, 4, none⟩ (.bool true)).setCell ⟨gb434, 2, none⟩ (.int .i64 (wrap64 (Int.tdiv x9_8 2)))) w.heap.size (fun k_ => (w.heap.size ≤ k_) ∧ k_ ≠ gb424 ∧ k_ ≠ gb434) (.slice Ao77 t430.length co77) t430) := ⟨by (with_reducible repeat (first | apply Kd.N_alloc | apply Kd.N_drewN | apply Kd.N_drew)); exact Kd.N_mono (Kd.N_far (p := ⟨gb434, 2, none⟩) (Kd.N_far (p := ⟨gb434, 4, none⟩) (Kd.N_far (p := ⟨gb434, 3, none⟩) (Kd.N_far (p := ⟨gb434, 2, none⟩) (Kd.N_far (p := ⟨gb434, 1, none⟩) (Kd.N_far (p := ⟨gb434, 0, none⟩) (Kd.N_mono HO432.out (fun k_ hk => (⟨hk, hk.2⟩ : _ ∧ k_ ≠ gb434))) (fun _ hk => hk.2) (.int .i64 t427)) (fun _ hk => hk.2) (.int .i64 t428)) (fun _ hk => hk.2) (.int .i64 t429)) (fun _ hk => hk.2) (.slice Ao77 t430.length co77)) (fun _ hk => hk.2) (.bool true)) (fun _ hk => hk.2) (.int .i64 (wrap64 (Int.tdiv x9_8 2)))) (fun _ hk => ⟨hk.1.1.1, ⟨hk.1.1.2, hk.1.2⟩⟩)⟩
         have n1_ : Aside0 (((((((w74.setCell ⟨gb434, 0, none⟩ (.int .i64 t427)).setCell ⟨gb434, 1, none⟩ (.int .i64 t428)).setCell ⟨gb434, 2, none⟩ (.int .i64 t429)).setCell ⟨gb434, 3, none⟩ (.slice Ao77 t430.length co77)).setCell ⟨gb434, 4, none⟩ (.bool true)).setCell ⟨gb434, 2, none⟩ (.int .i64 (wrap64 (Int.tdiv x9_8 2)))).heap[gb424]? = some (.cells #[.int .i64 0, .int .i64 0, .int .i64 0, .slice none 0 0, .bool false] 37 (0, 0))) := ⟨by exact (blk_far (far5 NB424_434.out BK424.out) NB424_434.out _)⟩
         have n2_ : Aside0 (((((((w74.setCell ⟨gb434, 0, none⟩ (.int .i64 t427)).setCell ⟨gb434, 1, none⟩ (.int .i64 t428)).setCell ⟨gb434, 2, none⟩ (.int .i64 t429)).setCell ⟨gb434, 3, none⟩ (.slice Ao77 t430.length co77)).setCell ⟨gb434, 4, none⟩ (.bool true)).setCell ⟨gb434, 2, none⟩ (.int .i64 (wrap64 (Int.tdiv x9_8 2)))).heap[gb434]? = some (.cells #[.int .i64 t427, .int .i64 t428, .int .i64 (wrap64 (Int.tdiv x9_8 2)), .slice Ao77 t430.length co77, .bool true] 37 (0, 0))) := ⟨by exact (blk_put (put5 BK434.out) 2 _ rfl)⟩
         have n3_ : Aside0 (Below w.heap.size w ((((((w74.setCell ⟨gb434, 0, none⟩ (.int .i64 t427)).setCell ⟨gb434, 1, none⟩ (.int .i64 t428)).setCell ⟨gb434, 2, none⟩ (.int .i64 t429)).setCell ⟨gb434, 3, none⟩ (.slice Ao77 t430.length co77)).setCell ⟨gb434, 4, none⟩ (.bool true)).setCell ⟨gb434, 2, none⟩ (.int .i64 (wrap64 (Int.tdiv x9_8 2))))) := ⟨by repeat first | refine zS ?_ GE424.out | refine zS ?_ GE434.out | exact HB.out | apply zA | apply zN | apply zD⟩
         (try clear HO432)
         (try clear BK424)
         (try clear BK434)
         (try clear HB)
         generalize ((((((w74.setCell ⟨gb434, 0, none⟩ (.int .i64 t427)).setCell ⟨gb434, 1, none⟩ (.int .i64 t428)).setCell ⟨gb434, 2, none⟩ (.int .i64 t429)).setCell ⟨gb434, 3, none⟩ (.slice Ao77 t430.length co77)).setCell ⟨gb434, 4, none⟩ (.bool true)).setCell ⟨gb434, 2, none⟩ (.int .i64 (wrap64 (Int.tdiv x9_8 2)))) = w78 at n0_ n1_ n2_ n3_ ⊢
         have HO432 := n0_
         have BK424 := n1_
         have BK434 := n2_
         have HB := n3_
         clear n0_ n1_ n2_ n3_
         replace HO432 := zM (Kd.N_drew HO432.out); replace BK424 := zM (blk_drew BK424.out); replace BK434 := zM (blk_drew BK434.out); replace HB := zM (zD HB.out)
         have p447 : 0 ≤ (0 : Int) := (by omega)
         have q447 : 0 < (l0.length : Int) := of_decide_eq_true (by first | (with_reducible assumption) | assumption)
         obtain ⟨ad447, e447, hx447_0⟩ := Kd.at_int HR0.out 0 p447 q447
         have hw447_0 := hx447_0
         (try rw [show ((0 : Int)).toNat = 0 from rfl] at hw447_0)
         (try rw [show 0 * 1 = 0 from rfl] at hw447_0)
         (try rw [Addr.add_zero'] at hw447_0)
         cases e447
         have qi447 : (0 < l0.length) = True := eq_true (by omega)
         (try rw [show ((0 : Int)).toNat = 0 from rfl] at hx447_0)
         (try rw [Addr.add_zero'] at hx447_0)
         replace hx447_0 := (HB.out.cell (zL w _ hx447_0)).trans hx447_0
         replace p447 := eq_true p447
         replace q447 := eq_true q447
         refine start_ (n := 15) (S := fun w' => w'.cell? ⟨gb434, 0, none⟩ = some (.int .i64 t427) ∧ w'.cell? ⟨gb434, 1, none⟩ = some (.int .i64 t428) ∧ w'.cell? ⟨gb434, 2, none⟩ = some (.int .i64 (wrap64 (Int.tdiv x9_8 2))) ∧ w'.cell? ⟨gb434, 3, none⟩ = some (.slice Ao77 t430.length co77) ∧ w'.cell? ⟨gb434, 4, none⟩ = some (.bool true) ∧ w'.cell? ad447 = some (.int .i64 (rd l0 0))) (ds := []) #[false, false, false, false, false, false, false, false, false, false, false, false, false, false, false] (by kernel_rfl) rfl rfl ⟨(blk_cell BK434.out 0).trans rfl, (blk_cell BK434.out 1).trans rfl, (blk_cell BK434.out 2).trans rfl, (blk_cell BK434.out 3).trans rfl, (blk_cell BK434.out 4).trans rfl, ((HB.out.cell (zL w _ hw447_0)).trans hw447_0)⟩ (fun hHeld => ?_); refine with_tabW backseatref12_Main.tab12 backseatref12_Main.bits12 (fun HT_ HW_ => ?_)
         generalize w78.drew = w79 at HO432 BK424 BK434 HB hx447_0 hHeld ⊢
         refine pv (v := ?_) (a' := ?_) HT_.out 0 (some 55) m56_0_ ?_ ?_ ?_; rotate_left 2; (·intro w'; go_simp; with_reducible rfl); (·simp only [Act.put, s1, s2, s3, i64_w, i32_w]; rfl)
         refine pv (v := ?_) (a' := ?_) HT_.out 1 (some 56) m56_1_ ?_ ?_ ?_; rotate_left 2; (·intro w'; go_simp; with_reducible rfl); (·simp only [Act.put, s1, s2, s3, i64_w, i32_w]; rfl)
         refine pv (v := ?_) (a' := ?_) HT_.out 2 (some 57) m56_2_ ?_ ?_ ?_; rotate_left 2; (·intro w'; go_simp; with_reducible rfl); (·simp only [Act.put, s1, s2, s3, i64_w, i32_w]; rfl)
         refine pv (v := ?_) (a' := ?_) HT_.out 4 (some 59) m56_3_ ?_ ?_ ?_; rotate_left 2; (·intro w'; go_simp; with_reducible rfl); (·simp only [Act.put, s1, s2, s3, i64_w, i32_w]; rfl)
         refine pv (v := ?_) (a' := ?_) HT_.out 5 (some 60) m56_4_ ?_ ?_ ?_; rotate_left 2; (·intro w'; go_simp; with_reducible rfl); (·simp only [Act.put, s1, s2, s3, i64_w, i32_w]; rfl)
         refine pv (v := ?_) (a' := ?_) HT_.out 6 (some 61) m56_5_ ?_ ?_ ?_; rotate_left 2; (·intro w'; go_simp; with_reducible rfl); (·simp only [Act.put, s1, s2, s3, i64_w, i32_w]; rfl)
         refine pv (v := ?_) (a' := ?_) HT_.out 7 (some 62) m56_6_ ?_ ?_ ?_; rotate_left 2; (·intro w'; go_simp; with_reducible rfl); (·simp only [Act.put, s1, s2, s3, i64_w, i32_w]; rfl)
         refine pv (v := ?_) (a' := ?_) HT_.out 9 (some 64) m56_7_ ?_ ?_ ?_; rotate_left 2; (·intro w'; go_simp; with_reducible rfl); (·simp only [Act.put, s1, s2, s3, i64_w, i32_w]; rfl)
         refine take_ (i := 3) (N := some 58) (v := ?_) (a' := ?_) m56_8_ rfl rfl (take_ofW HT_.out HW_.out (by kernel_rfl)) (fun _ _ _ h => h) (Or.inl ⟨by rfl, ?_⟩) hHeld ?_ ?_; rotate_left; (·rintro w' ⟨s0, s1, s2, s3, s4, s5⟩; go_simp; with_reducible rfl); rotate_left; (·simp only [Act.put, s1, s2, s3, i64_w, i32_w]; rfl)
         refine pv (v := ?_) (a' := ?_) HT_.out 8 (some 63) m56_9_ ?_ ?_ ?_; rotate_left 2; (·intro w'; go_simp; with_reducible rfl); (·simp only [Act.put, s1, s2, s3, i64_w, i32_w]; rfl)
         refine take_ (i := 10) (N := some 65) (v := ?_) (a' := ?_) m56_10_ rfl rfl (take_ofW HT_.out HW_.out (by kernel_rfl)) (fun _ _ _ h => h) (Or.inl ⟨by rfl, ?_⟩) hHeld ?_ ?_; rotate_left; (·rintro w' ⟨s0, s1, s2, s3, s4, s5⟩; go_simp; with_reducible rfl); rotate_left; (·simp only [Act.put, s1, s2, s3, i64_w, i32_w]; rfl)
         refine one_ (i := 11) (N := some 66) m56_11_ rfl rfl (one_of HT_.out (by kernel_rfl)) (by decide) (fun K hK => ?_)
         refine Kd.N_lit_step k31 _ 31 ?hg (N' := 66) ?hd (xs := ([(⟨0, rd l0 0, wrap64 (x9_8 - (wrap64 (Int.tdiv x9_8 2))), ([] : List (S31))⟩ : S31), (⟨t427, t428, wrap64 (Int.tdiv x9_8 2), t430⟩ : S31)] : List (S31))) (inner := [.int .i64 0, .int .i64 (rd l0 0), .int .i64 (wrap64 (x9_8 - (wrap64 (Int.tdiv x9_8 2)))), .slice none 0 0, .int .i64 t427, .int .i64 t428, .int .i64 (wrap64 (Int.tdiv x9_8 2)), .slice Ao77 t430.length co77]) (ok := (fun k_ => (w.heap.size ≤ k_) ∧ k_ ≠ gb424 ∧ k_ ≠ gb434)) (okp := (fun k_ => (w.heap.size ≤ k_) ∧ k_ ≠ gb424 ∧ k_ ≠ gb434)) ?hr ?hp (fun _ hk => hk) ((show ∀ k_, w79.heap.size ≤ k_ → (fun k_ => (w.heap.size ≤ k_) ∧ k_ ≠ gb424 ∧ k_ ≠ gb434) k_ from fun k_ hk => ⟨(Nat.le_trans (below_size (by repeat first | refine zS ?_ GE424.out | refine zS ?_ GE434.out | exact HB.out | apply zA | apply zN | apply zD)) hk), Kd.freshB (g := gb424) (o := .cells #[.int .i64 0, .int .i64 0, .int .i64 0, .slice none 0 0, .bool false] 37 (0, 0)) (by (with_reducible repeat (first | refine blk_drewN ?_ _ | refine blk_drew ?_ | refine blk_alloc ?_ _)); exact BK424.out) k_ hk, Kd.freshB (g := gb434) (o := .cells #[.int .i64 t427, .int .i64 t428, .int .i64 (wrap64 (Int.tdiv x9_8 2)), .slice Ao77 t430.length co77, .bool true] 37 (0, 0)) (by (with_reducible repeat (first | refine blk_drewN ?_ _ | refine blk_drew ?_ | refine blk_alloc ?_ _)); exact BK434.out) k_ hk⟩) _ (Nat.le_refl _)) (Below.refl _ _) (Nat.le_refl _) (by simp) ?_; (case hd => rfl); (case hg => rfl); (case hr => first | (go_simp; done) | (go_simp; rfl)); (case hp => exact (Reps.c4 (show Kd.FK k31 _ _ (⟨0, rd l0 0, wrap64 (x9_8 - (wrap64 (Int.tdiv x9_8 2))), ([] : List (S31))⟩ : S31) [.int .i64 0, .int .i64 (rd l0 0), .int .i64 (wrap64 (x9_8 - (wrap64 (Int.tdiv x9_8 2)))), .slice none 0 0] from (k31_mkF _ _ (⟨0, rd l0 0, wrap64 (x9_8 - (wrap64 (Int.tdiv x9_8 2))), ([] : List (S31))⟩ : S31) (Nat.le_refl _) (Kd.F_nil _ _ _))) (Reps.c4 (show Kd.FK k31 _ _ (⟨t427, t428, wrap64 (Int.tdiv x9_8 2), t430⟩ : S31) [.int .i64 t427, .int .i64 t428, .int .i64 (wrap64 (Int.tdiv x9_8 2)), .slice Ao77 t430.length co77] from (k31_mkF _ _ (⟨t427, t428, wrap64 (Int.tdiv x9_8 2), t430⟩ : S31) (Kd.N_reads' (Kd.N_mono (ok' := (fun k_ => (w.heap.size ≤ k_) ∧ k_ ≠ gb424 ∧ k_ ≠ gb434)) (HO432.out) (fun k_ hk => ⟨hk.1, ⟨hk.2.1, hk.2.2⟩⟩))).2.1 (Kd.N_F (Kd.N_mono (ok' := (fun k_ => (w.heap.size ≤ k_) ∧ k_ ≠ gb424 ∧ k_ ≠ gb434)) (HO432.out) (fun k_ hk => ⟨hk.1, ⟨hk.2.1, hk.2.2⟩⟩))))) (Reps.none _ _))))
         intro v449 w80 ho81 hb hg_ hnew_
         clear hg_ hnew_
         (first | rw [← Ny448.out] at ho81 | (simp only [Int.reduceToNat] at ho81; rw [← Ny448.out] at ho81))
         have n0_ := zM (Kd.N_lower ho81 (below_size (by repeat first | refine zS ?_ GE424.out | refine zS ?_ GE434.out | exact HB.out | apply zA | apply zN | apply zD)))
         have n1_ := zM (bb hb BK424.out)
         have n2_ := zM (bb hb BK434.out)
         have n3_ := zM (below_step (by repeat first | refine zS ?_ GE424.out | refine zS ?_ GE434.out | exact HB.out | apply zA | apply zN | apply zD) hb)
         clear BK424
         clear BK434
         clear HB
         clear HO432
         have HO450 := n0_
         have BK424 := n1_
         have BK434 := n2_
         have HB := n3_
         clear n0_ n1_ n2_ n3_
         clear hb ho81
         obtain ⟨Ao82, co82, eo82⟩ := Kd.N_slice HO450.out
         (first | subst eo82 | (injection eo82 with f1_ f2_ f3_; have f4_ := f1_.symm; have f5_ := f3_.symm; clear f1_ f2_ f3_; subst f4_; subst f5_))
         refine hK.out _ _ ⟨(blk_cell BK434.out 0).trans rfl, (blk_cell BK434.out 1).trans rfl, (blk_cell BK434.out 2).trans rfl, (blk_cell BK434.out 3).trans rfl, (blk_cell BK434.out 4).trans rfl, ((HB.out.cell (zL w _ hw447_0)).trans hw447_0)⟩ (fun hHeld => ?_)
         clear hK K
         refine norm_ (a' := ?_) ?_ ?_
         rotate_left
         ·show Act.put _ (some 66) _ = _
          simp only [Act.put, s1, s2, s3, i64_w, i32_w]
          rfl
         refine pv (v := ?_) (a' := ?_) HT_.out 12 (some 67) m56_12_ ?_ ?_ ?_; rotate_left 2; (·intro w'; go_simp; with_reducible rfl); (·simp only [Act.put, s1, s2, s3, i64_w, i32_w]; rfl)
         refine pv (v := ?_) (a' := ?_) HT_.out 13 (some 68) m56_13_ ?_ ?_ ?_; rotate_left 2; (·intro w'; go_simp; with_reducible rfl); (·simp only [Act.put, s1, s2, s3, i64_w, i32_w]; rfl)
         refine one_ (i := 14) (N := none) m56_14_ rfl rfl (one_of HT_.out (by kernel_rfl)) (by decide) (fun K hK => ?_)
         have hs83 : w80.cell? ⟨gb424, 0, none⟩ = some (.int .i64 0) := (blk_cell BK424.out 0).trans rfl
         have hfs83 := blk_frozen BK424.out 0
         have hns83_1 := NB434_424.out
         have hms83_1 := NB424_434.out
         have hs84 : w80.cell? ⟨gb424, 1, none⟩ = some (.int .i64 0) := (blk_cell BK424.out 1).trans rfl
         have hfs84 := blk_frozen BK424.out 1
         have hns84_1 := NB434_424.out
         have hms84_1 := NB424_434.out
         have hs85 : w80.cell? ⟨gb424, 2, none⟩ = some (.int .i64 0) := (blk_cell BK424.out 2).trans rfl
         have hfs85 := blk_frozen BK424.out 2
         have hns85_1 := NB434_424.out
         have hms85_1 := NB424_434.out
         have hs86 : w80.cell? ⟨gb424, 3, none⟩ = some (.slice none 0 0) := (blk_cell BK424.out 3).trans rfl
         have hfs86 := blk_frozen BK424.out 3
         have hns86_1 := NB434_424.out
         have hms86_1 := NB424_434.out
         have hs87 : w80.cell? ⟨gb424, 4, none⟩ = some (.bool false) := (blk_cell BK424.out 4).trans rfl
         have hfs87 := blk_frozen BK424.out 4
         have hns87_1 := NB434_424.out
         have hms87_1 := NB424_434.out
         refine skip_ (w1 := ?_) (by rfl) rfl ?_ ?_
         rotate_left
         ·go_simp
          rfl
         refine hK.out _ _ ⟨((cell_far (p := ⟨gb424, _, none⟩) NB434_424.out _).trans (((cell_far (p := ⟨gb424, _, none⟩) NB434_424.out _).trans (((cell_far (p := ⟨gb424, _, none⟩) NB434_424.out _).trans (((cell_far (p := ⟨gb424, _, none⟩) NB434_424.out _).trans (((cell_far (p := ⟨gb424, _, none⟩) NB434_424.out _).trans (hHeld.1)))))))))), ((cell_far (p := ⟨gb424, _, none⟩) NB434_424.out _).trans (((cell_far (p := ⟨gb424, _, none⟩) NB434_424.out _).trans (((cell_far (p := ⟨gb424, _, none⟩) NB434_424.out _).trans (((cell_far (p := ⟨gb424, _, none⟩) NB434_424.out _).trans (((cell_far (p := ⟨gb424, _, none⟩) NB434_424.out _).trans (hHeld.2.1)))))))))), ((cell_far (p := ⟨gb424, _, none⟩) NB434_424.out _).trans (((cell_far (p := ⟨gb424, _, none⟩) NB434_424.out _).trans (((cell_far (p := ⟨gb424, _, none⟩) NB434_424.out _).trans (((cell_far (p := ⟨gb424, _, none⟩) NB434_424.out _).trans (((cell_far (p := ⟨gb424, _, none⟩) NB434_424.out _).trans (hHeld.2.2.1)))))))))), ((cell_far (p := ⟨gb424, _, none⟩) NB434_424.out _).trans (((cell_far (p := ⟨gb424, _, none⟩) NB434_424.out _).trans (((cell_far (p := ⟨gb424, _, none⟩) NB434_424.out _).trans (((cell_far (p := ⟨gb424, _, none⟩) NB434_424.out _).trans (((cell_far (p := ⟨gb424, _, none⟩) NB434_424.out _).trans (hHeld.2.2.2.1)))))))))), ((cell_far (p := ⟨gb424, _, none⟩) NB434_424.out _).trans (((cell_far (p := ⟨gb424, _, none⟩) NB434_424.out _).trans (((cell_far (p := ⟨gb424, _, none⟩) NB434_424.out _).trans (((cell_far (p := ⟨gb424, _, none⟩) NB434_424.out _).trans (((cell_far (p := ⟨gb424, _, none⟩) NB434_424.out _).trans (hHeld.2.2.2.2.1)))))))))), ((cell_far (p := ⟨gb424, _, none⟩) (by first | exact Nat.ne_of_lt (Nat.lt_of_lt_of_le (by have := zL _ _ hw447_0; first | rwa [add_block] at this | exact this) GW424.out) | (rw [add_block]; exact Nat.ne_of_lt (Nat.lt_of_lt_of_le (by have := zL _ _ hw447_0; first | rwa [add_block] at this | exact this) GW424.out)) | (show (Addr.add _ _).block ≠ _; rw [add_block]; exact Nat.ne_of_lt (Nat.lt_of_lt_of_le (by have := zL _ _ hw447_0; first | rwa [add_block] at this | exact this) GW424.out)) | (dsimp only; exact Nat.ne_of_lt (Nat.lt_of_lt_of_le (by have := zL _ _ hw447_0; first | rwa [add_block] at this | exact this) GW424.out))) _).trans (((cell_far (p := ⟨gb424, _, none⟩) (by first | exact Nat.ne_of_lt (Nat.lt_of_lt_of_le (by have := zL _ _ hw447_0; first | rwa [add_block] at this | exact this) GW424.out) | (rw [add_block]; exact Nat.ne_of_lt (Nat.lt_of_lt_of_le (by have := zL _ _ hw447_0; first | rwa [add_block] at this | exact this) GW424.out)) | (show (Addr.add _ _).block ≠ _; rw [add_block]; exact Nat.ne_of_lt (Nat.lt_of_lt_of_le (by have := zL _ _ hw447_0; first | rwa [add_block] at this | exact this) GW424.out)) | (dsimp only; exact Nat.ne_of_lt (Nat.lt_of_lt_of_le (by have := zL _ _ hw447_0; first | rwa [add_block] at this | exact this) GW424.out))) _).trans (((cell_far (p := ⟨gb424, _, none⟩) (by first | exact Nat.ne_of_lt (Nat.lt_of_lt_of_le (by have := zL _ _ hw447_0; first | rwa [add_block] at this | exact this) GW424.out) | (rw [add_block]; exact Nat.ne_of_lt (Nat.lt_of_lt_of_le (by have := zL _ _ hw447_0; first | rwa [add_block] at this | exact this) GW424.out)) | (show (Addr.add _ _).block ≠ _; rw [add_block]; exact Nat.ne_of_lt (Nat.lt_of_lt_of_le (by have := zL _ _ hw447_0; first | rwa [add_block] at this | exact this) GW424.out)) | (dsimp only; exact Nat.ne_of_lt (Nat.lt_of_lt_of_le (by have := zL _ _ hw447_0; first | rwa [add_block] at this | exact this) GW424.out))) _).trans (((cell_far (p := ⟨gb424, _, none⟩) (by first | exact Nat.ne_of_lt (Nat.lt_of_lt_of_le (by have := zL _ _ hw447_0; first | rwa [add_block] at this | exact this) GW424.out) | (rw [add_block]; exact Nat.ne_of_lt (Nat.lt_of_lt_of_le (by have := zL _ _ hw447_0; first | rwa [add_block] at this | exact this) GW424.out)) | (show (Addr.add _ _).block ≠ _; rw [add_block]; exact Nat.ne_of_lt (Nat.lt_of_lt_of_le (by have := zL _ _ hw447_0; first | rwa [add_block] at this | exact this) GW424.out)) | (dsimp only; exact Nat.ne_of_lt (Nat.lt_of_lt_of_le (by have := zL _ _ hw447_0; first | rwa [add_block] at this | exact this) GW424.out))) _).trans (((cell_far (p := ⟨gb424, _, none⟩) (by first | exact Nat.ne_of_lt (Nat.lt_of_lt_of_le (by have := zL _ _ hw447_0; first | rwa [add_block] at this | exact this) GW424.out) | (rw [add_block]; exact Nat.ne_of_lt (Nat.lt_of_lt_of_le (by have := zL _ _ hw447_0; first | rwa [add_block] at this | exact this) GW424.out)) | (show (Addr.add _ _).block ≠ _; rw [add_block]; exact Nat.ne_of_lt (Nat.lt_of_lt_of_le (by have := zL _ _ hw447_0; first | rwa [add_block] at this | exact this) GW424.out)) | (dsimp only; exact Nat.ne_of_lt (Nat.lt_of_lt_of_le (by have := zL _ _ hw447_0; first | rwa [add_block] at this | exact this) GW424.out))) _).trans (hHeld.2.2.2.2.2))))))))))⟩ (fun hHeld => ?_)
         clear hK K
         refine done_ (done_of HT_.out (by kernel_rfl)) ?_
         try go_wp2
         refine bodyPost_ret (results_cell_row rfl _ _ gb424 37 #[.int .i64 a1, .int .i64 0, .int .i64 0, .slice Ao82 y448.length co82, .bool true] (0, 0) _ rfl (by exact (put5 BK424.out)) Try.underlying37 rfl (by kernel_rfl)) rfl ?_
         exact ⟨_, by first | rfl | (simp [errW_none, errW_some] <;> rfl) | (simp [*, errW_none, errW_some] <;> rfl), by (with_reducible repeat (first | apply Kd.N_alloc | apply Kd.N_drewN | apply Kd.N_drew)); exact Kd.N_mono (Kd.N_far (p := ⟨gb424, 4, none⟩) (Kd.N_far (p := ⟨gb424, 3, none⟩) (Kd.N_far (p := ⟨gb424, 2, none⟩) (Kd.N_far (p := ⟨gb424, 1, none⟩) (Kd.N_far (p := ⟨gb424, 0, none⟩) (Kd.N_mono HO450.out (fun k_ hk => (⟨hk, hk.2.1⟩ : _ ∧ k_ ≠ gb424))) (fun _ hk => hk.2) (.int .i64 a1)) (fun _ hk => hk.2) (.int .i64 0)) (fun _ hk => hk.2) (.int .i64 0)) (fun _ hk => hk.2) (.slice Ao82 y448.length co82)) (fun _ hk => hk.2) (.bool true)) (fun _ hk => hk.1.1), by repeat first | refine zS ?_ GE424.out | refine zS ?_ GE434.out | exact HB.out | apply zA | apply zN | apply zD⟩
        ·rw [if_neg c71] at H
         exact absurd H (by simp)
       ·replace c70 := Bool.eq_false_iff.mpr c70
        subst c70
        have H1 : (some (0, 0, 0, ([] : List (S31)), false)) = some (r1, r2, r3, r4, r5) := by rw [if_neg (show ¬ (false = true) by decide)] at H; exact H
        clear H
        have H := H1
        clear H1
        simp only [Option.some.injEq, Prod.mk.injEq] at H
        obtain ⟨rfl, rfl, rfl, rfl, rfl⟩ := H
        obtain ⟨i088, hi088, _, hsz88, _⟩ := info_parts info3
        (try clear hcut18); (try clear hcut24); (try clear hcut31); (try clear hcut37); (try clear hcut51); (try clear hcut57); (try clear hcut63); (try clear hcut72); obtain ⟨A88, hcut88, hA88, hC88⟩ := print_drop_of (P := Try.prog) (Value.int .i64) 0 22 3 .i64 Try.underlying22 hi088 hsz88 A0 c0 l0 1 (by omega) (of_decide_eq_true (by first | (with_reducible assumption) | assumption)) HC0.out
        have HR426 := zM (Kd.C_of_reads (h1 := fun _ => rfl) (hA88 _ (Kd.reads_of_C HR0.out)))
        have HC426 := zM hC88
        clear hA88 hC88 hi088 hsz88
        go_wp2_with (first | ((with_reducible refine gate_callee (f := 54) rfl ?_); refine goesL_ (some 32) rfl rfl Try.func54 (by kernel_rfl) rfl #[.slice A88 (l0.drop 1).length (c0 - 1), .int .i64 (wrap64 (3 - a1)), .int .i64 (wrap64 (Int.tdiv x9_8 2)), .int .i64 a3] rfl (by (try simp only [List.map_toArray, List.map_cons, List.map_nil]); first | done | (rw [show (l0.drop 1).length = (l0.length - 1) from List.length_drop] <;> rfl) | rfl | (simp only [List.length_drop, List.length_take]; rfl)) ?_; (with_reducible refine (backseatref12_Line.calls kj8 _ _ (l0.drop 1) (wrap64 (3 - a1)) (wrap64 (Int.tdiv x9_8 2)) a3 t427 t428 t429 t430 false _ ?side1 ?side2 A13.out).mono ?_); (case side1 => repeat (first | exact (Kd.C_below HR426.out HB.out) | (with_reducible refine Kd.C_alloc ?_ _) | (with_reducible refine Kd.C_drewN ?_ _) | (with_reducible refine Kd.C_drew ?_))); (case side2 => exact HC426.out); rintro e w89 ⟨v431, rfl, ho0, hb⟩; refine ⟨_, rfl, ?_⟩; have HO432 := zM (Kd.N_lower (Kd.N_mono (ok' := fun k_ => (w.heap.size ≤ k_) ∧ k_ ≠ gb424) (Kd.R_N (Kd.R_bound ho0)) (fun k_ hk_ => ⟨(Nat.le_trans (below_size (by repeat first | refine zS ?_ GE424.out | exact HB.out | apply zA | apply zN | apply zD)) hk_.2.1), (Kd.freshB (g := gb424) (o := .cells #[.int .i64 0, .int .i64 0, .int .i64 0, .slice none 0 0, .bool false] 37 (0, 0)) (by (with_reducible repeat (first | refine blk_drewN ?_ _ | refine blk_drew ?_ | refine blk_alloc ?_ _)); exact BK424.out) k_ hk_.2.1)⟩)) (below_size (by repeat first | refine zS ?_ GE424.out | exact HB.out | apply zA | apply zN | apply zD))); replace BK424 := zM (bb hb BK424.out); replace HB := zM (below_step (by repeat first | refine zS ?_ GE424.out | exact HB.out | apply zA | apply zN | apply zD) hb); (try clear hb); (try clear hb2); (try clear hk); (try clear hi); (try clear ho0)) | ((with_reducible refine gate_dst (N := 10) rfl ?_); refine box_event ?hg (N := 10) ?hd (cs := #[.int .i64 0, .int .i64 0, .int .i64 0, .slice none 0 0, .bool false]) (t := 37) ?hr ?_; (case hd => rfl); (case hg => rfl); (case hr => first | (go_simp; done) | (go_simp; rfl)); intro gb434 hg w90 hbox hb; have BK434 := zM (hbox); have GW434 := zM ((by rw [hg]; exact (below_size (by repeat first | refine zS ?_ GE424.out | exact HB.out | apply zA | apply zN | apply zD)) : w.heap.size ≤ gb434)); have GE434 := GW434; have NB424_434 := zM ((by rw [hg]; exact lt1 BK424.out : gb424 ≠ gb434)); have NB434_424 := zM ((by rw [hg]; exact gt1 BK424.out : gb434 ≠ gb424)); replace HO432 := zM (Kd.N_below (Kd.N_elderB (by (with_reducible repeat (first | apply Kd.N_alloc | apply Kd.N_drewN | apply Kd.N_drew)); exact HO432.out) gb434 (Nat.le_of_eq hg.symm)) hb); replace BK424 := zM (bb hb BK424.out); replace HB := zM (below_step (by repeat first | refine zS ?_ GE424.out | exact HB.out | apply zA | apply zN | apply zD) hb); clear hb hbox hg; have hnb91 := NB434_424.out; have hnc91 := NB424_434.out; obtain ⟨hcz92_0, hcz92_1, hcz92_2, hcz92_3, hcz92_4, hfz92_0, hfz92_1, hfz92_2, hfz92_3, hfz92_4⟩ := cz5 BK434.out; obtain ⟨Ao93, co93, eo93⟩ := Kd.N_slice HO432.out; subst eo93; obtain ⟨hcz94_0, hcz94_1, hcz94_2, hcz94_3, hcz94_4, hfz94_0, hfz94_1, hfz94_2, hfz94_3, hfz94_4⟩ := cz5 BK424.out))
        refine bodyPost_ret (results_cell_row rfl _ _ gb424 37 #[.int .i64 0, .int .i64 0, .int .i64 0, .slice none 0 0, .bool false] (0, 0) _ rfl (by exact (put5 (far5 NB424_434.out BK424.out))) Try.underlying37 rfl (by kernel_rfl)) rfl ?_
        exact ⟨_, by first | rfl | (simp [errW_none, errW_some] <;> rfl) | (simp [*, errW_none, errW_some] <;> rfl), by first | exact Kd.R_nil _ _ _ _ _ | exact Kd.N_nil _ _ _ _ _ | exact Kd.V_nil _ _ _ _ _ | exact Kd.Q_nil _ _ _ _ _ | exact Kd.S_nil _ _ _ _ _, by repeat first | refine zS ?_ GE424.out | refine zS ?_ GE434.out | exact HB.out | apply zA | apply zN | apply zD⟩
    ·rw [if_neg c12] at H
     exact absurd H (by simp)
end Go.Proofs.Ytplngfammfdemaa.Q
