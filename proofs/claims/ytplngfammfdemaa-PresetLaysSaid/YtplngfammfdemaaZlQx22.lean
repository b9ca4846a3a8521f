-- A copy of the text YtplngfammfdemaaQx22 with what this claim does not reach left out (prune.py, a program of this project).
import Derived.Test.YtplngfammfdemaaZlGMul
import Derived.Test.YtplngfammfdemaaZlQx17
import Derived.Test.YtplngfammfdemaaZlQx4
namespace Go.Proofs.Ytplngfammfdemaa.Q
open Go.RowKit Go.Proofs.Ytplngfammfdemaa Go.Proofs.YtplngfammfdemaaW.PrintWords Go.Proofs.YtplngfammfdemaaW.PrintLast Go.Proofs.YtplngfammfdemaaW.PrintMore
attribute [local go_sem] max2_int min2_int max_two min_two max_three min_three max_four min_four   -- for this text's walks alone
set_option linter.unusedVariables false
set_option linter.unusedSimpArgs false
def m54_0_ : Array Bool := mk_ 15 0
def m54_1_ : Array Bool := mk_ 15 1
def m54_2_ : Array Bool := mk_ 15 5
def m54_3_ : Array Bool := mk_ 15 13
def m54_4_ : Array Bool := mk_ 15 29
def m54_5_ : Array Bool := mk_ 15 93
def m54_6_ : Array Bool := mk_ 15 221
def m54_7_ : Array Bool := mk_ 15 477
def m54_8_ : Array Bool := mk_ 15 479
def m54_9_ : Array Bool := mk_ 15 511
def m54_10_ : Array Bool := mk_ 15 1023
def m54_11_ : Array Bool := mk_ 15 2047
def m54_12_ : Array Bool := mk_ 15 4095
def m54_13_ : Array Bool := mk_ 15 8191
def m54_14_ : Array Bool := mk_ 15 16383
def m54_15_ : Array Bool := mk_ 15 32767
mutual
def backseatref12_Line.j0 : Nat → List Int → Int → Int → Option (Int × Int × Int × (List (S31)) × Bool)
 | 0, _, _, _ => none
 | k + 1, x0, x1, x9 => (backseatref12_Even.f k x9 (x0.length : Int)).bind fun t375 => (backseatref12_Line.l0 k x0 t375 (t375.length : Int) 0 x1 0 0 ([] : List (S31)))
def backseatref12_Line.l0 : Nat → List Int → List Int → Int → Int → Int → Int → Int → List (S31) → Option (Int × Int × Int × (List (S31)) × Bool)
 | 0, _, _, _, _, _, _, _, _ => none
 | k + 1, x0, x10, x32, x33, x379000, x379001, x379002, x379003 => if x33 < x32 then (if 0 ≤ x33 then (if x33 < (x0.length : Int) then (if x33 < (x10.length : Int) then (if x379003.length < 2932031007402 then (backseatref12_Line.l0 k x0 x10 x32 (wrap64 (x33 + 1)) x379000 x379001 x379002 (x379003 ++ [(⟨0, rd x0 x33, rd x10 x33, ([] : List (S31))⟩ : S31)])) else (none)) else (none)) else (none)) else (none)) else (some (x379000, x379001, x379002, x379003, decide ((x10.length : Int) > 0)))
end
def backseatref12_Line.f (k : Nat) (l0 : List Int) (a1 : Int) (a2 : Int) (a3 : Int) : Option (Int × Int × Int × (List (S31)) × Bool) := if (l0.length : Int) = 1 then (if 0 < (l0.length : Int) then (some (0, rd l0 0, 0, ([] : List (S31)), true)) else (none)) else (if a1 = 2 then (backseatref12_Line.j0 k l0 a1 a3) else (backseatref12_Line.j0 k l0 a1 a2))
theorem backseatref12_Line.mono_l : ∀ k, (∀ y0 y1 y2, LeO (backseatref12_Line.j0 k y0 y1 y2) (backseatref12_Line.j0 (k + 1) y0 y1 y2)) ∧ (∀ y0 y1 y2 y3 y4 y5 y6 y7, LeO (backseatref12_Line.l0 k y0 y1 y2 y3 y4 y5 y6 y7) (backseatref12_Line.l0 (k + 1) y0 y1 y2 y3 y4 y5 y6 y7))
 | 0 => ⟨fun _ _ _ r h => by simp [backseatref12_Line.j0] at h, fun _ _ _ _ _ _ _ _ r h => by simp [backseatref12_Line.l0] at h⟩
 | k + 1 => by
  obtain ⟨ih0, ih1⟩ := backseatref12_Line.mono_l k
  refine ⟨?_, ?_⟩
  ·intro y0 y1 y2
   unfold backseatref12_Line.j0
   repeat' first
   | (with_reducible exact ih0 _ _ _)
   | (with_reducible exact ih1 _ _ _ _ _ _ _ _)
   | (with_reducible exact backseatref12_Even.mono _ _ _)
   | (with_reducible exact LeO.refl _)
   | (with_reducible exact LeO.none _)
   | (with_reducible refine LeO.ite ?_ ?_)
   | (with_reducible refine LeO.bind ?_ (fun _ => ?_))
   | exact ih0 _ _ _
   | exact ih1 _ _ _ _ _ _ _ _
   | exact backseatref12_Even.mono _ _ _
   | exact LeO.none _
   | refine LeO.ite ?_ ?_
   | refine LeO.bind ?_ (fun _ => ?_)
  ·intro y0 y1 y2 y3 y4 y5 y6 y7
   unfold backseatref12_Line.l0
   repeat' first
   | (with_reducible exact ih0 _ _ _)
   | (with_reducible exact ih1 _ _ _ _ _ _ _ _)
   | (with_reducible exact backseatref12_Even.mono _ _ _)
   | (with_reducible exact LeO.refl _)
   | (with_reducible exact LeO.none _)
   | (with_reducible refine LeO.ite ?_ ?_)
   | (with_reducible refine LeO.bind ?_ (fun _ => ?_))
   | exact ih0 _ _ _
   | exact ih1 _ _ _ _ _ _ _ _
   | exact backseatref12_Even.mono _ _ _
   | exact LeO.none _
   | refine LeO.ite ?_ ?_
   | refine LeO.bind ?_ (fun _ => ?_)
theorem backseatref12_Line.mono : ∀ a0 a1 a2 a3 k, LeO (backseatref12_Line.f k a0 a1 a2 a3) (backseatref12_Line.f (k + 1) a0 a1 a2 a3) := by
 intro a0 a1 a2 a3 k
 obtain ⟨ih0, ih1⟩ := backseatref12_Line.mono_l k
 unfold backseatref12_Line.f
 repeat' first
  | (with_reducible exact ih0 _ _ _)
  | (with_reducible exact ih1 _ _ _ _ _ _ _ _)
  | (with_reducible exact backseatref12_Even.mono _ _ _)
  | (with_reducible exact LeO.refl _)
  | (with_reducible exact LeO.none _)
  | (with_reducible refine LeO.ite ?_ ?_)
  | (with_reducible refine LeO.bind ?_ (fun _ => ?_))
  | exact ih0 _ _ _
  | exact ih1 _ _ _ _ _ _ _ _
  | exact backseatref12_Even.mono _ _ _
  | exact LeO.none _
  | refine LeO.ite ?_ ?_
  | refine LeO.bind ?_ (fun _ => ?_)
def backseatref12_Line.T11 : Bool × List (List Nat × List Nat) := (true, [([], []), ([0], [0]), ([], []), ([], []), ([2, 3], [2, 3]), ([4], [4]), ([], []), ([], []), ([6, 7], [6, 7]), ([8], [8]), ([5, 9], [5, 9]), ([10], [10]), ([1, 11], [1, 11]), ([0, 1, 2, 3, 4, 5, 6, 7, 8, 9, 10, 11, 12], []), ([13, 12, 12, 0, 1, 2, 3, 4, 5, 6, 7, 8, 9, 10, 11, 12], [12, 13])])
def backseatref12_Line.B11 : List Nat := [0, 1, 0, 0, 12, 28, 0, 0, 192, 448, 1020, 2044, 4095, 8191, 16383]
theorem backseatref12_Line.tab11 : rtab .any (opsOf Try.f54 11) = backseatref12_Line.T11 := by kernel_rfl
theorem backseatref12_Line.bits11 : waitsOk backseatref12_Line.T11.2 backseatref12_Line.B11 = true := by kernel_rfl
set_option maxHeartbeats 8000000 in
set_option maxRecDepth 100000 in
theorem backseatref12_Line.calls (k : Nat) (A0 : Option Addr) (c0 : Nat) (l0 : List Int) (a1 : Int) (a2 : Int) (a3 : Int) (r1 : Int) (r2 : Int) (r3 : Int) (r4 : List (S31)) (r5 : Bool) (w : World) (hr0 : Kd.C (Kd.int .i64) w A0 l0.length l0) (hc0 : l0.length ≤ c0) (h : backseatref12_Line.f k l0 a1 a2 a3 = some (r1, r2, r3, r4, r5)) :
 Calls Try.prog 54 #[.slice A0 l0.length c0, .int .i64 a1, .int .i64 a2, .int .i64 a3] w fun e w' => ∃ v3_ : Value, e = .returned (.agg #[.int .i64 r1, .int .i64 r2, .int .i64 r3, v3_, .bool r5]) ∧ Kd.R k31 31 w' w.heap.size (fun _ => True) v3_ r4 ∧ Below w.heap.size w w' := by
 have hu37 := Try.underlying37
 have hu31 := Try.underlying31
 have HR0 := zM hr0
 have HC0 := zM hc0
 clear hr0 hc0
 have HB := zM (Below.refl w.heap.size w)
 have H : (if (l0.length : Int) = 1 then (if 0 < (l0.length : Int) then (some (0, rd l0 0, 0, ([] : List (S31)), true)) else (none)) else (if a1 = 2 then (backseatref12_Line.j0 k l0 a1 a3) else (backseatref12_Line.j0 k l0 a1 a2))) = some (r1, r2, r3, r4, r5) := h
 clear h
 by_cases c5 : (l0.length : Int) = 1
 ·rw [if_pos c5] at H
  have c5b0 : ((l0.length : Int) == 1) = true := beq_iff_eq.mpr c5
  have c5b1 : ((l0.length : Int) != 1) = false := bne_eq_false_iff_eq.mpr c5
  clear c5
  by_cases c6 : 0 < (l0.length : Int)
  ·rw [if_pos c6] at H
   have c6b0 : decide (0 < (l0.length : Int)) = true := decide_eq_true c6
   have c6b1 : decide (0 < l0.length) = true := decide_eq_true (by omega)
   clear c6
   simp only [Option.some.injEq, Prod.mk.injEq] at H
   obtain ⟨rfl, rfl, rfl, rfl, rfl⟩ := H
   go_enter Try.func54, Try.ntmps54
   go_wp2_with (first | ((with_reducible refine gate_dst (N := 8) rfl ?_); refine box_event ?hg (N := 8) ?hd (cs := #[.int .i64 0, .int .i64 0, .int .i64 0, .slice none 0 0, .bool false]) (t := 37) ?hr ?_; (case hd => rfl); (case hg => rfl); (case hr => first | (go_simp; done) | (go_simp; rfl)); intro gb373 hg w7 hbox hb; have BK373 := zM (hbox); have GW373 := zM ((by rw [hg]; exact (below_size (by first | exact HB.out | exact zN HB.out _ | exact zD HB.out)) : w.heap.size ≤ gb373)); have GE373 := GW373; replace HB := zM (below_step (by first | exact HB.out | exact zN HB.out _ | exact zD HB.out) hb); clear hb hbox hg; have p374 : 0 ≤ (0 : Int) := (by omega); have q374 : 0 < (l0.length : Int) := of_decide_eq_true (by first | (with_reducible assumption) | assumption); obtain ⟨ad374, e374, hx374_0⟩ := Kd.at_int HR0.out 0 p374 q374; cases e374; have qi374 : (0 < l0.length) = True := eq_true (by omega); (try rw [show ((0 : Int)).toNat = 0 from rfl] at hx374_0); (try rw [Addr.add_zero'] at hx374_0); replace hx374_0 := (HB.out.cell (zL w _ hx374_0)).trans hx374_0; replace p374 := eq_true p374; replace q374 := eq_true q374; obtain ⟨hcz8_0, hcz8_1, hcz8_2, hcz8_3, hcz8_4, hfz8_0, hfz8_1, hfz8_2, hfz8_3, hfz8_4⟩ := cz5 BK373.out))
   refine bodyPost_ret (results_cell_row rfl _ _ gb373 37 #[.int .i64 0, .int .i64 (rd l0 0), .int .i64 0, .slice none 0 0, .bool true] (0, 0) _ rfl (by exact (put5 BK373.out)) Try.underlying37 rfl (by kernel_rfl)) rfl ?_
   exact ⟨_, by first | rfl | (simp [errW_none, errW_some] <;> rfl) | (simp [*, errW_none, errW_some] <;> rfl), by first | exact Kd.R_nil _ _ _ _ _ | exact Kd.N_nil _ _ _ _ _ | exact Kd.V_nil _ _ _ _ _ | exact Kd.Q_nil _ _ _ _ _ | exact Kd.S_nil _ _ _ _ _, by repeat first | refine zS ?_ GE373.out | exact HB.out | apply zA | apply zN | apply zD⟩
  ·rw [if_neg c6] at H
   exact absurd H (by simp)
 ·rw [if_neg c5] at H
  have c5b0 : ((l0.length : Int) == 1) = false := beq_eq_false_iff_ne.mpr c5
  have c5b1 : ((l0.length : Int) != 1) = true := bne_iff_ne.mpr c5
  have HC9 := zM H
  clear H
  go_enter Try.func54, Try.ntmps54
  go_upto_if 23 with (first | ((with_reducible refine gate_dst (N := 8) rfl ?_); refine box_event ?hg (N := 8) ?hd (cs := #[.int .i64 0, .int .i64 0, .int .i64 0, .slice none 0 0, .bool false]) (t := 37) ?hr ?_; (case hd => rfl); (case hg => rfl); (case hr => first | (go_simp; done) | (go_simp; rfl)); intro gb373 hg w10 hbox hb; have BK373 := zM (hbox); have GW373 := zM ((by rw [hg]; exact (below_size (by first | exact HB.out | exact zN HB.out _ | exact zD HB.out)) : w.heap.size ≤ gb373)); have GE373 := GW373; replace HB := zM (below_step (by first | exact HB.out | exact zN HB.out _ | exact zD HB.out) hb); clear hb hbox hg))
  (try simp only [Act.put, List.setIfInBounds_toArray, List.set_cons_zero, List.set_cons_succ])
  go_cut [9] (fun v9 wc => ∃ (kq : Nat) (x9_8 : Int), v9 = .int .i64 x9_8 ∧ Aside0 (backseatref12_Line.j0 kq l0 a1 x9_8 = some (r1, r2, r3, r4, r5)) ∧ Aside0 (kq ≤ k) ∧ Aside0 (wc.heap[gb373]? = some (.cells #[.int .i64 0, .int .i64 0, .int .i64 0, (.slice none 0 0), .bool false] 37 (0, 0))) ∧ Aside0 (Below w.heap.size w wc))
  case first =>
   have H := HC9.out
   clear HC9
   by_cases c11 : a1 = 2
   ·rw [if_pos c11] at H
    have c11b0 : (a1 == 2) = true := beq_iff_eq.mpr c11
    have c11b1 : (a1 != 2) = false := bne_eq_false_iff_eq.mpr c11
    clear c11
    (first | rw [c11b0] | (simp only [i64_w, i32_w]; rw [c11b0]) | skip)
    have H' := zM H
    clear H
    go_wp2
    go_meet
    case rel => exact ⟨_, (a3), (by first | rfl | (simp; done) | (simp [*]; done)), H', ⟨by first | omega | exact Nat.le_refl _⟩, ⟨by (with_reducible repeat (first | refine blk_drewN ?_ _ | refine blk_drew ?_ | refine blk_alloc ?_ _)); exact BK373.out⟩, ⟨by repeat first | refine zS ?_ GE373.out | exact HB.out | apply zA | apply zN | apply zD⟩⟩
   ·rw [if_neg c11] at H
    have c11b0 : (a1 == 2) = false := beq_eq_false_iff_ne.mpr c11
    have c11b1 : (a1 != 2) = true := bne_iff_ne.mpr c11
    (first | rw [c11b0] | (simp only [i64_w, i32_w]; rw [c11b0]) | skip)
    have H' := zM H
    clear H
    go_wp2
    go_meet
    case rel => exact ⟨_, (a2), (by first | rfl | (simp; done) | (simp [*]; done)), H', ⟨by first | omega | exact Nat.le_refl _⟩, ⟨by (with_reducible repeat (first | refine blk_drewN ?_ _ | refine blk_drew ?_ | refine blk_alloc ?_ _)); exact BK373.out⟩, ⟨by repeat first | refine zS ?_ GE373.out | exact HB.out | apply zA | apply zN | apply zD⟩⟩
  case rest =>
   clear HC9
   (try clear c1); (try clear p2); (try clear p3); (try clear q3); (try clear hx3); (try clear qi3); (try clear c5); (try clear c5b0); (try clear c5b1); (try clear c6); (try clear c6b0); (try clear c6b1); (try clear c11); (try clear c11b0); (try clear c11b1); (try clear hcz8_0); (try clear hcz8_1); (try clear hcz8_2); (try clear hcz8_3); (try clear hcz8_4); (try clear hfz8_0); (try clear hfz8_1); (try clear hfz8_2); (try clear hfz8_3); (try clear hfz8_4); (try clear hx374_0); (try clear p374); (try clear q374)
   obtain ⟨kq, x9_8, rfl, HA, HJ8, BK373, HB⟩ := hcut
   cases kq with
   | zero => exact absurd HA.out (by simp [backseatref12_Line.j0])
   | succ kj8 =>
    have H := HA.out
    clear HA
    simp only [backseatref12_Line.j0] at H
    replace H := Option.bind_eq_some_iff.mp H
    obtain ⟨t375, A120, H⟩ := H
    replace H : (backseatref12_Line.l0 kj8 l0 t375 (t375.length : Int) 0 a1 0 0 ([] : List (S31))) = some (r1, r2, r3, r4, r5) := H
    have A12 := zM A120
    clear A120
    have H' := zM H
    clear H
    go_wp2_with (first | ((with_reducible refine gate_callee (f := 13) rfl ?_); refine ga (some 28) rfl rfl Try.func13 (by kernel_rfl) rfl #[.int .i64 x9_8, .int .i64 (l0.length : Int)] rfl ?_; (with_reducible refine (backseatref12_Even.calls kj8 x9_8 (l0.length : Int) t375 _ A12.out).mono ?_); rintro e w13 ⟨v376, rfl, ho0, hb⟩; refine ⟨_, rfl, ?_⟩; have HO377 := zM (Kd.R_lower ho0 (below_size (by repeat first | refine zS ?_ GE373.out | exact HB.out | apply zA | apply zN | apply zD))); replace BK373 := zM (bb hb BK373.out); replace HB := zM (below_step (by repeat first | refine zS ?_ GE373.out | exact HB.out | apply zA | apply zN | apply zD) hb); (try clear hb); (try clear hb2); (try clear hk); (try clear hi); (try clear ho0)) | ((with_reducible refine gate_dst (N := 11) rfl ?_); refine box_event ?hg (N := 11) ?hd (cs := #[.int .i64 0, .int .i64 0, .int .i64 0, .slice none 0 0]) (t := 31) ?hr ?_; (case hd => rfl); (case hg => rfl); (case hr => first | (go_simp; done) | (go_simp; rfl)); intro gb378 hg w14 hbox hb; have BK378 := zM (hbox); have GW378 := zM ((by rw [hg]; exact (below_size (by repeat first | refine zS ?_ GE373.out | exact HB.out | apply zA | apply zN | apply zD)) : w.heap.size ≤ gb378)); have GE378 := GW378; have NB373_378 := zM ((by rw [hg]; exact lt1 BK373.out : gb373 ≠ gb378)); have NB378_373 := zM ((by rw [hg]; exact gt1 BK373.out : gb378 ≠ gb373)); replace HO377 := zM (Kd.R_below (by (with_reducible repeat (first | apply Kd.R_alloc | apply Kd.R_drewN | apply Kd.R_drew)); exact HO377.out) hb); replace BK373 := zM (bb hb BK373.out); replace HB := zM (below_step (by repeat first | refine zS ?_ GE373.out | exact HB.out | apply zA | apply zN | apply zD) hb); clear hb hbox hg; have hnb15 := NB378_373.out; have hnc15 := NB373_378.out; obtain ⟨hcz16_0, hcz16_1, hcz16_2, hcz16_3, hfz16_0, hfz16_1, hfz16_2, hfz16_3⟩ := cz4 BK378.out; obtain ⟨Ao17, co17, eo17⟩ := Kd.R_slice HO377.out; subst eo17))
    go_loopg [33] kj8 (fun kq v33 w' => ∃ (x33_2 : Int) (x379003_2 : List (S31)) (u379003 : Value), v33 = .int .i64 x33_2 ∧ Aside0 (backseatref12_Line.l0 kq l0 t375 (t375.length : Int) x33_2 a1 0 0 x379003_2 = some (r1, r2, r3, r4, r5)) ∧ Aside0 (kq ≤ kj8) ∧ Aside0 (Kd.R (Kd.int .i64) 3 w' w.heap.size (fun _ => True) (.slice Ao17 t375.length co17) t375) ∧ Aside0 (Kd.R k31 31 w' w.heap.size (fun k_ => k_ ≠ gb378) u379003 x379003_2) ∧ Aside0 (w'.heap[gb373]? = some (.cells #[.int .i64 0, .int .i64 0, .int .i64 0, (.slice none 0 0), .bool false] 37 (0, 0))) ∧ Aside0 (w'.heap[gb378]? = some (.cells #[.int .i64 a1, .int .i64 0, .int .i64 0, u379003] 31 (0, 0))) ∧ Aside0 (Below w.heap.size w w'))
    case atStart => exact ⟨(0), (([] : List (S31))), (.slice none 0 0), (by first | rfl | (simp; done) | (simp [*]; done)), H', ⟨Nat.le_refl _⟩, ⟨by (with_reducible repeat (first | apply Kd.R_alloc | apply Kd.R_drewN | apply Kd.R_drew)); exact Kd.R_mono (Kd.R_far (p := ⟨gb378, 3, none⟩) (Kd.R_far (p := ⟨gb378, 2, none⟩) (Kd.R_far (p := ⟨gb378, 1, none⟩) (Kd.R_far (p := ⟨gb378, 0, none⟩) (Kd.R_types HO377.out BK378.out (by decide)) (fun _ hk => hk.2) (.int .i64 a1)) (fun _ hk => hk.2) (.int .i64 0)) (fun _ hk => hk.2) (.int .i64 0)) (fun _ hk => hk.2) (.slice none 0 0)) (fun _ hk => trivial)⟩, ⟨by first | exact Kd.R_nil _ _ _ _ _ | exact Kd.N_nil _ _ _ _ _ | exact Kd.V_nil _ _ _ _ _ | exact Kd.Q_nil _ _ _ _ _ | exact Kd.S_nil _ _ _ _ _⟩, ⟨by exact (far4 NB373_378.out BK373.out)⟩, ⟨by exact (put4 BK378.out)⟩, ⟨by repeat first | refine zS ?_ GE373.out | refine zS ?_ GE378.out | exact HB.out | apply zA | apply zN | apply zD⟩⟩
    case round =>
     clear H'
     (try clear c1); (try clear p2); (try clear p3); (try clear q3); (try clear hx3); (try clear qi3); (try clear c5); (try clear c5b0); (try clear c5b1); (try clear c6); (try clear c6b0); (try clear c6b1); (try clear c11); (try clear c11b0); (try clear c11b1); (try clear c13); (try clear c15); (try clear hcz16_0); (try clear hcz16_1); (try clear hcz16_2); (try clear hcz16_3); (try clear hcz8_0); (try clear hcz8_1); (try clear hcz8_2); (try clear hcz8_3); (try clear hcz8_4); (try clear hfz16_0); (try clear hfz16_1); (try clear hfz16_2); (try clear hfz16_3); (try clear hfz8_0); (try clear hfz8_1); (try clear hfz8_2); (try clear hfz8_3); (try clear hfz8_4); (try clear hx374_0); (try clear p2); (try clear p3); (try clear p374); (try clear q3); (try clear q374)
     obtain ⟨x33_2, x379003_2, u379003, rfl, HA, HK2, HO_10, HO_379003, BK373, BK378, HB⟩ := hrel
     cases gk with
     | zero => exact absurd HA.out (by simp [backseatref12_Line.l0])
     | succ k2 =>
      have H := HA.out
      clear HA
      simp only [backseatref12_Line.l0] at H
      by_cases c18 : x33_2 < (t375.length : Int)
      ·rw [if_pos c18] at H
       have c18b0 : decide (x33_2 < (t375.length : Int)) = true := decide_eq_true c18
       clear c18
       by_cases c19 : 0 ≤ x33_2
       ·rw [if_pos c19] at H
        have c19b0 : decide (0 ≤ x33_2) = true := decide_eq_true c19
        clear c19
        by_cases c20 : x33_2 < (l0.length : Int)
        ·rw [if_pos c20] at H
         have c20b0 : decide (x33_2 < (l0.length : Int)) = true := decide_eq_true c20
         clear c20
         by_cases c21 : x33_2 < (t375.length : Int)
         ·rw [if_pos c21] at H
          have c21b0 : decide (x33_2 < (t375.length : Int)) = true := decide_eq_true c21
          clear c21
          by_cases c22 : x379003_2.length < 2932031007402
          ·rw [if_pos c22] at H
           have LMc22 := zM c22
           clear c22
           obtain ⟨y381, hy381⟩ : ∃ y_ : List (S31), y_ = (x379003_2 ++ [(⟨0, rd l0 x33_2, rd t375 x33_2, ([] : List (S31))⟩ : S31)]) := ⟨_, rfl⟩
           replace H : (backseatref12_Line.l0 k2 l0 t375 (t375.length : Int) (wrap64 (x33_2 + 1)) a1 0 0 y381) = some (r1, r2, r3, r4, r5) := by first | (rw [hy381]; with_reducible exact H) | (have H2_ := (Option.bind_some _ _).symm.trans H; rw [hy381]; with_reducible exact H2_) | (have H2_ := (Option.bind_some _ _).symm.trans H; with_reducible exact H2_) | with_reducible exact H | (rw [hy381]; exact H) | exact H
           have Ny381 := zM hy381
           clear hy381
           have H' := zM H
           clear H
           try go_wp2
           replace HO_10 := zM (Kd.R_drew HO_10.out); replace HO_379003 := zM (Kd.R_drew HO_379003.out); replace BK373 := zM (blk_drew BK373.out); replace BK378 := zM (blk_drew BK378.out); replace HB := zM (zD HB.out)
           have p379 : 0 ≤ (x33_2 : Int) := of_decide_eq_true (by first | (with_reducible assumption) | assumption)
           have q379 : x33_2 < (l0.length : Int) := of_decide_eq_true (by first | (with_reducible assumption) | assumption)
           obtain ⟨ad379, e379, hx379_0⟩ := Kd.at_int HR0.out x33_2 p379 q379
           have hw379_0 := hx379_0
           cases e379
           replace hx379_0 := (HB.out.cell (zL w _ hx379_0)).trans hx379_0
           replace p379 := eq_true p379
           replace q379 := eq_true q379
           have p380 : 0 ≤ (x33_2 : Int) := of_decide_eq_true (by first | (with_reducible assumption) | assumption)
           have q380 : x33_2 < (t375.length : Int) := of_decide_eq_true (by first | (with_reducible assumption) | assumption)
           obtain ⟨ad380, e380, hx380_0⟩ := Kd.at_int (Kd.R_reads' HO_10.out).2.2 x33_2 p380 q380
           cases e380
           replace p380 := eq_true p380
           replace q380 := eq_true q380
           refine start_ (n := 15) (S := fun w' => w'.cell? ⟨gb378, 0, none⟩ = some (.int .i64 a1) ∧ w'.cell? ⟨gb378, 1, none⟩ = some (.int .i64 0) ∧ w'.cell? ⟨gb378, 2, none⟩ = some (.int .i64 0) ∧ w'.cell? ⟨gb378, 3, none⟩ = some (u379003) ∧ w'.cell? (ad379.add (x33_2).toNat) = some (.int .i64 (rd l0 x33_2)) ∧ w'.cell? (ad380.add (x33_2).toNat) = some (.int .i64 (rd t375 x33_2))) (ds := [12, 14]) m54_0_ (by kernel_rfl) rfl rfl ⟨(blk_cell BK378.out 0).trans rfl, (blk_cell BK378.out 1).trans rfl, (blk_cell BK378.out 2).trans rfl, (blk_cell BK378.out 3).trans rfl, ((HB.out.cell (zL w _ hw379_0)).trans hw379_0), hx380_0⟩ (fun hHeld => ?_); refine with_tabW backseatref12_Line.tab11 backseatref12_Line.bits11 (fun HT_ HW_ => ?_)
           generalize wr.drew = w23 at HO_10 HO_379003 BK373 BK378 HB hx379_0 hx380_0 hHeld ⊢
           refine pv (v := ?_) (a' := ?_) HT_.out 0 (some 36) m54_1_ ?_ ?_ ?_; rotate_left 2; (·intro w'; go_simp; with_reducible rfl); (·simp only [Act.put, s1, s2, s3, i64_w, i32_w]; rfl)
           refine pv (v := ?_) (a' := ?_) HT_.out 2 (some 38) m54_2_ ?_ ?_ ?_; rotate_left 2; (·intro w'; go_simp; with_reducible rfl); (·simp only [Act.put, s1, s2, s3, i64_w, i32_w]; rfl)
           refine pv (v := ?_) (a' := ?_) HT_.out 3 (some 39) m54_3_ ?_ ?_ ?_; rotate_left 2; (·intro w'; go_simp; with_reducible rfl); (·simp only [Act.put, s1, s2, s3, i64_w, i32_w]; rfl)
           refine pv (v := ?_) (a' := ?_) HT_.out 4 (some 40) m54_4_ ?_ ?_ ?_; rotate_left 2; (·intro w'; go_simp; with_reducible rfl); (·simp only [Act.put, s1, s2, s3, i64_w, i32_w]; rfl)
           refine pv (v := ?_) (a' := ?_) HT_.out 6 (some 42) m54_5_ ?_ ?_ ?_; rotate_left 2; (·intro w'; go_simp; with_reducible rfl); (·simp only [Act.put, s1, s2, s3, i64_w, i32_w]; rfl)
           refine pv (v := ?_) (a' := ?_) HT_.out 7 (some 43) m54_6_ ?_ ?_ ?_; rotate_left 2; (·intro w'; go_simp; with_reducible rfl); (·simp only [Act.put, s1, s2, s3, i64_w, i32_w]; rfl)
           refine pv (v := ?_) (a' := ?_) HT_.out 8 (some 44) m54_7_ ?_ ?_ ?_; rotate_left 2; (·intro w'; go_simp; with_reducible rfl); (·simp only [Act.put, s1, s2, s3, i64_w, i32_w]; rfl)
           refine take_ (i := 1) (N := some 37) (v := ?_) (a' := ?_) m54_8_ rfl rfl (take_ofW HT_.out HW_.out (by kernel_rfl)) (fun _ _ _ h => h) (Or.inl ⟨by rfl, ?_⟩) hHeld ?_ ?_; rotate_left; (·rintro w' ⟨s0, s1, s2, s3, s4, s5⟩; go_simp; with_reducible rfl); rotate_left; (·simp only [Act.put, s1, s2, s3, i64_w, i32_w]; rfl)
           refine take_ (i := 5) (N := some 41) (v := ?_) (a' := ?_) m54_9_ rfl rfl (take_ofW HT_.out HW_.out (by kernel_rfl)) (fun _ _ _ h => h) (Or.inl ⟨by rfl, ?_⟩) hHeld ?_ ?_; rotate_left; (·rintro w' ⟨s0, s1, s2, s3, s4, s5⟩; go_simp; with_reducible rfl); rotate_left; (·simp only [Act.put, s1, s2, s3, i64_w, i32_w]; rfl)
           refine take_ (i := 9) (N := some 45) (v := ?_) (a' := ?_) m54_10_ rfl rfl (take_ofW HT_.out HW_.out (by kernel_rfl)) (fun _ _ _ h => h) (Or.inl ⟨by rfl, ?_⟩) hHeld ?_ ?_; rotate_left; (·rintro w' ⟨s0, s1, s2, s3, s4, s5⟩; go_simp; with_reducible rfl); rotate_left; (·simp only [Act.put, s1, s2, s3, i64_w, i32_w]; rfl)
           refine pv (v := ?_) (a' := ?_) HT_.out 10 (some 46) m54_11_ ?_ ?_ ?_; rotate_left 2; (·intro w'; go_simp; with_reducible rfl); (·simp only [Act.put, s1, s2, s3, i64_w, i32_w]; rfl)
           refine one_ (i := 11) (N := some 47) m54_12_ rfl rfl (one_of HT_.out (by kernel_rfl)) (by decide) (fun K hK => ?_)
           refine value_ (w1 := ?_) (v := ?_) (by rfl) rfl ?_ ?_
           rotate_left 2
           ·go_simp
            constructor
            ·rfl
            ·rfl
           refine hK.out _ _ ⟨(blk_cell (blk_alloc BK378.out _) 0).trans rfl, (blk_cell (blk_alloc BK378.out _) 1).trans rfl, (blk_cell (blk_alloc BK378.out _) 2).trans rfl, (blk_cell (blk_alloc BK378.out _) 3).trans rfl, (World.cell?_alloc_lt _ _ _ (zL _ _ (((HB.out.cell (zL w _ hw379_0)).trans hw379_0)))).trans (((HB.out.cell (zL w _ hw379_0)).trans hw379_0)), (World.cell?_alloc_lt _ _ _ (zL _ _ (hHeld.2.2.2.2.2))).trans (hHeld.2.2.2.2.2)⟩ (fun hHeld => ?_)
           clear hK K
           refine norm_ (a' := ?_) ?_ ?_
           rotate_left
           ·show Act.put _ (some 47) _ = _
            simp only [Act.put, s1, s2, s3, i64_w, i32_w]
            rfl
           refine last_ (i := 12) (N := some 48) m54_13_ rfl rfl (one_of HT_.out (by kernel_rfl)) (by decide) (fun K hK => ?_)
           refine Kd.R_append_step k31 (w0 := w) w.heap.size (by rfl) (.tmp 37) (.tmp 47) 29 31 (.agg #[(.int .i64 0), (.int .i64 0), (.int .i64 0), (.slice none 0 0)]) 48 rfl Try.underlying29 info31 rfl (by decide) (by omega) u379003 x379003_2 (⟨0, rd l0 x33_2, rd t375 x33_2, ([] : List (S31))⟩ : S31) [.int .i64 0, .int .i64 (rd l0 x33_2), .int .i64 (rd t375 x33_2), .slice none 0 0] (fun k_ => k_ ≠ gb378) (fun k_ => ((fun k_ => k_ ≠ gb378)) k_ ∧ some k_ ≠ (u379003 : Value).ownBlock) rfl rfl ?aP (fun _ hk => hk) ?aF ?aO ?aB ?aS ?aL ?_
           (case aP => exact k31_mkM _ _ _ (⟨0, rd l0 x33_2, rd t375 x33_2, ([] : List (S31))⟩ : S31) (Kd.R_nil _ _ _ _ _))
           (case aB => exact (by repeat first | refine zS ?_ GE373.out | refine zS ?_ GE378.out | exact HB.out | apply zA | apply zN | apply zD))
           (case aF => exact (fun k_ hk => Kd.freshB (g := gb378) (o := .cells #[.int .i64 a1, .int .i64 0, .int .i64 0, u379003] 31 (0, 0)) (by (with_reducible repeat (first | refine blk_drewN ?_ _ | refine blk_drew ?_ | refine blk_alloc ?_ _)); exact BK378.out) k_ hk))
           (case aO => exact (by (with_reducible repeat (first | apply Kd.R_alloc | apply Kd.R_drewN | apply Kd.R_drew)); exact HO_379003.out))
           (case aS => exact (below_size (by repeat first | refine zS ?_ GE373.out | refine zS ?_ GE378.out | exact HB.out | apply zA | apply zN | apply zD)))
           (case aL => have := LMc22.out; omega)
           intro v382 w24 ho hb hg hat
           rw [← Ny381.out] at ho
           have n0_ := zM (Kd.R_over' (by (with_reducible repeat (first | apply Kd.R_alloc | apply Kd.R_drewN | apply Kd.R_drew)); exact HO_10.out) (Kd.R_typed (by (with_reducible repeat (first | apply Kd.R_alloc | apply Kd.R_drewN | apply Kd.R_drew)); exact HO_379003.out)) (by decide) hg)
           have n1_ := zM (blk_grown (g := gb373) (o := .cells #[.int .i64 0, .int .i64 0, .int .i64 0, .slice none 0 0, .bool false] 37 (0, 0)) (by (with_reducible repeat (first | refine blk_drewN ?_ _ | refine blk_drew ?_ | refine blk_alloc ?_ _)); exact BK373.out) hg (Kd.R_ne HO_379003.out BK373.out (by decide)))
           have n2_ := zM (blk_grown (g := gb378) (o := .cells #[.int .i64 a1, .int .i64 0, .int .i64 0, u379003] 31 (0, 0)) (by (with_reducible repeat (first | refine blk_drewN ?_ _ | refine blk_drew ?_ | refine blk_alloc ?_ _)); exact BK378.out) hg (Kd.R_away HO_379003.out (fun _ hk => hk)))
           have n3_ := zM (hb)
           have n4_ := zM (ho)
           clear HO_10
           clear BK373
           clear BK378
           clear HB
           clear HO_379003
           have HO_10 := n0_
           have BK373 := n1_
           have BK378 := n2_
           have HB := n3_
           have HO383 := n4_
           clear n0_ n1_ n2_ n3_ n4_
           clear ho hb hg hat
           obtain ⟨Ao25, co25, eo25⟩ := Kd.R_slice HO383.out
           (first | subst eo25 | (injection eo25 with f1_ f2_ f3_; have f4_ := f1_.symm; have f5_ := f3_.symm; clear f1_ f2_ f3_; subst f4_; subst f5_))
           refine hK.out _ _ ?_
           clear hK K
           refine norm_ (a' := ?_) ?_ ?_
           rotate_left
           ·show Act.put _ (some 48) _ = _
            simp only [Act.put, s1, s2, s3, i64_w, i32_w]
            rfl
           refine pv (v := ?_) (a' := ?_) HT_.out 13 (some 49) m54_14_ ?_ ?_ ?_; rotate_left 2; (·intro w'; go_simp; with_reducible rfl); (·simp only [Act.put, s1, s2, s3, i64_w, i32_w]; rfl)
           refine last_ (i := 14) (N := none) m54_15_ rfl rfl (one_of HT_.out (by kernel_rfl)) (by decide) (fun K hK => ?_)
           have hs26 : w24.cell? ⟨gb378, 3, none⟩ = some (u379003) := (blk_cell BK378.out 3).trans rfl
           have hfs26 := blk_frozen BK378.out 3
           have hns26_0 := NB373_378.out
           have hms26_0 := NB378_373.out
           refine skip_ (w1 := ?_) (by rfl) rfl ?_ ?_
           rotate_left
           ·go_simp
            rfl
           refine hK.out _ _ ?_
           clear hK K
           refine done_ (done_of HT_.out (by kernel_rfl)) ?_
           try go_wp2
           go_roundg k2
           case measure => have := HJ8.out; have := HK2.out; omega
           case rel => exact ⟨(wrap64 (x33_2 + 1)), (y381), (.slice Ao25 y381.length co25), (by first | rfl | (simp; done) | (simp [*]; done)), H', ⟨by have := HJ8.out; have := HK2.out; omega⟩, ⟨by (with_reducible repeat (first | apply Kd.R_alloc | apply Kd.R_drewN | apply Kd.R_drew)); exact Kd.R_mono (Kd.R_far (p := ⟨gb378, 3, none⟩) (Kd.R_types HO_10.out BK378.out (by decide)) (fun _ hk => hk.2) (.slice Ao25 y381.length co25)) (fun _ hk => trivial)⟩, ⟨by (with_reducible repeat (first | apply Kd.R_alloc | apply Kd.R_drewN | apply Kd.R_drew)); exact Kd.R_mono (Kd.R_far (p := ⟨gb378, 3, none⟩) (Kd.R_mono HO383.out (fun k_ hk => (⟨hk, hk⟩ : _ ∧ k_ ≠ gb378))) (fun _ hk => hk.2) (.slice Ao25 y381.length co25)) (fun _ hk => hk.1)⟩, ⟨by exact (blk_far BK373.out NB373_378.out _)⟩, ⟨by exact (blk_put BK378.out 3 _ rfl)⟩, ⟨by repeat first | refine zS ?_ GE373.out | refine zS ?_ GE378.out | exact HB.out | apply zA | apply zN | apply zD⟩⟩
          ·rw [if_neg c22] at H
           exact absurd H (by simp)
         ·rw [if_neg c21] at H
          exact absurd H (by simp)
        ·rw [if_neg c20] at H
         exact absurd H (by simp)
       ·rw [if_neg c19] at H
        exact absurd H (by simp)
      ·rw [if_neg c18] at H
       have c18b0 : decide (x33_2 < (t375.length : Int)) = false := decide_eq_false c18
       clear c18
       simp only [Option.some.injEq, Prod.mk.injEq] at H
       obtain ⟨rfl, rfl, rfl, rfl, rfl⟩ := H
       have hnb27 := NB378_373.out
       have hnc27 := NB373_378.out
       have hcz28_0 : wr.cell? ⟨gb378, 0, none⟩ = some (.int .i64 a1) := (blk_cell BK378.out 0).trans rfl
       have hcz28_1 : wr.cell? ⟨gb378, 1, none⟩ = some (.int .i64 0) := (blk_cell BK378.out 1).trans rfl
       have hcz28_2 : wr.cell? ⟨gb378, 2, none⟩ = some (.int .i64 0) := (blk_cell BK378.out 2).trans rfl
       have hcz28_3 : wr.cell? ⟨gb378, 3, none⟩ = some (u379003) := (blk_cell BK378.out 3).trans rfl
       have hfz28_0 := blk_frozen BK378.out 0
       have hfz28_1 := blk_frozen BK378.out 1
       have hfz28_2 := blk_frozen BK378.out 2
       have hfz28_3 := blk_frozen BK378.out 3
       obtain ⟨Ao29, co29, eo29⟩ := Kd.R_slice HO_379003.out
       subst eo29
       have hcz30_0 : wr.cell? ⟨gb373, 0, none⟩ = some (.int .i64 0) := (blk_cell BK373.out 0).trans rfl
       have hcz30_1 : wr.cell? ⟨gb373, 1, none⟩ = some (.int .i64 0) := (blk_cell BK373.out 1).trans rfl
       have hcz30_2 : wr.cell? ⟨gb373, 2, none⟩ = some (.int .i64 0) := (blk_cell BK373.out 2).trans rfl
       have hcz30_3 : wr.cell? ⟨gb373, 3, none⟩ = some (.slice none 0 0) := (blk_cell BK373.out 3).trans rfl
       have hcz30_4 : wr.cell? ⟨gb373, 4, none⟩ = some (.bool false) := (blk_cell BK373.out 4).trans rfl
       have hfz30_0 := blk_frozen BK373.out 0
       have hfz30_1 := blk_frozen BK373.out 1
       have hfz30_2 := blk_frozen BK373.out 2
       have hfz30_3 := blk_frozen BK373.out 3
       have hfz30_4 := blk_frozen BK373.out 4
       go_wp2
       (try rw [show decide (0 < t375.length) = decide ((t375.length : Int) > 0) from (by rw [decide_eq_decide]; omega)])
       refine bodyPost_ret (results_cell_row rfl _ _ gb373 37 #[.int .i64 a1, .int .i64 0, .int .i64 0, .slice Ao29 x379003_2.length co29, .bool (decide ((t375.length : Int) > 0))] (0, 0) _ rfl (by exact (put5 BK373.out)) Try.underlying37 rfl (by kernel_rfl)) rfl ?_
       exact ⟨_, by first | rfl | (simp [errW_none, errW_some] <;> rfl) | (simp [*, errW_none, errW_some] <;> rfl), by (with_reducible repeat (first | apply Kd.R_alloc | apply Kd.R_drewN | apply Kd.R_drew)); exact Kd.R_mono (Kd.R_far (p := ⟨gb373, 4, none⟩) (Kd.R_far (p := ⟨gb373, 3, none⟩) (Kd.R_far (p := ⟨gb373, 2, none⟩) (Kd.R_far (p := ⟨gb373, 1, none⟩) (Kd.R_far (p := ⟨gb373, 0, none⟩) (Kd.R_types HO_379003.out BK373.out (by decide)) (fun _ hk => hk.2) (.int .i64 a1)) (fun _ hk => hk.2) (.int .i64 0)) (fun _ hk => hk.2) (.int .i64 0)) (fun _ hk => hk.2) (.slice Ao29 x379003_2.length co29)) (fun _ hk => hk.2) (.bool (decide ((t375.length : Int) > 0)))) (fun _ hk => trivial), by repeat first | refine zS ?_ GE373.out | refine zS ?_ GE378.out | exact HB.out | apply zA | apply zN | apply zD⟩
end Go.Proofs.Ytplngfammfdemaa.Q
