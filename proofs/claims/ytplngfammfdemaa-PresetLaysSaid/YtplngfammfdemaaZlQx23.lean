-- A copy of the text YtplngfammfdemaaQx23 with what this claim does not reach left out (prune.py, a program of this project).
import Derived.Test.YtplngfammfdemaaZlGMul
import Derived.Test.YtplngfammfdemaaZlQx17
import Derived.Test.YtplngfammfdemaaZlQx22
import Derived.Test.YtplngfammfdemaaZlQx4
namespace Go.Proofs.Ytplngfammfdemaa.Q
open Go.RowKit Go.Proofs.Ytplngfammfdemaa Go.Proofs.YtplngfammfdemaaW.PrintWords Go.Proofs.YtplngfammfdemaaW.PrintLast Go.Proofs.YtplngfammfdemaaW.PrintMore
attribute [local go_sem] max2_int min2_int max_two min_two max_three min_three max_four min_four   -- for this text's walks alone
set_option linter.unusedVariables false
set_option linter.unusedSimpArgs false
def m55_0_ : Array Bool := mk_ 14 1
def m55_1_ : Array Bool := mk_ 14 3
def m55_2_ : Array Bool := mk_ 14 7
def m55_3_ : Array Bool := mk_ 14 15
def m55_4_ : Array Bool := mk_ 14 31
def m55_5_ : Array Bool := mk_ 14 63
def m55_6_ : Array Bool := mk_ 14 127
def m55_7_ : Array Bool := mk_ 14 255
def m55_8_ : Array Bool := mk_ 14 511
def m55_9_ : Array Bool := mk_ 14 1023
def m55_10_ : Array Bool := mk_ 14 2047
def m55_11_ : Array Bool := mk_ 14 8191
def m55_12_ : Array Bool := mk_ 14 4095
def m55_13_ : Array Bool := mk_ 14 6143
def m55_14_ : Array Bool := mk_ 14 16383
mutual
def backseatref12_Rows.l0 : Nat → List Int → Int → Int → Int → Option (Int × Int × Int × (List (S31)) × Bool)
 | 0, _, _, _, _ => none
 | k + 1, x0, x1, x2, x7 => if (wrap64 (x7 * x7)) < (x0.length : Int) then (backseatref12_Rows.l0 k x0 x1 x2 (wrap64 (x7 + 1))) else (if x7 = 0 then (none) else (if (wrap64 (Int.tdiv (wrap64 ((wrap64 ((x0.length : Int) + x7)) - 1)) x7)) = 1 then ((backseatref12_Line.f k x0 1 x1 x2).bind fun bt385 => (some (bt385.1, bt385.2.1, bt385.2.2.1, bt385.2.2.2.1, bt385.2.2.2.2))) else ((backseatref12_Even.f k x2 (wrap64 (Int.tdiv (wrap64 ((wrap64 ((x0.length : Int) + x7)) - 1)) x7))).bind fun t392 => (backseatref12_Rows.l1 k x0 x1 x7 t392 (t392.length : Int) 0 2 0 0 ([] : List (S31))))))
def backseatref12_Rows.l1 : Nat → List Int → Int → Int → List Int → Int → Int → Int → Int → Int → List (S31) → Option (Int × Int × Int × (List (S31)) × Bool)
 | 0, _, _, _, _, _, _, _, _, _, _ => none
 | k + 1, x0, x1, x7, x9, x40, x41, x396000, x396001, x396002, x396003 => if x41 < x40 then (if (wrap64 (x7 * (wrap64 (x41 + 1)))) > (x0.length : Int) then (if 0 ≤ (wrap64 (x7 * x41)) then (if (wrap64 (x7 * x41)) ≤ (x0.length : Int) then (if (x0.length : Int) ≤ (x0.length : Int) then (if 0 ≤ x41 then (if x41 < (x9.length : Int) then ((backseatref12_Line.f k ((x0.take ((x0.length : Int) : Int).toNat).drop ((wrap64 (x7 * x41)) : Int).toNat) 1 x1 (rd x9 x41)).bind fun bt398 => (if bt398.2.2.2.2 = true then (if x396003.length < 2932031007402 then (backseatref12_Rows.l1 k x0 x1 x7 x9 x40 (wrap64 (x41 + 1)) x396000 x396001 x396002 (x396003 ++ [(⟨bt398.1, bt398.2.1, rd x9 x41, bt398.2.2.2.1⟩ : S31)])) else (none)) else (some (0, 0, 0, ([] : List (S31)), false)))) else (none)) else (none)) else (none)) else (none)) else (none)) else (if 0 ≤ (wrap64 (x7 * x41)) then (if (wrap64 (x7 * x41)) ≤ (wrap64 (x7 * (wrap64 (x41 + 1)))) then (if (wrap64 (x7 * (wrap64 (x41 + 1)))) ≤ (x0.length : Int) then (if 0 ≤ x41 then (if x41 < (x9.length : Int) then ((backseatref12_Line.f k ((x0.take ((wrap64 (x7 * (wrap64 (x41 + 1)))) : Int).toNat).drop ((wrap64 (x7 * x41)) : Int).toNat) 1 x1 (rd x9 x41)).bind fun bt412 => (if bt412.2.2.2.2 = true then (if x396003.length < 2932031007402 then (backseatref12_Rows.l1 k x0 x1 x7 x9 x40 (wrap64 (x41 + 1)) x396000 x396001 x396002 (x396003 ++ [(⟨bt412.1, bt412.2.1, rd x9 x41, bt412.2.2.2.1⟩ : S31)])) else (none)) else (some (0, 0, 0, ([] : List (S31)), false)))) else (none)) else (none)) else (none)) else (none)) else (none))) else (some (x396000, x396001, x396002, x396003, decide ((x9.length : Int) > 0)))
end
def backseatref12_Rows.f (k : Nat) (l0 : List Int) (a1 : Int) (a2 : Int) : Option (Int × Int × Int × (List (S31)) × Bool) := backseatref12_Rows.l0 k l0 a1 a2 1
theorem backseatref12_Rows.mono_l : ∀ k, (∀ y0 y1 y2 y3, LeO (backseatref12_Rows.l0 k y0 y1 y2 y3) (backseatref12_Rows.l0 (k + 1) y0 y1 y2 y3)) ∧ (∀ y0 y1 y2 y3 y4 y5 y6 y7 y8 y9, LeO (backseatref12_Rows.l1 k y0 y1 y2 y3 y4 y5 y6 y7 y8 y9) (backseatref12_Rows.l1 (k + 1) y0 y1 y2 y3 y4 y5 y6 y7 y8 y9))
 | 0 => ⟨fun _ _ _ _ r h => by simp [backseatref12_Rows.l0] at h, fun _ _ _ _ _ _ _ _ _ _ r h => by simp [backseatref12_Rows.l1] at h⟩
 | k + 1 => by
  obtain ⟨ih0, ih1⟩ := backseatref12_Rows.mono_l k
  refine ⟨?_, ?_⟩
  ·intro y0 y1 y2 y3
   unfold backseatref12_Rows.l0
   repeat' first
   | (with_reducible exact ih0 _ _ _ _)
   | (with_reducible exact ih1 _ _ _ _ _ _ _ _ _ _)
   | (with_reducible exact backseatref12_Even.mono _ _ _)
   | (with_reducible exact backseatref12_Line.mono _ _ _ _ _)
   | (with_reducible exact LeO.refl _)
   | (with_reducible exact LeO.none _)
   | (with_reducible refine LeO.ite ?_ ?_)
   | (with_reducible refine LeO.bind ?_ (fun _ => ?_))
   | exact ih0 _ _ _ _
   | exact ih1 _ _ _ _ _ _ _ _ _ _
   | exact backseatref12_Even.mono _ _ _
   | exact backseatref12_Line.mono _ _ _ _ _
   | exact LeO.none _
   | refine LeO.ite ?_ ?_
   | refine LeO.bind ?_ (fun _ => ?_)
  ·intro y0 y1 y2 y3 y4 y5 y6 y7 y8 y9
   unfold backseatref12_Rows.l1
   repeat' first
   | (with_reducible exact ih0 _ _ _ _)
   | (with_reducible exact ih1 _ _ _ _ _ _ _ _ _ _)
   | (with_reducible exact backseatref12_Even.mono _ _ _)
   | (with_reducible exact backseatref12_Line.mono _ _ _ _ _)
   | (with_reducible exact LeO.refl _)
   | (with_reducible exact LeO.none _)
   | (with_reducible refine LeO.ite ?_ ?_)
   | (with_reducible refine LeO.bind ?_ (fun _ => ?_))
   | exact ih0 _ _ _ _
   | exact ih1 _ _ _ _ _ _ _ _ _ _
   | exact backseatref12_Even.mono _ _ _
   | exact backseatref12_Line.mono _ _ _ _ _
   | exact LeO.none _
   | refine LeO.ite ?_ ?_
   | refine LeO.bind ?_ (fun _ => ?_)
theorem backseatref12_Rows.mono : ∀ a0 a1 a2 k, LeO (backseatref12_Rows.f k a0 a1 a2) (backseatref12_Rows.f (k + 1) a0 a1 a2) := by
 intro a0 a1 a2 k
 obtain ⟨ih0, ih1⟩ := backseatref12_Rows.mono_l k
 unfold backseatref12_Rows.f
 repeat' first
  | (with_reducible exact ih0 _ _ _ _)
  | (with_reducible exact ih1 _ _ _ _ _ _ _ _ _ _)
  | (with_reducible exact backseatref12_Even.mono _ _ _)
  | (with_reducible exact backseatref12_Line.mono _ _ _ _ _)
  | (with_reducible exact LeO.refl _)
  | (with_reducible exact LeO.none _)
  | (with_reducible refine LeO.ite ?_ ?_)
  | (with_reducible refine LeO.bind ?_ (fun _ => ?_))
  | exact ih0 _ _ _ _
  | exact ih1 _ _ _ _ _ _ _ _ _ _
  | exact backseatref12_Even.mono _ _ _
  | exact backseatref12_Line.mono _ _ _ _ _
  | exact LeO.none _
  | refine LeO.ite ?_ ?_
  | refine LeO.bind ?_ (fun _ => ?_)
def backseatref12_Rows.T15 : Bool × List (List Nat × List Nat) := (true, [([], []), ([], []), ([], []), ([1, 2], [1, 2]), ([], []), ([0, 3, 4], [0, 3, 4]), ([], []), ([], []), ([], []), ([7, 8], [7, 8]), ([9], [9]), ([5, 6, 10], [5, 6, 10]), ([], []), ([12, 11, 11, 0, 1, 2, 3, 4, 5, 6, 7, 8, 9, 10, 11, 12], [11, 12])])
def backseatref12_Rows.B15 : List Nat := [0, 0, 0, 6, 0, 31, 0, 0, 0, 384, 896, 2047, 0, 8191]
theorem backseatref12_Rows.tab15 : rtab .any (opsOf Try.f55 15) = backseatref12_Rows.T15 := by kernel_rfl
theorem backseatref12_Rows.bits15 : waitsOk backseatref12_Rows.T15.2 backseatref12_Rows.B15 = true := by kernel_rfl
set_option maxHeartbeats 8000000 in
set_option maxRecDepth 100000 in
theorem backseatref12_Rows.calls (k : Nat) (A0 : Option Addr) (c0 : Nat) (l0 : List Int) (a1 : Int) (a2 : Int) (r1 : Int) (r2 : Int) (r3 : Int) (r4 : List (S31)) (r5 : Bool) (w : World) (hr0 : Kd.C (Kd.int .i64) w A0 l0.length l0) (hc0 : l0.length ≤ c0) (h : backseatref12_Rows.f k l0 a1 a2 = some (r1, r2, r3, r4, r5)) :
 Calls Try.prog 55 #[.slice A0 l0.length c0, .int .i64 a1, .int .i64 a2] w fun e w' => ∃ v3_ : Value, e = .returned (.agg #[.int .i64 r1, .int .i64 r2, .int .i64 r3, v3_, .bool r5]) ∧ Kd.R k31 31 w' w.heap.size (fun _ => True) v3_ r4 ∧ Below w.heap.size w w' := by
 have hu37 := Try.underlying37
 have hu31 := Try.underlying31
 have HR0 := zM hr0
 have HC0 := zM hc0
 clear hr0 hc0
 have HB := zM (Below.refl w.heap.size w)
 have H : (backseatref12_Rows.l0 k l0 a1 a2 1) = some (r1, r2, r3, r4, r5) := h
 clear h
 have H' := zM H
 clear H
 go_enter Try.func55, Try.ntmps55
 go_wp2_with (first | ((with_reducible refine gate_dst (N := 6) rfl ?_); refine box_event ?hg (N := 6) ?hd (cs := #[.int .i64 0, .int .i64 0, .int .i64 0, .slice none 0 0, .bool false]) (t := 37) ?hr ?_; (case hd => rfl); (case hg => rfl); (case hr => first | (go_simp; done) | (go_simp; rfl)); intro gb384 hg w4 hbox hb; have BK384 := zM (hbox); have GW384 := zM ((by rw [hg]; exact (below_size (by first | exact HB.out | exact zN HB.out _ | exact zD HB.out)) : w.heap.size ≤ gb384)); have GE384 := GW384; replace HB := zM (below_step (by first | exact HB.out | exact zN HB.out _ | exact zD HB.out) hb); clear hb hbox hg))
 go_loopg [7] k (fun kq v7 w' => ∃ (x7_1 : Int), v7 = .int .i64 x7_1 ∧ Aside0 (backseatref12_Rows.l0 kq l0 a1 a2 x7_1 = some (r1, r2, r3, r4, r5)) ∧ Aside0 (kq ≤ k) ∧ Aside0 (w'.heap[gb384]? = some (.cells #[.int .i64 0, .int .i64 0, .int .i64 0, (.slice none 0 0), .bool false] 37 (0, 0))) ∧ Aside0 (Below w.heap.size w w'))
 case atStart => exact ⟨(1), (by first | rfl | (simp; done) | (simp [*]; done)), H', ⟨Nat.le_refl _⟩, ⟨by (with_reducible repeat (first | refine blk_drewN ?_ _ | refine blk_drew ?_ | refine blk_alloc ?_ _)); exact BK384.out⟩, ⟨by repeat first | refine zS ?_ GE384.out | exact HB.out | apply zA | apply zN | apply zD⟩⟩
 case round =>
  clear H'
  try clear p2
  obtain ⟨x7_1, rfl, HA, HK1, BK384, HB⟩ := hrel
  cases gk with
  | zero => exact absurd HA.out (by simp [backseatref12_Rows.l0])
  | succ k1 =>
   have H := HA.out
   clear HA
   simp only [backseatref12_Rows.l0] at H
   by_cases c5 : (wrap64 (x7_1 * x7_1)) < (l0.length : Int)
   ·rw [if_pos c5] at H
    have c5b0 : decide ((wrap64 (x7_1 * x7_1)) < (l0.length : Int)) = true := decide_eq_true c5
    clear c5
    have H' := zM H
    clear H
    go_wp2
    go_roundg k1
    case measure => have := HK1.out; omega
    case rel => exact ⟨(wrap64 (x7_1 + 1)), (by first | rfl | (simp; done) | (simp [*]; done)), H', ⟨by have := HK1.out; omega⟩, ⟨by (with_reducible repeat (first | refine blk_drewN ?_ _ | refine blk_drew ?_ | refine blk_alloc ?_ _)); exact BK384.out⟩, ⟨by repeat first | refine zS ?_ GE384.out | exact HB.out | apply zA | apply zN | apply zD⟩⟩
   ·rw [if_neg c5] at H
    have c5b0 : decide ((wrap64 (x7_1 * x7_1)) < (l0.length : Int)) = false := decide_eq_false c5
    clear c5
    by_cases c6 : x7_1 = 0
    ·rw [if_pos c6] at H
     exact absurd H (by simp)
    ·rw [if_neg c6] at H
     have c6b0 : (x7_1 == 0) = false := beq_eq_false_iff_ne.mpr c6
     have c6b1 : (x7_1 != 0) = true := bne_iff_ne.mpr c6
     by_cases c7 : (wrap64 (Int.tdiv (wrap64 ((wrap64 ((l0.length : Int) + x7_1)) - 1)) x7_1)) = 1
     ·rw [if_pos c7] at H
      have c7b0 : ((wrap64 (Int.tdiv (wrap64 ((wrap64 ((l0.length : Int) + x7_1)) - 1)) x7_1)) == 1) = true := beq_iff_eq.mpr c7
      have c7b1 : ((wrap64 (Int.tdiv (wrap64 ((wrap64 ((l0.length : Int) + x7_1)) - 1)) x7_1)) != 1) = false := bne_eq_false_iff_eq.mpr c7
      clear c7
      replace H := Option.bind_eq_some_iff.mp H
      obtain ⟨⟨t385, t386, t387, t388, t391⟩, A80, H⟩ := H
      replace H : (some (t385, t386, t387, t388, t391)) = some (r1, r2, r3, r4, r5) := H
      have A8 := zM A80
      clear A80
      simp only [Option.some.injEq, Prod.mk.injEq] at H
      obtain ⟨rfl, rfl, rfl, rfl, rfl⟩ := H
      go_wp2_with (first | ((with_reducible refine gate_callee (f := 54) rfl ?_); refine ga (some 34) rfl rfl Try.func54 (by kernel_rfl) rfl #[.slice A0 l0.length c0, .int .i64 1, .int .i64 a1, .int .i64 a2] rfl ?_; (with_reducible refine (backseatref12_Line.calls k1 _ _ l0 1 a1 a2 t385 t386 t387 t388 t391 _ ?side1 ?side2 A8.out).mono ?_); (case side1 => repeat (first | exact (Kd.C_below HR0.out HB.out) | (with_reducible refine Kd.C_alloc ?_ _) | (with_reducible refine Kd.C_drewN ?_ _) | (with_reducible refine Kd.C_drew ?_))); (case side2 => exact HC0.out); rintro e w9 ⟨v389, rfl, ho0, hb⟩; refine ⟨_, rfl, ?_⟩; have HO390 := zM (Kd.R_lower ho0 (below_size (by repeat first | refine zS ?_ GE384.out | exact HB.out | apply zA | apply zN | apply zD))); replace BK384 := zM (bb hb BK384.out); replace HB := zM (below_step (by repeat first | refine zS ?_ GE384.out | exact HB.out | apply zA | apply zN | apply zD) hb); (try clear hb); (try clear hb2); (try clear hk); (try clear hi); (try clear ho0); obtain ⟨hcz10_0, hcz10_1, hcz10_2, hcz10_3, hcz10_4, hfz10_0, hfz10_1, hfz10_2, hfz10_3, hfz10_4⟩ := cz5 BK384.out; obtain ⟨Ao11, co11, eo11⟩ := Kd.R_slice HO390.out; subst eo11))
      refine bodyPost_ret (results_cell_row rfl _ _ gb384 37 #[.int .i64 t385, .int .i64 t386, .int .i64 t387, .slice Ao11 t388.length co11, .bool t391] (0, 0) _ rfl (by exact (put5 BK384.out)) Try.underlying37 rfl (by kernel_rfl)) rfl ?_
      exact ⟨_, by first | rfl | (simp [errW_none, errW_some] <;> rfl) | (simp [*, errW_none, errW_some] <;> rfl), by (with_reducible repeat (first | apply Kd.R_alloc | apply Kd.R_drewN | apply Kd.R_drew)); exact Kd.R_mono (Kd.R_far (p := ⟨gb384, 4, none⟩) (Kd.R_far (p := ⟨gb384, 3, none⟩) (Kd.R_far (p := ⟨gb384, 2, none⟩) (Kd.R_far (p := ⟨gb384, 1, none⟩) (Kd.R_far (p := ⟨gb384, 0, none⟩) (Kd.R_types HO390.out BK384.out (by decide)) (fun _ hk => hk.2) (.int .i64 t385)) (fun _ hk => hk.2) (.int .i64 t386)) (fun _ hk => hk.2) (.int .i64 t387)) (fun _ hk => hk.2) (.slice Ao11 t388.length co11)) (fun _ hk => hk.2) (.bool t391)) (fun _ hk => trivial), by repeat first | refine zS ?_ GE384.out | exact HB.out | apply zA | apply zN | apply zD⟩
     ·rw [if_neg c7] at H
      have c7b0 : ((wrap64 (Int.tdiv (wrap64 ((wrap64 ((l0.length : Int) + x7_1)) - 1)) x7_1)) == 1) = false := beq_eq_false_iff_ne.mpr c7
      have c7b1 : ((wrap64 (Int.tdiv (wrap64 ((wrap64 ((l0.length : Int) + x7_1)) - 1)) x7_1)) != 1) = true := bne_iff_ne.mpr c7
      replace H := Option.bind_eq_some_iff.mp H
      obtain ⟨t392, A120, H⟩ := H
      replace H : (backseatref12_Rows.l1 k1 l0 a1 x7_1 t392 (t392.length : Int) 0 2 0 0 ([] : List (S31))) = some (r1, r2, r3, r4, r5) := H
      have A12 := zM A120
      clear A120
      have H' := zM H
      clear H
      go_wp2_with (first | ((with_reducible refine gate_callee (f := 13) rfl ?_); refine ga (some 37) rfl rfl Try.func13 (by kernel_rfl) rfl #[.int .i64 a2, .int .i64 (wrap64 (Int.tdiv (wrap64 ((wrap64 ((l0.length : Int) + x7_1)) - 1)) x7_1))] rfl ?_; (with_reducible refine (backseatref12_Even.calls k1 a2 (wrap64 (Int.tdiv (wrap64 ((wrap64 ((l0.length : Int) + x7_1)) - 1)) x7_1)) t392 _ A12.out).mono ?_); rintro e w13 ⟨v393, rfl, ho0, hb⟩; refine ⟨_, rfl, ?_⟩; have HO394 := zM (Kd.R_lower ho0 (below_size (by repeat first | refine zS ?_ GE384.out | exact HB.out | apply zA | apply zN | apply zD))); replace BK384 := zM (bb hb BK384.out); replace HB := zM (below_step (by repeat first | refine zS ?_ GE384.out | exact HB.out | apply zA | apply zN | apply zD) hb); (try clear hb); (try clear hb2); (try clear hk); (try clear hi); (try clear ho0)) | ((with_reducible refine gate_dst (N := 10) rfl ?_); refine box_event ?hg (N := 10) ?hd (cs := #[.int .i64 0, .int .i64 0, .int .i64 0, .slice none 0 0]) (t := 31) ?hr ?_; (case hd => rfl); (case hg => rfl); (case hr => first | (go_simp; done) | (go_simp; rfl)); intro gb395 hg w14 hbox hb; have BK395 := zM (hbox); have GW395 := zM ((by rw [hg]; exact (below_size (by repeat first | refine zS ?_ GE384.out | exact HB.out | apply zA | apply zN | apply zD)) : w.heap.size ≤ gb395)); have GE395 := GW395; have NB384_395 := zM ((by rw [hg]; exact lt1 BK384.out : gb384 ≠ gb395)); have NB395_384 := zM ((by rw [hg]; exact gt1 BK384.out : gb395 ≠ gb384)); replace HO394 := zM (Kd.R_below (by (with_reducible repeat (first | apply Kd.R_alloc | apply Kd.R_drewN | apply Kd.R_drew)); exact HO394.out) hb); replace BK384 := zM (bb hb BK384.out); replace HB := zM (below_step (by repeat first | refine zS ?_ GE384.out | exact HB.out | apply zA | apply zN | apply zD) hb); clear hb hbox hg; have hnb15 := NB395_384.out; have hnc15 := NB384_395.out; obtain ⟨hcz16_0, hcz16_1, hcz16_2, hcz16_3, hfz16_0, hfz16_1, hfz16_2, hfz16_3⟩ := cz4 BK395.out; obtain ⟨Ao17, co17, eo17⟩ := Kd.R_slice HO394.out; subst eo17))
      go_loopg [41] k1 (fun kq v41 w' => ∃ (x41_2 : Int) (x385000_2 : Int) (x385001_2 : Int) (x385002_2 : Int) (x385004_2 : Bool) (x396003_2 : List (S31)) (u396003 : Value), v41 = .int .i64 x41_2 ∧ Aside0 (backseatref12_Rows.l1 kq l0 a1 x7_1 t392 (t392.length : Int) x41_2 2 0 0 x396003_2 = some (r1, r2, r3, r4, r5)) ∧ Aside0 (kq ≤ k1) ∧ Aside0 (Kd.R (Kd.int .i64) 3 w' w.heap.size (fun _ => True) (.slice Ao17 t392.length co17) t392) ∧ Aside0 (Kd.R k31 31 w' w.heap.size (fun k_ => k_ ≠ gb395) u396003 x396003_2) ∧ Aside0 (w'.heap[gb384]? = some (.cells #[.int .i64 x385000_2, .int .i64 x385001_2, .int .i64 x385002_2, (.slice none 0 0), .bool x385004_2] 37 (0, 0))) ∧ Aside0 (w'.heap[gb395]? = some (.cells #[.int .i64 2, .int .i64 0, .int .i64 0, u396003] 31 (0, 0))) ∧ Aside0 (Below w.heap.size w w'))
      case atStart => exact ⟨(0), (0), (0), (0), (false), (([] : List (S31))), (.slice none 0 0), (by first | rfl | (simp; done) | (simp [*]; done)), H', ⟨Nat.le_refl _⟩, ⟨by (with_reducible repeat (first | apply Kd.R_alloc | apply Kd.R_drewN | apply Kd.R_drew)); exact Kd.R_mono (Kd.R_far (p := ⟨gb395, 3, none⟩) (Kd.R_far (p := ⟨gb395, 2, none⟩) (Kd.R_far (p := ⟨gb395, 1, none⟩) (Kd.R_far (p := ⟨gb395, 0, none⟩) (Kd.R_types HO394.out BK395.out (by decide)) (fun _ hk => hk.2) (.int .i64 2)) (fun _ hk => hk.2) (.int .i64 0)) (fun _ hk => hk.2) (.int .i64 0)) (fun _ hk => hk.2) (.slice none 0 0)) (fun _ hk => trivial)⟩, ⟨by first | exact Kd.R_nil _ _ _ _ _ | exact Kd.N_nil _ _ _ _ _ | exact Kd.V_nil _ _ _ _ _ | exact Kd.Q_nil _ _ _ _ _ | exact Kd.S_nil _ _ _ _ _⟩, ⟨by exact (far4 NB384_395.out BK384.out)⟩, ⟨by exact (put4 BK395.out)⟩, ⟨by repeat first | refine zS ?_ GE384.out | refine zS ?_ GE395.out | exact HB.out | apply zA | apply zN | apply zD⟩⟩
      case round =>
       clear H'
       (try clear c1); (try clear p2); (try clear c5); (try clear c5b0); (try clear c6); (try clear c6b0); (try clear c6b1); (try clear p6); (try clear c7); (try clear c7b0); (try clear c7b1); (try clear c13); (try clear c15); (try clear hcz10_0); (try clear hcz10_1); (try clear hcz10_2); (try clear hcz10_3); (try clear hcz10_4); (try clear hcz16_0); (try clear hcz16_1); (try clear hcz16_2); (try clear hcz16_3); (try clear hfz10_0); (try clear hfz10_1); (try clear hfz10_2); (try clear hfz10_3); (try clear hfz10_4); (try clear hfz16_0); (try clear hfz16_1); (try clear hfz16_2); (try clear hfz16_3); (try clear p2)
       obtain ⟨x41_2, x385000_2, x385001_2, x385002_2, x385004_2, x396003_2, u396003, rfl, HA, HK2, HO_9, HO_396003, BK384, BK395, HB⟩ := hrel
       cases gk with
       | zero => exact absurd HA.out (by simp [backseatref12_Rows.l1])
       | succ k2 =>
        have H := HA.out
        clear HA
        simp only [backseatref12_Rows.l1] at H
        by_cases c18 : x41_2 < (t392.length : Int)
        ·rw [if_pos c18] at H
         have c18b0 : decide (x41_2 < (t392.length : Int)) = true := decide_eq_true c18
         clear c18
         by_cases c19 : (wrap64 (x7_1 * (wrap64 (x41_2 + 1)))) > (l0.length : Int)
         ·rw [if_pos c19] at H
          have c19b0 : decide ((l0.length : Int) < (wrap64 (x7_1 * (wrap64 (x41_2 + 1))))) = true := decide_eq_true c19
          clear c19
          obtain ⟨ji20, hji20⟩ : ∃ j_ : Int, (wrap64 (x7_1 * x41_2)) = j_ := ⟨_, rfl⟩
          replace H : (if 0 ≤ (ji20) then (if (ji20) ≤ (l0.length : Int) then (if (l0.length : Int) ≤ (l0.length : Int) then (if 0 ≤ x41_2 then (if x41_2 < (t392.length : Int) then ((backseatref12_Line.f k2 ((l0.take ((l0.length : Int) : Int).toNat).drop ((ji20) : Int).toNat) 1 a1 (rd t392 x41_2)).bind fun bt398 => (if bt398.2.2.2.2 = true then (if x396003_2.length < 2932031007402 then (backseatref12_Rows.l1 k2 l0 a1 x7_1 t392 (t392.length : Int) (wrap64 (x41_2 + 1)) 2 0 0 (x396003_2 ++ [(⟨bt398.1, bt398.2.1, rd t392 x41_2, bt398.2.2.2.1⟩ : S31)])) else (none)) else (some (0, 0, 0, ([] : List (S31)), false)))) else (none)) else (none)) else (none)) else (none)) else (none)) = some (r1, r2, r3, r4, r5) := by first | (rw [hji20] at H; exact H) | (simp only [hji20] at H ⊢; exact H)
          have hji20w : (IntKind.i64.wrap (x7_1 * x41_2)) = ji20 := (i64_w _).trans hji20
          by_cases c21 : 0 ≤ (ji20)
          ·rw [if_pos c21] at H
           have c21b0 := eq_true c21
           have c21b1 : decide (0 ≤ (ji20)) = true := decide_eq_true c21
           clear c21
           by_cases c22 : (ji20) ≤ (l0.length : Int)
           ·rw [if_pos c22] at H
            have c22b0 := eq_true c22
            have c22b1 : decide ((ji20) ≤ (l0.length : Int)) = true := decide_eq_true c22
            clear c22
            by_cases c23 : (l0.length : Int) ≤ (l0.length : Int)
            ·rw [if_pos c23] at H
             have c23b0 := eq_true c23
             have c23b1 : decide ((l0.length : Int) ≤ (l0.length : Int)) = true := decide_eq_true c23
             clear c23
             by_cases c24 : 0 ≤ x41_2
             ·rw [if_pos c24] at H
              have c24b0 : decide (0 ≤ x41_2) = true := decide_eq_true c24
              clear c24
              by_cases c25 : x41_2 < (t392.length : Int)
              ·rw [if_pos c25] at H
               have c25b0 : decide (x41_2 < (t392.length : Int)) = true := decide_eq_true c25
               clear c25
               replace H := Option.bind_eq_some_iff.mp H
               obtain ⟨⟨t398, t399, t400, t401, t404⟩, A260, H⟩ := H
               replace H : (if t404 = true then (if x396003_2.length < 2932031007402 then (backseatref12_Rows.l1 k2 l0 a1 x7_1 t392 (t392.length : Int) (wrap64 (x41_2 + 1)) 2 0 0 (x396003_2 ++ [(⟨t398, t399, rd t392 x41_2, t401⟩ : S31)])) else (none)) else (some (0, 0, 0, ([] : List (S31)), false))) = some (r1, r2, r3, r4, r5) := H
               have A26 := zM A260
               clear A260
               by_cases c27 : t404 = true
               ·subst c27
                have H1 : (if x396003_2.length < 2932031007402 then (backseatref12_Rows.l1 k2 l0 a1 x7_1 t392 (t392.length : Int) (wrap64 (x41_2 + 1)) 2 0 0 (x396003_2 ++ [(⟨t398, t399, rd t392 x41_2, t401⟩ : S31)])) else (none)) = some (r1, r2, r3, r4, r5) := by rw [if_pos rfl] at H; exact H
                clear H
                have H := H1
                clear H1
                by_cases c28 : x396003_2.length < 2932031007402
                ·rw [if_pos c28] at H
                 have LMc28 := zM c28
                 clear c28
                 obtain ⟨y407, hy407⟩ : ∃ y_ : List (S31), y_ = (x396003_2 ++ [(⟨t398, t399, rd t392 x41_2, t401⟩ : S31)]) := ⟨_, rfl⟩
                 replace H : (backseatref12_Rows.l1 k2 l0 a1 x7_1 t392 (t392.length : Int) (wrap64 (x41_2 + 1)) 2 0 0 y407) = some (r1, r2, r3, r4, r5) := by first | (rw [hy407]; with_reducible exact H) | (have H2_ := (Option.bind_some _ _).symm.trans H; rw [hy407]; with_reducible exact H2_) | (have H2_ := (Option.bind_some _ _).symm.trans H; with_reducible exact H2_) | with_reducible exact H | (rw [hy407]; exact H) | exact H
                 have Ny407 := zM hy407
                 clear hy407
                 have H' := zM H
                 clear H
                 try go_wp2
                 replace HO_9 := zM (Kd.R_drew HO_9.out); replace HO_396003 := zM (Kd.R_drew HO_396003.out); replace BK384 := zM (blk_drew BK384.out); replace BK395 := zM (blk_drew BK395.out); replace HB := zM (zD HB.out)
                 obtain ⟨i030, hi030, _, hsz30, _⟩ := info_parts info3
                 obtain ⟨A30, hcut30, hA30, hC30⟩ := print_mid_of (P := Try.prog) (Value.int .i64) 0 22 3 .i64 .i64 Try.underlying22 hi030 hsz30 A0 c0 l0 (ji20) (l0.length : Int) (of_decide_eq_true (by first | (with_reducible assumption) | assumption)) (by first | omega | exact of_decide_eq_true (by first | (with_reducible assumption) | assumption)) (of_decide_eq_true (by first | (with_reducible assumption) | assumption)) HC0.out
                 have HR396 := zM (Kd.C_of_reads (h1 := fun _ => rfl) (hA30 _ (Kd.reads_of_C HR0.out)))
                 have HC396 := zM hC30
                 clear hA30 hC30 hi030 hsz30
                 have p397 : 0 ≤ (x41_2 : Int) := of_decide_eq_true (by first | (with_reducible assumption) | assumption)
                 have q397 : x41_2 < (t392.length : Int) := of_decide_eq_true (by first | (with_reducible assumption) | assumption)
                 obtain ⟨ad397, e397, hx397_0⟩ := Kd.at_int (Kd.R_reads' HO_9.out).2.2 x41_2 p397 q397
                 cases e397
                 replace p397 := eq_true p397
                 replace q397 := eq_true q397
                 refine start_ (n := 14) (S := fun w' => w'.cell? (ad397.add (x41_2).toNat) = some (.int .i64 (rd t392 x41_2))) (ds := []) #[false, false, false, false, false, false, false, false, false, false, false, false, false, false] (by kernel_rfl) rfl rfl (hx397_0) (fun hHeld => ?_); refine with_tabW backseatref12_Rows.tab15 backseatref12_Rows.bits15 (fun HT_ HW_ => ?_)
                 generalize wr.drew = w29 at HO_9 HO_396003 BK384 BK395 HB HR396 hx397_0 hHeld ⊢
                 refine pv (v := ?_) (a' := ?_) HT_.out 0 (some 54) m55_0_ ?_ ?_ ?_; rotate_left 2; (·intro w'; go_simp; with_reducible rfl); (·simp only [Act.put, s1, s2, s3, i64_w, i32_w]; rfl)
                 refine pv (v := ?_) (a' := ?_) HT_.out 1 (some 55) m55_1_ ?_ ?_ ?_; rotate_left 2; (·intro w'; go_simp; with_reducible rfl); (·simp only [Act.put, s1, s2, s3, i64_w, i32_w]; rfl)
                 refine pv (v := ?_) (a' := ?_) HT_.out 2 (some 56) m55_2_ ?_ ?_ ?_; rotate_left 2; (·intro w'; go_simp; with_reducible rfl); (·simp only [Act.put, s1, s2, s3, i64_w, i32_w]; rfl)
                 refine pv (v := ?_) (a' := ?_) HT_.out 3 (some 57) m55_3_ ?_ ?_ ?_; rotate_left 2; (·intro w'; go_simp; with_reducible rfl); (·simp only [Act.put, s1, s2, s3, i64_w, i32_w]; rfl)
                 refine pv (v := ?_) (a' := ?_) HT_.out 4 (some 58) m55_4_ ?_ ?_ ?_; rotate_left 2; (·intro w'; go_simp; with_reducible rfl); (·simp only [Act.put, s1, s2, s3, i64_w, i32_w]; rfl)
                 refine pv (v := ?_) (a' := ?_) HT_.out 5 (some 59) m55_5_ ?_ ?_ ?_; rotate_left 2; (·intro w'; go_simp; with_reducible rfl); (·simp only [Act.put, s1, s2, s3, i64_w, i32_w]; rfl)
                 refine pv (v := ?_) (a' := ?_) HT_.out 6 (some 60) m55_6_ ?_ ?_ ?_; rotate_left 2; (·intro w'; go_simp; with_reducible rfl); (·simp only [Act.put, s1, s2, s3, i64_w, i32_w]; rfl)
                 refine pv (v := ?_) (a' := ?_) HT_.out 7 (some 61) m55_7_ ?_ ?_ ?_; rotate_left 2; (·intro w'; go_simp; with_reducible rfl); (·simp only [Act.put, s1, s2, s3, i64_w, i32_w]; rfl)
                 refine pv (v := ?_) (a' := ?_) HT_.out 8 (some 62) m55_8_ ?_ ?_ ?_; rotate_left 2; (·intro w'; go_simp; with_reducible rfl); (·simp only [Act.put, s1, s2, s3, i64_w, i32_w]; rfl)
                 refine pv (v := ?_) (a' := ?_) HT_.out 9 (some 63) m55_9_ ?_ ?_ ?_; rotate_left 2; (·intro w'; go_simp; with_reducible rfl); (·simp only [Act.put, s1, s2, s3, i64_w, i32_w]; rfl)
                 refine take_ (i := 10) (N := some 64) (v := ?_) (a' := ?_) m55_10_ rfl rfl (take_ofW HT_.out HW_.out (by kernel_rfl)) (fun _ _ _ h => h) (Or.inl ⟨by rfl, ?_⟩) hHeld ?_ ?_
                 rotate_left
                 ·intro w' s0
                  go_simp
                  with_reducible rfl
                 rotate_left
                 ·simp only [Act.put, s1, s2, s3, i64_w, i32_w]
                  rfl
                 refine join_ (σ := Value × Nat) 1 m55_11_ (fun s_ => [(65, .agg #[.int .i64 t398, .int .i64 t399, .int .i64 t400, s_.1, .bool true]), (13, .pointer (some ⟨s_.2, 0, none⟩))]) (fun s_ w' => (w'.cell? (ad397.add (x41_2).toNat) = some (.int .i64 (rd t392 x41_2))) ∧ (Kd.R k31 31 w' w.heap.size (fun k_ => some k_ ≠ (u396003 : Value).ownBlock ∧ k_ ≠ gb395) s_.1 t401) ∧ (Kd.R k31 31 w' w.heap.size (fun k_ => some k_ ≠ (s_.1 : Value).ownBlock ∧ k_ ≠ gb395) u396003 x396003_2) ∧ (Kd.R (Kd.int .i64) 3 w' w.heap.size (fun _ => True) (.slice (some ad397) t392.length co17) t392) ∧ (w'.heap[gb384]? = some (.cells #[.int .i64 x385000_2, .int .i64 x385001_2, .int .i64 x385002_2, .slice none 0 0, .bool x385004_2] 37 (0, 0))) ∧ (w'.heap[gb395]? = some (.cells #[.int .i64 2, .int .i64 0, .int .i64 0, u396003] 31 (0, 0))) ∧ (w'.heap[s_.2]? = some (.cells #[.int .i64 0, .int .i64 0, .int .i64 0, .slice none 0 0, .bool false] 37 (0, 0))) ∧ (w.heap.size ≤ s_.2) ∧ (w.heap.size ≤ s_.2) ∧ (gb384 ≠ s_.2) ∧ (s_.2 ≠ gb384) ∧ (gb395 ≠ s_.2) ∧ (s_.2 ≠ gb395) ∧ (Below w.heap.size w w')) ?_ ?_
                 rotate_left
                 ·intro hCont
                  refine two_ (i := 11) (j := 12) (Ni := some 65) (Nj := some 13) m55_12_ m55_13_ rfl rfl rfl rfl (two_of HT_.out (by kernel_rfl)) (by decide) (by decide) (fun K hK => ?_) (fun K hK => ?_)
                  ·skip
                   refine goes_ Try.func54 (by kernel_rfl) rfl #[.slice A30 ((l0.take ((l0.length : Int) : Int).toNat).drop ((ji20) : Int).toNat).length (c0 - (ji20).toNat), .int .i64 1, .int .i64 a1, .int .i64 (rd t392 x41_2)] (by rfl) rfl rfl (by (try simp only [List.map_toArray, List.map_cons, List.map_nil]); first | done | (rw [show ((l0.take ((l0.length : Int) : Int).toNat).drop ((ji20) : Int).toNat).length = ((l0.length : Int).toNat - (ji20).toNat) from (by rw [List.length_drop, List.length_take]; have h_ : ((l0.length : Int) : Int) ≤ (l0.length : Int) := of_decide_eq_true (by first | (with_reducible assumption) | assumption); omega)] <;> rfl) | (simp only [hji20]; rfl) | rfl | (simp only [List.length_drop, List.length_take]; rfl)) ?_
                   with_reducible refine (backseatref12_Line.calls k2 _ _ ((l0.take ((l0.length : Int) : Int).toNat).drop ((ji20) : Int).toNat) 1 a1 (rd t392 x41_2) t398 t399 t400 t401 true _ ?side1 ?side2 A26.out).mono ?_
                   (case side1 => repeat (first | exact (Kd.C_below HR396.out HB.out) | (with_reducible refine Kd.C_alloc ?_ _) | (with_reducible refine Kd.C_drewN ?_ _) | (with_reducible refine Kd.C_drew ?_)))
                   (case side2 => exact HC396.out)
                   rintro e w31 ⟨v402, rfl, ho0, hb⟩
                   have HS0_ := (hb.cell (zL _ _ (hHeld))).trans (hHeld)
                   refine ⟨_, rfl, ?_⟩
                   have HO403 := zM (Kd.R_lower (Kd.R_newB (Kd.R_new' ho0 (Kd.R_lt (by (with_reducible repeat (first | apply Kd.R_alloc | apply Kd.R_drewN | apply Kd.R_drew)); exact HO_396003.out))) (g := gb395) (o := .cells #[.int .i64 2, .int .i64 0, .int .i64 0, u396003] 31 (0, 0)) (by (with_reducible repeat (first | refine blk_drewN ?_ _ | refine blk_drew ?_ | refine blk_alloc ?_ _)); exact BK395.out)) (below_size (by repeat first | refine zS ?_ GE384.out | refine zS ?_ GE395.out | exact HB.out | apply zA | apply zN | apply zD))); replace HO_9 := zM (Kd.R_below (by (with_reducible repeat (first | apply Kd.R_alloc | apply Kd.R_drewN | apply Kd.R_drew)); exact HO_9.out) hb); replace HO_396003 := zM (Kd.R_elder' (by (with_reducible repeat (first | apply Kd.R_alloc | apply Kd.R_drewN | apply Kd.R_drew)); exact HO_396003.out) (Kd.R_base ho0) hb); replace BK384 := zM (bb hb BK384.out); replace BK395 := zM (bb hb BK395.out); replace HB := zM (below_step (by repeat first | refine zS ?_ GE384.out | refine zS ?_ GE395.out | exact HB.out | apply zA | apply zN | apply zD) hb)
                   (try clear hb)
                   (try clear hb2)
                   (try clear hk)
                   (try clear hi)
                   (try clear ho0)
                   refine hK.out _ _ (HS0_) (fun hHeld => ?_)
                   clear hK K
                   refine norm_ (a' := ?_) ?_ ?_
                   rotate_left
                   ·show Act.put _ (some 65) _ = _
                    simp only [Act.put, s1, s2, s3, i64_w, i32_w]
                    rfl
                   refine one_ (i := 12) (N := some 13) m55_11_ rfl rfl (one_of HT_.out (by kernel_rfl)) (by decide) (fun K hK => ?_)
                   refine box_step ?hg (N := 13) ?hd (cs := #[.int .i64 0, .int .i64 0, .int .i64 0, .slice none 0 0, .bool false]) (t := 37) ?hr ?_; (case hd => rfl); (case hg => rfl); (case hr => first | (go_simp; done) | (go_simp; rfl))
                   intro gb405 hg w32 hbox hb
                   have HS0_ := (hb.cell (zL _ _ (hHeld))).trans (hHeld)
                   have BK405 := zM (hbox); have GW405 := zM ((by rw [hg]; exact (below_size (by repeat first | refine zS ?_ GE384.out | refine zS ?_ GE395.out | exact HB.out | apply zA | apply zN | apply zD)) : w.heap.size ≤ gb405)); have GE405 := GW405; have NB384_405 := zM ((by rw [hg]; exact lt1 BK384.out : gb384 ≠ gb405)); have NB405_384 := zM ((by rw [hg]; exact gt1 BK384.out : gb405 ≠ gb384)); have NB395_405 := zM ((by rw [hg]; exact lt1 BK395.out : gb395 ≠ gb405)); have NB405_395 := zM ((by rw [hg]; exact gt1 BK395.out : gb405 ≠ gb395)); replace HO_9 := zM (Kd.R_below (by (with_reducible repeat (first | apply Kd.R_alloc | apply Kd.R_drewN | apply Kd.R_drew)); exact HO_9.out) hb); replace HO_396003 := zM (Kd.R_below (by (with_reducible repeat (first | apply Kd.R_alloc | apply Kd.R_drewN | apply Kd.R_drew)); exact HO_396003.out) hb); replace HO403 := zM (Kd.R_below (by (with_reducible repeat (first | apply Kd.R_alloc | apply Kd.R_drewN | apply Kd.R_drew)); exact HO403.out) hb); replace BK384 := zM (bb hb BK384.out); replace BK395 := zM (bb hb BK395.out); replace HB := zM (below_step (by repeat first | refine zS ?_ GE384.out | refine zS ?_ GE395.out | exact HB.out | apply zA | apply zN | apply zD) hb)
                   clear hb hbox hg
                   refine hK.out _ _ (HS0_) (fun hHeld => ?_)
                   clear hK K
                   refine norm_ (a' := ?_) ?_ ?_
                   rotate_left
                   ·show Act.put _ (some 13) _ = _
                    simp only [Act.put, s1, s2, s3, i64_w, i32_w]
                    rfl
                   exact norm_ (by simp only [putAll, Act.put, List.setIfInBounds_toArray, List.set_cons_zero, List.set_cons_succ]) (hCont (v402, gb405) _ ⟨hHeld, (by (with_reducible repeat (first | apply Kd.R_alloc | apply Kd.R_drewN | apply Kd.R_drew)); exact Kd.R_mono HO403.out (fun _ hk => ⟨hk.1.2, hk.2⟩)), (by (with_reducible repeat (first | apply Kd.R_alloc | apply Kd.R_drewN | apply Kd.R_drew)); exact Kd.R_mono HO_396003.out (fun _ hk => ⟨hk.2, hk.1⟩)), (by (with_reducible repeat (first | apply Kd.R_alloc | apply Kd.R_drewN | apply Kd.R_drew)); exact HO_9.out), (by (with_reducible repeat (first | refine blk_drewN ?_ _ | refine blk_drew ?_ | refine blk_alloc ?_ _)); exact BK384.out), (by (with_reducible repeat (first | refine blk_drewN ?_ _ | refine blk_drew ?_ | refine blk_alloc ?_ _)); exact BK395.out), (by (with_reducible repeat (first | refine blk_drewN ?_ _ | refine blk_drew ?_ | refine blk_alloc ?_ _)); exact BK405.out), GW405.out, GE405.out, NB384_405.out, NB405_384.out, NB395_405.out, NB405_395.out, (by repeat first | refine zS ?_ GE384.out | refine zS ?_ GE395.out | refine zS ?_ GE405.out | exact HB.out | apply zA | apply zN | apply zD)⟩)
                  ·skip
                   refine box_step ?hg (N := 13) ?hd (cs := #[.int .i64 0, .int .i64 0, .int .i64 0, .slice none 0 0, .bool false]) (t := 37) ?hr ?_; (case hd => rfl); (case hg => rfl); (case hr => first | (go_simp; done) | (go_simp; rfl))
                   intro gb405 hg w31 hbox hb
                   have HS0_ := (hb.cell (zL _ _ (hHeld))).trans (hHeld)
                   have BK405 := zM (hbox); have GW405 := zM ((by rw [hg]; exact (below_size (by repeat first | refine zS ?_ GE384.out | refine zS ?_ GE395.out | exact HB.out | apply zA | apply zN | apply zD)) : w.heap.size ≤ gb405)); have GE405 := GW405; have NB384_405 := zM ((by rw [hg]; exact lt1 BK384.out : gb384 ≠ gb405)); have NB405_384 := zM ((by rw [hg]; exact gt1 BK384.out : gb405 ≠ gb384)); have NB395_405 := zM ((by rw [hg]; exact lt1 BK395.out : gb395 ≠ gb405)); have NB405_395 := zM ((by rw [hg]; exact gt1 BK395.out : gb405 ≠ gb395)); replace HO_9 := zM (Kd.R_below (by (with_reducible repeat (first | apply Kd.R_alloc | apply Kd.R_drewN | apply Kd.R_drew)); exact HO_9.out) hb); replace HO_396003 := zM (Kd.R_below (by (with_reducible repeat (first | apply Kd.R_alloc | apply Kd.R_drewN | apply Kd.R_drew)); exact HO_396003.out) hb); replace BK384 := zM (bb hb BK384.out); replace BK395 := zM (bb hb BK395.out); replace HB := zM (below_step (by repeat first | refine zS ?_ GE384.out | refine zS ?_ GE395.out | exact HB.out | apply zA | apply zN | apply zD) hb)
                   clear hb hbox hg
                   refine hK.out _ _ (HS0_) (fun hHeld => ?_)
                   clear hK K
                   refine norm_ (a' := ?_) ?_ ?_
                   rotate_left
                   ·show Act.put _ (some 13) _ = _
                    simp only [Act.put, s1, s2, s3, i64_w, i32_w]
                    rfl
                   refine one_ (i := 11) (N := some 65) m55_11_ rfl rfl (one_of HT_.out (by kernel_rfl)) (by decide) (fun K hK => ?_)
                   refine goes_ Try.func54 (by kernel_rfl) rfl #[.slice A30 ((l0.take ((l0.length : Int) : Int).toNat).drop ((ji20) : Int).toNat).length (c0 - (ji20).toNat), .int .i64 1, .int .i64 a1, .int .i64 (rd t392 x41_2)] (by rfl) rfl rfl (by (try simp only [List.map_toArray, List.map_cons, List.map_nil]); first | done | (rw [show ((l0.take ((l0.length : Int) : Int).toNat).drop ((ji20) : Int).toNat).length = ((l0.length : Int).toNat - (ji20).toNat) from (by rw [List.length_drop, List.length_take]; have h_ : ((l0.length : Int) : Int) ≤ (l0.length : Int) := of_decide_eq_true (by first | (with_reducible assumption) | assumption); omega)] <;> rfl) | (simp only [hji20]; rfl) | rfl | (simp only [List.length_drop, List.length_take]; rfl)) ?_
                   with_reducible refine (backseatref12_Line.calls k2 _ _ ((l0.take ((l0.length : Int) : Int).toNat).drop ((ji20) : Int).toNat) 1 a1 (rd t392 x41_2) t398 t399 t400 t401 true _ ?side1 ?side2 A26.out).mono ?_
                   (case side1 => repeat (first | exact (Kd.C_below HR396.out HB.out) | (with_reducible refine Kd.C_alloc ?_ _) | (with_reducible refine Kd.C_drewN ?_ _) | (with_reducible refine Kd.C_drew ?_)))
                   (case side2 => exact HC396.out)
                   rintro e w32 ⟨v402, rfl, ho0, hb⟩
                   have HS0_ := (hb.cell (zL _ _ (hHeld))).trans (hHeld)
                   refine ⟨_, rfl, ?_⟩
                   have HO403 := zM (Kd.R_lower (Kd.R_newB (Kd.R_new' ho0 (Kd.R_lt (by (with_reducible repeat (first | apply Kd.R_alloc | apply Kd.R_drewN | apply Kd.R_drew)); exact HO_396003.out))) (g := gb395) (o := .cells #[.int .i64 2, .int .i64 0, .int .i64 0, u396003] 31 (0, 0)) (by (with_reducible repeat (first | refine blk_drewN ?_ _ | refine blk_drew ?_ | refine blk_alloc ?_ _)); exact BK395.out)) (below_size (by repeat first | refine zS ?_ GE384.out | refine zS ?_ GE395.out | refine zS ?_ GE405.out | exact HB.out | apply zA | apply zN | apply zD))); replace HO_9 := zM (Kd.R_below (by (with_reducible repeat (first | apply Kd.R_alloc | apply Kd.R_drewN | apply Kd.R_drew)); exact HO_9.out) hb); replace HO_396003 := zM (Kd.R_elder' (by (with_reducible repeat (first | apply Kd.R_alloc | apply Kd.R_drewN | apply Kd.R_drew)); exact HO_396003.out) (Kd.R_base ho0) hb); replace BK384 := zM (bb hb BK384.out); replace BK395 := zM (bb hb BK395.out); replace BK405 := zM (bb hb BK405.out); replace HB := zM (below_step (by repeat first | refine zS ?_ GE384.out | refine zS ?_ GE395.out | refine zS ?_ GE405.out | exact HB.out | apply zA | apply zN | apply zD) hb)
                   (try clear hb)
                   (try clear hb2)
                   (try clear hk)
                   (try clear hi)
                   (try clear ho0)
                   refine hK.out _ _ (HS0_) (fun hHeld => ?_)
                   clear hK K
                   refine norm_ (a' := ?_) ?_ ?_
                   rotate_left
                   ·show Act.put _ (some 65) _ = _
                    simp only [Act.put, s1, s2, s3, i64_w, i32_w]
                    rfl
                   exact norm_ (by simp only [putAll, Act.put, List.setIfInBounds_toArray, List.set_cons_zero, List.set_cons_succ]) (hCont (v402, gb405) _ ⟨hHeld, (by (with_reducible repeat (first | apply Kd.R_alloc | apply Kd.R_drewN | apply Kd.R_drew)); exact Kd.R_mono HO403.out (fun _ hk => ⟨hk.1.2, hk.2⟩)), (by (with_reducible repeat (first | apply Kd.R_alloc | apply Kd.R_drewN | apply Kd.R_drew)); exact Kd.R_mono HO_396003.out (fun _ hk => ⟨hk.2, hk.1⟩)), (by (with_reducible repeat (first | apply Kd.R_alloc | apply Kd.R_drewN | apply Kd.R_drew)); exact HO_9.out), (by (with_reducible repeat (first | refine blk_drewN ?_ _ | refine blk_drew ?_ | refine blk_alloc ?_ _)); exact BK384.out), (by (with_reducible repeat (first | refine blk_drewN ?_ _ | refine blk_drew ?_ | refine blk_alloc ?_ _)); exact BK395.out), (by (with_reducible repeat (first | refine blk_drewN ?_ _ | refine blk_drew ?_ | refine blk_alloc ?_ _)); exact BK405.out), GW405.out, GE405.out, NB384_405.out, NB405_384.out, NB395_405.out, NB405_395.out, (by repeat first | refine zS ?_ GE384.out | refine zS ?_ GE395.out | refine zS ?_ GE405.out | exact HB.out | apply zA | apply zN | apply zD)⟩)
                 rintro ⟨v402, gb405⟩ w33 ⟨hS_, h0_, h1_, h2_, h3_, h4_, h5_, h6_, h7_, h8_, h9_, h10_, h11_, h12_⟩
                 have n0_ : Aside0 (Kd.R k31 31 w33 w.heap.size (fun k_ => some k_ ≠ (u396003 : Value).ownBlock ∧ k_ ≠ gb395) v402 t401) := ⟨h0_⟩
                 have n1_ : Aside0 (Kd.R k31 31 w33 w.heap.size (fun k_ => some k_ ≠ (v402 : Value).ownBlock ∧ k_ ≠ gb395) u396003 x396003_2) := ⟨h1_⟩
                 have n2_ : Aside0 (Kd.R (Kd.int .i64) 3 w33 w.heap.size (fun _ => True) (.slice (some ad397) t392.length co17) t392) := ⟨h2_⟩
                 have n3_ : Aside0 (w33.heap[gb384]? = some (.cells #[.int .i64 x385000_2, .int .i64 x385001_2, .int .i64 x385002_2, .slice none 0 0, .bool x385004_2] 37 (0, 0))) := ⟨h3_⟩
                 have n4_ : Aside0 (w33.heap[gb395]? = some (.cells #[.int .i64 2, .int .i64 0, .int .i64 0, u396003] 31 (0, 0))) := ⟨h4_⟩
                 have n5_ : Aside0 (w33.heap[gb405]? = some (.cells #[.int .i64 0, .int .i64 0, .int .i64 0, .slice none 0 0, .bool false] 37 (0, 0))) := ⟨h5_⟩
                 have n6_ : Aside0 (w.heap.size ≤ gb405) := ⟨h6_⟩
                 have n7_ : Aside0 (w.heap.size ≤ gb405) := ⟨h7_⟩
                 have n8_ : Aside0 (gb384 ≠ gb405) := ⟨h8_⟩
                 have n9_ : Aside0 (gb405 ≠ gb384) := ⟨h9_⟩
                 have n10_ : Aside0 (gb395 ≠ gb405) := ⟨h10_⟩
                 have n11_ : Aside0 (gb405 ≠ gb395) := ⟨h11_⟩
                 have n12_ : Aside0 (Below w.heap.size w w33) := ⟨h12_⟩
                 clear HO_9
                 clear HO_396003
                 clear BK384
                 clear BK395
                 clear HB
                 clear h0_ h1_ h2_ h3_ h4_ h5_ h6_ h7_ h8_ h9_ h10_ h11_ h12_
                 have HO403 := n0_
                 have HO_396003 := n1_
                 have HO_9 := n2_
                 have BK384 := n3_
                 have BK395 := n4_
                 have BK405 := n5_
                 have GW405 := n6_
                 have GE405 := n7_
                 have NB384_405 := n8_
                 have NB405_384 := n9_
                 have NB395_405 := n10_
                 have NB405_395 := n11_
                 have HB := n12_
                 clear n0_ n1_ n2_ n3_ n4_ n5_ n6_ n7_ n8_ n9_ n10_ n11_ n12_
                 have hHeld : w33.cell? (ad397.add (x41_2).toNat) = some (.int .i64 (rd t392 x41_2)) := hS_
                 obtain ⟨Ao37, co37, eo37⟩ := Kd.R_slice HO403.out
                 (first | subst eo37 | (injection eo37 with f1_ f2_ f3_; have f4_ := f1_.symm; have f5_ := f3_.symm; clear f1_ f2_ f3_; subst f4_; subst f5_))
                 refine norm_ (a' := ?_) ?_ ?_
                 rotate_left
                 ·simp only [putAll, Act.put, List.setIfInBounds_toArray, List.set_cons_zero, List.set_cons_succ]
                  rfl
                 refine one_ (i := 13) (N := none) m55_14_ rfl rfl (one_of HT_.out (by kernel_rfl)) (by decide) (fun K hK => ?_)
                 have hs34 : w33.cell? ⟨gb405, 0, none⟩ = some (.int .i64 0) := (blk_cell BK405.out 0).trans rfl
                 have hfs34 := blk_frozen BK405.out 0
                 have hns34_0 := NB384_405.out
                 have hns34_1 := NB395_405.out
                 have hms34_0 := NB405_384.out
                 have hms34_1 := NB405_395.out
                 have hs35 : w33.cell? ⟨gb405, 1, none⟩ = some (.int .i64 0) := (blk_cell BK405.out 1).trans rfl
                 have hfs35 := blk_frozen BK405.out 1
                 have hns35_0 := NB384_405.out
                 have hns35_1 := NB395_405.out
                 have hms35_0 := NB405_384.out
                 have hms35_1 := NB405_395.out
                 have hs36 : w33.cell? ⟨gb405, 2, none⟩ = some (.int .i64 0) := (blk_cell BK405.out 2).trans rfl
                 have hfs36 := blk_frozen BK405.out 2
                 have hns36_0 := NB384_405.out
                 have hns36_1 := NB395_405.out
                 have hms36_0 := NB405_384.out
                 have hms36_1 := NB405_395.out
                 have hs38 : w33.cell? ⟨gb405, 3, none⟩ = some (.slice none 0 0) := (blk_cell BK405.out 3).trans rfl
                 have hfs38 := blk_frozen BK405.out 3
                 have hns38_0 := NB384_405.out
                 have hns38_1 := NB395_405.out
                 have hms38_0 := NB405_384.out
                 have hms38_1 := NB405_395.out
                 have hs39 : w33.cell? ⟨gb405, 4, none⟩ = some (.bool false) := (blk_cell BK405.out 4).trans rfl
                 have hfs39 := blk_frozen BK405.out 4
                 have hns39_0 := NB384_405.out
                 have hns39_1 := NB395_405.out
                 have hms39_0 := NB405_384.out
                 have hms39_1 := NB405_395.out
                 refine skip_ (w1 := ?_) (by rfl) rfl ?_ ?_
                 rotate_left
                 ·go_simp
                  rfl
                 refine hK.out _ _ (((cell_far (p := ⟨gb405, _, none⟩) (by first | exact Kd.own_blk (Kd.R_ne HO_9.out BK405.out (by decide)) | (rw [add_block]; exact Kd.own_blk (Kd.R_ne HO_9.out BK405.out (by decide))) | (show (Addr.add _ _).block ≠ _; rw [add_block]; exact Kd.own_blk (Kd.R_ne HO_9.out BK405.out (by decide))) | (dsimp only; exact Kd.own_blk (Kd.R_ne HO_9.out BK405.out (by decide)))) _).trans (((cell_far (p := ⟨gb405, _, none⟩) (by first | exact Kd.own_blk (Kd.R_ne HO_9.out BK405.out (by decide)) | (rw [add_block]; exact Kd.own_blk (Kd.R_ne HO_9.out BK405.out (by decide))) | (show (Addr.add _ _).block ≠ _; rw [add_block]; exact Kd.own_blk (Kd.R_ne HO_9.out BK405.out (by decide))) | (dsimp only; exact Kd.own_blk (Kd.R_ne HO_9.out BK405.out (by decide)))) _).trans (((cell_far (p := ⟨gb405, _, none⟩) (by first | exact Kd.own_blk (Kd.R_ne HO_9.out BK405.out (by decide)) | (rw [add_block]; exact Kd.own_blk (Kd.R_ne HO_9.out BK405.out (by decide))) | (show (Addr.add _ _).block ≠ _; rw [add_block]; exact Kd.own_blk (Kd.R_ne HO_9.out BK405.out (by decide))) | (dsimp only; exact Kd.own_blk (Kd.R_ne HO_9.out BK405.out (by decide)))) _).trans (((cell_far (p := ⟨gb405, _, none⟩) (by first | exact Kd.own_blk (Kd.R_ne HO_9.out BK405.out (by decide)) | (rw [add_block]; exact Kd.own_blk (Kd.R_ne HO_9.out BK405.out (by decide))) | (show (Addr.add _ _).block ≠ _; rw [add_block]; exact Kd.own_blk (Kd.R_ne HO_9.out BK405.out (by decide))) | (dsimp only; exact Kd.own_blk (Kd.R_ne HO_9.out BK405.out (by decide)))) _).trans (((cell_far (p := ⟨gb405, _, none⟩) (by first | exact Kd.own_blk (Kd.R_ne HO_9.out BK405.out (by decide)) | (rw [add_block]; exact Kd.own_blk (Kd.R_ne HO_9.out BK405.out (by decide))) | (show (Addr.add _ _).block ≠ _; rw [add_block]; exact Kd.own_blk (Kd.R_ne HO_9.out BK405.out (by decide))) | (dsimp only; exact Kd.own_blk (Kd.R_ne HO_9.out BK405.out (by decide)))) _).trans (hHeld))))))))))) (fun hHeld => ?_)
                 clear hK K
                 refine done_ (done_of HT_.out (by kernel_rfl)) ?_
                 have n0_ : Aside0 (Kd.R (Kd.int .i64) 3 (((((w33.setCell ⟨gb405, 0, none⟩ (.int .i64 t398)).setCell ⟨gb405, 1, none⟩ (.int .i64 t399)).setCell ⟨gb405, 2, none⟩ (.int .i64 t400)).setCell ⟨gb405, 3, none⟩ (.slice Ao37 t401.length co37)).setCell ⟨gb405, 4, none⟩ (.bool true)) w.heap.size (fun _ => True) (.slice (some ad397) t392.length co17) t392) := ⟨by (with_reducible repeat (first | apply Kd.R_alloc | apply Kd.R_drewN | apply Kd.R_drew)); exact Kd.R_mono (Kd.R_far (p := ⟨gb405, 4, none⟩) (Kd.R_far (p := ⟨gb405, 3, none⟩) (Kd.R_far (p := ⟨gb405, 2, none⟩) (Kd.R_far (p := ⟨gb405, 1, none⟩) (Kd.R_far (p := ⟨gb405, 0, none⟩) (Kd.R_types HO_9.out BK405.out (by decide)) (fun _ hk => hk.2) (.int .i64 t398)) (fun _ hk => hk.2) (.int .i64 t399)) (fun _ hk => hk.2) (.int .i64 t400)) (fun _ hk => hk.2) (.slice Ao37 t401.length co37)) (fun _ hk => hk.2) (.bool true)) (fun _ hk => trivial)⟩
                 have n1_ : Aside0 (Kd.R k31 31 (((((w33.setCell ⟨gb405, 0, none⟩ (.int .i64 t398)).setCell ⟨gb405, 1, none⟩ (.int .i64 t399)).setCell ⟨gb405, 2, none⟩ (.int .i64 t400)).setCell ⟨gb405, 3, none⟩ (.slice Ao37 t401.length co37)).setCell ⟨gb405, 4, none⟩ (.bool true)) w.heap.size (fun k_ => some k_ ≠ (.slice Ao37 t401.length co37 : Value).ownBlock ∧ k_ ≠ gb395) u396003 x396003_2) := ⟨by (with_reducible repeat (first | apply Kd.R_alloc | apply Kd.R_drewN | apply Kd.R_drew)); exact Kd.R_mono (Kd.R_far (p := ⟨gb405, 4, none⟩) (Kd.R_far (p := ⟨gb405, 3, none⟩) (Kd.R_far (p := ⟨gb405, 2, none⟩) (Kd.R_far (p := ⟨gb405, 1, none⟩) (Kd.R_far (p := ⟨gb405, 0, none⟩) (Kd.R_types HO_396003.out BK405.out (by decide)) (fun _ hk => hk.2) (.int .i64 t398)) (fun _ hk => hk.2) (.int .i64 t399)) (fun _ hk => hk.2) (.int .i64 t400)) (fun _ hk => hk.2) (.slice Ao37 t401.length co37)) (fun _ hk => hk.2) (.bool true)) (fun _ hk => ⟨hk.1.1, hk.1.2⟩)⟩
                 have n2_ : Aside0 (Kd.R k31 31 (((((w33.setCell ⟨gb405, 0, none⟩ (.int .i64 t398)).setCell ⟨gb405, 1, none⟩ (.int .i64 t399)).setCell ⟨gb405, 2, none⟩ (.int .i64 t400)).setCell ⟨gb405, 3, none⟩ (.slice Ao37 t401.length co37)).setCell ⟨gb405, 4, none⟩ (.bool true)) w.heap.size (fun k_ => some k_ ≠ (u396003 : Value).ownBlock ∧ k_ ≠ gb395) (.slice Ao37 t401.length co37) t401) := ⟨by (with_reducible repeat (first | apply Kd.R_alloc | apply Kd.R_drewN | apply Kd.R_drew)); exact Kd.R_mono (Kd.R_far (p := ⟨gb405, 4, none⟩) (Kd.R_far (p := ⟨gb405, 3, none⟩) (Kd.R_far (p := ⟨gb405, 2, none⟩) (Kd.R_far (p := ⟨gb405, 1, none⟩) (Kd.R_far (p := ⟨gb405, 0, none⟩) (Kd.R_types HO403.out BK405.out (by decide)) (fun _ hk => hk.2) (.int .i64 t398)) (fun _ hk => hk.2) (.int .i64 t399)) (fun _ hk => hk.2) (.int .i64 t400)) (fun _ hk => hk.2) (.slice Ao37 t401.length co37)) (fun _ hk => hk.2) (.bool true)) (fun _ hk => ⟨hk.1.1, hk.1.2⟩)⟩
                 have n3_ : Aside0 ((((((w33.setCell ⟨gb405, 0, none⟩ (.int .i64 t398)).setCell ⟨gb405, 1, none⟩ (.int .i64 t399)).setCell ⟨gb405, 2, none⟩ (.int .i64 t400)).setCell ⟨gb405, 3, none⟩ (.slice Ao37 t401.length co37)).setCell ⟨gb405, 4, none⟩ (.bool true)).heap[gb384]? = some (.cells #[.int .i64 x385000_2, .int .i64 x385001_2, .int .i64 x385002_2, .slice none 0 0, .bool x385004_2] 37 (0, 0))) := ⟨by exact (blk_far (blk_far (blk_far (blk_far (blk_far BK384.out NB384_405.out _) NB384_405.out _) NB384_405.out _) NB384_405.out _) NB384_405.out _)⟩
                 have n4_ : Aside0 ((((((w33.setCell ⟨gb405, 0, none⟩ (.int .i64 t398)).setCell ⟨gb405, 1, none⟩ (.int .i64 t399)).setCell ⟨gb405, 2, none⟩ (.int .i64 t400)).setCell ⟨gb405, 3, none⟩ (.slice Ao37 t401.length co37)).setCell ⟨gb405, 4, none⟩ (.bool true)).heap[gb395]? = some (.cells #[.int .i64 2, .int .i64 0, .int .i64 0, u396003] 31 (0, 0))) := ⟨by exact (blk_far (blk_far (blk_far (blk_far (blk_far BK395.out NB395_405.out _) NB395_405.out _) NB395_405.out _) NB395_405.out _) NB395_405.out _)⟩
                 have n5_ : Aside0 ((((((w33.setCell ⟨gb405, 0, none⟩ (.int .i64 t398)).setCell ⟨gb405, 1, none⟩ (.int .i64 t399)).setCell ⟨gb405, 2, none⟩ (.int .i64 t400)).setCell ⟨gb405, 3, none⟩ (.slice Ao37 t401.length co37)).setCell ⟨gb405, 4, none⟩ (.bool true)).heap[gb405]? = some (.cells #[.int .i64 t398, .int .i64 t399, .int .i64 t400, .slice Ao37 t401.length co37, .bool true] 37 (0, 0))) := ⟨by exact (put5 BK405.out)⟩
                 have n6_ : Aside0 (Below w.heap.size w (((((w33.setCell ⟨gb405, 0, none⟩ (.int .i64 t398)).setCell ⟨gb405, 1, none⟩ (.int .i64 t399)).setCell ⟨gb405, 2, none⟩ (.int .i64 t400)).setCell ⟨gb405, 3, none⟩ (.slice Ao37 t401.length co37)).setCell ⟨gb405, 4, none⟩ (.bool true))) := ⟨by repeat first | refine zS ?_ GE384.out | refine zS ?_ GE395.out | refine zS ?_ GE405.out | exact HB.out | apply zA | apply zN | apply zD⟩
                 (try clear HO_9)
                 (try clear HO_396003)
                 (try clear HO403)
                 (try clear BK384)
                 (try clear BK395)
                 (try clear BK405)
                 (try clear HB)
                 generalize (((((w33.setCell ⟨gb405, 0, none⟩ (.int .i64 t398)).setCell ⟨gb405, 1, none⟩ (.int .i64 t399)).setCell ⟨gb405, 2, none⟩ (.int .i64 t400)).setCell ⟨gb405, 3, none⟩ (.slice Ao37 t401.length co37)).setCell ⟨gb405, 4, none⟩ (.bool true)) = w40 at n0_ n1_ n2_ n3_ n4_ n5_ n6_ ⊢
                 have HO_9 := n0_
                 have HO_396003 := n1_
                 have HO403 := n2_
                 have BK384 := n3_
                 have BK395 := n4_
                 have BK405 := n5_
                 have HB := n6_
                 clear n0_ n1_ n2_ n3_ n4_ n5_ n6_
                 have hnb41 := NB405_384.out
                 have hnc41 := NB384_405.out
                 have hnb42 := NB405_395.out
                 have hnc42 := NB395_405.out
                 have hcz43_0 : w40.cell? ⟨gb405, 0, none⟩ = some (.int .i64 t398) := (blk_cell BK405.out 0).trans rfl
                 have hcz43_1 : w40.cell? ⟨gb405, 1, none⟩ = some (.int .i64 t399) := (blk_cell BK405.out 1).trans rfl
                 have hcz43_2 : w40.cell? ⟨gb405, 2, none⟩ = some (.int .i64 t400) := (blk_cell BK405.out 2).trans rfl
                 have hcz43_3 : w40.cell? ⟨gb405, 3, none⟩ = some (.slice Ao37 t401.length co37) := (blk_cell BK405.out 3).trans rfl
                 have hcz43_4 : w40.cell? ⟨gb405, 4, none⟩ = some (.bool true) := (blk_cell BK405.out 4).trans rfl
                 have hfz43_0 := blk_frozen BK405.out 0
                 have hfz43_1 := blk_frozen BK405.out 1
                 have hfz43_2 := blk_frozen BK405.out 2
                 have hfz43_3 := blk_frozen BK405.out 3
                 have hfz43_4 := blk_frozen BK405.out 4
                 have p406 : 0 ≤ (x41_2 : Int) := of_decide_eq_true (by first | (with_reducible assumption) | assumption)
                 have q406 : x41_2 < (t392.length : Int) := of_decide_eq_true (by first | (with_reducible assumption) | assumption)
                 obtain ⟨ad406, e406, hx406_0⟩ := Kd.at_int (Kd.R_reads' HO_9.out).2.2 x41_2 p406 q406
                 obtain rfl : ad397 = ad406 := (by injection e406)
                 replace p406 := eq_true p406
                 replace q406 := eq_true q406
                 try go_wp2_with (first | ((with_reducible refine gate_store (t := 3) (p := 75) rfl ?_); refine store_event (t := 3) (p := 75) (v := ?vo_w44) (w1 := (w40.setCell ⟨gb405, 2, none⟩ (.int .i64 (rd t392 x41_2)))) ?hg ?ho ?hn ?hr ?_; (case ho => rfl); (case hg => rfl); (case hn => rfl); (case hr => first | (go_simp; done) | (go_simp; rfl)); intro w44 hw; have n0_ : Aside0 (Kd.R (Kd.int .i64) 3 w44 w.heap.size (fun _ => True) (.slice (some ad397) t392.length co17) t392) := ⟨(by rw [hw]; exact (by (with_reducible repeat (first | apply Kd.R_alloc | apply Kd.R_drewN | apply Kd.R_drew)); exact Kd.R_mono (Kd.R_far (p := ⟨gb405, 2, none⟩) (Kd.R_types HO_9.out BK405.out (by decide)) (fun _ hk => hk.2) (.int .i64 (rd t392 x41_2))) (fun _ hk => trivial)))⟩; have n1_ : Aside0 (Kd.R k31 31 w44 w.heap.size (fun k_ => some k_ ≠ (.slice Ao37 t401.length co37 : Value).ownBlock ∧ k_ ≠ gb395) u396003 x396003_2) := ⟨(by rw [hw]; exact (by (with_reducible repeat (first | apply Kd.R_alloc | apply Kd.R_drewN | apply Kd.R_drew)); exact Kd.R_mono (Kd.R_far (p := ⟨gb405, 2, none⟩) (Kd.R_types HO_396003.out BK405.out (by decide)) (fun _ hk => hk.2) (.int .i64 (rd t392 x41_2))) (fun _ hk => ⟨hk.1.1, hk.1.2⟩)))⟩; have n2_ : Aside0 (Kd.R k31 31 w44 w.heap.size (fun k_ => some k_ ≠ (u396003 : Value).ownBlock ∧ k_ ≠ gb395) (.slice Ao37 t401.length co37) t401) := ⟨(by rw [hw]; exact (by (with_reducible repeat (first | apply Kd.R_alloc | apply Kd.R_drewN | apply Kd.R_drew)); exact Kd.R_mono (Kd.R_far (p := ⟨gb405, 2, none⟩) (Kd.R_types HO403.out BK405.out (by decide)) (fun _ hk => hk.2) (.int .i64 (rd t392 x41_2))) (fun _ hk => ⟨hk.1.1, hk.1.2⟩)))⟩; have n3_ : Aside0 (w44.heap[gb384]? = some (.cells #[.int .i64 x385000_2, .int .i64 x385001_2, .int .i64 x385002_2, .slice none 0 0, .bool x385004_2] 37 (0, 0))) := ⟨(by rw [hw]; exact (by exact (blk_far BK384.out NB384_405.out _)))⟩; have n4_ : Aside0 (w44.heap[gb395]? = some (.cells #[.int .i64 2, .int .i64 0, .int .i64 0, u396003] 31 (0, 0))) := ⟨(by rw [hw]; exact (by exact (blk_far BK395.out NB395_405.out _)))⟩; have n5_ : Aside0 (w44.heap[gb405]? = some (.cells #[.int .i64 t398, .int .i64 t399, .int .i64 (rd t392 x41_2), .slice Ao37 t401.length co37, .bool true] 37 (0, 0))) := ⟨(by rw [hw]; exact (by exact (blk_put BK405.out 2 _ rfl)))⟩; have n6_ : Aside0 (Below w.heap.size w w44) := ⟨(by rw [hw]; exact (by repeat first | refine zS ?_ GE384.out | refine zS ?_ GE395.out | refine zS ?_ GE405.out | exact HB.out | apply zA | apply zN | apply zD))⟩; clear hw; clear HO_9; clear HO_396003; clear HO403; clear BK384; clear BK395; clear BK405; clear HB; have HO_9 := n0_; have HO_396003 := n1_; have HO403 := n2_; have BK384 := n3_; have BK395 := n4_; have BK405 := n5_; have HB := n6_; clear n0_ n1_ n2_ n3_ n4_ n5_ n6_; have hnb45 := NB395_384.out; have hnc45 := NB384_395.out; obtain ⟨hcz46_0, hcz46_1, hcz46_2, hcz46_3, hfz46_0, hfz46_1, hfz46_2, hfz46_3⟩ := cz4 BK395.out; obtain ⟨hcz47_0, hcz47_1, hcz47_2, hcz47_3, hcz47_4, hfz47_0, hfz47_1, hfz47_2, hfz47_3, hfz47_4⟩ := cz5 BK405.out) | ((with_reducible refine gate_builtin (b := .append) (xs := #[.tmp 77, .tmp 80]) rfl ?_); at_builtin; refine Kd.R_append k31 (w0 := w) w.heap.size rfl (.tmp 77) (.tmp 80) 29 31 (.agg #[(.int .i64 0), (.int .i64 0), (.int .i64 0), (.slice none 0 0)]) 48 rfl Try.underlying29 info31 rfl (by decide) (by omega) u396003 x396003_2 (⟨t398, t399, rd t392 x41_2, t401⟩ : S31) [.int .i64 t398, .int .i64 t399, .int .i64 (rd t392 x41_2), .slice Ao37 t401.length co37] (fun k_ => k_ ≠ gb395) (fun k_ => ((fun k_ => k_ ≠ gb395)) k_ ∧ some k_ ≠ (u396003 : Value).ownBlock) rfl rfl ?aP (fun _ hk => hk) ?aF ?aO ?aB ?aS ?aL ?_; (case aP => exact k31_mkM _ _ _ (⟨t398, t399, rd t392 x41_2, t401⟩ : S31) (Kd.R_mono (HO403.out) (fun k_ hk => ⟨hk.2, hk.1⟩))); (case aB => exact (by repeat first | refine zS ?_ GE384.out | refine zS ?_ GE395.out | refine zS ?_ GE405.out | exact HB.out | apply zA | apply zN | apply zD)); (case aF => exact (fun k_ hk => Kd.freshB (g := gb395) (o := .cells #[.int .i64 2, .int .i64 0, .int .i64 0, u396003] 31 (0, 0)) (by (with_reducible repeat (first | refine blk_drewN ?_ _ | refine blk_drew ?_ | refine blk_alloc ?_ _)); exact BK395.out) k_ hk)); (case aO => exact (by (with_reducible repeat (first | apply Kd.R_alloc | apply Kd.R_drewN | apply Kd.R_drew)); exact Kd.R_mono HO_396003.out (fun _ hk => hk.2))); (case aS => exact (below_size (by repeat first | refine zS ?_ GE384.out | refine zS ?_ GE395.out | refine zS ?_ GE405.out | exact HB.out | apply zA | apply zN | apply zD))); (case aL => have := LMc28.out; omega); intro v408 w48 ho hb hg hat; rw [← Ny407.out] at ho; have n0_ := zM (Kd.R_over' (by (with_reducible repeat (first | apply Kd.R_alloc | apply Kd.R_drewN | apply Kd.R_drew)); exact HO_9.out) (Kd.R_typed (by (with_reducible repeat (first | apply Kd.R_alloc | apply Kd.R_drewN | apply Kd.R_drew)); exact HO_396003.out)) (by decide) hg); have n1_ := zM (blk_grown (g := gb384) (o := .cells #[.int .i64 x385000_2, .int .i64 x385001_2, .int .i64 x385002_2, .slice none 0 0, .bool x385004_2] 37 (0, 0)) (by (with_reducible repeat (first | refine blk_drewN ?_ _ | refine blk_drew ?_ | refine blk_alloc ?_ _)); exact BK384.out) hg (Kd.R_ne HO_396003.out BK384.out (by decide))); have n2_ := zM (blk_grown (g := gb395) (o := .cells #[.int .i64 2, .int .i64 0, .int .i64 0, u396003] 31 (0, 0)) (by (with_reducible repeat (first | refine blk_drewN ?_ _ | refine blk_drew ?_ | refine blk_alloc ?_ _)); exact BK395.out) hg (Kd.R_away HO_396003.out (fun _ hk => hk.2))); have n3_ := zM (blk_grown (g := gb405) (o := .cells #[.int .i64 t398, .int .i64 t399, .int .i64 (rd t392 x41_2), .slice Ao37 t401.length co37, .bool true] 37 (0, 0)) (by (with_reducible repeat (first | refine blk_drewN ?_ _ | refine blk_drew ?_ | refine blk_alloc ?_ _)); exact BK405.out) hg (Kd.R_ne HO_396003.out BK405.out (by decide))); have n4_ := zM (hb); have n5_ := zM (ho); clear HO_9; clear BK384; clear BK395; clear BK405; clear HB; clear HO_396003; clear HO403; have HO_9 := n0_; have BK384 := n1_; have BK395 := n2_; have BK405 := n3_; have HB := n4_; have HO409 := n5_; clear n0_ n1_ n2_ n3_ n4_ n5_; clear ho hb hg hat; obtain ⟨Ao49, co49, eo49⟩ := Kd.R_slice HO409.out; subst eo49; obtain ⟨hcz50_0, hcz50_1, hcz50_2, hcz50_3, hfz50_0, hfz50_1, hfz50_2, hfz50_3⟩ := cz4 BK395.out))
                 go_roundg k2
                 case measure => have := HK1.out; have := HK2.out; omega
                 case rel => exact ⟨(wrap64 (x41_2 + 1)), (x385000_2), (x385001_2), (x385002_2), (x385004_2), (y407), (.slice Ao49 y407.length co49), (by first | rfl | (simp; done) | (simp [*]; done)), H', ⟨by have := HK1.out; have := HK2.out; omega⟩, ⟨by (with_reducible repeat (first | apply Kd.R_alloc | apply Kd.R_drewN | apply Kd.R_drew)); exact Kd.R_mono (Kd.R_far (p := ⟨gb395, 3, none⟩) (Kd.R_types HO_9.out BK395.out (by decide)) (fun _ hk => hk.2) (.slice Ao49 y407.length co49)) (fun _ hk => trivial)⟩, ⟨by (with_reducible repeat (first | apply Kd.R_alloc | apply Kd.R_drewN | apply Kd.R_drew)); exact Kd.R_mono (Kd.R_far (p := ⟨gb395, 3, none⟩) (Kd.R_mono HO409.out (fun k_ hk => (⟨hk, hk⟩ : _ ∧ k_ ≠ gb395))) (fun _ hk => hk.2) (.slice Ao49 y407.length co49)) (fun _ hk => hk.1)⟩, ⟨by exact (blk_far BK384.out NB384_395.out _)⟩, ⟨by exact (blk_put BK395.out 3 _ rfl)⟩, ⟨by repeat first | refine zS ?_ GE384.out | refine zS ?_ GE395.out | refine zS ?_ GE405.out | exact HB.out | apply zA | apply zN | apply zD⟩⟩
                ·rw [if_neg c28] at H
                 exact absurd H (by simp)
               ·replace c27 := Bool.eq_false_iff.mpr c27
                subst c27
                have H1 : (some (0, 0, 0, ([] : List (S31)), false)) = some (r1, r2, r3, r4, r5) := by rw [if_neg (show ¬ (false = true) by decide)] at H; exact H
                clear H
                have H := H1
                clear H1
                simp only [Option.some.injEq, Prod.mk.injEq] at H
                obtain ⟨rfl, rfl, rfl, rfl, rfl⟩ := H
                try go_wp2
                replace HO_9 := zM (Kd.R_drew HO_9.out); replace HO_396003 := zM (Kd.R_drew HO_396003.out); replace BK384 := zM (blk_drew BK384.out); replace BK395 := zM (blk_drew BK395.out); replace HB := zM (zD HB.out)
                obtain ⟨i052, hi052, _, hsz52, _⟩ := info_parts info3
                obtain ⟨A52, hcut52, hA52, hC52⟩ := print_mid_of (P := Try.prog) (Value.int .i64) 0 22 3 .i64 .i64 Try.underlying22 hi052 hsz52 A0 c0 l0 (ji20) (l0.length : Int) (of_decide_eq_true (by first | (with_reducible assumption) | assumption)) (by first | omega | exact of_decide_eq_true (by first | (with_reducible assumption) | assumption)) (of_decide_eq_true (by first | (with_reducible assumption) | assumption)) HC0.out
                have HR396 := zM (Kd.C_of_reads (h1 := fun _ => rfl) (hA52 _ (Kd.reads_of_C HR0.out)))
                have HC396 := zM hC52
                clear hA52 hC52 hi052 hsz52
                have p397 : 0 ≤ (x41_2 : Int) := of_decide_eq_true (by first | (with_reducible assumption) | assumption)
                have q397 : x41_2 < (t392.length : Int) := of_decide_eq_true (by first | (with_reducible assumption) | assumption)
                obtain ⟨ad397, e397, hx397_0⟩ := Kd.at_int (Kd.R_reads' HO_9.out).2.2 x41_2 p397 q397
                cases e397
                replace p397 := eq_true p397
                replace q397 := eq_true q397
                refine start_ (n := 14) (S := fun w' => w'.cell? (ad397.add (x41_2).toNat) = some (.int .i64 (rd t392 x41_2))) (ds := []) #[false, false, false, false, false, false, false, false, false, false, false, false, false, false] (by kernel_rfl) rfl rfl (hx397_0) (fun hHeld => ?_); refine with_tabW backseatref12_Rows.tab15 backseatref12_Rows.bits15 (fun HT_ HW_ => ?_)
                generalize wr.drew = w51 at HO_9 HO_396003 BK384 BK395 HB HR396 hx397_0 hHeld ⊢
                refine pv (v := ?_) (a' := ?_) HT_.out 0 (some 54) m55_0_ ?_ ?_ ?_; rotate_left 2; (·intro w'; go_simp; with_reducible rfl); (·simp only [Act.put, s1, s2, s3, i64_w, i32_w]; rfl)
                refine pv (v := ?_) (a' := ?_) HT_.out 1 (some 55) m55_1_ ?_ ?_ ?_; rotate_left 2; (·intro w'; go_simp; with_reducible rfl); (·simp only [Act.put, s1, s2, s3, i64_w, i32_w]; rfl)
                refine pv (v := ?_) (a' := ?_) HT_.out 2 (some 56) m55_2_ ?_ ?_ ?_; rotate_left 2; (·intro w'; go_simp; with_reducible rfl); (·simp only [Act.put, s1, s2, s3, i64_w, i32_w]; rfl)
                refine pv (v := ?_) (a' := ?_) HT_.out 3 (some 57) m55_3_ ?_ ?_ ?_; rotate_left 2; (·intro w'; go_simp; with_reducible rfl); (·simp only [Act.put, s1, s2, s3, i64_w, i32_w]; rfl)
                refine pv (v := ?_) (a' := ?_) HT_.out 4 (some 58) m55_4_ ?_ ?_ ?_; rotate_left 2; (·intro w'; go_simp; with_reducible rfl); (·simp only [Act.put, s1, s2, s3, i64_w, i32_w]; rfl)
                refine pv (v := ?_) (a' := ?_) HT_.out 5 (some 59) m55_5_ ?_ ?_ ?_; rotate_left 2; (·intro w'; go_simp; with_reducible rfl); (·simp only [Act.put, s1, s2, s3, i64_w, i32_w]; rfl)
                refine pv (v := ?_) (a' := ?_) HT_.out 6 (some 60) m55_6_ ?_ ?_ ?_; rotate_left 2; (·intro w'; go_simp; with_reducible rfl); (·simp only [Act.put, s1, s2, s3, i64_w, i32_w]; rfl)
                refine pv (v := ?_) (a' := ?_) HT_.out 7 (some 61) m55_7_ ?_ ?_ ?_; rotate_left 2; (·intro w'; go_simp; with_reducible rfl); (·simp only [Act.put, s1, s2, s3, i64_w, i32_w]; rfl)
                refine pv (v := ?_) (a' := ?_) HT_.out 8 (some 62) m55_8_ ?_ ?_ ?_; rotate_left 2; (·intro w'; go_simp; with_reducible rfl); (·simp only [Act.put, s1, s2, s3, i64_w, i32_w]; rfl)
                refine pv (v := ?_) (a' := ?_) HT_.out 9 (some 63) m55_9_ ?_ ?_ ?_; rotate_left 2; (·intro w'; go_simp; with_reducible rfl); (·simp only [Act.put, s1, s2, s3, i64_w, i32_w]; rfl)
                refine take_ (i := 10) (N := some 64) (v := ?_) (a' := ?_) m55_10_ rfl rfl (take_ofW HT_.out HW_.out (by kernel_rfl)) (fun _ _ _ h => h) (Or.inl ⟨by rfl, ?_⟩) hHeld ?_ ?_
                rotate_left
                ·intro w' s0
                 go_simp
                 with_reducible rfl
                rotate_left
                ·simp only [Act.put, s1, s2, s3, i64_w, i32_w]
                 rfl
                refine join_ (σ := Value × Nat) 1 m55_11_ (fun s_ => [(65, .agg #[.int .i64 t398, .int .i64 t399, .int .i64 t400, s_.1, .bool false]), (13, .pointer (some ⟨s_.2, 0, none⟩))]) (fun s_ w' => (w'.cell? (ad397.add (x41_2).toNat) = some (.int .i64 (rd t392 x41_2))) ∧ (Kd.R k31 31 w' w.heap.size (fun k_ => some k_ ≠ (u396003 : Value).ownBlock ∧ k_ ≠ gb395) s_.1 t401) ∧ (Kd.R k31 31 w' w.heap.size (fun k_ => some k_ ≠ (s_.1 : Value).ownBlock ∧ k_ ≠ gb395) u396003 x396003_2) ∧ (Kd.R (Kd.int .i64) 3 w' w.heap.size (fun _ => True) (.slice (some ad397) t392.length co17) t392) ∧ (w'.heap[gb384]? = some (.cells #[.int .i64 x385000_2, .int .i64 x385001_2, .int .i64 x385002_2, .slice none 0 0, .bool x385004_2] 37 (0, 0))) ∧ (w'.heap[gb395]? = some (.cells #[.int .i64 2, .int .i64 0, .int .i64 0, u396003] 31 (0, 0))) ∧ (w'.heap[s_.2]? = some (.cells #[.int .i64 0, .int .i64 0, .int .i64 0, .slice none 0 0, .bool false] 37 (0, 0))) ∧ (w.heap.size ≤ s_.2) ∧ (w.heap.size ≤ s_.2) ∧ (gb384 ≠ s_.2) ∧ (s_.2 ≠ gb384) ∧ (gb395 ≠ s_.2) ∧ (s_.2 ≠ gb395) ∧ (Below w.heap.size w w')) ?_ ?_
                rotate_left
                ·intro hCont
                 refine two_ (i := 11) (j := 12) (Ni := some 65) (Nj := some 13) m55_12_ m55_13_ rfl rfl rfl rfl (two_of HT_.out (by kernel_rfl)) (by decide) (by decide) (fun K hK => ?_) (fun K hK => ?_)
                 ·skip
                  refine goes_ Try.func54 (by kernel_rfl) rfl #[.slice A52 ((l0.take ((l0.length : Int) : Int).toNat).drop ((ji20) : Int).toNat).length (c0 - (ji20).toNat), .int .i64 1, .int .i64 a1, .int .i64 (rd t392 x41_2)] (by rfl) rfl rfl (by (try simp only [List.map_toArray, List.map_cons, List.map_nil]); first | done | (rw [show ((l0.take ((l0.length : Int) : Int).toNat).drop ((ji20) : Int).toNat).length = ((l0.length : Int).toNat - (ji20).toNat) from (by rw [List.length_drop, List.length_take]; have h_ : ((l0.length : Int) : Int) ≤ (l0.length : Int) := of_decide_eq_true (by first | (with_reducible assumption) | assumption); omega)] <;> rfl) | (simp only [hji20]; rfl) | rfl | (simp only [List.length_drop, List.length_take]; rfl)) ?_
                  with_reducible refine (backseatref12_Line.calls k2 _ _ ((l0.take ((l0.length : Int) : Int).toNat).drop ((ji20) : Int).toNat) 1 a1 (rd t392 x41_2) t398 t399 t400 t401 false _ ?side1 ?side2 A26.out).mono ?_
                  (case side1 => repeat (first | exact (Kd.C_below HR396.out HB.out) | (with_reducible refine Kd.C_alloc ?_ _) | (with_reducible refine Kd.C_drewN ?_ _) | (with_reducible refine Kd.C_drew ?_)))
                  (case side2 => exact HC396.out)
                  rintro e w53 ⟨v402, rfl, ho0, hb⟩
                  have HS0_ := (hb.cell (zL _ _ (hHeld))).trans (hHeld)
                  refine ⟨_, rfl, ?_⟩
                  have HO403 := zM (Kd.R_lower (Kd.R_newB (Kd.R_new' ho0 (Kd.R_lt (by (with_reducible repeat (first | apply Kd.R_alloc | apply Kd.R_drewN | apply Kd.R_drew)); exact HO_396003.out))) (g := gb395) (o := .cells #[.int .i64 2, .int .i64 0, .int .i64 0, u396003] 31 (0, 0)) (by (with_reducible repeat (first | refine blk_drewN ?_ _ | refine blk_drew ?_ | refine blk_alloc ?_ _)); exact BK395.out)) (below_size (by repeat first | refine zS ?_ GE384.out | refine zS ?_ GE395.out | exact HB.out | apply zA | apply zN | apply zD))); replace HO_9 := zM (Kd.R_below (by (with_reducible repeat (first | apply Kd.R_alloc | apply Kd.R_drewN | apply Kd.R_drew)); exact HO_9.out) hb); replace HO_396003 := zM (Kd.R_elder' (by (with_reducible repeat (first | apply Kd.R_alloc | apply Kd.R_drewN | apply Kd.R_drew)); exact HO_396003.out) (Kd.R_base ho0) hb); replace BK384 := zM (bb hb BK384.out); replace BK395 := zM (bb hb BK395.out); replace HB := zM (below_step (by repeat first | refine zS ?_ GE384.out | refine zS ?_ GE395.out | exact HB.out | apply zA | apply zN | apply zD) hb)
                  (try clear hb)
                  (try clear hb2)
                  (try clear hk)
                  (try clear hi)
                  (try clear ho0)
                  refine hK.out _ _ (HS0_) (fun hHeld => ?_)
                  clear hK K
                  refine norm_ (a' := ?_) ?_ ?_
                  rotate_left
                  ·show Act.put _ (some 65) _ = _
                   simp only [Act.put, s1, s2, s3, i64_w, i32_w]
                   rfl
                  refine one_ (i := 12) (N := some 13) m55_11_ rfl rfl (one_of HT_.out (by kernel_rfl)) (by decide) (fun K hK => ?_)
                  refine box_step ?hg (N := 13) ?hd (cs := #[.int .i64 0, .int .i64 0, .int .i64 0, .slice none 0 0, .bool false]) (t := 37) ?hr ?_; (case hd => rfl); (case hg => rfl); (case hr => first | (go_simp; done) | (go_simp; rfl))
                  intro gb405 hg w54 hbox hb
                  have HS0_ := (hb.cell (zL _ _ (hHeld))).trans (hHeld)
                  have BK405 := zM (hbox); have GW405 := zM ((by rw [hg]; exact (below_size (by repeat first | refine zS ?_ GE384.out | refine zS ?_ GE395.out | exact HB.out | apply zA | apply zN | apply zD)) : w.heap.size ≤ gb405)); have GE405 := GW405; have NB384_405 := zM ((by rw [hg]; exact lt1 BK384.out : gb384 ≠ gb405)); have NB405_384 := zM ((by rw [hg]; exact gt1 BK384.out : gb405 ≠ gb384)); have NB395_405 := zM ((by rw [hg]; exact lt1 BK395.out : gb395 ≠ gb405)); have NB405_395 := zM ((by rw [hg]; exact gt1 BK395.out : gb405 ≠ gb395)); replace HO_9 := zM (Kd.R_below (by (with_reducible repeat (first | apply Kd.R_alloc | apply Kd.R_drewN | apply Kd.R_drew)); exact HO_9.out) hb); replace HO_396003 := zM (Kd.R_below (by (with_reducible repeat (first | apply Kd.R_alloc | apply Kd.R_drewN | apply Kd.R_drew)); exact HO_396003.out) hb); replace HO403 := zM (Kd.R_below (by (with_reducible repeat (first | apply Kd.R_alloc | apply Kd.R_drewN | apply Kd.R_drew)); exact HO403.out) hb); replace BK384 := zM (bb hb BK384.out); replace BK395 := zM (bb hb BK395.out); replace HB := zM (below_step (by repeat first | refine zS ?_ GE384.out | refine zS ?_ GE395.out | exact HB.out | apply zA | apply zN | apply zD) hb)
                  clear hb hbox hg
                  refine hK.out _ _ (HS0_) (fun hHeld => ?_)
                  clear hK K
                  refine norm_ (a' := ?_) ?_ ?_
                  rotate_left
                  ·show Act.put _ (some 13) _ = _
                   simp only [Act.put, s1, s2, s3, i64_w, i32_w]
                   rfl
                  exact norm_ (by simp only [putAll, Act.put, List.setIfInBounds_toArray, List.set_cons_zero, List.set_cons_succ]) (hCont (v402, gb405) _ ⟨hHeld, (by (with_reducible repeat (first | apply Kd.R_alloc | apply Kd.R_drewN | apply Kd.R_drew)); exact Kd.R_mono HO403.out (fun _ hk => ⟨hk.1.2, hk.2⟩)), (by (with_reducible repeat (first | apply Kd.R_alloc | apply Kd.R_drewN | apply Kd.R_drew)); exact Kd.R_mono HO_396003.out (fun _ hk => ⟨hk.2, hk.1⟩)), (by (with_reducible repeat (first | apply Kd.R_alloc | apply Kd.R_drewN | apply Kd.R_drew)); exact HO_9.out), (by (with_reducible repeat (first | refine blk_drewN ?_ _ | refine blk_drew ?_ | refine blk_alloc ?_ _)); exact BK384.out), (by (with_reducible repeat (first | refine blk_drewN ?_ _ | refine blk_drew ?_ | refine blk_alloc ?_ _)); exact BK395.out), (by (with_reducible repeat (first | refine blk_drewN ?_ _ | refine blk_drew ?_ | refine blk_alloc ?_ _)); exact BK405.out), GW405.out, GE405.out, NB384_405.out, NB405_384.out, NB395_405.out, NB405_395.out, (by repeat first | refine zS ?_ GE384.out | refine zS ?_ GE395.out | refine zS ?_ GE405.out | exact HB.out | apply zA | apply zN | apply zD)⟩)
                 ·skip
                  refine box_step ?hg (N := 13) ?hd (cs := #[.int .i64 0, .int .i64 0, .int .i64 0, .slice none 0 0, .bool false]) (t := 37) ?hr ?_; (case hd => rfl); (case hg => rfl); (case hr => first | (go_simp; done) | (go_simp; rfl))
                  intro gb405 hg w53 hbox hb
                  have HS0_ := (hb.cell (zL _ _ (hHeld))).trans (hHeld)
                  have BK405 := zM (hbox); have GW405 := zM ((by rw [hg]; exact (below_size (by repeat first | refine zS ?_ GE384.out | refine zS ?_ GE395.out | exact HB.out | apply zA | apply zN | apply zD)) : w.heap.size ≤ gb405)); have GE405 := GW405; have NB384_405 := zM ((by rw [hg]; exact lt1 BK384.out : gb384 ≠ gb405)); have NB405_384 := zM ((by rw [hg]; exact gt1 BK384.out : gb405 ≠ gb384)); have NB395_405 := zM ((by rw [hg]; exact lt1 BK395.out : gb395 ≠ gb405)); have NB405_395 := zM ((by rw [hg]; exact gt1 BK395.out : gb405 ≠ gb395)); replace HO_9 := zM (Kd.R_below (by (with_reducible repeat (first | apply Kd.R_alloc | apply Kd.R_drewN | apply Kd.R_drew)); exact HO_9.out) hb); replace HO_396003 := zM (Kd.R_below (by (with_reducible repeat (first | apply Kd.R_alloc | apply Kd.R_drewN | apply Kd.R_drew)); exact HO_396003.out) hb); replace BK384 := zM (bb hb BK384.out); replace BK395 := zM (bb hb BK395.out); replace HB := zM (below_step (by repeat first | refine zS ?_ GE384.out | refine zS ?_ GE395.out | exact HB.out | apply zA | apply zN | apply zD) hb)
                  clear hb hbox hg
                  refine hK.out _ _ (HS0_) (fun hHeld => ?_)
                  clear hK K
                  refine norm_ (a' := ?_) ?_ ?_
                  rotate_left
                  ·show Act.put _ (some 13) _ = _
                   simp only [Act.put, s1, s2, s3, i64_w, i32_w]
                   rfl
                  refine one_ (i := 11) (N := some 65) m55_11_ rfl rfl (one_of HT_.out (by kernel_rfl)) (by decide) (fun K hK => ?_)
                  refine goes_ Try.func54 (by kernel_rfl) rfl #[.slice A52 ((l0.take ((l0.length : Int) : Int).toNat).drop ((ji20) : Int).toNat).length (c0 - (ji20).toNat), .int .i64 1, .int .i64 a1, .int .i64 (rd t392 x41_2)] (by rfl) rfl rfl (by (try simp only [List.map_toArray, List.map_cons, List.map_nil]); first | done | (rw [show ((l0.take ((l0.length : Int) : Int).toNat).drop ((ji20) : Int).toNat).length = ((l0.length : Int).toNat - (ji20).toNat) from (by rw [List.length_drop, List.length_take]; have h_ : ((l0.length : Int) : Int) ≤ (l0.length : Int) := of_decide_eq_true (by first | (with_reducible assumption) | assumption); omega)] <;> rfl) | (simp only [hji20]; rfl) | rfl | (simp only [List.length_drop, List.length_take]; rfl)) ?_
                  with_reducible refine (backseatref12_Line.calls k2 _ _ ((l0.take ((l0.length : Int) : Int).toNat).drop ((ji20) : Int).toNat) 1 a1 (rd t392 x41_2) t398 t399 t400 t401 false _ ?side1 ?side2 A26.out).mono ?_
                  (case side1 => repeat (first | exact (Kd.C_below HR396.out HB.out) | (with_reducible refine Kd.C_alloc ?_ _) | (with_reducible refine Kd.C_drewN ?_ _) | (with_reducible refine Kd.C_drew ?_)))
                  (case side2 => exact HC396.out)
                  rintro e w54 ⟨v402, rfl, ho0, hb⟩
                  have HS0_ := (hb.cell (zL _ _ (hHeld))).trans (hHeld)
                  refine ⟨_, rfl, ?_⟩
                  have HO403 := zM (Kd.R_lower (Kd.R_newB (Kd.R_new' ho0 (Kd.R_lt (by (with_reducible repeat (first | apply Kd.R_alloc | apply Kd.R_drewN | apply Kd.R_drew)); exact HO_396003.out))) (g := gb395) (o := .cells #[.int .i64 2, .int .i64 0, .int .i64 0, u396003] 31 (0, 0)) (by (with_reducible repeat (first | refine blk_drewN ?_ _ | refine blk_drew ?_ | refine blk_alloc ?_ _)); exact BK395.out)) (below_size (by repeat first | refine zS ?_ GE384.out | refine zS ?_ GE395.out | refine zS ?_ GE405.out | exact HB.out | apply zA | apply zN | apply zD))); replace HO_9 := zM (Kd.R_below (by (with_reducible repeat (first | apply Kd.R_alloc | apply Kd.R_drewN | apply Kd.R_drew)); exact HO_9.out) hb); replace HO_396003 := zM (Kd.R_elder' (by (with_reducible repeat (first | apply Kd.R_alloc | apply Kd.R_drewN | apply Kd.R_drew)); exact HO_396003.out) (Kd.R_base ho0) hb); replace BK384 := zM (bb hb BK384.out); replace BK395 := zM (bb hb BK395.out); replace BK405 := zM (bb hb BK405.out); replace HB := zM (below_step (by repeat first | refine zS ?_ GE384.out | refine zS ?_ GE395.out | refine zS ?_ GE405.out | exact HB.out | apply zA | apply zN | apply zD) hb)
                  (try clear hb)
                  (try clear hb2)
                  (try clear hk)
                  (try clear hi)
                  (try clear ho0)
                  refine hK.out _ _ (HS0_) (fun hHeld => ?_)
                  clear hK K
                  refine norm_ (a' := ?_) ?_ ?_
                  rotate_left
                  ·show Act.put _ (some 65) _ = _
                   simp only [Act.put, s1, s2, s3, i64_w, i32_w]
                   rfl
                  exact norm_ (by simp only [putAll, Act.put, List.setIfInBounds_toArray, List.set_cons_zero, List.set_cons_succ]) (hCont (v402, gb405) _ ⟨hHeld, (by (with_reducible repeat (first | apply Kd.R_alloc | apply Kd.R_drewN | apply Kd.R_drew)); exact Kd.R_mono HO403.out (fun _ hk => ⟨hk.1.2, hk.2⟩)), (by (with_reducible repeat (first | apply Kd.R_alloc | apply Kd.R_drewN | apply Kd.R_drew)); exact Kd.R_mono HO_396003.out (fun _ hk => ⟨hk.2, hk.1⟩)), (by (with_reducible repeat (first | apply Kd.R_alloc | apply Kd.R_drewN | apply Kd.R_drew)); exact HO_9.out), (by (with_reducible repeat (first | refine blk_drewN ?_ _ | refine blk_drew ?_ | refine blk_alloc ?_ _)); exact BK384.out), (by (with_reducible repeat (first | refine blk_drewN ?_ _ | refine blk_drew ?_ | refine blk_alloc ?_ _)); exact BK395.out), (by (with_reducible repeat (first | refine blk_drewN ?_ _ | refine blk_drew ?_ | refine blk_alloc ?_ _)); exact BK405.out), GW405.out, GE405.out, NB384_405.out, NB405_384.out, NB395_405.out, NB405_395.out, (by repeat first | refine zS ?_ GE384.out | refine zS ?_ GE395.out | refine zS ?_ GE405.out | exact HB.out | apply zA | apply zN | apply zD)⟩)
                rintro ⟨v402, gb405⟩ w55 ⟨hS_, h0_, h1_, h2_, h3_, h4_, h5_, h6_, h7_, h8_, h9_, h10_, h11_, h12_⟩
                have n0_ : Aside0 (Kd.R k31 31 w55 w.heap.size (fun k_ => some k_ ≠ (u396003 : Value).ownBlock ∧ k_ ≠ gb395) v402 t401) := ⟨h0_⟩
                have n1_ : Aside0 (Kd.R k31 31 w55 w.heap.size (fun k_ => some k_ ≠ (v402 : Value).ownBlock ∧ k_ ≠ gb395) u396003 x396003_2) := ⟨h1_⟩
                have n2_ : Aside0 (Kd.R (Kd.int .i64) 3 w55 w.heap.size (fun _ => True) (.slice (some ad397) t392.length co17) t392) := ⟨h2_⟩
                have n3_ : Aside0 (w55.heap[gb384]? = some (.cells #[.int .i64 x385000_2, .int .i64 x385001_2, .int .i64 x385002_2, .slice none 0 0, .bool x385004_2] 37 (0, 0))) := ⟨h3_⟩
                have n4_ : Aside0 (w55.heap[gb395]? = some (.cells #[.int .i64 2, .int .i64 0, .int .i64 0, u396003] 31 (0, 0))) := ⟨h4_⟩
                have n5_ : Aside0 (w55.heap[gb405]? = some (.cells #[.int .i64 0, .int .i64 0, .int .i64 0, .slice none 0 0, .bool false] 37 (0, 0))) := ⟨h5_⟩
                have n6_ : Aside0 (w.heap.size ≤ gb405) := ⟨h6_⟩
                have n7_ : Aside0 (w.heap.size ≤ gb405) := ⟨h7_⟩
                have n8_ : Aside0 (gb384 ≠ gb405) := ⟨h8_⟩
                have n9_ : Aside0 (gb405 ≠ gb384) := ⟨h9_⟩
                have n10_ : Aside0 (gb395 ≠ gb405) := ⟨h10_⟩
                have n11_ : Aside0 (gb405 ≠ gb395) := ⟨h11_⟩
                have n12_ : Aside0 (Below w.heap.size w w55) := ⟨h12_⟩
                clear HO_9
                clear HO_396003
                clear BK384
                clear BK395
                clear HB
                clear h0_ h1_ h2_ h3_ h4_ h5_ h6_ h7_ h8_ h9_ h10_ h11_ h12_
                have HO403 := n0_
                have HO_396003 := n1_
                have HO_9 := n2_
                have BK384 := n3_
                have BK395 := n4_
                have BK405 := n5_
                have GW405 := n6_
                have GE405 := n7_
                have NB384_405 := n8_
                have NB405_384 := n9_
                have NB395_405 := n10_
                have NB405_395 := n11_
                have HB := n12_
                clear n0_ n1_ n2_ n3_ n4_ n5_ n6_ n7_ n8_ n9_ n10_ n11_ n12_
                have hHeld : w55.cell? (ad397.add (x41_2).toNat) = some (.int .i64 (rd t392 x41_2)) := hS_
                obtain ⟨Ao59, co59, eo59⟩ := Kd.R_slice HO403.out
                (first | subst eo59 | (injection eo59 with f1_ f2_ f3_; have f4_ := f1_.symm; have f5_ := f3_.symm; clear f1_ f2_ f3_; subst f4_; subst f5_))
                refine norm_ (a' := ?_) ?_ ?_
                rotate_left
                ·simp only [putAll, Act.put, List.setIfInBounds_toArray, List.set_cons_zero, List.set_cons_succ]
                 rfl
                refine one_ (i := 13) (N := none) m55_14_ rfl rfl (one_of HT_.out (by kernel_rfl)) (by decide) (fun K hK => ?_)
                have hs56 : w55.cell? ⟨gb405, 0, none⟩ = some (.int .i64 0) := (blk_cell BK405.out 0).trans rfl
                have hfs56 := blk_frozen BK405.out 0
                have hns56_0 := NB384_405.out
                have hns56_1 := NB395_405.out
                have hms56_0 := NB405_384.out
                have hms56_1 := NB405_395.out
                have hs57 : w55.cell? ⟨gb405, 1, none⟩ = some (.int .i64 0) := (blk_cell BK405.out 1).trans rfl
                have hfs57 := blk_frozen BK405.out 1
                have hns57_0 := NB384_405.out
                have hns57_1 := NB395_405.out
                have hms57_0 := NB405_384.out
                have hms57_1 := NB405_395.out
                have hs58 : w55.cell? ⟨gb405, 2, none⟩ = some (.int .i64 0) := (blk_cell BK405.out 2).trans rfl
                have hfs58 := blk_frozen BK405.out 2
                have hns58_0 := NB384_405.out
                have hns58_1 := NB395_405.out
                have hms58_0 := NB405_384.out
                have hms58_1 := NB405_395.out
                have hs60 : w55.cell? ⟨gb405, 3, none⟩ = some (.slice none 0 0) := (blk_cell BK405.out 3).trans rfl
                have hfs60 := blk_frozen BK405.out 3
                have hns60_0 := NB384_405.out
                have hns60_1 := NB395_405.out
                have hms60_0 := NB405_384.out
                have hms60_1 := NB405_395.out
                have hs61 : w55.cell? ⟨gb405, 4, none⟩ = some (.bool false) := (blk_cell BK405.out 4).trans rfl
                have hfs61 := blk_frozen BK405.out 4
                have hns61_0 := NB384_405.out
                have hns61_1 := NB395_405.out
                have hms61_0 := NB405_384.out
                have hms61_1 := NB405_395.out
                refine skip_ (w1 := ?_) (by rfl) rfl ?_ ?_
                rotate_left
                ·go_simp
                 rfl
                refine hK.out _ _ (((cell_far (p := ⟨gb405, _, none⟩) (by first | exact Kd.own_blk (Kd.R_ne HO_9.out BK405.out (by decide)) | (rw [add_block]; exact Kd.own_blk (Kd.R_ne HO_9.out BK405.out (by decide))) | (show (Addr.add _ _).block ≠ _; rw [add_block]; exact Kd.own_blk (Kd.R_ne HO_9.out BK405.out (by decide))) | (dsimp only; exact Kd.own_blk (Kd.R_ne HO_9.out BK405.out (by decide)))) _).trans (((cell_far (p := ⟨gb405, _, none⟩) (by first | exact Kd.own_blk (Kd.R_ne HO_9.out BK405.out (by decide)) | (rw [add_block]; exact Kd.own_blk (Kd.R_ne HO_9.out BK405.out (by decide))) | (show (Addr.add _ _).block ≠ _; rw [add_block]; exact Kd.own_blk (Kd.R_ne HO_9.out BK405.out (by decide))) | (dsimp only; exact Kd.own_blk (Kd.R_ne HO_9.out BK405.out (by decide)))) _).trans (((cell_far (p := ⟨gb405, _, none⟩) (by first | exact Kd.own_blk (Kd.R_ne HO_9.out BK405.out (by decide)) | (rw [add_block]; exact Kd.own_blk (Kd.R_ne HO_9.out BK405.out (by decide))) | (show (Addr.add _ _).block ≠ _; rw [add_block]; exact Kd.own_blk (Kd.R_ne HO_9.out BK405.out (by decide))) | (dsimp only; exact Kd.own_blk (Kd.R_ne HO_9.out BK405.out (by decide)))) _).trans (((cell_far (p := ⟨gb405, _, none⟩) (by first | exact Kd.own_blk (Kd.R_ne HO_9.out BK405.out (by decide)) | (rw [add_block]; exact Kd.own_blk (Kd.R_ne HO_9.out BK405.out (by decide))) | (show (Addr.add _ _).block ≠ _; rw [add_block]; exact Kd.own_blk (Kd.R_ne HO_9.out BK405.out (by decide))) | (dsimp only; exact Kd.own_blk (Kd.R_ne HO_9.out BK405.out (by decide)))) _).trans (((cell_far (p := ⟨gb405, _, none⟩) (by first | exact Kd.own_blk (Kd.R_ne HO_9.out BK405.out (by decide)) | (rw [add_block]; exact Kd.own_blk (Kd.R_ne HO_9.out BK405.out (by decide))) | (show (Addr.add _ _).block ≠ _; rw [add_block]; exact Kd.own_blk (Kd.R_ne HO_9.out BK405.out (by decide))) | (dsimp only; exact Kd.own_blk (Kd.R_ne HO_9.out BK405.out (by decide)))) _).trans (hHeld))))))))))) (fun hHeld => ?_)
                clear hK K
                refine done_ (done_of HT_.out (by kernel_rfl)) ?_
                have hnb62 := NB405_384.out
                have hnc62 := NB384_405.out
                have hnb63 := NB405_395.out
                have hnc63 := NB395_405.out
                have hcz64_0 : w55.cell? ⟨gb405, 0, none⟩ = some (.int .i64 0) := (blk_cell BK405.out 0).trans rfl
                have hcz64_1 : w55.cell? ⟨gb405, 1, none⟩ = some (.int .i64 0) := (blk_cell BK405.out 1).trans rfl
                have hcz64_2 : w55.cell? ⟨gb405, 2, none⟩ = some (.int .i64 0) := (blk_cell BK405.out 2).trans rfl
                have hcz64_3 : w55.cell? ⟨gb405, 3, none⟩ = some (.slice none 0 0) := (blk_cell BK405.out 3).trans rfl
                have hcz64_4 : w55.cell? ⟨gb405, 4, none⟩ = some (.bool false) := (blk_cell BK405.out 4).trans rfl
                have hfz64_0 := blk_frozen BK405.out 0
                have hfz64_1 := blk_frozen BK405.out 1
                have hfz64_2 := blk_frozen BK405.out 2
                have hfz64_3 := blk_frozen BK405.out 3
                have hfz64_4 := blk_frozen BK405.out 4
                have hnb65 := NB384_395.out
                have hnc65 := NB395_384.out
                have hcz66_0 : w55.cell? ⟨gb384, 0, none⟩ = some (.int .i64 x385000_2) := (blk_cell BK384.out 0).trans rfl
                have hcz66_1 : w55.cell? ⟨gb384, 1, none⟩ = some (.int .i64 x385001_2) := (blk_cell BK384.out 1).trans rfl
                have hcz66_2 : w55.cell? ⟨gb384, 2, none⟩ = some (.int .i64 x385002_2) := (blk_cell BK384.out 2).trans rfl
                have hcz66_3 : w55.cell? ⟨gb384, 3, none⟩ = some (.slice none 0 0) := (blk_cell BK384.out 3).trans rfl
                have hcz66_4 : w55.cell? ⟨gb384, 4, none⟩ = some (.bool x385004_2) := (blk_cell BK384.out 4).trans rfl
                have hfz66_0 := blk_frozen BK384.out 0
                have hfz66_1 := blk_frozen BK384.out 1
                have hfz66_2 := blk_frozen BK384.out 2
                have hfz66_3 := blk_frozen BK384.out 3
                have hfz66_4 := blk_frozen BK384.out 4
                try go_wp2
                refine bodyPost_ret (results_cell_row rfl _ _ gb384 37 #[.int .i64 0, .int .i64 0, .int .i64 0, .slice none 0 0, .bool false] (0, 0) _ rfl (by exact (put5 (blk_far (blk_far (blk_far (blk_far (blk_far BK384.out NB384_405.out _) NB384_405.out _) NB384_405.out _) NB384_405.out _) NB384_405.out _))) Try.underlying37 rfl (by kernel_rfl)) rfl ?_
                exact ⟨_, by first | rfl | (simp [errW_none, errW_some] <;> rfl) | (simp only [← hji20]; first | rfl | (simp [errW_none, errW_some] <;> rfl)) | (simp [*, errW_none, errW_some] <;> rfl), by first | exact Kd.R_nil _ _ _ _ _ | exact Kd.N_nil _ _ _ _ _ | exact Kd.V_nil _ _ _ _ _ | exact Kd.Q_nil _ _ _ _ _ | exact Kd.S_nil _ _ _ _ _, by repeat first | refine zS ?_ GE384.out | refine zS ?_ GE395.out | refine zS ?_ GE405.out | exact HB.out | apply zA | apply zN | apply zD⟩
              ·rw [if_neg c25] at H
               exact absurd H (by simp)
             ·rw [if_neg c24] at H
              exact absurd H (by simp)
            ·rw [if_neg c23] at H
             exact absurd H (by simp)
           ·rw [if_neg c22] at H
            exact absurd H (by simp)
          ·rw [if_neg c21] at H
           exact absurd H (by simp)
         ·rw [if_neg c19] at H
          have c19b0 : decide ((l0.length : Int) < (wrap64 (x7_1 * (wrap64 (x41_2 + 1))))) = false := decide_eq_false c19
          clear c19
          obtain ⟨ji67, hji67⟩ : ∃ j_ : Int, (wrap64 (x7_1 * x41_2)) = j_ := ⟨_, rfl⟩
          replace H : (if 0 ≤ (ji67) then (if (ji67) ≤ (wrap64 (x7_1 * (wrap64 (x41_2 + 1)))) then (if (wrap64 (x7_1 * (wrap64 (x41_2 + 1)))) ≤ (l0.length : Int) then (if 0 ≤ x41_2 then (if x41_2 < (t392.length : Int) then ((backseatref12_Line.f k2 ((l0.take ((wrap64 (x7_1 * (wrap64 (x41_2 + 1)))) : Int).toNat).drop ((ji67) : Int).toNat) 1 a1 (rd t392 x41_2)).bind fun bt412 => (if bt412.2.2.2.2 = true then (if x396003_2.length < 2932031007402 then (backseatref12_Rows.l1 k2 l0 a1 x7_1 t392 (t392.length : Int) (wrap64 (x41_2 + 1)) 2 0 0 (x396003_2 ++ [(⟨bt412.1, bt412.2.1, rd t392 x41_2, bt412.2.2.2.1⟩ : S31)])) else (none)) else (some (0, 0, 0, ([] : List (S31)), false)))) else (none)) else (none)) else (none)) else (none)) else (none)) = some (r1, r2, r3, r4, r5) := by first | (rw [hji67] at H; exact H) | (simp only [hji67] at H ⊢; exact H)
          have hji67w : (IntKind.i64.wrap (x7_1 * x41_2)) = ji67 := (i64_w _).trans hji67
          by_cases c68 : 0 ≤ (ji67)
          ·rw [if_pos c68] at H
           have c68b0 := eq_true c68
           have c68b1 : decide (0 ≤ (ji67)) = true := decide_eq_true c68
           clear c68
           by_cases c69 : (ji67) ≤ (wrap64 (x7_1 * (wrap64 (x41_2 + 1))))
           ·rw [if_pos c69] at H
            have c69b0 := eq_true c69
            have c69b1 : decide ((ji67) ≤ (wrap64 (x7_1 * (wrap64 (x41_2 + 1))))) = true := decide_eq_true c69
            by_cases c70 : (wrap64 (x7_1 * (wrap64 (x41_2 + 1)))) ≤ (l0.length : Int)
            ·rw [if_pos c70] at H
             have c70b0 := eq_true c70
             have c70b1 : decide ((wrap64 (x7_1 * (wrap64 (x41_2 + 1)))) ≤ (l0.length : Int)) = true := decide_eq_true c70
             by_cases c71 : 0 ≤ x41_2
             ·rw [if_pos c71] at H
              have c71b0 : decide (0 ≤ x41_2) = true := decide_eq_true c71
              clear c71
              by_cases c72 : x41_2 < (t392.length : Int)
              ·rw [if_pos c72] at H
               have c72b0 : decide (x41_2 < (t392.length : Int)) = true := decide_eq_true c72
               clear c72
               replace H := Option.bind_eq_some_iff.mp H
               obtain ⟨⟨t412, t413, t414, t415, t418⟩, A730, H⟩ := H
               replace H : (if t418 = true then (if x396003_2.length < 2932031007402 then (backseatref12_Rows.l1 k2 l0 a1 x7_1 t392 (t392.length : Int) (wrap64 (x41_2 + 1)) 2 0 0 (x396003_2 ++ [(⟨t412, t413, rd t392 x41_2, t415⟩ : S31)])) else (none)) else (some (0, 0, 0, ([] : List (S31)), false))) = some (r1, r2, r3, r4, r5) := H
               have A73 := zM A730
               clear A730
               by_cases c74 : t418 = true
               ·subst c74
                have H1 : (if x396003_2.length < 2932031007402 then (backseatref12_Rows.l1 k2 l0 a1 x7_1 t392 (t392.length : Int) (wrap64 (x41_2 + 1)) 2 0 0 (x396003_2 ++ [(⟨t412, t413, rd t392 x41_2, t415⟩ : S31)])) else (none)) = some (r1, r2, r3, r4, r5) := by rw [if_pos rfl] at H; exact H
                clear H
                have H := H1
                clear H1
                by_cases c75 : x396003_2.length < 2932031007402
                ·rw [if_pos c75] at H
                 have LMc75 := zM c75
                 clear c75
                 obtain ⟨y421, hy421⟩ : ∃ y_ : List (S31), y_ = (x396003_2 ++ [(⟨t412, t413, rd t392 x41_2, t415⟩ : S31)]) := ⟨_, rfl⟩
                 replace H : (backseatref12_Rows.l1 k2 l0 a1 x7_1 t392 (t392.length : Int) (wrap64 (x41_2 + 1)) 2 0 0 y421) = some (r1, r2, r3, r4, r5) := by first | (rw [hy421]; with_reducible exact H) | (have H2_ := (Option.bind_some _ _).symm.trans H; rw [hy421]; with_reducible exact H2_) | (have H2_ := (Option.bind_some _ _).symm.trans H; with_reducible exact H2_) | with_reducible exact H | (rw [hy421]; exact H) | exact H
                 have Ny421 := zM hy421
                 clear hy421
                 have H' := zM H
                 clear H
                 try go_wp2
                 replace HO_9 := zM (Kd.R_drew HO_9.out); replace HO_396003 := zM (Kd.R_drew HO_396003.out); replace BK384 := zM (blk_drew BK384.out); replace BK395 := zM (blk_drew BK395.out); replace HB := zM (zD HB.out)
                 obtain ⟨i077, hi077, _, hsz77, _⟩ := info_parts info3
                 obtain ⟨A77, hcut77, hA77, hC77⟩ := print_mid_of (P := Try.prog) (Value.int .i64) 0 22 3 .i64 .i64 Try.underlying22 hi077 hsz77 A0 c0 l0 (ji67) (wrap64 (x7_1 * (wrap64 (x41_2 + 1)))) (of_decide_eq_true (by first | (with_reducible assumption) | assumption)) (by first | omega | exact of_decide_eq_true (by first | (with_reducible assumption) | assumption)) (of_decide_eq_true (by first | (with_reducible assumption) | assumption)) HC0.out
                 have HR410 := zM (Kd.C_of_reads (h1 := fun _ => rfl) (hA77 _ (Kd.reads_of_C HR0.out)))
                 have HC410 := zM hC77
                 clear hA77 hC77 hi077 hsz77
                 have p411 : 0 ≤ (x41_2 : Int) := of_decide_eq_true (by first | (with_reducible assumption) | assumption)
                 have q411 : x41_2 < (t392.length : Int) := of_decide_eq_true (by first | (with_reducible assumption) | assumption)
                 obtain ⟨ad411, e411, hx411_0⟩ := Kd.at_int (Kd.R_reads' HO_9.out).2.2 x41_2 p411 q411
                 cases e411
                 replace p411 := eq_true p411
                 replace q411 := eq_true q411
                 refine start_ (n := 14) (S := fun w' => w'.cell? (ad411.add (x41_2).toNat) = some (.int .i64 (rd t392 x41_2))) (ds := []) #[false, false, false, false, false, false, false, false, false, false, false, false, false, false] (by kernel_rfl) rfl rfl (hx411_0) (fun hHeld => ?_); refine with_tabW backseatref12_Rows.tab15 backseatref12_Rows.bits15 (fun HT_ HW_ => ?_)
                 generalize wr.drew = w76 at HO_9 HO_396003 BK384 BK395 HB HR410 hx411_0 hHeld ⊢
                 refine pv (v := ?_) (a' := ?_) HT_.out 0 (some 54) m55_0_ ?_ ?_ ?_; rotate_left 2; (·intro w'; go_simp; with_reducible rfl); (·simp only [Act.put, s1, s2, s3, i64_w, i32_w]; rfl)
                 refine pv (v := ?_) (a' := ?_) HT_.out 1 (some 55) m55_1_ ?_ ?_ ?_; rotate_left 2; (·intro w'; go_simp; with_reducible rfl); (·simp only [Act.put, s1, s2, s3, i64_w, i32_w]; rfl)
                 refine pv (v := ?_) (a' := ?_) HT_.out 2 (some 56) m55_2_ ?_ ?_ ?_; rotate_left 2; (·intro w'; go_simp; with_reducible rfl); (·simp only [Act.put, s1, s2, s3, i64_w, i32_w]; rfl)
                 refine pv (v := ?_) (a' := ?_) HT_.out 3 (some 57) m55_3_ ?_ ?_ ?_; rotate_left 2; (·intro w'; go_simp; with_reducible rfl); (·simp only [Act.put, s1, s2, s3, i64_w, i32_w]; rfl)
                 refine pv (v := ?_) (a' := ?_) HT_.out 4 (some 58) m55_4_ ?_ ?_ ?_; rotate_left 2; (·intro w'; go_simp; with_reducible rfl); (·simp only [Act.put, s1, s2, s3, i64_w, i32_w]; rfl)
                 refine pv (v := ?_) (a' := ?_) HT_.out 5 (some 59) m55_5_ ?_ ?_ ?_; rotate_left 2; (·intro w'; go_simp; with_reducible rfl); (·simp only [Act.put, s1, s2, s3, i64_w, i32_w]; rfl)
                 refine pv (v := ?_) (a' := ?_) HT_.out 6 (some 60) m55_6_ ?_ ?_ ?_; rotate_left 2; (·intro w'; go_simp; with_reducible rfl); (·simp only [Act.put, s1, s2, s3, i64_w, i32_w]; rfl)
                 refine pv (v := ?_) (a' := ?_) HT_.out 7 (some 61) m55_7_ ?_ ?_ ?_; rotate_left 2; (·intro w'; go_simp; with_reducible rfl); (·simp only [Act.put, s1, s2, s3, i64_w, i32_w]; rfl)
                 refine pv (v := ?_) (a' := ?_) HT_.out 8 (some 62) m55_8_ ?_ ?_ ?_; rotate_left 2; (·intro w'; go_simp; with_reducible rfl); (·simp only [Act.put, s1, s2, s3, i64_w, i32_w]; rfl)
                 refine pv (v := ?_) (a' := ?_) HT_.out 9 (some 63) m55_9_ ?_ ?_ ?_; rotate_left 2; (·intro w'; go_simp; with_reducible rfl); (·simp only [Act.put, s1, s2, s3, i64_w, i32_w]; rfl)
                 refine take_ (i := 10) (N := some 64) (v := ?_) (a' := ?_) m55_10_ rfl rfl (take_ofW HT_.out HW_.out (by kernel_rfl)) (fun _ _ _ h => h) (Or.inl ⟨by rfl, ?_⟩) hHeld ?_ ?_
                 rotate_left
                 ·intro w' s0
                  go_simp
                  with_reducible rfl
                 rotate_left
                 ·simp only [Act.put, s1, s2, s3, i64_w, i32_w]
                  rfl
                 refine join_ (σ := Value × Nat) 1 m55_11_ (fun s_ => [(65, .agg #[.int .i64 t412, .int .i64 t413, .int .i64 t414, s_.1, .bool true]), (13, .pointer (some ⟨s_.2, 0, none⟩))]) (fun s_ w' => (w'.cell? (ad411.add (x41_2).toNat) = some (.int .i64 (rd t392 x41_2))) ∧ (Kd.R k31 31 w' w.heap.size (fun k_ => some k_ ≠ (u396003 : Value).ownBlock ∧ k_ ≠ gb395) s_.1 t415) ∧ (Kd.R k31 31 w' w.heap.size (fun k_ => some k_ ≠ (s_.1 : Value).ownBlock ∧ k_ ≠ gb395) u396003 x396003_2) ∧ (Kd.R (Kd.int .i64) 3 w' w.heap.size (fun _ => True) (.slice (some ad411) t392.length co17) t392) ∧ (w'.heap[gb384]? = some (.cells #[.int .i64 x385000_2, .int .i64 x385001_2, .int .i64 x385002_2, .slice none 0 0, .bool x385004_2] 37 (0, 0))) ∧ (w'.heap[gb395]? = some (.cells #[.int .i64 2, .int .i64 0, .int .i64 0, u396003] 31 (0, 0))) ∧ (w'.heap[s_.2]? = some (.cells #[.int .i64 0, .int .i64 0, .int .i64 0, .slice none 0 0, .bool false] 37 (0, 0))) ∧ (w.heap.size ≤ s_.2) ∧ (w.heap.size ≤ s_.2) ∧ (gb384 ≠ s_.2) ∧ (s_.2 ≠ gb384) ∧ (gb395 ≠ s_.2) ∧ (s_.2 ≠ gb395) ∧ (Below w.heap.size w w')) ?_ ?_
                 rotate_left
                 ·intro hCont
                  refine two_ (i := 11) (j := 12) (Ni := some 65) (Nj := some 13) m55_12_ m55_13_ rfl rfl rfl rfl (two_of HT_.out (by kernel_rfl)) (by decide) (by decide) (fun K hK => ?_) (fun K hK => ?_)
                  ·skip
                   refine goes_ Try.func54 (by kernel_rfl) rfl #[.slice A77 ((l0.take ((wrap64 (x7_1 * (wrap64 (x41_2 + 1)))) : Int).toNat).drop ((ji67) : Int).toNat).length (c0 - (ji67).toNat), .int .i64 1, .int .i64 a1, .int .i64 (rd t392 x41_2)] (by rfl) rfl rfl (by (try simp only [List.map_toArray, List.map_cons, List.map_nil]); first | done | (rw [show ((l0.take ((wrap64 (x7_1 * (wrap64 (x41_2 + 1)))) : Int).toNat).drop ((ji67) : Int).toNat).length = ((wrap64 (x7_1 * (wrap64 (x41_2 + 1)))).toNat - (ji67).toNat) from (by rw [List.length_drop, List.length_take]; have h_ : ((wrap64 (x7_1 * (wrap64 (x41_2 + 1)))) : Int) ≤ (l0.length : Int) := of_decide_eq_true (by first | (with_reducible assumption) | assumption); omega)] <;> rfl) | (simp only [hji67]; rfl) | rfl | (simp only [List.length_drop, List.length_take]; rfl)) ?_
                   with_reducible refine (backseatref12_Line.calls k2 _ _ ((l0.take ((wrap64 (x7_1 * (wrap64 (x41_2 + 1)))) : Int).toNat).drop ((ji67) : Int).toNat) 1 a1 (rd t392 x41_2) t412 t413 t414 t415 true _ ?side1 ?side2 A73.out).mono ?_
                   (case side1 => repeat (first | exact (Kd.C_below HR410.out HB.out) | (with_reducible refine Kd.C_alloc ?_ _) | (with_reducible refine Kd.C_drewN ?_ _) | (with_reducible refine Kd.C_drew ?_)))
                   (case side2 => exact HC410.out)
                   rintro e w78 ⟨v416, rfl, ho0, hb⟩
                   have HS0_ := (hb.cell (zL _ _ (hHeld))).trans (hHeld)
                   refine ⟨_, rfl, ?_⟩
                   have HO417 := zM (Kd.R_lower (Kd.R_newB (Kd.R_new' ho0 (Kd.R_lt (by (with_reducible repeat (first | apply Kd.R_alloc | apply Kd.R_drewN | apply Kd.R_drew)); exact HO_396003.out))) (g := gb395) (o := .cells #[.int .i64 2, .int .i64 0, .int .i64 0, u396003] 31 (0, 0)) (by (with_reducible repeat (first | refine blk_drewN ?_ _ | refine blk_drew ?_ | refine blk_alloc ?_ _)); exact BK395.out)) (below_size (by repeat first | refine zS ?_ GE384.out | refine zS ?_ GE395.out | exact HB.out | apply zA | apply zN | apply zD))); replace HO_9 := zM (Kd.R_below (by (with_reducible repeat (first | apply Kd.R_alloc | apply Kd.R_drewN | apply Kd.R_drew)); exact HO_9.out) hb); replace HO_396003 := zM (Kd.R_elder' (by (with_reducible repeat (first | apply Kd.R_alloc | apply Kd.R_drewN | apply Kd.R_drew)); exact HO_396003.out) (Kd.R_base ho0) hb); replace BK384 := zM (bb hb BK384.out); replace BK395 := zM (bb hb BK395.out); replace HB := zM (below_step (by repeat first | refine zS ?_ GE384.out | refine zS ?_ GE395.out | exact HB.out | apply zA | apply zN | apply zD) hb)
                   (try clear hb)
                   (try clear hb2)
                   (try clear hk)
                   (try clear hi)
                   (try clear ho0)
                   refine hK.out _ _ (HS0_) (fun hHeld => ?_)
                   clear hK K
                   refine norm_ (a' := ?_) ?_ ?_
                   rotate_left
                   ·show Act.put _ (some 65) _ = _
                    simp only [Act.put, s1, s2, s3, i64_w, i32_w]
                    rfl
                   refine one_ (i := 12) (N := some 13) m55_11_ rfl rfl (one_of HT_.out (by kernel_rfl)) (by decide) (fun K hK => ?_)
                   refine box_step ?hg (N := 13) ?hd (cs := #[.int .i64 0, .int .i64 0, .int .i64 0, .slice none 0 0, .bool false]) (t := 37) ?hr ?_; (case hd => rfl); (case hg => rfl); (case hr => first | (go_simp; done) | (go_simp; rfl))
                   intro gb419 hg w79 hbox hb
                   have HS0_ := (hb.cell (zL _ _ (hHeld))).trans (hHeld)
                   have BK419 := zM (hbox); have GW419 := zM ((by rw [hg]; exact (below_size (by repeat first | refine zS ?_ GE384.out | refine zS ?_ GE395.out | exact HB.out | apply zA | apply zN | apply zD)) : w.heap.size ≤ gb419)); have GE419 := GW419; have NB384_419 := zM ((by rw [hg]; exact lt1 BK384.out : gb384 ≠ gb419)); have NB419_384 := zM ((by rw [hg]; exact gt1 BK384.out : gb419 ≠ gb384)); have NB395_419 := zM ((by rw [hg]; exact lt1 BK395.out : gb395 ≠ gb419)); have NB419_395 := zM ((by rw [hg]; exact gt1 BK395.out : gb419 ≠ gb395)); replace HO_9 := zM (Kd.R_below (by (with_reducible repeat (first | apply Kd.R_alloc | apply Kd.R_drewN | apply Kd.R_drew)); exact HO_9.out) hb); replace HO_396003 := zM (Kd.R_below (by (with_reducible repeat (first | apply Kd.R_alloc | apply Kd.R_drewN | apply Kd.R_drew)); exact HO_396003.out) hb); replace HO417 := zM (Kd.R_below (by (with_reducible repeat (first | apply Kd.R_alloc | apply Kd.R_drewN | apply Kd.R_drew)); exact HO417.out) hb); replace BK384 := zM (bb hb BK384.out); replace BK395 := zM (bb hb BK395.out); replace HB := zM (below_step (by repeat first | refine zS ?_ GE384.out | refine zS ?_ GE395.out | exact HB.out | apply zA | apply zN | apply zD) hb)
                   clear hb hbox hg
                   refine hK.out _ _ (HS0_) (fun hHeld => ?_)
                   clear hK K
                   refine norm_ (a' := ?_) ?_ ?_
                   rotate_left
                   ·show Act.put _ (some 13) _ = _
                    simp only [Act.put, s1, s2, s3, i64_w, i32_w]
                    rfl
                   exact norm_ (by simp only [putAll, Act.put, List.setIfInBounds_toArray, List.set_cons_zero, List.set_cons_succ]) (hCont (v416, gb419) _ ⟨hHeld, (by (with_reducible repeat (first | apply Kd.R_alloc | apply Kd.R_drewN | apply Kd.R_drew)); exact Kd.R_mono HO417.out (fun _ hk => ⟨hk.1.2, hk.2⟩)), (by (with_reducible repeat (first | apply Kd.R_alloc | apply Kd.R_drewN | apply Kd.R_drew)); exact Kd.R_mono HO_396003.out (fun _ hk => ⟨hk.2, hk.1⟩)), (by (with_reducible repeat (first | apply Kd.R_alloc | apply Kd.R_drewN | apply Kd.R_drew)); exact HO_9.out), (by (with_reducible repeat (first | refine blk_drewN ?_ _ | refine blk_drew ?_ | refine blk_alloc ?_ _)); exact BK384.out), (by (with_reducible repeat (first | refine blk_drewN ?_ _ | refine blk_drew ?_ | refine blk_alloc ?_ _)); exact BK395.out), (by (with_reducible repeat (first | refine blk_drewN ?_ _ | refine blk_drew ?_ | refine blk_alloc ?_ _)); exact BK419.out), GW419.out, GE419.out, NB384_419.out, NB419_384.out, NB395_419.out, NB419_395.out, (by repeat first | refine zS ?_ GE384.out | refine zS ?_ GE395.out | refine zS ?_ GE419.out | exact HB.out | apply zA | apply zN | apply zD)⟩)
                  ·skip
                   refine box_step ?hg (N := 13) ?hd (cs := #[.int .i64 0, .int .i64 0, .int .i64 0, .slice none 0 0, .bool false]) (t := 37) ?hr ?_; (case hd => rfl); (case hg => rfl); (case hr => first | (go_simp; done) | (go_simp; rfl))
                   intro gb419 hg w78 hbox hb
                   have HS0_ := (hb.cell (zL _ _ (hHeld))).trans (hHeld)
                   have BK419 := zM (hbox); have GW419 := zM ((by rw [hg]; exact (below_size (by repeat first | refine zS ?_ GE384.out | refine zS ?_ GE395.out | exact HB.out | apply zA | apply zN | apply zD)) : w.heap.size ≤ gb419)); have GE419 := GW419; have NB384_419 := zM ((by rw [hg]; exact lt1 BK384.out : gb384 ≠ gb419)); have NB419_384 := zM ((by rw [hg]; exact gt1 BK384.out : gb419 ≠ gb384)); have NB395_419 := zM ((by rw [hg]; exact lt1 BK395.out : gb395 ≠ gb419)); have NB419_395 := zM ((by rw [hg]; exact gt1 BK395.out : gb419 ≠ gb395)); replace HO_9 := zM (Kd.R_below (by (with_reducible repeat (first | apply Kd.R_alloc | apply Kd.R_drewN | apply Kd.R_drew)); exact HO_9.out) hb); replace HO_396003 := zM (Kd.R_below (by (with_reducible repeat (first | apply Kd.R_alloc | apply Kd.R_drewN | apply Kd.R_drew)); exact HO_396003.out) hb); replace BK384 := zM (bb hb BK384.out); replace BK395 := zM (bb hb BK395.out); replace HB := zM (below_step (by repeat first | refine zS ?_ GE384.out | refine zS ?_ GE395.out | exact HB.out | apply zA | apply zN | apply zD) hb)
                   clear hb hbox hg
                   refine hK.out _ _ (HS0_) (fun hHeld => ?_)
                   clear hK K
                   refine norm_ (a' := ?_) ?_ ?_
                   rotate_left
                   ·show Act.put _ (some 13) _ = _
                    simp only [Act.put, s1, s2, s3, i64_w, i32_w]
                    rfl
                   refine one_ (i := 11) (N := some 65) m55_11_ rfl rfl (one_of HT_.out (by kernel_rfl)) (by decide) (fun K hK => ?_)
                   refine goes_ Try.func54 (by kernel_rfl) rfl #[.slice A77 ((l0.take ((wrap64 (x7_1 * (wrap64 (x41_2 + 1)))) : Int).toNat).drop ((ji67) : Int).toNat).length (c0 - (ji67).toNat), .int .i64 1, .int .i64 a1, .int .i64 (rd t392 x41_2)] (by rfl) rfl rfl (by (try simp only [List.map_toArray, List.map_cons, List.map_nil]); first | done | (rw [show ((l0.take ((wrap64 (x7_1 * (wrap64 (x41_2 + 1)))) : Int).toNat).drop ((ji67) : Int).toNat).length = ((wrap64 (x7_1 * (wrap64 (x41_2 + 1)))).toNat - (ji67).toNat) from (by rw [List.length_drop, List.length_take]; have h_ : ((wrap64 (x7_1 * (wrap64 (x41_2 + 1)))) : Int) ≤ (l0.length : Int) := of_decide_eq_true (by first | (with_reducible assumption) | assumption); omega)] <;> rfl) | (simp only [hji67]; rfl) | rfl | (simp only [List.length_drop, List.length_take]; rfl)) ?_
                   with_reducible refine (backseatref12_Line.calls k2 _ _ ((l0.take ((wrap64 (x7_1 * (wrap64 (x41_2 + 1)))) : Int).toNat).drop ((ji67) : Int).toNat) 1 a1 (rd t392 x41_2) t412 t413 t414 t415 true _ ?side1 ?side2 A73.out).mono ?_
                   (case side1 => repeat (first | exact (Kd.C_below HR410.out HB.out) | (with_reducible refine Kd.C_alloc ?_ _) | (with_reducible refine Kd.C_drewN ?_ _) | (with_reducible refine Kd.C_drew ?_)))
                   (case side2 => exact HC410.out)
                   rintro e w79 ⟨v416, rfl, ho0, hb⟩
                   have HS0_ := (hb.cell (zL _ _ (hHeld))).trans (hHeld)
                   refine ⟨_, rfl, ?_⟩
                   have HO417 := zM (Kd.R_lower (Kd.R_newB (Kd.R_new' ho0 (Kd.R_lt (by (with_reducible repeat (first | apply Kd.R_alloc | apply Kd.R_drewN | apply Kd.R_drew)); exact HO_396003.out))) (g := gb395) (o := .cells #[.int .i64 2, .int .i64 0, .int .i64 0, u396003] 31 (0, 0)) (by (with_reducible repeat (first | refine blk_drewN ?_ _ | refine blk_drew ?_ | refine blk_alloc ?_ _)); exact BK395.out)) (below_size (by repeat first | refine zS ?_ GE384.out | refine zS ?_ GE395.out | refine zS ?_ GE419.out | exact HB.out | apply zA | apply zN | apply zD))); replace HO_9 := zM (Kd.R_below (by (with_reducible repeat (first | apply Kd.R_alloc | apply Kd.R_drewN | apply Kd.R_drew)); exact HO_9.out) hb); replace HO_396003 := zM (Kd.R_elder' (by (with_reducible repeat (first | apply Kd.R_alloc | apply Kd.R_drewN | apply Kd.R_drew)); exact HO_396003.out) (Kd.R_base ho0) hb); replace BK384 := zM (bb hb BK384.out); replace BK395 := zM (bb hb BK395.out); replace BK419 := zM (bb hb BK419.out); replace HB := zM (below_step (by repeat first | refine zS ?_ GE384.out | refine zS ?_ GE395.out | refine zS ?_ GE419.out | exact HB.out | apply zA | apply zN | apply zD) hb)
                   (try clear hb)
                   (try clear hb2)
                   (try clear hk)
                   (try clear hi)
                   (try clear ho0)
                   refine hK.out _ _ (HS0_) (fun hHeld => ?_)
                   clear hK K
                   refine norm_ (a' := ?_) ?_ ?_
                   rotate_left
                   ·show Act.put _ (some 65) _ = _
                    simp only [Act.put, s1, s2, s3, i64_w, i32_w]
                    rfl
                   exact norm_ (by simp only [putAll, Act.put, List.setIfInBounds_toArray, List.set_cons_zero, List.set_cons_succ]) (hCont (v416, gb419) _ ⟨hHeld, (by (with_reducible repeat (first | apply Kd.R_alloc | apply Kd.R_drewN | apply Kd.R_drew)); exact Kd.R_mono HO417.out (fun _ hk => ⟨hk.1.2, hk.2⟩)), (by (with_reducible repeat (first | apply Kd.R_alloc | apply Kd.R_drewN | apply Kd.R_drew)); exact Kd.R_mono HO_396003.out (fun _ hk => ⟨hk.2, hk.1⟩)), (by (with_reducible repeat (first | apply Kd.R_alloc | apply Kd.R_drewN | apply Kd.R_drew)); exact HO_9.out), (by (with_reducible repeat (first | refine blk_drewN ?_ _ | refine blk_drew ?_ | refine blk_alloc ?_ _)); exact BK384.out), (by (with_reducible repeat (first | refine blk_drewN ?_ _ | refine blk_drew ?_ | refine blk_alloc ?_ _)); exact BK395.out), (by (with_reducible repeat (first | refine blk_drewN ?_ _ | refine blk_drew ?_ | refine blk_alloc ?_ _)); exact BK419.out), GW419.out, GE419.out, NB384_419.out, NB419_384.out, NB395_419.out, NB419_395.out, (by repeat first | refine zS ?_ GE384.out | refine zS ?_ GE395.out | refine zS ?_ GE419.out | exact HB.out | apply zA | apply zN | apply zD)⟩)
                 rintro ⟨v416, gb419⟩ w80 ⟨hS_, h0_, h1_, h2_, h3_, h4_, h5_, h6_, h7_, h8_, h9_, h10_, h11_, h12_⟩
                 have n0_ : Aside0 (Kd.R k31 31 w80 w.heap.size (fun k_ => some k_ ≠ (u396003 : Value).ownBlock ∧ k_ ≠ gb395) v416 t415) := ⟨h0_⟩
                 have n1_ : Aside0 (Kd.R k31 31 w80 w.heap.size (fun k_ => some k_ ≠ (v416 : Value).ownBlock ∧ k_ ≠ gb395) u396003 x396003_2) := ⟨h1_⟩
                 have n2_ : Aside0 (Kd.R (Kd.int .i64) 3 w80 w.heap.size (fun _ => True) (.slice (some ad411) t392.length co17) t392) := ⟨h2_⟩
                 have n3_ : Aside0 (w80.heap[gb384]? = some (.cells #[.int .i64 x385000_2, .int .i64 x385001_2, .int .i64 x385002_2, .slice none 0 0, .bool x385004_2] 37 (0, 0))) := ⟨h3_⟩
                 have n4_ : Aside0 (w80.heap[gb395]? = some (.cells #[.int .i64 2, .int .i64 0, .int .i64 0, u396003] 31 (0, 0))) := ⟨h4_⟩
                 have n5_ : Aside0 (w80.heap[gb419]? = some (.cells #[.int .i64 0, .int .i64 0, .int .i64 0, .slice none 0 0, .bool false] 37 (0, 0))) := ⟨h5_⟩
                 have n6_ : Aside0 (w.heap.size ≤ gb419) := ⟨h6_⟩
                 have n7_ : Aside0 (w.heap.size ≤ gb419) := ⟨h7_⟩
                 have n8_ : Aside0 (gb384 ≠ gb419) := ⟨h8_⟩
                 have n9_ : Aside0 (gb419 ≠ gb384) := ⟨h9_⟩
                 have n10_ : Aside0 (gb395 ≠ gb419) := ⟨h10_⟩
                 have n11_ : Aside0 (gb419 ≠ gb395) := ⟨h11_⟩
                 have n12_ : Aside0 (Below w.heap.size w w80) := ⟨h12_⟩
                 clear HO_9
                 clear HO_396003
                 clear BK384
                 clear BK395
                 clear HB
                 clear h0_ h1_ h2_ h3_ h4_ h5_ h6_ h7_ h8_ h9_ h10_ h11_ h12_
                 have HO417 := n0_
                 have HO_396003 := n1_
                 have HO_9 := n2_
                 have BK384 := n3_
                 have BK395 := n4_
                 have BK419 := n5_
                 have GW419 := n6_
                 have GE419 := n7_
                 have NB384_419 := n8_
                 have NB419_384 := n9_
                 have NB395_419 := n10_
                 have NB419_395 := n11_
                 have HB := n12_
                 clear n0_ n1_ n2_ n3_ n4_ n5_ n6_ n7_ n8_ n9_ n10_ n11_ n12_
                 have hHeld : w80.cell? (ad411.add (x41_2).toNat) = some (.int .i64 (rd t392 x41_2)) := hS_
                 obtain ⟨Ao84, co84, eo84⟩ := Kd.R_slice HO417.out
                 (first | subst eo84 | (injection eo84 with f1_ f2_ f3_; have f4_ := f1_.symm; have f5_ := f3_.symm; clear f1_ f2_ f3_; subst f4_; subst f5_))
                 refine norm_ (a' := ?_) ?_ ?_
                 rotate_left
                 ·simp only [putAll, Act.put, List.setIfInBounds_toArray, List.set_cons_zero, List.set_cons_succ]
                  rfl
                 refine one_ (i := 13) (N := none) m55_14_ rfl rfl (one_of HT_.out (by kernel_rfl)) (by decide) (fun K hK => ?_)
                 have hs81 : w80.cell? ⟨gb419, 0, none⟩ = some (.int .i64 0) := (blk_cell BK419.out 0).trans rfl
                 have hfs81 := blk_frozen BK419.out 0
                 have hns81_0 := NB384_419.out
                 have hns81_1 := NB395_419.out
                 have hms81_0 := NB419_384.out
                 have hms81_1 := NB419_395.out
                 have hs82 : w80.cell? ⟨gb419, 1, none⟩ = some (.int .i64 0) := (blk_cell BK419.out 1).trans rfl
                 have hfs82 := blk_frozen BK419.out 1
                 have hns82_0 := NB384_419.out
                 have hns82_1 := NB395_419.out
                 have hms82_0 := NB419_384.out
                 have hms82_1 := NB419_395.out
                 have hs83 : w80.cell? ⟨gb419, 2, none⟩ = some (.int .i64 0) := (blk_cell BK419.out 2).trans rfl
                 have hfs83 := blk_frozen BK419.out 2
                 have hns83_0 := NB384_419.out
                 have hns83_1 := NB395_419.out
                 have hms83_0 := NB419_384.out
                 have hms83_1 := NB419_395.out
                 have hs85 : w80.cell? ⟨gb419, 3, none⟩ = some (.slice none 0 0) := (blk_cell BK419.out 3).trans rfl
                 have hfs85 := blk_frozen BK419.out 3
                 have hns85_0 := NB384_419.out
                 have hns85_1 := NB395_419.out
                 have hms85_0 := NB419_384.out
                 have hms85_1 := NB419_395.out
                 have hs86 : w80.cell? ⟨gb419, 4, none⟩ = some (.bool false) := (blk_cell BK419.out 4).trans rfl
                 have hfs86 := blk_frozen BK419.out 4
                 have hns86_0 := NB384_419.out
                 have hns86_1 := NB395_419.out
                 have hms86_0 := NB419_384.out
                 have hms86_1 := NB419_395.out
                 refine skip_ (w1 := ?_) (by rfl) rfl ?_ ?_
                 rotate_left
                 ·go_simp
                  rfl
                 refine hK.out _ _ (((cell_far (p := ⟨gb419, _, none⟩) (by first | exact Kd.own_blk (Kd.R_ne HO_9.out BK419.out (by decide)) | (rw [add_block]; exact Kd.own_blk (Kd.R_ne HO_9.out BK419.out (by decide))) | (show (Addr.add _ _).block ≠ _; rw [add_block]; exact Kd.own_blk (Kd.R_ne HO_9.out BK419.out (by decide))) | (dsimp only; exact Kd.own_blk (Kd.R_ne HO_9.out BK419.out (by decide)))) _).trans (((cell_far (p := ⟨gb419, _, none⟩) (by first | exact Kd.own_blk (Kd.R_ne HO_9.out BK419.out (by decide)) | (rw [add_block]; exact Kd.own_blk (Kd.R_ne HO_9.out BK419.out (by decide))) | (show (Addr.add _ _).block ≠ _; rw [add_block]; exact Kd.own_blk (Kd.R_ne HO_9.out BK419.out (by decide))) | (dsimp only; exact Kd.own_blk (Kd.R_ne HO_9.out BK419.out (by decide)))) _).trans (((cell_far (p := ⟨gb419, _, none⟩) (by first | exact Kd.own_blk (Kd.R_ne HO_9.out BK419.out (by decide)) | (rw [add_block]; exact Kd.own_blk (Kd.R_ne HO_9.out BK419.out (by decide))) | (show (Addr.add _ _).block ≠ _; rw [add_block]; exact Kd.own_blk (Kd.R_ne HO_9.out BK419.out (by decide))) | (dsimp only; exact Kd.own_blk (Kd.R_ne HO_9.out BK419.out (by decide)))) _).trans (((cell_far (p := ⟨gb419, _, none⟩) (by first | exact Kd.own_blk (Kd.R_ne HO_9.out BK419.out (by decide)) | (rw [add_block]; exact Kd.own_blk (Kd.R_ne HO_9.out BK419.out (by decide))) | (show (Addr.add _ _).block ≠ _; rw [add_block]; exact Kd.own_blk (Kd.R_ne HO_9.out BK419.out (by decide))) | (dsimp only; exact Kd.own_blk (Kd.R_ne HO_9.out BK419.out (by decide)))) _).trans (((cell_far (p := ⟨gb419, _, none⟩) (by first | exact Kd.own_blk (Kd.R_ne HO_9.out BK419.out (by decide)) | (rw [add_block]; exact Kd.own_blk (Kd.R_ne HO_9.out BK419.out (by decide))) | (show (Addr.add _ _).block ≠ _; rw [add_block]; exact Kd.own_blk (Kd.R_ne HO_9.out BK419.out (by decide))) | (dsimp only; exact Kd.own_blk (Kd.R_ne HO_9.out BK419.out (by decide)))) _).trans (hHeld))))))))))) (fun hHeld => ?_)
                 clear hK K
                 refine done_ (done_of HT_.out (by kernel_rfl)) ?_
                 have n0_ : Aside0 (Kd.R (Kd.int .i64) 3 (((((w80.setCell ⟨gb419, 0, none⟩ (.int .i64 t412)).setCell ⟨gb419, 1, none⟩ (.int .i64 t413)).setCell ⟨gb419, 2, none⟩ (.int .i64 t414)).setCell ⟨gb419, 3, none⟩ (.slice Ao84 t415.length co84)).setCell ⟨gb419, 4, none⟩ (.bool true)) w.heap.size (fun _ => True) (.slice (some ad411) t392.length co17) t392) := ⟨by (with_reducible repeat (first | apply Kd.R_alloc | apply Kd.R_drewN | apply Kd.R_drew)); exact Kd.R_mono (Kd.R_far (p := ⟨gb419, 4, none⟩) (Kd.R_far (p := ⟨gb419, 3, none⟩) (Kd.R_far (p := ⟨gb419, 2, none⟩) (Kd.R_far (p := ⟨gb419, 1, none⟩) (Kd.R_far (p := ⟨gb419, 0, none⟩) (Kd.R_types HO_9.out BK419.out (by decide)) (fun _ hk => hk.2) (.int .i64 t412)) (fun _ hk => hk.2) (.int .i64 t413)) (fun _ hk => hk.2) (.int .i64 t414)) (fun _ hk => hk.2) (.slice Ao84 t415.length co84)) (fun _ hk => hk.2) (.bool true)) (fun _ hk => trivial)⟩
                 have n1_ : Aside0 (Kd.R k31 31 (((((w80.setCell ⟨gb419, 0, none⟩ (.int .i64 t412)).setCell ⟨gb419, 1, none⟩ (.int .i64 t413)).setCell ⟨gb419, 2, none⟩ (.int .i64 t414)).setCell ⟨gb419, 3, none⟩ (.slice Ao84 t415.length co84)).setCell ⟨gb419, 4, none⟩ (.bool true)) w.heap.size (fun k_ => some k_ ≠ (.slice Ao84 t415.length co84 : Value).ownBlock ∧ k_ ≠ gb395) u396003 x396003_2) := ⟨by (with_reducible repeat (first | apply Kd.R_alloc | apply Kd.R_drewN | apply Kd.R_drew)); exact Kd.R_mono (Kd.R_far (p := ⟨gb419, 4, none⟩) (Kd.R_far (p := ⟨gb419, 3, none⟩) (Kd.R_far (p := ⟨gb419, 2, none⟩) (Kd.R_far (p := ⟨gb419, 1, none⟩) (Kd.R_far (p := ⟨gb419, 0, none⟩) (Kd.R_types HO_396003.out BK419.out (by decide)) (fun _ hk => hk.2) (.int .i64 t412)) (fun _ hk => hk.2) (.int .i64 t413)) (fun _ hk => hk.2) (.int .i64 t414)) (fun _ hk => hk.2) (.slice Ao84 t415.length co84)) (fun _ hk => hk.2) (.bool true)) (fun _ hk => ⟨hk.1.1, hk.1.2⟩)⟩
                 have n2_ : Aside0 (Kd.R k31 31 (((((w80.setCell ⟨gb419, 0, none⟩ (.int .i64 t412)).setCell ⟨gb419, 1, none⟩ (.int .i64 t413)).setCell ⟨gb419, 2, none⟩ (.int .i64 t414)).setCell ⟨gb419, 3, none⟩ (.slice Ao84 t415.length co84)).setCell ⟨gb419, 4, none⟩ (.bool true)) w.heap.size (fun k_ => some k_ ≠ (u396003 : Value).ownBlock ∧ k_ ≠ gb395) (.slice Ao84 t415.length co84) t415) := ⟨by (with_reducible repeat (first | apply Kd.R_alloc | apply Kd.R_drewN | apply Kd.R_drew)); exact Kd.R_mono (Kd.R_far (p := ⟨gb419, 4, none⟩) (Kd.R_far (p := ⟨gb419, 3, none⟩) (Kd.R_far (p := ⟨gb419, 2, none⟩) (Kd.R_far (p := ⟨gb419, 1, none⟩) (Kd.R_far (p := ⟨gb419, 0, none⟩) (Kd.R_types HO417.out BK419.out (by decide)) (fun _ hk => hk.2) (.int .i64 t412)) (fun _ hk => hk.2) (.int .i64 t413)) (fun _ hk => hk.2) (.int .i64 t414)) (fun _ hk => hk.2) (.slice Ao84 t415.length co84)) (fun _ hk => hk.2) (.bool true)) (fun _ hk => ⟨hk.1.1, hk.1.2⟩)⟩
                 have n3_ : Aside0 ((((((w80.setCell ⟨gb419, 0, none⟩ (.int .i64 t412)).setCell ⟨gb419, 1, none⟩ (.int .i64 t413)).setCell ⟨gb419, 2, none⟩ (.int .i64 t414)).setCell ⟨gb419, 3, none⟩ (.slice Ao84 t415.length co84)).setCell ⟨gb419, 4, none⟩ (.bool true)).heap[gb384]? = some (.cells #[.int .i64 x385000_2, .int .i64 x385001_2, .int .i64 x385002_2, .slice none 0 0, .bool x385004_2] 37 (0, 0))) := ⟨by exact (blk_far (blk_far (blk_far (blk_far (blk_far BK384.out NB384_419.out _) NB384_419.out _) NB384_419.out _) NB384_419.out _) NB384_419.out _)⟩
                 have n4_ : Aside0 ((((((w80.setCell ⟨gb419, 0, none⟩ (.int .i64 t412)).setCell ⟨gb419, 1, none⟩ (.int .i64 t413)).setCell ⟨gb419, 2, none⟩ (.int .i64 t414)).setCell ⟨gb419, 3, none⟩ (.slice Ao84 t415.length co84)).setCell ⟨gb419, 4, none⟩ (.bool true)).heap[gb395]? = some (.cells #[.int .i64 2, .int .i64 0, .int .i64 0, u396003] 31 (0, 0))) := ⟨by exact (blk_far (blk_far (blk_far (blk_far (blk_far BK395.out NB395_419.out _) NB395_419.out _) NB395_419.out _) NB395_419.out _) NB395_419.out _)⟩
                 have n5_ : Aside0 ((((((w80.setCell ⟨gb419, 0, none⟩ (.int .i64 t412)).setCell ⟨gb419, 1, none⟩ (.int .i64 t413)).setCell ⟨gb419, 2, none⟩ (.int .i64 t414)).setCell ⟨gb419, 3, none⟩ (.slice Ao84 t415.length co84)).setCell ⟨gb419, 4, none⟩ (.bool true)).heap[gb419]? = some (.cells #[.int .i64 t412, .int .i64 t413, .int .i64 t414, .slice Ao84 t415.length co84, .bool true] 37 (0, 0))) := ⟨by exact (put5 BK419.out)⟩
                 have n6_ : Aside0 (Below w.heap.size w (((((w80.setCell ⟨gb419, 0, none⟩ (.int .i64 t412)).setCell ⟨gb419, 1, none⟩ (.int .i64 t413)).setCell ⟨gb419, 2, none⟩ (.int .i64 t414)).setCell ⟨gb419, 3, none⟩ (.slice Ao84 t415.length co84)).setCell ⟨gb419, 4, none⟩ (.bool true))) := ⟨by repeat first | refine zS ?_ GE384.out | refine zS ?_ GE395.out | refine zS ?_ GE419.out | exact HB.out | apply zA | apply zN | apply zD⟩
                 (try clear HO_9)
                 (try clear HO_396003)
                 (try clear HO417)
                 (try clear BK384)
                 (try clear BK395)
                 (try clear BK419)
                 (try clear HB)
                 generalize (((((w80.setCell ⟨gb419, 0, none⟩ (.int .i64 t412)).setCell ⟨gb419, 1, none⟩ (.int .i64 t413)).setCell ⟨gb419, 2, none⟩ (.int .i64 t414)).setCell ⟨gb419, 3, none⟩ (.slice Ao84 t415.length co84)).setCell ⟨gb419, 4, none⟩ (.bool true)) = w87 at n0_ n1_ n2_ n3_ n4_ n5_ n6_ ⊢
                 have HO_9 := n0_
                 have HO_396003 := n1_
                 have HO417 := n2_
                 have BK384 := n3_
                 have BK395 := n4_
                 have BK419 := n5_
                 have HB := n6_
                 clear n0_ n1_ n2_ n3_ n4_ n5_ n6_
                 have hnb88 := NB419_384.out
                 have hnc88 := NB384_419.out
                 have hnb89 := NB419_395.out
                 have hnc89 := NB395_419.out
                 have hcz90_0 : w87.cell? ⟨gb419, 0, none⟩ = some (.int .i64 t412) := (blk_cell BK419.out 0).trans rfl
                 have hcz90_1 : w87.cell? ⟨gb419, 1, none⟩ = some (.int .i64 t413) := (blk_cell BK419.out 1).trans rfl
                 have hcz90_2 : w87.cell? ⟨gb419, 2, none⟩ = some (.int .i64 t414) := (blk_cell BK419.out 2).trans rfl
                 have hcz90_3 : w87.cell? ⟨gb419, 3, none⟩ = some (.slice Ao84 t415.length co84) := (blk_cell BK419.out 3).trans rfl
                 have hcz90_4 : w87.cell? ⟨gb419, 4, none⟩ = some (.bool true) := (blk_cell BK419.out 4).trans rfl
                 have hfz90_0 := blk_frozen BK419.out 0
                 have hfz90_1 := blk_frozen BK419.out 1
                 have hfz90_2 := blk_frozen BK419.out 2
                 have hfz90_3 := blk_frozen BK419.out 3
                 have hfz90_4 := blk_frozen BK419.out 4
                 have p420 : 0 ≤ (x41_2 : Int) := of_decide_eq_true (by first | (with_reducible assumption) | assumption)
                 have q420 : x41_2 < (t392.length : Int) := of_decide_eq_true (by first | (with_reducible assumption) | assumption)
                 obtain ⟨ad420, e420, hx420_0⟩ := Kd.at_int (Kd.R_reads' HO_9.out).2.2 x41_2 p420 q420
                 obtain rfl : ad411 = ad420 := (by injection e420)
                 replace p420 := eq_true p420
                 replace q420 := eq_true q420
                 try go_wp2_with (first | ((with_reducible refine gate_store (t := 3) (p := 75) rfl ?_); refine store_event (t := 3) (p := 75) (v := ?vo_w91) (w1 := (w87.setCell ⟨gb419, 2, none⟩ (.int .i64 (rd t392 x41_2)))) ?hg ?ho ?hn ?hr ?_; (case ho => rfl); (case hg => rfl); (case hn => rfl); (case hr => first | (go_simp; done) | (go_simp; rfl)); intro w91 hw; have n0_ : Aside0 (Kd.R (Kd.int .i64) 3 w91 w.heap.size (fun _ => True) (.slice (some ad411) t392.length co17) t392) := ⟨(by rw [hw]; exact (by (with_reducible repeat (first | apply Kd.R_alloc | apply Kd.R_drewN | apply Kd.R_drew)); exact Kd.R_mono (Kd.R_far (p := ⟨gb419, 2, none⟩) (Kd.R_types HO_9.out BK419.out (by decide)) (fun _ hk => hk.2) (.int .i64 (rd t392 x41_2))) (fun _ hk => trivial)))⟩; have n1_ : Aside0 (Kd.R k31 31 w91 w.heap.size (fun k_ => some k_ ≠ (.slice Ao84 t415.length co84 : Value).ownBlock ∧ k_ ≠ gb395) u396003 x396003_2) := ⟨(by rw [hw]; exact (by (with_reducible repeat (first | apply Kd.R_alloc | apply Kd.R_drewN | apply Kd.R_drew)); exact Kd.R_mono (Kd.R_far (p := ⟨gb419, 2, none⟩) (Kd.R_types HO_396003.out BK419.out (by decide)) (fun _ hk => hk.2) (.int .i64 (rd t392 x41_2))) (fun _ hk => ⟨hk.1.1, hk.1.2⟩)))⟩; have n2_ : Aside0 (Kd.R k31 31 w91 w.heap.size (fun k_ => some k_ ≠ (u396003 : Value).ownBlock ∧ k_ ≠ gb395) (.slice Ao84 t415.length co84) t415) := ⟨(by rw [hw]; exact (by (with_reducible repeat (first | apply Kd.R_alloc | apply Kd.R_drewN | apply Kd.R_drew)); exact Kd.R_mono (Kd.R_far (p := ⟨gb419, 2, none⟩) (Kd.R_types HO417.out BK419.out (by decide)) (fun _ hk => hk.2) (.int .i64 (rd t392 x41_2))) (fun _ hk => ⟨hk.1.1, hk.1.2⟩)))⟩; have n3_ : Aside0 (w91.heap[gb384]? = some (.cells #[.int .i64 x385000_2, .int .i64 x385001_2, .int .i64 x385002_2, .slice none 0 0, .bool x385004_2] 37 (0, 0))) := ⟨(by rw [hw]; exact (by exact (blk_far BK384.out NB384_419.out _)))⟩; have n4_ : Aside0 (w91.heap[gb395]? = some (.cells #[.int .i64 2, .int .i64 0, .int .i64 0, u396003] 31 (0, 0))) := ⟨(by rw [hw]; exact (by exact (blk_far BK395.out NB395_419.out _)))⟩; have n5_ : Aside0 (w91.heap[gb419]? = some (.cells #[.int .i64 t412, .int .i64 t413, .int .i64 (rd t392 x41_2), .slice Ao84 t415.length co84, .bool true] 37 (0, 0))) := ⟨(by rw [hw]; exact (by exact (blk_put BK419.out 2 _ rfl)))⟩; have n6_ : Aside0 (Below w.heap.size w w91) := ⟨(by rw [hw]; exact (by repeat first | refine zS ?_ GE384.out | refine zS ?_ GE395.out | refine zS ?_ GE419.out | exact HB.out | apply zA | apply zN | apply zD))⟩; clear hw; clear HO_9; clear HO_396003; clear HO417; clear BK384; clear BK395; clear BK419; clear HB; have HO_9 := n0_; have HO_396003 := n1_; have HO417 := n2_; have BK384 := n3_; have BK395 := n4_; have BK419 := n5_; have HB := n6_; clear n0_ n1_ n2_ n3_ n4_ n5_ n6_; have hnb92 := NB395_384.out; have hnc92 := NB384_395.out; obtain ⟨hcz93_0, hcz93_1, hcz93_2, hcz93_3, hfz93_0, hfz93_1, hfz93_2, hfz93_3⟩ := cz4 BK395.out; obtain ⟨hcz94_0, hcz94_1, hcz94_2, hcz94_3, hcz94_4, hfz94_0, hfz94_1, hfz94_2, hfz94_3, hfz94_4⟩ := cz5 BK419.out) | ((with_reducible refine gate_builtin (b := .append) (xs := #[.tmp 77, .tmp 80]) rfl ?_); at_builtin; refine Kd.R_append k31 (w0 := w) w.heap.size rfl (.tmp 77) (.tmp 80) 29 31 (.agg #[(.int .i64 0), (.int .i64 0), (.int .i64 0), (.slice none 0 0)]) 48 rfl Try.underlying29 info31 rfl (by decide) (by omega) u396003 x396003_2 (⟨t412, t413, rd t392 x41_2, t415⟩ : S31) [.int .i64 t412, .int .i64 t413, .int .i64 (rd t392 x41_2), .slice Ao84 t415.length co84] (fun k_ => k_ ≠ gb395) (fun k_ => ((fun k_ => k_ ≠ gb395)) k_ ∧ some k_ ≠ (u396003 : Value).ownBlock) rfl rfl ?aP (fun _ hk => hk) ?aF ?aO ?aB ?aS ?aL ?_; (case aP => exact k31_mkM _ _ _ (⟨t412, t413, rd t392 x41_2, t415⟩ : S31) (Kd.R_mono (HO417.out) (fun k_ hk => ⟨hk.2, hk.1⟩))); (case aB => exact (by repeat first | refine zS ?_ GE384.out | refine zS ?_ GE395.out | refine zS ?_ GE419.out | exact HB.out | apply zA | apply zN | apply zD)); (case aF => exact (fun k_ hk => Kd.freshB (g := gb395) (o := .cells #[.int .i64 2, .int .i64 0, .int .i64 0, u396003] 31 (0, 0)) (by (with_reducible repeat (first | refine blk_drewN ?_ _ | refine blk_drew ?_ | refine blk_alloc ?_ _)); exact BK395.out) k_ hk)); (case aO => exact (by (with_reducible repeat (first | apply Kd.R_alloc | apply Kd.R_drewN | apply Kd.R_drew)); exact Kd.R_mono HO_396003.out (fun _ hk => hk.2))); (case aS => exact (below_size (by repeat first | refine zS ?_ GE384.out | refine zS ?_ GE395.out | refine zS ?_ GE419.out | exact HB.out | apply zA | apply zN | apply zD))); (case aL => have := LMc75.out; omega); intro v422 w95 ho hb hg hat; rw [← Ny421.out] at ho; have n0_ := zM (Kd.R_over' (by (with_reducible repeat (first | apply Kd.R_alloc | apply Kd.R_drewN | apply Kd.R_drew)); exact HO_9.out) (Kd.R_typed (by (with_reducible repeat (first | apply Kd.R_alloc | apply Kd.R_drewN | apply Kd.R_drew)); exact HO_396003.out)) (by decide) hg); have n1_ := zM (blk_grown (g := gb384) (o := .cells #[.int .i64 x385000_2, .int .i64 x385001_2, .int .i64 x385002_2, .slice none 0 0, .bool x385004_2] 37 (0, 0)) (by (with_reducible repeat (first | refine blk_drewN ?_ _ | refine blk_drew ?_ | refine blk_alloc ?_ _)); exact BK384.out) hg (Kd.R_ne HO_396003.out BK384.out (by decide))); have n2_ := zM (blk_grown (g := gb395) (o := .cells #[.int .i64 2, .int .i64 0, .int .i64 0, u396003] 31 (0, 0)) (by (with_reducible repeat (first | refine blk_drewN ?_ _ | refine blk_drew ?_ | refine blk_alloc ?_ _)); exact BK395.out) hg (Kd.R_away HO_396003.out (fun _ hk => hk.2))); have n3_ := zM (blk_grown (g := gb419) (o := .cells #[.int .i64 t412, .int .i64 t413, .int .i64 (rd t392 x41_2), .slice Ao84 t415.length co84, .bool true] 37 (0, 0)) (by (with_reducible repeat (first | refine blk_drewN ?_ _ | refine blk_drew ?_ | refine blk_alloc ?_ _)); exact BK419.out) hg (Kd.R_ne HO_396003.out BK419.out (by decide))); have n4_ := zM (hb); have n5_ := zM (ho); clear HO_9; clear BK384; clear BK395; clear BK419; clear HB; clear HO_396003; clear HO417; have HO_9 := n0_; have BK384 := n1_; have BK395 := n2_; have BK419 := n3_; have HB := n4_; have HO423 := n5_; clear n0_ n1_ n2_ n3_ n4_ n5_; clear ho hb hg hat; obtain ⟨Ao96, co96, eo96⟩ := Kd.R_slice HO423.out; subst eo96; obtain ⟨hcz97_0, hcz97_1, hcz97_2, hcz97_3, hfz97_0, hfz97_1, hfz97_2, hfz97_3⟩ := cz4 BK395.out))
                 go_roundg k2
                 case measure => have := HK1.out; have := HK2.out; omega
                 case rel => exact ⟨(wrap64 (x41_2 + 1)), (x385000_2), (x385001_2), (x385002_2), (x385004_2), (y421), (.slice Ao96 y421.length co96), (by first | rfl | (simp; done) | (simp [*]; done)), H', ⟨by have := HK1.out; have := HK2.out; omega⟩, ⟨by (with_reducible repeat (first | apply Kd.R_alloc | apply Kd.R_drewN | apply Kd.R_drew)); exact Kd.R_mono (Kd.R_far (p := ⟨gb395, 3, none⟩) (Kd.R_types HO_9.out BK395.out (by decide)) (fun _ hk => hk.2) (.slice Ao96 y421.length co96)) (fun _ hk => trivial)⟩, ⟨by (with_reducible repeat (first | apply Kd.R_alloc | apply Kd.R_drewN | apply Kd.R_drew)); exact Kd.R_mono (Kd.R_far (p := ⟨gb395, 3, none⟩) (Kd.R_mono HO423.out (fun k_ hk => (⟨hk, hk⟩ : _ ∧ k_ ≠ gb395))) (fun _ hk => hk.2) (.slice Ao96 y421.length co96)) (fun _ hk => hk.1)⟩, ⟨by exact (blk_far BK384.out NB384_395.out _)⟩, ⟨by exact (blk_put BK395.out 3 _ rfl)⟩, ⟨by repeat first | refine zS ?_ GE384.out | refine zS ?_ GE395.out | refine zS ?_ GE419.out | exact HB.out | apply zA | apply zN | apply zD⟩⟩
                ·rw [if_neg c75] at H
                 exact absurd H (by simp)
               ·replace c74 := Bool.eq_false_iff.mpr c74
                subst c74
                have H1 : (some (0, 0, 0, ([] : List (S31)), false)) = some (r1, r2, r3, r4, r5) := by rw [if_neg (show ¬ (false = true) by decide)] at H; exact H
                clear H
                have H := H1
                clear H1
                simp only [Option.some.injEq, Prod.mk.injEq] at H
                obtain ⟨rfl, rfl, rfl, rfl, rfl⟩ := H
                try go_wp2
                replace HO_9 := zM (Kd.R_drew HO_9.out); replace HO_396003 := zM (Kd.R_drew HO_396003.out); replace BK384 := zM (blk_drew BK384.out); replace BK395 := zM (blk_drew BK395.out); replace HB := zM (zD HB.out)
                obtain ⟨i099, hi099, _, hsz99, _⟩ := info_parts info3
                obtain ⟨A99, hcut99, hA99, hC99⟩ := print_mid_of (P := Try.prog) (Value.int .i64) 0 22 3 .i64 .i64 Try.underlying22 hi099 hsz99 A0 c0 l0 (ji67) (wrap64 (x7_1 * (wrap64 (x41_2 + 1)))) (of_decide_eq_true (by first | (with_reducible assumption) | assumption)) (by first | omega | exact of_decide_eq_true (by first | (with_reducible assumption) | assumption)) (of_decide_eq_true (by first | (with_reducible assumption) | assumption)) HC0.out
                have HR410 := zM (Kd.C_of_reads (h1 := fun _ => rfl) (hA99 _ (Kd.reads_of_C HR0.out)))
                have HC410 := zM hC99
                clear hA99 hC99 hi099 hsz99
                have p411 : 0 ≤ (x41_2 : Int) := of_decide_eq_true (by first | (with_reducible assumption) | assumption)
                have q411 : x41_2 < (t392.length : Int) := of_decide_eq_true (by first | (with_reducible assumption) | assumption)
                obtain ⟨ad411, e411, hx411_0⟩ := Kd.at_int (Kd.R_reads' HO_9.out).2.2 x41_2 p411 q411
                cases e411
                replace p411 := eq_true p411
                replace q411 := eq_true q411
                refine start_ (n := 14) (S := fun w' => w'.cell? (ad411.add (x41_2).toNat) = some (.int .i64 (rd t392 x41_2))) (ds := []) #[false, false, false, false, false, false, false, false, false, false, false, false, false, false] (by kernel_rfl) rfl rfl (hx411_0) (fun hHeld => ?_); refine with_tabW backseatref12_Rows.tab15 backseatref12_Rows.bits15 (fun HT_ HW_ => ?_)
                generalize wr.drew = w98 at HO_9 HO_396003 BK384 BK395 HB HR410 hx411_0 hHeld ⊢
                refine pv (v := ?_) (a' := ?_) HT_.out 0 (some 54) m55_0_ ?_ ?_ ?_; rotate_left 2; (·intro w'; go_simp; with_reducible rfl); (·simp only [Act.put, s1, s2, s3, i64_w, i32_w]; rfl)
                refine pv (v := ?_) (a' := ?_) HT_.out 1 (some 55) m55_1_ ?_ ?_ ?_; rotate_left 2; (·intro w'; go_simp; with_reducible rfl); (·simp only [Act.put, s1, s2, s3, i64_w, i32_w]; rfl)
                refine pv (v := ?_) (a' := ?_) HT_.out 2 (some 56) m55_2_ ?_ ?_ ?_; rotate_left 2; (·intro w'; go_simp; with_reducible rfl); (·simp only [Act.put, s1, s2, s3, i64_w, i32_w]; rfl)
                refine pv (v := ?_) (a' := ?_) HT_.out 3 (some 57) m55_3_ ?_ ?_ ?_; rotate_left 2; (·intro w'; go_simp; with_reducible rfl); (·simp only [Act.put, s1, s2, s3, i64_w, i32_w]; rfl)
                refine pv (v := ?_) (a' := ?_) HT_.out 4 (some 58) m55_4_ ?_ ?_ ?_; rotate_left 2; (·intro w'; go_simp; with_reducible rfl); (·simp only [Act.put, s1, s2, s3, i64_w, i32_w]; rfl)
                refine pv (v := ?_) (a' := ?_) HT_.out 5 (some 59) m55_5_ ?_ ?_ ?_; rotate_left 2; (·intro w'; go_simp; with_reducible rfl); (·simp only [Act.put, s1, s2, s3, i64_w, i32_w]; rfl)
                refine pv (v := ?_) (a' := ?_) HT_.out 6 (some 60) m55_6_ ?_ ?_ ?_; rotate_left 2; (·intro w'; go_simp; with_reducible rfl); (·simp only [Act.put, s1, s2, s3, i64_w, i32_w]; rfl)
                refine pv (v := ?_) (a' := ?_) HT_.out 7 (some 61) m55_7_ ?_ ?_ ?_; rotate_left 2; (·intro w'; go_simp; with_reducible rfl); (·simp only [Act.put, s1, s2, s3, i64_w, i32_w]; rfl)
                refine pv (v := ?_) (a' := ?_) HT_.out 8 (some 62) m55_8_ ?_ ?_ ?_; rotate_left 2; (·intro w'; go_simp; with_reducible rfl); (·simp only [Act.put, s1, s2, s3, i64_w, i32_w]; rfl)
                refine pv (v := ?_) (a' := ?_) HT_.out 9 (some 63) m55_9_ ?_ ?_ ?_; rotate_left 2; (·intro w'; go_simp; with_reducible rfl); (·simp only [Act.put, s1, s2, s3, i64_w, i32_w]; rfl)
                refine take_ (i := 10) (N := some 64) (v := ?_) (a' := ?_) m55_10_ rfl rfl (take_ofW HT_.out HW_.out (by kernel_rfl)) (fun _ _ _ h => h) (Or.inl ⟨by rfl, ?_⟩) hHeld ?_ ?_
                rotate_left
                ·intro w' s0
                 go_simp
                 with_reducible rfl
                rotate_left
                ·simp only [Act.put, s1, s2, s3, i64_w, i32_w]
                 rfl
                refine join_ (σ := Value × Nat) 1 m55_11_ (fun s_ => [(65, .agg #[.int .i64 t412, .int .i64 t413, .int .i64 t414, s_.1, .bool false]), (13, .pointer (some ⟨s_.2, 0, none⟩))]) (fun s_ w' => (w'.cell? (ad411.add (x41_2).toNat) = some (.int .i64 (rd t392 x41_2))) ∧ (Kd.R k31 31 w' w.heap.size (fun k_ => some k_ ≠ (u396003 : Value).ownBlock ∧ k_ ≠ gb395) s_.1 t415) ∧ (Kd.R k31 31 w' w.heap.size (fun k_ => some k_ ≠ (s_.1 : Value).ownBlock ∧ k_ ≠ gb395) u396003 x396003_2) ∧ (Kd.R (Kd.int .i64) 3 w' w.heap.size (fun _ => True) (.slice (some ad411) t392.length co17) t392) ∧ (w'.heap[gb384]? = some (.cells #[.int .i64 x385000_2, .int .i64 x385001_2, .int .i64 x385002_2, .slice none 0 0, .bool x385004_2] 37 (0, 0))) ∧ (w'.heap[gb395]? = some (.cells #[.int .i64 2, .int .i64 0, .int .i64 0, u396003] 31 (0, 0))) ∧ (w'.heap[s_.2]? = some (.cells #[.int .i64 0, .int .i64 0, .int .i64 0, .slice none 0 0, .bool false] 37 (0, 0))) ∧ (w.heap.size ≤ s_.2) ∧ (w.heap.size ≤ s_.2) ∧ (gb384 ≠ s_.2) ∧ (s_.2 ≠ gb384) ∧ (gb395 ≠ s_.2) ∧ (s_.2 ≠ gb395) ∧ (Below w.heap.size w w')) ?_ ?_
                rotate_left
                ·intro hCont
                 refine two_ (i := 11) (j := 12) (Ni := some 65) (Nj := some 13) m55_12_ m55_13_ rfl rfl rfl rfl (two_of HT_.out (by kernel_rfl)) (by decide) (by decide) (fun K hK => ?_) (fun K hK => ?_)
                 ·skip
                  refine goes_ Try.func54 (by kernel_rfl) rfl #[.slice A99 ((l0.take ((wrap64 (x7_1 * (wrap64 (x41_2 + 1)))) : Int).toNat).drop ((ji67) : Int).toNat).length (c0 - (ji67).toNat), .int .i64 1, .int .i64 a1, .int .i64 (rd t392 x41_2)] (by rfl) rfl rfl (by (try simp only [List.map_toArray, List.map_cons, List.map_nil]); first | done | (rw [show ((l0.take ((wrap64 (x7_1 * (wrap64 (x41_2 + 1)))) : Int).toNat).drop ((ji67) : Int).toNat).length = ((wrap64 (x7_1 * (wrap64 (x41_2 + 1)))).toNat - (ji67).toNat) from (by rw [List.length_drop, List.length_take]; have h_ : ((wrap64 (x7_1 * (wrap64 (x41_2 + 1)))) : Int) ≤ (l0.length : Int) := of_decide_eq_true (by first | (with_reducible assumption) | assumption); omega)] <;> rfl) | (simp only [hji67]; rfl) | rfl | (simp only [List.length_drop, List.length_take]; rfl)) ?_
                  with_reducible refine (backseatref12_Line.calls k2 _ _ ((l0.take ((wrap64 (x7_1 * (wrap64 (x41_2 + 1)))) : Int).toNat).drop ((ji67) : Int).toNat) 1 a1 (rd t392 x41_2) t412 t413 t414 t415 false _ ?side1 ?side2 A73.out).mono ?_
                  (case side1 => repeat (first | exact (Kd.C_below HR410.out HB.out) | (with_reducible refine Kd.C_alloc ?_ _) | (with_reducible refine Kd.C_drewN ?_ _) | (with_reducible refine Kd.C_drew ?_)))
                  (case side2 => exact HC410.out)
                  rintro e w100 ⟨v416, rfl, ho0, hb⟩
                  have HS0_ := (hb.cell (zL _ _ (hHeld))).trans (hHeld)
                  refine ⟨_, rfl, ?_⟩
                  have HO417 := zM (Kd.R_lower (Kd.R_newB (Kd.R_new' ho0 (Kd.R_lt (by (with_reducible repeat (first | apply Kd.R_alloc | apply Kd.R_drewN | apply Kd.R_drew)); exact HO_396003.out))) (g := gb395) (o := .cells #[.int .i64 2, .int .i64 0, .int .i64 0, u396003] 31 (0, 0)) (by (with_reducible repeat (first | refine blk_drewN ?_ _ | refine blk_drew ?_ | refine blk_alloc ?_ _)); exact BK395.out)) (below_size (by repeat first | refine zS ?_ GE384.out | refine zS ?_ GE395.out | exact HB.out | apply zA | apply zN | apply zD))); replace HO_9 := zM (Kd.R_below (by (with_reducible repeat (first | apply Kd.R_alloc | apply Kd.R_drewN | apply Kd.R_drew)); exact HO_9.out) hb); replace HO_396003 := zM (Kd.R_elder' (by (with_reducible repeat (first | apply Kd.R_alloc | apply Kd.R_drewN | apply Kd.R_drew)); exact HO_396003.out) (Kd.R_base ho0) hb); replace BK384 := zM (bb hb BK384.out); replace BK395 := zM (bb hb BK395.out); replace HB := zM (below_step (by repeat first | refine zS ?_ GE384.out | refine zS ?_ GE395.out | exact HB.out | apply zA | apply zN | apply zD) hb)
                  (try clear hb)
                  (try clear hb2)
                  (try clear hk)
                  (try clear hi)
                  (try clear ho0)
                  refine hK.out _ _ (HS0_) (fun hHeld => ?_)
                  clear hK K
                  refine norm_ (a' := ?_) ?_ ?_
                  rotate_left
                  ·show Act.put _ (some 65) _ = _
                   simp only [Act.put, s1, s2, s3, i64_w, i32_w]
                   rfl
                  refine one_ (i := 12) (N := some 13) m55_11_ rfl rfl (one_of HT_.out (by kernel_rfl)) (by decide) (fun K hK => ?_)
                  refine box_step ?hg (N := 13) ?hd (cs := #[.int .i64 0, .int .i64 0, .int .i64 0, .slice none 0 0, .bool false]) (t := 37) ?hr ?_; (case hd => rfl); (case hg => rfl); (case hr => first | (go_simp; done) | (go_simp; rfl))
                  intro gb419 hg w101 hbox hb
                  have HS0_ := (hb.cell (zL _ _ (hHeld))).trans (hHeld)
                  have BK419 := zM (hbox); have GW419 := zM ((by rw [hg]; exact (below_size (by repeat first | refine zS ?_ GE384.out | refine zS ?_ GE395.out | exact HB.out | apply zA | apply zN | apply zD)) : w.heap.size ≤ gb419)); have GE419 := GW419; have NB384_419 := zM ((by rw [hg]; exact lt1 BK384.out : gb384 ≠ gb419)); have NB419_384 := zM ((by rw [hg]; exact gt1 BK384.out : gb419 ≠ gb384)); have NB395_419 := zM ((by rw [hg]; exact lt1 BK395.out : gb395 ≠ gb419)); have NB419_395 := zM ((by rw [hg]; exact gt1 BK395.out : gb419 ≠ gb395)); replace HO_9 := zM (Kd.R_below (by (with_reducible repeat (first | apply Kd.R_alloc | apply Kd.R_drewN | apply Kd.R_drew)); exact HO_9.out) hb); replace HO_396003 := zM (Kd.R_below (by (with_reducible repeat (first | apply Kd.R_alloc | apply Kd.R_drewN | apply Kd.R_drew)); exact HO_396003.out) hb); replace HO417 := zM (Kd.R_below (by (with_reducible repeat (first | apply Kd.R_alloc | apply Kd.R_drewN | apply Kd.R_drew)); exact HO417.out) hb); replace BK384 := zM (bb hb BK384.out); replace BK395 := zM (bb hb BK395.out); replace HB := zM (below_step (by repeat first | refine zS ?_ GE384.out | refine zS ?_ GE395.out | exact HB.out | apply zA | apply zN | apply zD) hb)
                  clear hb hbox hg
                  refine hK.out _ _ (HS0_) (fun hHeld => ?_)
                  clear hK K
                  refine norm_ (a' := ?_) ?_ ?_
                  rotate_left
                  ·show Act.put _ (some 13) _ = _
                   simp only [Act.put, s1, s2, s3, i64_w, i32_w]
                   rfl
                  exact norm_ (by simp only [putAll, Act.put, List.setIfInBounds_toArray, List.set_cons_zero, List.set_cons_succ]) (hCont (v416, gb419) _ ⟨hHeld, (by (with_reducible repeat (first | apply Kd.R_alloc | apply Kd.R_drewN | apply Kd.R_drew)); exact Kd.R_mono HO417.out (fun _ hk => ⟨hk.1.2, hk.2⟩)), (by (with_reducible repeat (first | apply Kd.R_alloc | apply Kd.R_drewN | apply Kd.R_drew)); exact Kd.R_mono HO_396003.out (fun _ hk => ⟨hk.2, hk.1⟩)), (by (with_reducible repeat (first | apply Kd.R_alloc | apply Kd.R_drewN | apply Kd.R_drew)); exact HO_9.out), (by (with_reducible repeat (first | refine blk_drewN ?_ _ | refine blk_drew ?_ | refine blk_alloc ?_ _)); exact BK384.out), (by (with_reducible repeat (first | refine blk_drewN ?_ _ | refine blk_drew ?_ | refine blk_alloc ?_ _)); exact BK395.out), (by (with_reducible repeat (first | refine blk_drewN ?_ _ | refine blk_drew ?_ | refine blk_alloc ?_ _)); exact BK419.out), GW419.out, GE419.out, NB384_419.out, NB419_384.out, NB395_419.out, NB419_395.out, (by repeat first | refine zS ?_ GE384.out | refine zS ?_ GE395.out | refine zS ?_ GE419.out | exact HB.out | apply zA | apply zN | apply zD)⟩)
                 ·skip
                  refine box_step ?hg (N := 13) ?hd (cs := #[.int .i64 0, .int .i64 0, .int .i64 0, .slice none 0 0, .bool false]) (t := 37) ?hr ?_; (case hd => rfl); (case hg => rfl); (case hr => first | (go_simp; done) | (go_simp; rfl))
                  intro gb419 hg w100 hbox hb
                  have HS0_ := (hb.cell (zL _ _ (hHeld))).trans (hHeld)
                  have BK419 := zM (hbox); have GW419 := zM ((by rw [hg]; exact (below_size (by repeat first | refine zS ?_ GE384.out | refine zS ?_ GE395.out | exact HB.out | apply zA | apply zN | apply zD)) : w.heap.size ≤ gb419)); have GE419 := GW419; have NB384_419 := zM ((by rw [hg]; exact lt1 BK384.out : gb384 ≠ gb419)); have NB419_384 := zM ((by rw [hg]; exact gt1 BK384.out : gb419 ≠ gb384)); have NB395_419 := zM ((by rw [hg]; exact lt1 BK395.out : gb395 ≠ gb419)); have NB419_395 := zM ((by rw [hg]; exact gt1 BK395.out : gb419 ≠ gb395)); replace HO_9 := zM (Kd.R_below (by (with_reducible repeat (first | apply Kd.R_alloc | apply Kd.R_drewN | apply Kd.R_drew)); exact HO_9.out) hb); replace HO_396003 := zM (Kd.R_below (by (with_reducible repeat (first | apply Kd.R_alloc | apply Kd.R_drewN | apply Kd.R_drew)); exact HO_396003.out) hb); replace BK384 := zM (bb hb BK384.out); replace BK395 := zM (bb hb BK395.out); replace HB := zM (below_step (by repeat first | refine zS ?_ GE384.out | refine zS ?_ GE395.out | exact HB.out | apply zA | apply zN | apply zD) hb)
                  clear hb hbox hg
                  refine hK.out _ _ (HS0_) (fun hHeld => ?_)
                  clear hK K
                  refine norm_ (a' := ?_) ?_ ?_
                  rotate_left
                  ·show Act.put _ (some 13) _ = _
                   simp only [Act.put, s1, s2, s3, i64_w, i32_w]
                   rfl
                  refine one_ (i := 11) (N := some 65) m55_11_ rfl rfl (one_of HT_.out (by kernel_rfl)) (by decide) (fun K hK => ?_)
                  refine goes_ Try.func54 (by kernel_rfl) rfl #[.slice A99 ((l0.take ((wrap64 (x7_1 * (wrap64 (x41_2 + 1)))) : Int).toNat).drop ((ji67) : Int).toNat).length (c0 - (ji67).toNat), .int .i64 1, .int .i64 a1, .int .i64 (rd t392 x41_2)] (by rfl) rfl rfl (by (try simp only [List.map_toArray, List.map_cons, List.map_nil]); first | done | (rw [show ((l0.take ((wrap64 (x7_1 * (wrap64 (x41_2 + 1)))) : Int).toNat).drop ((ji67) : Int).toNat).length = ((wrap64 (x7_1 * (wrap64 (x41_2 + 1)))).toNat - (ji67).toNat) from (by rw [List.length_drop, List.length_take]; have h_ : ((wrap64 (x7_1 * (wrap64 (x41_2 + 1)))) : Int) ≤ (l0.length : Int) := of_decide_eq_true (by first | (with_reducible assumption) | assumption); omega)] <;> rfl) | (simp only [hji67]; rfl) | rfl | (simp only [List.length_drop, List.length_take]; rfl)) ?_
                  with_reducible refine (backseatref12_Line.calls k2 _ _ ((l0.take ((wrap64 (x7_1 * (wrap64 (x41_2 + 1)))) : Int).toNat).drop ((ji67) : Int).toNat) 1 a1 (rd t392 x41_2) t412 t413 t414 t415 false _ ?side1 ?side2 A73.out).mono ?_
                  (case side1 => repeat (first | exact (Kd.C_below HR410.out HB.out) | (with_reducible refine Kd.C_alloc ?_ _) | (with_reducible refine Kd.C_drewN ?_ _) | (with_reducible refine Kd.C_drew ?_)))
                  (case side2 => exact HC410.out)
                  rintro e w101 ⟨v416, rfl, ho0, hb⟩
                  have HS0_ := (hb.cell (zL _ _ (hHeld))).trans (hHeld)
                  refine ⟨_, rfl, ?_⟩
                  have HO417 := zM (Kd.R_lower (Kd.R_newB (Kd.R_new' ho0 (Kd.R_lt (by (with_reducible repeat (first | apply Kd.R_alloc | apply Kd.R_drewN | apply Kd.R_drew)); exact HO_396003.out))) (g := gb395) (o := .cells #[.int .i64 2, .int .i64 0, .int .i64 0, u396003] 31 (0, 0)) (by (with_reducible repeat (first | refine blk_drewN ?_ _ | refine blk_drew ?_ | refine blk_alloc ?_ _)); exact BK395.out)) (below_size (by repeat first | refine zS ?_ GE384.out | refine zS ?_ GE395.out | refine zS ?_ GE419.out | exact HB.out | apply zA | apply zN | apply zD))); replace HO_9 := zM (Kd.R_below (by (with_reducible repeat (first | apply Kd.R_alloc | apply Kd.R_drewN | apply Kd.R_drew)); exact HO_9.out) hb); replace HO_396003 := zM (Kd.R_elder' (by (with_reducible repeat (first | apply Kd.R_alloc | apply Kd.R_drewN | apply Kd.R_drew)); exact HO_396003.out) (Kd.R_base ho0) hb); replace BK384 := zM (bb hb BK384.out); replace BK395 := zM (bb hb BK395.out); replace BK419 := zM (bb hb BK419.out); replace HB := zM (below_step (by repeat first | refine zS ?_ GE384.out | refine zS ?_ GE395.out | refine zS ?_ GE419.out | exact HB.out | apply zA | apply zN | apply zD) hb)
                  (try clear hb)
                  (try clear hb2)
                  (try clear hk)
                  (try clear hi)
                  (try clear ho0)
                  refine hK.out _ _ (HS0_) (fun hHeld => ?_)
                  clear hK K
                  refine norm_ (a' := ?_) ?_ ?_
                  rotate_left
                  ·show Act.put _ (some 65) _ = _
                   simp only [Act.put, s1, s2, s3, i64_w, i32_w]
                   rfl
                  exact norm_ (by simp only [putAll, Act.put, List.setIfInBounds_toArray, List.set_cons_zero, List.set_cons_succ]) (hCont (v416, gb419) _ ⟨hHeld, (by (with_reducible repeat (first | apply Kd.R_alloc | apply Kd.R_drewN | apply Kd.R_drew)); exact Kd.R_mono HO417.out (fun _ hk => ⟨hk.1.2, hk.2⟩)), (by (with_reducible repeat (first | apply Kd.R_alloc | apply Kd.R_drewN | apply Kd.R_drew)); exact Kd.R_mono HO_396003.out (fun _ hk => ⟨hk.2, hk.1⟩)), (by (with_reducible repeat (first | apply Kd.R_alloc | apply Kd.R_drewN | apply Kd.R_drew)); exact HO_9.out), (by (with_reducible repeat (first | refine blk_drewN ?_ _ | refine blk_drew ?_ | refine blk_alloc ?_ _)); exact BK384.out), (by (with_reducible repeat (first | refine blk_drewN ?_ _ | refine blk_drew ?_ | refine blk_alloc ?_ _)); exact BK395.out), (by (with_reducible repeat (first | refine blk_drewN ?_ _ | refine blk_drew ?_ | refine blk_alloc ?_ _)); exact BK419.out), GW419.out, GE419.out, NB384_419.out, NB419_384.out, NB395_419.out, NB419_395.out, (by repeat first | refine zS ?_ GE384.out | refine zS ?_ GE395.out | refine zS ?_ GE419.out | exact HB.out | apply zA | apply zN | apply zD)⟩)
                rintro ⟨v416, gb419⟩ w102 ⟨hS_, h0_, h1_, h2_, h3_, h4_, h5_, h6_, h7_, h8_, h9_, h10_, h11_, h12_⟩
                have n0_ : Aside0 (Kd.R k31 31 w102 w.heap.size (fun k_ => some k_ ≠ (u396003 : Value).ownBlock ∧ k_ ≠ gb395) v416 t415) := ⟨h0_⟩
                have n1_ : Aside0 (Kd.R k31 31 w102 w.heap.size (fun k_ => some k_ ≠ (v416 : Value).ownBlock ∧ k_ ≠ gb395) u396003 x396003_2) := ⟨h1_⟩
                have n2_ : Aside0 (Kd.R (Kd.int .i64) 3 w102 w.heap.size (fun _ => True) (.slice (some ad411) t392.length co17) t392) := ⟨h2_⟩
                have n3_ : Aside0 (w102.heap[gb384]? = some (.cells #[.int .i64 x385000_2, .int .i64 x385001_2, .int .i64 x385002_2, .slice none 0 0, .bool x385004_2] 37 (0, 0))) := ⟨h3_⟩
                have n4_ : Aside0 (w102.heap[gb395]? = some (.cells #[.int .i64 2, .int .i64 0, .int .i64 0, u396003] 31 (0, 0))) := ⟨h4_⟩
                have n5_ : Aside0 (w102.heap[gb419]? = some (.cells #[.int .i64 0, .int .i64 0, .int .i64 0, .slice none 0 0, .bool false] 37 (0, 0))) := ⟨h5_⟩
                have n6_ : Aside0 (w.heap.size ≤ gb419) := ⟨h6_⟩
                have n7_ : Aside0 (w.heap.size ≤ gb419) := ⟨h7_⟩
                have n8_ : Aside0 (gb384 ≠ gb419) := ⟨h8_⟩
                have n9_ : Aside0 (gb419 ≠ gb384) := ⟨h9_⟩
                have n10_ : Aside0 (gb395 ≠ gb419) := ⟨h10_⟩
                have n11_ : Aside0 (gb419 ≠ gb395) := ⟨h11_⟩
                have n12_ : Aside0 (Below w.heap.size w w102) := ⟨h12_⟩
                clear HO_9
                clear HO_396003
                clear BK384
                clear BK395
                clear HB
                clear h0_ h1_ h2_ h3_ h4_ h5_ h6_ h7_ h8_ h9_ h10_ h11_ h12_
                have HO417 := n0_
                have HO_396003 := n1_
                have HO_9 := n2_
                have BK384 := n3_
                have BK395 := n4_
                have BK419 := n5_
                have GW419 := n6_
                have GE419 := n7_
                have NB384_419 := n8_
                have NB419_384 := n9_
                have NB395_419 := n10_
                have NB419_395 := n11_
                have HB := n12_
                clear n0_ n1_ n2_ n3_ n4_ n5_ n6_ n7_ n8_ n9_ n10_ n11_ n12_
                have hHeld : w102.cell? (ad411.add (x41_2).toNat) = some (.int .i64 (rd t392 x41_2)) := hS_
                obtain ⟨Ao106, co106, eo106⟩ := Kd.R_slice HO417.out
                (first | subst eo106 | (injection eo106 with f1_ f2_ f3_; have f4_ := f1_.symm; have f5_ := f3_.symm; clear f1_ f2_ f3_; subst f4_; subst f5_))
                refine norm_ (a' := ?_) ?_ ?_
                rotate_left
                ·simp only [putAll, Act.put, List.setIfInBounds_toArray, List.set_cons_zero, List.set_cons_succ]
                 rfl
                refine one_ (i := 13) (N := none) m55_14_ rfl rfl (one_of HT_.out (by kernel_rfl)) (by decide) (fun K hK => ?_)
                have hs103 : w102.cell? ⟨gb419, 0, none⟩ = some (.int .i64 0) := (blk_cell BK419.out 0).trans rfl
                have hfs103 := blk_frozen BK419.out 0
                have hns103_0 := NB384_419.out
                have hns103_1 := NB395_419.out
                have hms103_0 := NB419_384.out
                have hms103_1 := NB419_395.out
                have hs104 : w102.cell? ⟨gb419, 1, none⟩ = some (.int .i64 0) := (blk_cell BK419.out 1).trans rfl
                have hfs104 := blk_frozen BK419.out 1
                have hns104_0 := NB384_419.out
                have hns104_1 := NB395_419.out
                have hms104_0 := NB419_384.out
                have hms104_1 := NB419_395.out
                have hs105 : w102.cell? ⟨gb419, 2, none⟩ = some (.int .i64 0) := (blk_cell BK419.out 2).trans rfl
                have hfs105 := blk_frozen BK419.out 2
                have hns105_0 := NB384_419.out
                have hns105_1 := NB395_419.out
                have hms105_0 := NB419_384.out
                have hms105_1 := NB419_395.out
                have hs107 : w102.cell? ⟨gb419, 3, none⟩ = some (.slice none 0 0) := (blk_cell BK419.out 3).trans rfl
                have hfs107 := blk_frozen BK419.out 3
                have hns107_0 := NB384_419.out
                have hns107_1 := NB395_419.out
                have hms107_0 := NB419_384.out
                have hms107_1 := NB419_395.out
                have hs108 : w102.cell? ⟨gb419, 4, none⟩ = some (.bool false) := (blk_cell BK419.out 4).trans rfl
                have hfs108 := blk_frozen BK419.out 4
                have hns108_0 := NB384_419.out
                have hns108_1 := NB395_419.out
                have hms108_0 := NB419_384.out
                have hms108_1 := NB419_395.out
                refine skip_ (w1 := ?_) (by rfl) rfl ?_ ?_
                rotate_left
                ·go_simp
                 rfl
                refine hK.out _ _ (((cell_far (p := ⟨gb419, _, none⟩) (by first | exact Kd.own_blk (Kd.R_ne HO_9.out BK419.out (by decide)) | (rw [add_block]; exact Kd.own_blk (Kd.R_ne HO_9.out BK419.out (by decide))) | (show (Addr.add _ _).block ≠ _; rw [add_block]; exact Kd.own_blk (Kd.R_ne HO_9.out BK419.out (by decide))) | (dsimp only; exact Kd.own_blk (Kd.R_ne HO_9.out BK419.out (by decide)))) _).trans (((cell_far (p := ⟨gb419, _, none⟩) (by first | exact Kd.own_blk (Kd.R_ne HO_9.out BK419.out (by decide)) | (rw [add_block]; exact Kd.own_blk (Kd.R_ne HO_9.out BK419.out (by decide))) | (show (Addr.add _ _).block ≠ _; rw [add_block]; exact Kd.own_blk (Kd.R_ne HO_9.out BK419.out (by decide))) | (dsimp only; exact Kd.own_blk (Kd.R_ne HO_9.out BK419.out (by decide)))) _).trans (((cell_far (p := ⟨gb419, _, none⟩) (by first | exact Kd.own_blk (Kd.R_ne HO_9.out BK419.out (by decide)) | (rw [add_block]; exact Kd.own_blk (Kd.R_ne HO_9.out BK419.out (by decide))) | (show (Addr.add _ _).block ≠ _; rw [add_block]; exact Kd.own_blk (Kd.R_ne HO_9.out BK419.out (by decide))) | (dsimp only; exact Kd.own_blk (Kd.R_ne HO_9.out BK419.out (by decide)))) _).trans (((cell_far (p := ⟨gb419, _, none⟩) (by first | exact Kd.own_blk (Kd.R_ne HO_9.out BK419.out (by decide)) | (rw [add_block]; exact Kd.own_blk (Kd.R_ne HO_9.out BK419.out (by decide))) | (show (Addr.add _ _).block ≠ _; rw [add_block]; exact Kd.own_blk (Kd.R_ne HO_9.out BK419.out (by decide))) | (dsimp only; exact Kd.own_blk (Kd.R_ne HO_9.out BK419.out (by decide)))) _).trans (((cell_far (p := ⟨gb419, _, none⟩) (by first | exact Kd.own_blk (Kd.R_ne HO_9.out BK419.out (by decide)) | (rw [add_block]; exact Kd.own_blk (Kd.R_ne HO_9.out BK419.out (by decide))) | (show (Addr.add _ _).block ≠ _; rw [add_block]; exact Kd.own_blk (Kd.R_ne HO_9.out BK419.out (by decide))) | (dsimp only; exact Kd.own_blk (Kd.R_ne HO_9.out BK419.out (by decide)))) _).trans (hHeld))))))))))) (fun hHeld => ?_)
                clear hK K
                refine done_ (done_of HT_.out (by kernel_rfl)) ?_
                have hnb109 := NB419_384.out
                have hnc109 := NB384_419.out
                have hnb110 := NB419_395.out
                have hnc110 := NB395_419.out
                have hcz111_0 : w102.cell? ⟨gb419, 0, none⟩ = some (.int .i64 0) := (blk_cell BK419.out 0).trans rfl
                have hcz111_1 : w102.cell? ⟨gb419, 1, none⟩ = some (.int .i64 0) := (blk_cell BK419.out 1).trans rfl
                have hcz111_2 : w102.cell? ⟨gb419, 2, none⟩ = some (.int .i64 0) := (blk_cell BK419.out 2).trans rfl
                have hcz111_3 : w102.cell? ⟨gb419, 3, none⟩ = some (.slice none 0 0) := (blk_cell BK419.out 3).trans rfl
                have hcz111_4 : w102.cell? ⟨gb419, 4, none⟩ = some (.bool false) := (blk_cell BK419.out 4).trans rfl
                have hfz111_0 := blk_frozen BK419.out 0
                have hfz111_1 := blk_frozen BK419.out 1
                have hfz111_2 := blk_frozen BK419.out 2
                have hfz111_3 := blk_frozen BK419.out 3
                have hfz111_4 := blk_frozen BK419.out 4
                have hnb112 := NB384_395.out
                have hnc112 := NB395_384.out
                have hcz113_0 : w102.cell? ⟨gb384, 0, none⟩ = some (.int .i64 x385000_2) := (blk_cell BK384.out 0).trans rfl
                have hcz113_1 : w102.cell? ⟨gb384, 1, none⟩ = some (.int .i64 x385001_2) := (blk_cell BK384.out 1).trans rfl
                have hcz113_2 : w102.cell? ⟨gb384, 2, none⟩ = some (.int .i64 x385002_2) := (blk_cell BK384.out 2).trans rfl
                have hcz113_3 : w102.cell? ⟨gb384, 3, none⟩ = some (.slice none 0 0) := (blk_cell BK384.out 3).trans rfl
                have hcz113_4 : w102.cell? ⟨gb384, 4, none⟩ = some (.bool x385004_2) := (blk_cell BK384.out 4).trans rfl
                have hfz113_0 := blk_frozen BK384.out 0
                have hfz113_1 := blk_frozen BK384.out 1
                have hfz113_2 := blk_frozen BK384.out 2
                have hfz113_3 := blk_frozen BK384.out 3
                have hfz113_4 := blk_frozen BK384.out 4
                try go_wp2
                refine bodyPost_ret (results_cell_row rfl _ _ gb384 37 #[.int .i64 0, .int .i64 0, .int .i64 0, .slice none 0 0, .bool false] (0, 0) _ rfl (by exact (put5 (blk_far (blk_far (blk_far (blk_far (blk_far BK384.out NB384_419.out _) NB384_419.out _) NB384_419.out _) NB384_419.out _) NB384_419.out _))) Try.underlying37 rfl (by kernel_rfl)) rfl ?_
                exact ⟨_, by first | rfl | (simp [errW_none, errW_some] <;> rfl) | (simp only [← hji67]; first | rfl | (simp [errW_none, errW_some] <;> rfl)) | (simp [*, errW_none, errW_some] <;> rfl), by first | exact Kd.R_nil _ _ _ _ _ | exact Kd.N_nil _ _ _ _ _ | exact Kd.V_nil _ _ _ _ _ | exact Kd.Q_nil _ _ _ _ _ | exact Kd.S_nil _ _ _ _ _, by repeat first | refine zS ?_ GE384.out | refine zS ?_ GE395.out | refine zS ?_ GE419.out | exact HB.out | apply zA | apply zN | apply zD⟩
              ·rw [if_neg c72] at H
               exact absurd H (by simp)
             ·rw [if_neg c71] at H
              exact absurd H (by simp)
            ·rw [if_neg c70] at H
             exact absurd H (by simp)
           ·rw [if_neg c69] at H
            exact absurd H (by simp)
          ·rw [if_neg c68] at H
           exact absurd H (by simp)
        ·rw [if_neg c18] at H
         have c18b0 : decide (x41_2 < (t392.length : Int)) = false := decide_eq_false c18
         clear c18
         simp only [Option.some.injEq, Prod.mk.injEq] at H
         obtain ⟨rfl, rfl, rfl, rfl, rfl⟩ := H
         have hnb114 := NB395_384.out
         have hnc114 := NB384_395.out
         have hcz115_0 : wr.cell? ⟨gb395, 0, none⟩ = some (.int .i64 2) := (blk_cell BK395.out 0).trans rfl
         have hcz115_1 : wr.cell? ⟨gb395, 1, none⟩ = some (.int .i64 0) := (blk_cell BK395.out 1).trans rfl
         have hcz115_2 : wr.cell? ⟨gb395, 2, none⟩ = some (.int .i64 0) := (blk_cell BK395.out 2).trans rfl
         have hcz115_3 : wr.cell? ⟨gb395, 3, none⟩ = some (u396003) := (blk_cell BK395.out 3).trans rfl
         have hfz115_0 := blk_frozen BK395.out 0
         have hfz115_1 := blk_frozen BK395.out 1
         have hfz115_2 := blk_frozen BK395.out 2
         have hfz115_3 := blk_frozen BK395.out 3
         obtain ⟨Ao116, co116, eo116⟩ := Kd.R_slice HO_396003.out
         subst eo116
         have hcz117_0 : wr.cell? ⟨gb384, 0, none⟩ = some (.int .i64 x385000_2) := (blk_cell BK384.out 0).trans rfl
         have hcz117_1 : wr.cell? ⟨gb384, 1, none⟩ = some (.int .i64 x385001_2) := (blk_cell BK384.out 1).trans rfl
         have hcz117_2 : wr.cell? ⟨gb384, 2, none⟩ = some (.int .i64 x385002_2) := (blk_cell BK384.out 2).trans rfl
         have hcz117_3 : wr.cell? ⟨gb384, 3, none⟩ = some (.slice none 0 0) := (blk_cell BK384.out 3).trans rfl
         have hcz117_4 : wr.cell? ⟨gb384, 4, none⟩ = some (.bool x385004_2) := (blk_cell BK384.out 4).trans rfl
         have hfz117_0 := blk_frozen BK384.out 0
         have hfz117_1 := blk_frozen BK384.out 1
         have hfz117_2 := blk_frozen BK384.out 2
         have hfz117_3 := blk_frozen BK384.out 3
         have hfz117_4 := blk_frozen BK384.out 4
         go_wp2
         (try rw [show decide (0 < t392.length) = decide ((t392.length : Int) > 0) from (by rw [decide_eq_decide]; omega)])
         refine bodyPost_ret (results_cell_row rfl _ _ gb384 37 #[.int .i64 2, .int .i64 0, .int .i64 0, .slice Ao116 x396003_2.length co116, .bool (decide ((t392.length : Int) > 0))] (0, 0) _ rfl (by exact (put5 BK384.out)) Try.underlying37 rfl (by kernel_rfl)) rfl ?_
         exact ⟨_, by first | rfl | (simp [errW_none, errW_some] <;> rfl) | (simp [*, errW_none, errW_some] <;> rfl), by (with_reducible repeat (first | apply Kd.R_alloc | apply Kd.R_drewN | apply Kd.R_drew)); exact Kd.R_mono (Kd.R_far (p := ⟨gb384, 4, none⟩) (Kd.R_far (p := ⟨gb384, 3, none⟩) (Kd.R_far (p := ⟨gb384, 2, none⟩) (Kd.R_far (p := ⟨gb384, 1, none⟩) (Kd.R_far (p := ⟨gb384, 0, none⟩) (Kd.R_types HO_396003.out BK384.out (by decide)) (fun _ hk => hk.2) (.int .i64 2)) (fun _ hk => hk.2) (.int .i64 0)) (fun _ hk => hk.2) (.int .i64 0)) (fun _ hk => hk.2) (.slice Ao116 x396003_2.length co116)) (fun _ hk => hk.2) (.bool (decide ((t392.length : Int) > 0)))) (fun _ hk => trivial), by repeat first | refine zS ?_ GE384.out | refine zS ?_ GE395.out | exact HB.out | apply zA | apply zN | apply zD⟩
end Go.Proofs.Ytplngfammfdemaa.Q
