-- A copy of the text YtplngfammfdemaaQx21 with what this claim does not reach left out (prune.py, a program of this project).
import Derived.Test.YtplngfammfdemaaZyGCont
import Derived.Test.YtplngfammfdemaaZyGShort
namespace Go.Proofs.Ytplngfammfdemaa.Q
open Go.RowKit Go.Proofs.Ytplngfammfdemaa Go.Proofs.YtplngfammfdemaaW.PrintWords Go.Proofs.YtplngfammfdemaaW.PrintLast Go.Proofs.YtplngfammfdemaaW.PrintMore
attribute [local go_sem] max2_int min2_int max_two min_two max_three min_three max_four min_four   -- for this text's walks alone
set_option linter.unusedVariables false
set_option linter.unusedSimpArgs false
def m16_0_ : Array Bool := mk_ 27 1
def m16_1_ : Array Bool := mk_ 27 5
def m16_2_ : Array Bool := mk_ 27 69
def m16_3_ : Array Bool := mk_ 27 325
def m16_4_ : Array Bool := mk_ 27 327
def m16_5_ : Array Bool := mk_ 27 335
def m16_6_ : Array Bool := mk_ 27 351
def m16_7_ : Array Bool := mk_ 27 383
def m16_8_ : Array Bool := mk_ 27 511
def m16_9_ : Array Bool := mk_ 27 1023
def m16_10_ : Array Bool := mk_ 27 2047
def m16_11_ : Array Bool := mk_ 27 4095
def m16_12_ : Array Bool := mk_ 27 8191
def m16_13_ : Array Bool := mk_ 27 16383
def m16_14_ : Array Bool := mk_ 27 32767
def m16_15_ : Array Bool := mk_ 27 98303
def m16_16_ : Array Bool := mk_ 27 622591
def m16_17_ : Array Bool := mk_ 27 2719743
def m16_18_ : Array Bool := mk_ 27 2752511
def m16_19_ : Array Bool := mk_ 27 2883583
def m16_20_ : Array Bool := mk_ 27 3145727
def m16_21_ : Array Bool := mk_ 27 4194303
def m16_22_ : Array Bool := mk_ 27 8388607
def m16_23_ : Array Bool := mk_ 27 16777215
def m16_24_ : Array Bool := mk_ 27 33554431
def m16_25_ : Array Bool := mk_ 27 67108863
def m16_26_ : Array Bool := mk_ 27 134217727
def m16_27_ : Array Bool := mk_ 27 65535
def m16_28_ : Array Bool := mk_ 27 131071
def m16_29_ : Array Bool := mk_ 27 262143
def m16_30_ : Array Bool := mk_ 27 524287
def m16_31_ : Array Bool := mk_ 27 1048575
def m16_32_ : Array Bool := mk_ 27 2097151
mutual
def backseatref11_Same.j0 : Nat → Bool → Int → Int → Int → List (S31) → Int → Int → Int → List (S31) → Option (Bool)
 | 0, _, _, _, _, _, _, _, _, _ => none
 | k + 1, x26, x367000, x367001, x367002, x367003, x368000, x368001, x368002, x368003 => if x26 = true then (some false) else (backseatref11_Same.l0 k (x367003.length : Int) 0 x367000 x367001 x367002 x367003 x368000 x368001 x368002 x368003)
def backseatref11_Same.l0 : Nat → Int → Int → Int → Int → Int → List (S31) → Int → Int → Int → List (S31) → Option (Bool)
 | 0, _, _, _, _, _, _, _, _, _, _ => none
 | k + 1, x29, x30, x367000, x367001, x367002, x367003, x368000, x368001, x368002, x368003 => if x30 < x29 then (if 0 ≤ x30 then (if x30 < (x367003.length : Int) then (if x30 < (x368003.length : Int) then (if ((rd_T31 x367003 x30).f2) = ((rd_T31 x368003 x30).f2) then ((backseatref11_Same.f k ((rd_T31 x367003 x30).f0) ((rd_T31 x367003 x30).f1) ((rd_T31 x367003 x30).f2) ((rd_T31 x367003 x30).f3) ((rd_T31 x368003 x30).f0) ((rd_T31 x368003 x30).f1) ((rd_T31 x368003 x30).f2) ((rd_T31 x368003 x30).f3)).bind fun t372 => (if t372 = true then (backseatref11_Same.l0 k x29 (wrap64 (x30 + 1)) x367000 x367001 x367002 x367003 x368000 x368001 x368002 x368003) else (some false))) else (some false)) else (none)) else (none)) else (none)) else (some true)
def backseatref11_Same.f : Nat → Int → Int → Int → List (S31) → Int → Int → Int → List (S31) → Option (Bool)
 | 0, _, _, _, _, _, _, _, _ => none
 | k + 1, a0_0, a0_1, a0_2, l0_3, a1_0, a1_1, a1_2, l1_3 => if a0_0 = a1_0 then (if a0_1 = a1_1 then (backseatref11_Same.j0 k ((l0_3.length : Int) != (l1_3.length : Int)) a0_0 a0_1 a0_2 l0_3 a1_0 a1_1 a1_2 l1_3) else (backseatref11_Same.j0 k true a0_0 a0_1 a0_2 l0_3 a1_0 a1_1 a1_2 l1_3)) else (backseatref11_Same.j0 k true a0_0 a0_1 a0_2 l0_3 a1_0 a1_1 a1_2 l1_3)
end
theorem backseatref11_Same.mono_l : ∀ k, (∀ y0 y1 y2 y3 y4 y5 y6 y7, LeO (backseatref11_Same.f k y0 y1 y2 y3 y4 y5 y6 y7) (backseatref11_Same.f (k + 1) y0 y1 y2 y3 y4 y5 y6 y7)) ∧ (∀ y0 y1 y2 y3 y4 y5 y6 y7 y8, LeO (backseatref11_Same.j0 k y0 y1 y2 y3 y4 y5 y6 y7 y8) (backseatref11_Same.j0 (k + 1) y0 y1 y2 y3 y4 y5 y6 y7 y8)) ∧ (∀ y0 y1 y2 y3 y4 y5 y6 y7 y8 y9, LeO (backseatref11_Same.l0 k y0 y1 y2 y3 y4 y5 y6 y7 y8 y9) (backseatref11_Same.l0 (k + 1) y0 y1 y2 y3 y4 y5 y6 y7 y8 y9))
 | 0 => ⟨fun _ _ _ _ _ _ _ _ r h => by simp [backseatref11_Same.f] at h, fun _ _ _ _ _ _ _ _ _ r h => by simp [backseatref11_Same.j0] at h, fun _ _ _ _ _ _ _ _ _ _ r h => by simp [backseatref11_Same.l0] at h⟩
 | k + 1 => by
  obtain ⟨ih0, ih1, ih2⟩ := backseatref11_Same.mono_l k
  refine ⟨?_, ?_, ?_⟩
  ·intro y0 y1 y2 y3 y4 y5 y6 y7
   unfold backseatref11_Same.f
   repeat' first
   | (with_reducible exact ih0 _ _ _ _ _ _ _ _)
   | (with_reducible exact ih1 _ _ _ _ _ _ _ _ _)
   | (with_reducible exact ih2 _ _ _ _ _ _ _ _ _ _)
   | (with_reducible exact LeO.refl _)
   | (with_reducible exact LeO.none _)
   | (with_reducible refine LeO.ite ?_ ?_)
   | (with_reducible refine LeO.bind ?_ (fun _ => ?_))
   | exact ih0 _ _ _ _ _ _ _ _
   | exact ih1 _ _ _ _ _ _ _ _ _
   | exact ih2 _ _ _ _ _ _ _ _ _ _
   | exact LeO.none _
   | refine LeO.ite ?_ ?_
   | refine LeO.bind ?_ (fun _ => ?_)
  ·intro y0 y1 y2 y3 y4 y5 y6 y7 y8
   unfold backseatref11_Same.j0
   repeat' first
   | (with_reducible exact ih0 _ _ _ _ _ _ _ _)
   | (with_reducible exact ih1 _ _ _ _ _ _ _ _ _)
   | (with_reducible exact ih2 _ _ _ _ _ _ _ _ _ _)
   | (with_reducible exact LeO.refl _)
   | (with_reducible exact LeO.none _)
   | (with_reducible refine LeO.ite ?_ ?_)
   | (with_reducible refine LeO.bind ?_ (fun _ => ?_))
   | exact ih0 _ _ _ _ _ _ _ _
   | exact ih1 _ _ _ _ _ _ _ _ _
   | exact ih2 _ _ _ _ _ _ _ _ _ _
   | exact LeO.none _
   | refine LeO.ite ?_ ?_
   | refine LeO.bind ?_ (fun _ => ?_)
  ·intro y0 y1 y2 y3 y4 y5 y6 y7 y8 y9
   unfold backseatref11_Same.l0
   repeat' first
   | (with_reducible exact ih0 _ _ _ _ _ _ _ _)
   | (with_reducible exact ih1 _ _ _ _ _ _ _ _ _)
   | (with_reducible exact ih2 _ _ _ _ _ _ _ _ _ _)
   | (with_reducible exact LeO.refl _)
   | (with_reducible exact LeO.none _)
   | (with_reducible refine LeO.ite ?_ ?_)
   | (with_reducible refine LeO.bind ?_ (fun _ => ?_))
   | exact ih0 _ _ _ _ _ _ _ _
   | exact ih1 _ _ _ _ _ _ _ _ _
   | exact ih2 _ _ _ _ _ _ _ _ _ _
   | exact LeO.none _
   | refine LeO.ite ?_ ?_
   | refine LeO.bind ?_ (fun _ => ?_)
theorem backseatref11_Same.mono : ∀ a0 a1 a2 a3 a4 a5 a6 a7 k, LeO (backseatref11_Same.f k a0 a1 a2 a3 a4 a5 a6 a7) (backseatref11_Same.f (k + 1) a0 a1 a2 a3 a4 a5 a6 a7) := by
 intro a0 a1 a2 a3 a4 a5 a6 a7 k
 obtain ⟨ih0, ih1, ih2⟩ := backseatref11_Same.mono_l k
 exact ih0 a0 a1 a2 a3 a4 a5 a6 a7
def backseatref11_Same.T6 : Bool × List (List Nat × List Nat) := (true, [([], []), ([0], [0]), ([], []), ([1, 2], [1, 2]), ([3], [3]), ([4], [4]), ([], []), ([6], [6]), ([], []), ([7, 8], [7, 8]), ([9], [9]), ([10], [10]), ([5, 11], [5, 11]), ([12], [12]), ([13], [13]), ([14, 13], [13, 14]), ([13], [13]), ([15, 16, 13], [13, 15, 16]), ([17, 13], [13, 17]), ([13], [13]), ([19, 13], [13, 19]), ([13], [13]), ([20, 21, 13], [13, 20, 21]), ([22, 13], [13, 22]), ([18, 23, 13, 13], [13, 18, 23]), ([24, 13], [13, 24]), ([13, 25], [13, 25])])
def backseatref11_Same.B6 : List Nat := [0, 1, 0, 7, 15, 31, 0, 64, 0, 448, 960, 1984, 4095, 8191, 16383, 32767, 16383, 131071, 262143, 16383, 540671, 16383, 3686399, 7880703, 16777215, 33554431, 67108863]
theorem backseatref11_Same.tab6 : rtab .any (opsOf Try.f16 6) = backseatref11_Same.T6 := by kernel_rfl
theorem backseatref11_Same.bits6 : waitsOk backseatref11_Same.T6.2 backseatref11_Same.B6 = true := by kernel_rfl
set_option maxHeartbeats 8000000 in
set_option maxRecDepth 100000 in
theorem backseatref11_Same.calls (k : Nat) : ∀ (a0_0 : Int) (a0_1 : Int) (a0_2 : Int) (A0_3 : Option Addr) (c0_3 : Nat) (l0_3 : List (S31)) (a1_0 : Int) (a1_1 : Int) (a1_2 : Int) (A1_3 : Option Addr) (c1_3 : Nat) (l1_3 : List (S31)) (r : Bool) (w : World) (hr0_3 : Kd.C k31 w A0_3 l0_3.length l0_3) (hc0_3 : l0_3.length ≤ c0_3) (hr1_3 : Kd.C k31 w A1_3 l1_3.length l1_3) (hc1_3 : l1_3.length ≤ c1_3) (h : backseatref11_Same.f k a0_0 a0_1 a0_2 l0_3 a1_0 a1_1 a1_2 l1_3 = some r),
 Calls Try.prog 16 #[.agg #[.int .i64 a0_0, .int .i64 a0_1, .int .i64 a0_2, .slice A0_3 l0_3.length c0_3], .agg #[.int .i64 a1_0, .int .i64 a1_1, .int .i64 a1_2, .slice A1_3 l1_3.length c1_3]] w fun e w' => e = .returned (.bool r) ∧ Below w.heap.size w w' := by
 induction k using Nat.strongRecOn with
 | _ k ih =>
 intro a0_0 a0_1 a0_2 A0_3 c0_3 l0_3 a1_0 a1_1 a1_2 A1_3 c1_3 l1_3 r w hr0_3 hc0_3 hr1_3 hc1_3 h
 cases k with
 | zero => exact absurd h (by simp [backseatref11_Same.f])
 | succ k =>
 simp only [backseatref11_Same.f] at h
 have hu31 := Try.underlying31
 have HR0_3 := zM hr0_3
 have HC0_3 := zM hc0_3
 clear hr0_3 hc0_3
 have HR1_3 := zM hr1_3
 have HC1_3 := zM hc1_3
 clear hr1_3 hc1_3
 have HB := zM (Below.refl w.heap.size w)
 have H : (if a0_0 = a1_0 then (if a0_1 = a1_1 then (backseatref11_Same.j0 k ((l0_3.length : Int) != (l1_3.length : Int)) a0_0 a0_1 a0_2 l0_3 a1_0 a1_1 a1_2 l1_3) else (backseatref11_Same.j0 k true a0_0 a0_1 a0_2 l0_3 a1_0 a1_1 a1_2 l1_3)) else (backseatref11_Same.j0 k true a0_0 a0_1 a0_2 l0_3 a1_0 a1_1 a1_2 l1_3)) = some r := h
 clear h
 have HC3 := zM H
 clear H
 go_enter Try.func16, Try.ntmps16
 go_upto_region 1 with (first | ((with_reducible refine gate_dst (N := 2) rfl ?_); (try (refine gate_guard (by rfl) ?_; dsimp only)); refine box_event ?hg (N := 2) ?hd (cs := #[.int .i64 a0_0, .int .i64 a0_1, .int .i64 a0_2, .slice A0_3 l0_3.length c0_3]) (t := 31) ?hr ?_; (case hd => rfl); (case hg => rfl); (case hr => first | (go_simp; done) | (go_simp; rfl)); intro gb366 hg w4 hbox hb; have BK366 := zM (hbox); have GW366 := zM ((by rw [hg]; exact (below_size (by first | exact HB.out | exact zN HB.out _ | exact zD HB.out)) : w.heap.size ≤ gb366)); have GE366 := GW366; replace HB := zM (below_step (by first | exact HB.out | exact zN HB.out _ | exact zD HB.out) hb); clear hb hbox hg) | ((with_reducible refine gate_dst (N := 3) rfl ?_); (try (refine gate_guard (by rfl) ?_; dsimp only)); refine box_event ?hg (N := 3) ?hd (cs := #[.int .i64 a1_0, .int .i64 a1_1, .int .i64 a1_2, .slice A1_3 l1_3.length c1_3]) (t := 31) ?hr ?_; (case hd => rfl); (case hg => rfl); (case hr => first | (go_simp; done) | (go_simp; rfl)); intro gb367 hg w5 hbox hb; have BK367 := zM (hbox); have GW367 := zM ((by rw [hg]; exact (below_size (by repeat first | refine zS ?_ GE366.out | exact HB.out | apply zA | apply zN | apply zD)) : w.heap.size ≤ gb367)); have GE367 := GW367; have NB366_367 := zM ((by rw [hg]; exact lt1 BK366.out : gb366 ≠ gb367)); have NB367_366 := zM ((by rw [hg]; exact gt1 BK366.out : gb367 ≠ gb366)); replace BK366 := zM (bb hb BK366.out); replace HB := zM (below_step (by repeat first | refine zS ?_ GE366.out | exact HB.out | apply zA | apply zN | apply zD) hb); clear hb hbox hg))
 (try simp only [Act.put, List.setIfInBounds_toArray, List.set_cons_zero, List.set_cons_succ])
 go_cut [26] (fun v26 wc => ∃ (kq : Nat) (x26_2 : Bool), v26 = .bool x26_2 ∧ Aside0 (backseatref11_Same.j0 kq x26_2 a0_0 a0_1 a0_2 l0_3 a1_0 a1_1 a1_2 l1_3 = some r) ∧ Aside0 (kq ≤ k) ∧ Aside0 (wc.heap[gb366]? = some (.cells #[.int .i64 a0_0, .int .i64 a0_1, .int .i64 a0_2, (.slice A0_3 l0_3.length c0_3)] 31 (0, 0))) ∧ Aside0 (wc.heap[gb367]? = some (.cells #[.int .i64 a1_0, .int .i64 a1_1, .int .i64 a1_2, (.slice A1_3 l1_3.length c1_3)] 31 (0, 0))) ∧ Aside0 (Below w.heap.size w wc))
 case first =>
  have H := HC3.out
  clear HC3
  by_cases c6 : a0_0 = a1_0
  ·rw [if_pos c6] at H
   have c6b0 : (a0_0 == a1_0) = true := beq_iff_eq.mpr c6
   have c6b1 : (a0_0 != a1_0) = false := bne_eq_false_iff_eq.mpr c6
   clear c6
   (first | rw [c6b0] | (simp only [i64_w, i32_w]; rw [c6b0]) | skip)
   by_cases c7 : a0_1 = a1_1
   ·rw [if_pos c7] at H
    have c7b0 : (a0_1 == a1_1) = true := beq_iff_eq.mpr c7
    have c7b1 : (a0_1 != a1_1) = false := bne_eq_false_iff_eq.mpr c7
    clear c7
    have H' := zM H
    clear H
    have hnb8 := NB366_367.out
    have hnc8 := NB367_366.out
    have hcz9_0 : w5.cell? ⟨gb366, 0, none⟩ = some (.int .i64 a0_0) := (blk_cell BK366.out 0).trans rfl
    have hcz9_1 : w5.cell? ⟨gb366, 1, none⟩ = some (.int .i64 a0_1) := (blk_cell BK366.out 1).trans rfl
    have hcz9_2 : w5.cell? ⟨gb366, 2, none⟩ = some (.int .i64 a0_2) := (blk_cell BK366.out 2).trans rfl
    have hcz9_3 : w5.cell? ⟨gb366, 3, none⟩ = some (.slice A0_3 l0_3.length c0_3) := (blk_cell BK366.out 3).trans rfl
    have hfz9_0 := blk_frozen BK366.out 0
    have hfz9_1 := blk_frozen BK366.out 1
    have hfz9_2 := blk_frozen BK366.out 2
    have hfz9_3 := blk_frozen BK366.out 3
    have hcz10_0 : w5.cell? ⟨gb367, 0, none⟩ = some (.int .i64 a1_0) := (blk_cell BK367.out 0).trans rfl
    have hcz10_1 : w5.cell? ⟨gb367, 1, none⟩ = some (.int .i64 a1_1) := (blk_cell BK367.out 1).trans rfl
    have hcz10_2 : w5.cell? ⟨gb367, 2, none⟩ = some (.int .i64 a1_2) := (blk_cell BK367.out 2).trans rfl
    have hcz10_3 : w5.cell? ⟨gb367, 3, none⟩ = some (.slice A1_3 l1_3.length c1_3) := (blk_cell BK367.out 3).trans rfl
    have hfz10_0 := blk_frozen BK367.out 0
    have hfz10_1 := blk_frozen BK367.out 1
    have hfz10_2 := blk_frozen BK367.out 2
    have hfz10_3 := blk_frozen BK367.out 3
    go_wp2
    go_meet
    case rel => exact ⟨_, (((l0_3.length : Int) != (l1_3.length : Int))), (by first | rfl | (simp; done) | (simp [*]; done)), H', ⟨by first | omega | exact Nat.le_refl _⟩, ⟨by (with_reducible repeat (first | refine blk_drewN ?_ _ | refine blk_drew ?_ | refine blk_alloc ?_ _)); exact BK366.out⟩, ⟨by (with_reducible repeat (first | refine blk_drewN ?_ _ | refine blk_drew ?_ | refine blk_alloc ?_ _)); exact BK367.out⟩, ⟨by repeat first | refine zS ?_ GE366.out | refine zS ?_ GE367.out | exact HB.out | apply zA | apply zN | apply zD⟩⟩
   ·rw [if_neg c7] at H
    have c7b0 : (a0_1 == a1_1) = false := beq_eq_false_iff_ne.mpr c7
    have c7b1 : (a0_1 != a1_1) = true := bne_iff_ne.mpr c7
    have H' := zM H
    clear H
    have hnb11 := NB366_367.out
    have hnc11 := NB367_366.out
    have hcz12_0 : w5.cell? ⟨gb366, 0, none⟩ = some (.int .i64 a0_0) := (blk_cell BK366.out 0).trans rfl
    have hcz12_1 : w5.cell? ⟨gb366, 1, none⟩ = some (.int .i64 a0_1) := (blk_cell BK366.out 1).trans rfl
    have hcz12_2 : w5.cell? ⟨gb366, 2, none⟩ = some (.int .i64 a0_2) := (blk_cell BK366.out 2).trans rfl
    have hcz12_3 : w5.cell? ⟨gb366, 3, none⟩ = some (.slice A0_3 l0_3.length c0_3) := (blk_cell BK366.out 3).trans rfl
    have hfz12_0 := blk_frozen BK366.out 0
    have hfz12_1 := blk_frozen BK366.out 1
    have hfz12_2 := blk_frozen BK366.out 2
    have hfz12_3 := blk_frozen BK366.out 3
    have hcz13_0 : w5.cell? ⟨gb367, 0, none⟩ = some (.int .i64 a1_0) := (blk_cell BK367.out 0).trans rfl
    have hcz13_1 : w5.cell? ⟨gb367, 1, none⟩ = some (.int .i64 a1_1) := (blk_cell BK367.out 1).trans rfl
    have hcz13_2 : w5.cell? ⟨gb367, 2, none⟩ = some (.int .i64 a1_2) := (blk_cell BK367.out 2).trans rfl
    have hcz13_3 : w5.cell? ⟨gb367, 3, none⟩ = some (.slice A1_3 l1_3.length c1_3) := (blk_cell BK367.out 3).trans rfl
    have hfz13_0 := blk_frozen BK367.out 0
    have hfz13_1 := blk_frozen BK367.out 1
    have hfz13_2 := blk_frozen BK367.out 2
    have hfz13_3 := blk_frozen BK367.out 3
    go_wp2
    go_meet
    case rel => exact ⟨_, (true), (by first | rfl | (simp; done) | (simp [*]; done)), H', ⟨by first | omega | exact Nat.le_refl _⟩, ⟨by (with_reducible repeat (first | refine blk_drewN ?_ _ | refine blk_drew ?_ | refine blk_alloc ?_ _)); exact BK366.out⟩, ⟨by (with_reducible repeat (first | refine blk_drewN ?_ _ | refine blk_drew ?_ | refine blk_alloc ?_ _)); exact BK367.out⟩, ⟨by repeat first | refine zS ?_ GE366.out | refine zS ?_ GE367.out | exact HB.out | apply zA | apply zN | apply zD⟩⟩
  ·rw [if_neg c6] at H
   have c6b0 : (a0_0 == a1_0) = false := beq_eq_false_iff_ne.mpr c6
   have c6b1 : (a0_0 != a1_0) = true := bne_iff_ne.mpr c6
   (first | rw [c6b0] | (simp only [i64_w, i32_w]; rw [c6b0]) | skip)
   have H' := zM H
   clear H
   have hnb14 := NB366_367.out
   have hnc14 := NB367_366.out
   have hcz15_0 : w5.cell? ⟨gb366, 0, none⟩ = some (.int .i64 a0_0) := (blk_cell BK366.out 0).trans rfl
   have hcz15_1 : w5.cell? ⟨gb366, 1, none⟩ = some (.int .i64 a0_1) := (blk_cell BK366.out 1).trans rfl
   have hcz15_2 : w5.cell? ⟨gb366, 2, none⟩ = some (.int .i64 a0_2) := (blk_cell BK366.out 2).trans rfl
   have hcz15_3 : w5.cell? ⟨gb366, 3, none⟩ = some (.slice A0_3 l0_3.length c0_3) := (blk_cell BK366.out 3).trans rfl
   have hfz15_0 := blk_frozen BK366.out 0
   have hfz15_1 := blk_frozen BK366.out 1
   have hfz15_2 := blk_frozen BK366.out 2
   have hfz15_3 := blk_frozen BK366.out 3
   have hcz16_0 : w5.cell? ⟨gb367, 0, none⟩ = some (.int .i64 a1_0) := (blk_cell BK367.out 0).trans rfl
   have hcz16_1 : w5.cell? ⟨gb367, 1, none⟩ = some (.int .i64 a1_1) := (blk_cell BK367.out 1).trans rfl
   have hcz16_2 : w5.cell? ⟨gb367, 2, none⟩ = some (.int .i64 a1_2) := (blk_cell BK367.out 2).trans rfl
   have hcz16_3 : w5.cell? ⟨gb367, 3, none⟩ = some (.slice A1_3 l1_3.length c1_3) := (blk_cell BK367.out 3).trans rfl
   have hfz16_0 := blk_frozen BK367.out 0
   have hfz16_1 := blk_frozen BK367.out 1
   have hfz16_2 := blk_frozen BK367.out 2
   have hfz16_3 := blk_frozen BK367.out 3
   go_wp2
   go_meet
   case rel => exact ⟨_, (true), (by first | rfl | (simp; done) | (simp [*]; done)), H', ⟨by first | omega | exact Nat.le_refl _⟩, ⟨by (with_reducible repeat (first | refine blk_drewN ?_ _ | refine blk_drew ?_ | refine blk_alloc ?_ _)); exact BK366.out⟩, ⟨by (with_reducible repeat (first | refine blk_drewN ?_ _ | refine blk_drew ?_ | refine blk_alloc ?_ _)); exact BK367.out⟩, ⟨by repeat first | refine zS ?_ GE366.out | refine zS ?_ GE367.out | exact HB.out | apply zA | apply zN | apply zD⟩⟩
 case rest =>
  clear HC3
  (try clear c1); (try clear p2); (try clear c6); (try clear c6b0); (try clear c6b1); (try clear c7); (try clear c7b0); (try clear c7b1); (try clear c8); (try clear c11); (try clear c14); (try clear c16); (try clear hcz10_0); (try clear hcz10_1); (try clear hcz10_2); (try clear hcz10_3); (try clear hcz12_0); (try clear hcz12_1); (try clear hcz12_2); (try clear hcz12_3); (try clear hcz13_0); (try clear hcz13_1); (try clear hcz13_2); (try clear hcz13_3); (try clear hcz15_0); (try clear hcz15_1); (try clear hcz15_2); (try clear hcz15_3); (try clear hcz16_0); (try clear hcz16_1); (try clear hcz16_2); (try clear hcz16_3); (try clear hcz9_0); (try clear hcz9_1); (try clear hcz9_2); (try clear hcz9_3); (try clear hfz10_0); (try clear hfz10_1); (try clear hfz10_2); (try clear hfz10_3); (try clear hfz12_0); (try clear hfz12_1); (try clear hfz12_2); (try clear hfz12_3); (try clear hfz13_0); (try clear hfz13_1); (try clear hfz13_2); (try clear hfz13_3); (try clear hfz15_0); (try clear hfz15_1); (try clear hfz15_2); (try clear hfz15_3); (try clear hfz16_0); (try clear hfz16_1); (try clear hfz16_2); (try clear hfz16_3); (try clear hfz9_0); (try clear hfz9_1); (try clear hfz9_2); (try clear hfz9_3)
  obtain ⟨kq, x26_2, rfl, HA, HJ2, BK366, BK367, HB⟩ := hcut
  cases kq with
  | zero => exact absurd HA.out (by simp [backseatref11_Same.j0])
  | succ kj2 =>
   have H := HA.out
   clear HA
   simp only [backseatref11_Same.j0] at H
   by_cases c17 : x26_2 = true
   ·subst c17
    have H1 : (some false) = some r := by rw [if_pos rfl] at H; exact H
    clear H
    have H := H1
    clear H1
    obtain rfl := Option.some.inj H
    go_wp2
    go_ret
    exact ⟨by first | rfl | (simp [errW_none, errW_some] <;> rfl) | (simp [*, errW_none, errW_some] <;> rfl), by repeat first | refine zS ?_ GE366.out | refine zS ?_ GE367.out | exact HB.out | apply zA | apply zN | apply zD⟩
   ·replace c17 := Bool.eq_false_iff.mpr c17
    subst c17
    have H1 : (backseatref11_Same.l0 kj2 (l0_3.length : Int) 0 a0_0 a0_1 a0_2 l0_3 a1_0 a1_1 a1_2 l1_3) = some r := by rw [if_neg (show ¬ (false = true) by decide)] at H; exact H
    clear H
    have H := H1
    clear H1
    have H' := zM H
    clear H
    have hnb18 := NB366_367.out
    have hnc18 := NB367_366.out
    have hcz19_0 : wc.cell? ⟨gb366, 0, none⟩ = some (.int .i64 a0_0) := (blk_cell BK366.out 0).trans rfl
    have hcz19_1 : wc.cell? ⟨gb366, 1, none⟩ = some (.int .i64 a0_1) := (blk_cell BK366.out 1).trans rfl
    have hcz19_2 : wc.cell? ⟨gb366, 2, none⟩ = some (.int .i64 a0_2) := (blk_cell BK366.out 2).trans rfl
    have hcz19_3 : wc.cell? ⟨gb366, 3, none⟩ = some (.slice A0_3 l0_3.length c0_3) := (blk_cell BK366.out 3).trans rfl
    have hfz19_0 := blk_frozen BK366.out 0
    have hfz19_1 := blk_frozen BK366.out 1
    have hfz19_2 := blk_frozen BK366.out 2
    have hfz19_3 := blk_frozen BK366.out 3
    go_wp2
    go_loopg [30] kj2 (fun kq v30 w' => ∃ (x30_2 : Int), v30 = .int .i64 x30_2 ∧ Aside0 (backseatref11_Same.l0 kq (l0_3.length : Int) x30_2 a0_0 a0_1 a0_2 l0_3 a1_0 a1_1 a1_2 l1_3 = some r) ∧ Aside0 (kq ≤ kj2) ∧ Aside0 (w'.heap[gb366]? = some (.cells #[.int .i64 a0_0, .int .i64 a0_1, .int .i64 a0_2, (.slice A0_3 l0_3.length c0_3)] 31 (0, 0))) ∧ Aside0 (w'.heap[gb367]? = some (.cells #[.int .i64 a1_0, .int .i64 a1_1, .int .i64 a1_2, (.slice A1_3 l1_3.length c1_3)] 31 (0, 0))) ∧ Aside0 (Below w.heap.size w w'))
    case atStart => exact ⟨(0), (by first | rfl | (simp; done) | (simp [*]; done)), H', ⟨Nat.le_refl _⟩, ⟨by (with_reducible repeat (first | refine blk_drewN ?_ _ | refine blk_drew ?_ | refine blk_alloc ?_ _)); exact BK366.out⟩, ⟨by (with_reducible repeat (first | refine blk_drewN ?_ _ | refine blk_drew ?_ | refine blk_alloc ?_ _)); exact BK367.out⟩, ⟨by repeat first | refine zS ?_ GE366.out | refine zS ?_ GE367.out | exact HB.out | apply zA | apply zN | apply zD⟩⟩
    case round =>
     clear H'
     (try clear c1); (try clear p2); (try clear c6); (try clear c6b0); (try clear c6b1); (try clear c7); (try clear c7b0); (try clear c7b1); (try clear c8); (try clear c11); (try clear c14); (try clear c16); (try clear c17); (try clear c18); (try clear hcz10_0); (try clear hcz10_1); (try clear hcz10_2); (try clear hcz10_3); (try clear hcz12_0); (try clear hcz12_1); (try clear hcz12_2); (try clear hcz12_3); (try clear hcz13_0); (try clear hcz13_1); (try clear hcz13_2); (try clear hcz13_3); (try clear hcz15_0); (try clear hcz15_1); (try clear hcz15_2); (try clear hcz15_3); (try clear hcz16_0); (try clear hcz16_1); (try clear hcz16_2); (try clear hcz16_3); (try clear hcz19_0); (try clear hcz19_1); (try clear hcz19_2); (try clear hcz19_3); (try clear hcz9_0); (try clear hcz9_1); (try clear hcz9_2); (try clear hcz9_3); (try clear hfz10_0); (try clear hfz10_1); (try clear hfz10_2); (try clear hfz10_3); (try clear hfz12_0); (try clear hfz12_1); (try clear hfz12_2); (try clear hfz12_3); (try clear hfz13_0); (try clear hfz13_1); (try clear hfz13_2); (try clear hfz13_3); (try clear hfz15_0); (try clear hfz15_1); (try clear hfz15_2); (try clear hfz15_3); (try clear hfz16_0); (try clear hfz16_1); (try clear hfz16_2); (try clear hfz16_3); (try clear hfz19_0); (try clear hfz19_1); (try clear hfz19_2); (try clear hfz19_3); (try clear hfz9_0); (try clear hfz9_1); (try clear hfz9_2); (try clear hfz9_3); (try clear p2)
     obtain ⟨x30_2, rfl, HA, HK2, BK366, BK367, HB⟩ := hrel
     cases gk with
     | zero => exact absurd HA.out (by simp [backseatref11_Same.l0])
     | succ k2 =>
      have H := HA.out
      clear HA
      simp only [backseatref11_Same.l0] at H
      by_cases c20 : x30_2 < (l0_3.length : Int)
      ·rw [if_pos c20] at H
       have c20b0 : decide (x30_2 < (l0_3.length : Int)) = true := decide_eq_true c20
       clear c20
       by_cases c21 : 0 ≤ x30_2
       ·rw [if_pos c21] at H
        have c21b0 : decide (0 ≤ x30_2) = true := decide_eq_true c21
        clear c21
        by_cases c22 : x30_2 < (l0_3.length : Int)
        ·rw [if_pos c22] at H
         have c22b0 : decide (x30_2 < (l0_3.length : Int)) = true := decide_eq_true c22
         clear c22
         by_cases c23 : x30_2 < (l1_3.length : Int)
         ·rw [if_pos c23] at H
          have c23b0 : decide (x30_2 < (l1_3.length : Int)) = true := decide_eq_true c23
          clear c23
          by_cases c24 : ((rd_T31 l0_3 x30_2).f2) = ((rd_T31 l1_3 x30_2).f2)
          ·rw [if_pos c24] at H
           have c24b0 : (((rd_T31 l0_3 x30_2).f2) == ((rd_T31 l1_3 x30_2).f2)) = true := beq_iff_eq.mpr c24
           have c24b1 : (((rd_T31 l0_3 x30_2).f2) != ((rd_T31 l1_3 x30_2).f2)) = false := bne_eq_false_iff_eq.mpr c24
           clear c24
           replace H := Option.bind_eq_some_iff.mp H
           obtain ⟨t372, A250, H⟩ := H
           replace H : (if t372 = true then (backseatref11_Same.l0 k2 (l0_3.length : Int) (wrap64 (x30_2 + 1)) a0_0 a0_1 a0_2 l0_3 a1_0 a1_1 a1_2 l1_3) else (some false)) = some r := H
           have A25 := zM A250
           clear A250
           by_cases c26 : t372 = true
           ·subst c26
            have H1 : (backseatref11_Same.l0 k2 (l0_3.length : Int) (wrap64 (x30_2 + 1)) a0_0 a0_1 a0_2 l0_3 a1_0 a1_1 a1_2 l1_3) = some r := by rw [if_pos rfl] at H; exact H
            clear H
            have H := H1
            clear H1
            have H' := zM H
            clear H
            try go_wp2
            replace BK366 := zM (blk_drew BK366.out); replace BK367 := zM (blk_drew BK367.out); replace HB := zM (zD HB.out)
            have p368 : 0 ≤ (x30_2 : Int) := of_decide_eq_true (by first | (with_reducible assumption) | assumption)
            have q368 : x30_2 < (l0_3.length : Int) := of_decide_eq_true (by first | (with_reducible assumption) | assumption)
            obtain ⟨ad368, A368_3, c368_3, e368, hx368_0, hx368_1, hx368_2, hx368_3, hl368_3, hi368_3⟩ := at_T31 HR0_3.out x30_2 p368 q368
            have hw368_3 := hx368_3
            have hw368_2 := hx368_2
            have hw368_1 := hx368_1
            have hw368_0 := hx368_0
            cases e368
            replace hx368_0 := (HB.out.cell (zL w _ hx368_0)).trans hx368_0
            replace hx368_1 := (HB.out.cell (zL w _ hx368_1)).trans hx368_1
            replace hx368_2 := (HB.out.cell (zL w _ hx368_2)).trans hx368_2
            replace hx368_3 := (HB.out.cell (zL w _ hx368_3)).trans hx368_3
            have HR368_3 := zM hi368_3
            have HC368_3 := zM hl368_3
            clear hi368_3 hl368_3
            replace p368 := eq_true p368
            replace q368 := eq_true q368
            have p369 : 0 ≤ (x30_2 : Int) := of_decide_eq_true (by first | (with_reducible assumption) | assumption)
            have q369 : x30_2 < (l1_3.length : Int) := of_decide_eq_true (by first | (with_reducible assumption) | assumption)
            obtain ⟨ad369, A369_3, c369_3, e369, hx369_0, hx369_1, hx369_2, hx369_3, hl369_3, hi369_3⟩ := at_T31 HR1_3.out x30_2 p369 q369
            have hw369_3 := hx369_3
            have hw369_2 := hx369_2
            have hw369_1 := hx369_1
            have hw369_0 := hx369_0
            cases e369
            replace hx369_0 := (HB.out.cell (zL w _ hx369_0)).trans hx369_0
            replace hx369_1 := (HB.out.cell (zL w _ hx369_1)).trans hx369_1
            replace hx369_2 := (HB.out.cell (zL w _ hx369_2)).trans hx369_2
            replace hx369_3 := (HB.out.cell (zL w _ hx369_3)).trans hx369_3
            have HR369_3 := zM hi369_3
            have HC369_3 := zM hl369_3
            clear hi369_3 hl369_3
            replace p369 := eq_true p369
            replace q369 := eq_true q369
            have p370 : 0 ≤ (x30_2 : Int) := of_decide_eq_true (by first | (with_reducible assumption) | assumption)
            have q370 : x30_2 < (l0_3.length : Int) := of_decide_eq_true (by first | (with_reducible assumption) | assumption)
            obtain ⟨ad370, A370_3, c370_3, e370, hx370_0, hx370_1, hx370_2, hx370_3, hl370_3, hi370_3⟩ := at_T31 HR0_3.out x30_2 p370 q370
            have hw370_3 := hx370_3
            have hw370_2 := hx370_2
            have hw370_1 := hx370_1
            have hw370_0 := hx370_0
            obtain rfl : ad368 = ad370 := (by injection e370)
            replace hx370_0 := (HB.out.cell (zL w _ hx370_0)).trans hx370_0
            replace hx370_1 := (HB.out.cell (zL w _ hx370_1)).trans hx370_1
            replace hx370_2 := (HB.out.cell (zL w _ hx370_2)).trans hx370_2
            replace hx370_3 := (HB.out.cell (zL w _ hx370_3)).trans hx370_3
            have HR370_3 := zM hi370_3
            have HC370_3 := zM hl370_3
            clear hi370_3 hl370_3
            replace p370 := eq_true p370
            replace q370 := eq_true q370
            have ea_ := Option.some.inj (hx368_3.symm.trans hx370_3)
            injection ea_ with ea_ en_ ec_
            subst ea_
            subst ec_
            clear en_
            have p371 : 0 ≤ (x30_2 : Int) := of_decide_eq_true (by first | (with_reducible assumption) | assumption)
            have q371 : x30_2 < (l1_3.length : Int) := of_decide_eq_true (by first | (with_reducible assumption) | assumption)
            obtain ⟨ad371, A371_3, c371_3, e371, hx371_0, hx371_1, hx371_2, hx371_3, hl371_3, hi371_3⟩ := at_T31 HR1_3.out x30_2 p371 q371
            have hw371_3 := hx371_3
            have hw371_2 := hx371_2
            have hw371_1 := hx371_1
            have hw371_0 := hx371_0
            obtain rfl : ad369 = ad371 := (by injection e371)
            replace hx371_0 := (HB.out.cell (zL w _ hx371_0)).trans hx371_0
            replace hx371_1 := (HB.out.cell (zL w _ hx371_1)).trans hx371_1
            replace hx371_2 := (HB.out.cell (zL w _ hx371_2)).trans hx371_2
            replace hx371_3 := (HB.out.cell (zL w _ hx371_3)).trans hx371_3
            have HR371_3 := zM hi371_3
            have HC371_3 := zM hl371_3
            clear hi371_3 hl371_3
            replace p371 := eq_true p371
            replace q371 := eq_true q371
            have ea_ := Option.some.inj (hx369_3.symm.trans hx371_3)
            injection ea_ with ea_ en_ ec_
            subst ea_
            subst ec_
            clear en_
            refine start_ (n := 27) (S := fun w' => w'.cell? ⟨gb366, 0, none⟩ = some (.int .i64 a0_0) ∧ w'.cell? ⟨gb366, 1, none⟩ = some (.int .i64 a0_1) ∧ w'.cell? ⟨gb366, 2, none⟩ = some (.int .i64 a0_2) ∧ w'.cell? ⟨gb366, 3, none⟩ = some (.slice (some ad368) l0_3.length c0_3) ∧ w'.cell? ⟨gb367, 0, none⟩ = some (.int .i64 a1_0) ∧ w'.cell? ⟨gb367, 1, none⟩ = some (.int .i64 a1_1) ∧ w'.cell? ⟨gb367, 2, none⟩ = some (.int .i64 a1_2) ∧ w'.cell? ⟨gb367, 3, none⟩ = some (.slice (some ad369) l1_3.length c1_3) ∧ w'.cell? (ad368.add ((x30_2).toNat * 4)) = some (.int .i64 ((rd_T31 l0_3 x30_2).f0)) ∧ w'.cell? ⟨(ad368.add ((x30_2).toNat * 4)).block, (ad368.add ((x30_2).toNat * 4)).off + 1, none⟩ = some (.int .i64 ((rd_T31 l0_3 x30_2).f1)) ∧ w'.cell? ⟨(ad368.add ((x30_2).toNat * 4)).block, (ad368.add ((x30_2).toNat * 4)).off + 2, none⟩ = some (.int .i64 ((rd_T31 l0_3 x30_2).f2)) ∧ w'.cell? ⟨(ad368.add ((x30_2).toNat * 4)).block, (ad368.add ((x30_2).toNat * 4)).off + 3, none⟩ = some (.slice A368_3 ((rd_T31 l0_3 x30_2).f3).length c368_3) ∧ w'.cell? (ad369.add ((x30_2).toNat * 4)) = some (.int .i64 ((rd_T31 l1_3 x30_2).f0)) ∧ w'.cell? ⟨(ad369.add ((x30_2).toNat * 4)).block, (ad369.add ((x30_2).toNat * 4)).off + 1, none⟩ = some (.int .i64 ((rd_T31 l1_3 x30_2).f1)) ∧ w'.cell? ⟨(ad369.add ((x30_2).toNat * 4)).block, (ad369.add ((x30_2).toNat * 4)).off + 2, none⟩ = some (.int .i64 ((rd_T31 l1_3 x30_2).f2)) ∧ w'.cell? ⟨(ad369.add ((x30_2).toNat * 4)).block, (ad369.add ((x30_2).toNat * 4)).off + 3, none⟩ = some (.slice A369_3 ((rd_T31 l1_3 x30_2).f3).length c369_3) ∧ w'.cell? (ad368.add ((x30_2).toNat * 4)) = some (.int .i64 ((rd_T31 l0_3 x30_2).f0)) ∧ w'.cell? ⟨(ad368.add ((x30_2).toNat * 4)).block, (ad368.add ((x30_2).toNat * 4)).off + 1, none⟩ = some (.int .i64 ((rd_T31 l0_3 x30_2).f1)) ∧ w'.cell? ⟨(ad368.add ((x30_2).toNat * 4)).block, (ad368.add ((x30_2).toNat * 4)).off + 2, none⟩ = some (.int .i64 ((rd_T31 l0_3 x30_2).f2)) ∧ w'.cell? ⟨(ad368.add ((x30_2).toNat * 4)).block, (ad368.add ((x30_2).toNat * 4)).off + 3, none⟩ = some (.slice A368_3 ((rd_T31 l0_3 x30_2).f3).length c368_3) ∧ w'.cell? (ad369.add ((x30_2).toNat * 4)) = some (.int .i64 ((rd_T31 l1_3 x30_2).f0)) ∧ w'.cell? ⟨(ad369.add ((x30_2).toNat * 4)).block, (ad369.add ((x30_2).toNat * 4)).off + 1, none⟩ = some (.int .i64 ((rd_T31 l1_3 x30_2).f1)) ∧ w'.cell? ⟨(ad369.add ((x30_2).toNat * 4)).block, (ad369.add ((x30_2).toNat * 4)).off + 2, none⟩ = some (.int .i64 ((rd_T31 l1_3 x30_2).f2)) ∧ w'.cell? ⟨(ad369.add ((x30_2).toNat * 4)).block, (ad369.add ((x30_2).toNat * 4)).off + 3, none⟩ = some (.slice A369_3 ((rd_T31 l1_3 x30_2).f3).length c369_3)) (ds := []) #[false, false, false, false, false, false, false, false, false, false, false, false, false, false, false, false, false, false, false, false, false, false, false, false, false, false, false] (by kernel_rfl) rfl rfl ⟨(blk_cell BK366.out 0).trans rfl, (blk_cell BK366.out 1).trans rfl, (blk_cell BK366.out 2).trans rfl, (blk_cell BK366.out 3).trans rfl, (blk_cell BK367.out 0).trans rfl, (blk_cell BK367.out 1).trans rfl, (blk_cell BK367.out 2).trans rfl, (blk_cell BK367.out 3).trans rfl, ((HB.out.cell (zL w _ hw368_0)).trans hw368_0), ((HB.out.cell (zL w _ hw368_1)).trans hw368_1), ((HB.out.cell (zL w _ hw368_2)).trans hw368_2), ((HB.out.cell (zL w _ hw368_3)).trans hw368_3), ((HB.out.cell (zL w _ hw369_0)).trans hw369_0), ((HB.out.cell (zL w _ hw369_1)).trans hw369_1), ((HB.out.cell (zL w _ hw369_2)).trans hw369_2), ((HB.out.cell (zL w _ hw369_3)).trans hw369_3), ((HB.out.cell (zL w _ hw370_0)).trans hw370_0), ((HB.out.cell (zL w _ hw370_1)).trans hw370_1), ((HB.out.cell (zL w _ hw370_2)).trans hw370_2), ((HB.out.cell (zL w _ hw370_3)).trans hw370_3), ((HB.out.cell (zL w _ hw371_0)).trans hw371_0), ((HB.out.cell (zL w _ hw371_1)).trans hw371_1), ((HB.out.cell (zL w _ hw371_2)).trans hw371_2), ((HB.out.cell (zL w _ hw371_3)).trans hw371_3)⟩ (fun hHeld => ?_); refine with_tabW backseatref11_Same.tab6 backseatref11_Same.bits6 (fun HT_ HW_ => ?_)
            generalize wr.drew = w27 at BK366 BK367 HB HR368_3 HR369_3 HR370_3 HR371_3 hx368_0 hx368_1 hx368_2 hx368_3 hx369_0 hx369_1 hx369_2 hx369_3 hx370_0 hx370_1 hx370_2 hx370_3 hx371_0 hx371_1 hx371_2 hx371_3 hHeld ⊢
            refine pv (v := ?_) (a' := ?_) HT_.out 0 (some 33) m16_0_ ?_ ?_ ?_; rotate_left 2; (·intro w'; go_simp; with_reducible rfl); (·simp only [Act.put, s1, s2, s3, i64_w, i32_w]; rfl)
            refine pv (v := ?_) (a' := ?_) HT_.out 2 (some 35) m16_1_ ?_ ?_ ?_; rotate_left 2; (·intro w'; go_simp; with_reducible rfl); (·simp only [Act.put, s1, s2, s3, i64_w, i32_w]; rfl)
            refine pv (v := ?_) (a' := ?_) HT_.out 6 (some 39) m16_2_ ?_ ?_ ?_; rotate_left 2; (·intro w'; go_simp; with_reducible rfl); (·simp only [Act.put, s1, s2, s3, i64_w, i32_w]; rfl)
            refine pv (v := ?_) (a' := ?_) HT_.out 8 (some 41) m16_3_ ?_ ?_ ?_; rotate_left 2; (·intro w'; go_simp; with_reducible rfl); (·simp only [Act.put, s1, s2, s3, i64_w, i32_w]; rfl)
            refine take_ (i := 1) (N := some 34) (v := ?_) (a' := ?_) m16_4_ rfl rfl (take_ofW HT_.out HW_.out (by kernel_rfl)) (fun _ _ _ h => h) (Or.inl ⟨by rfl, ?_⟩) hHeld ?_ ?_; rotate_left; (·rintro w' ⟨s0, s1, s2, s3, s4, s5, s6, s7, s8, s9, s10, s11, s12, s13, s14, s15, s16, s17, s18, s19, s20, s21, s22, s23⟩; go_simp; with_reducible rfl); rotate_left; (·simp only [Act.put, s1, s2, s3, i64_w, i32_w]; rfl)
            refine pv (v := ?_) (a' := ?_) HT_.out 3 (some 36) m16_5_ ?_ ?_ ?_; rotate_left 2; (·intro w'; go_simp; with_reducible rfl); (·simp only [Act.put, s1, s2, s3, i64_w, i32_w]; rfl)
            refine pv (v := ?_) (a' := ?_) HT_.out 4 (some 37) m16_6_ ?_ ?_ ?_; rotate_left 2; (·intro w'; go_simp; with_reducible rfl); (·simp only [Act.put, s1, s2, s3, i64_w, i32_w]; rfl)
            refine take_ (i := 5) (N := some 38) (v := ?_) (a' := ?_) m16_7_ rfl rfl (take_ofW HT_.out HW_.out (by kernel_rfl)) (fun _ _ _ h => h) (Or.inl ⟨by rfl, ?_⟩) hHeld ?_ ?_; rotate_left; (·rintro w' ⟨s0, s1, s2, s3, s4, s5, s6, s7, s8, s9, s10, s11, s12, s13, s14, s15, s16, s17, s18, s19, s20, s21, s22, s23⟩; go_simp; with_reducible rfl); rotate_left; (·simp only [Act.put, s1, s2, s3, i64_w, i32_w]; rfl)
            refine take_ (i := 7) (N := some 40) (v := ?_) (a' := ?_) m16_8_ rfl rfl (take_ofW HT_.out HW_.out (by kernel_rfl)) (fun _ _ _ h => h) (Or.inl ⟨by rfl, ?_⟩) hHeld ?_ ?_; rotate_left; (·rintro w' ⟨s0, s1, s2, s3, s4, s5, s6, s7, s8, s9, s10, s11, s12, s13, s14, s15, s16, s17, s18, s19, s20, s21, s22, s23⟩; go_simp; with_reducible rfl); rotate_left; (·simp only [Act.put, s1, s2, s3, i64_w, i32_w]; rfl)
            refine pv (v := ?_) (a' := ?_) HT_.out 9 (some 42) m16_9_ ?_ ?_ ?_; rotate_left 2; (·intro w'; go_simp; with_reducible rfl); (·simp only [Act.put, s1, s2, s3, i64_w, i32_w]; rfl)
            refine pv (v := ?_) (a' := ?_) HT_.out 10 (some 43) m16_10_ ?_ ?_ ?_; rotate_left 2; (·intro w'; go_simp; with_reducible rfl); (·simp only [Act.put, s1, s2, s3, i64_w, i32_w]; rfl)
            refine take_ (i := 11) (N := some 44) (v := ?_) (a' := ?_) m16_11_ rfl rfl (take_ofW HT_.out HW_.out (by kernel_rfl)) (fun _ _ _ h => h) (Or.inl ⟨by rfl, ?_⟩) hHeld ?_ ?_; rotate_left; (·rintro w' ⟨s0, s1, s2, s3, s4, s5, s6, s7, s8, s9, s10, s11, s12, s13, s14, s15, s16, s17, s18, s19, s20, s21, s22, s23⟩; go_simp; with_reducible rfl); rotate_left; (·simp only [Act.put, s1, s2, s3, i64_w, i32_w]; rfl)
            refine pv (v := ?_) (a' := ?_) HT_.out 12 (some 45) m16_12_ ?_ ?_ ?_; rotate_left 2; (·intro w'; go_simp; with_reducible rfl); (·simp only [Act.put, s1, s2, s3, i64_w, i32_w]; rfl)
            refine pv (v := ?_) (a' := ?_) HT_.out 13 (some 46) m16_13_ ?_ ?_ ?_; rotate_left 2; (·intro w'; go_simp; with_reducible rfl); (·simp only [Act.put, s1, s2, s3, i64_w, i32_w]; rfl)
            refine pv (v := ?_) (a' := ?_) HT_.out 14 (some 47) m16_14_ ?_ ?_ ?_; rotate_left 2; (·intro w'; go_simp; with_reducible rfl); (·simp only [Act.put, s1, s2, s3, i64_w, i32_w]; rfl)
            refine pv (v := ?_) (a' := ?_) HT_.out 16 (some 49) m16_15_ ?_ ?_ ?_; rotate_left 2; (·intro w'; go_simp; with_reducible rfl); (·simp only [Act.put, s1, s2, s3, i64_w, i32_w]; rfl)
            refine pv (v := ?_) (a' := ?_) HT_.out 19 (some 52) m16_16_ ?_ ?_ ?_; rotate_left 2; (·intro w'; go_simp; with_reducible rfl); (·simp only [Act.put, s1, s2, s3, i64_w, i32_w]; rfl)
            refine pv (v := ?_) (a' := ?_) HT_.out 21 (some 54) m16_17_ ?_ ?_ ?_; rotate_left 2; (·intro w'; go_simp; with_reducible rfl); (·simp only [Act.put, s1, s2, s3, i64_w, i32_w]; rfl)
            refine take_ (i := 15) (N := some 48) (v := ?_) (a' := ?_) m16_18_ rfl rfl (take_ofW HT_.out HW_.out (by kernel_rfl)) (fun _ _ _ h => h) (Or.inl ⟨by rfl, ?_⟩) hHeld ?_ ?_; rotate_left; (·rintro w' ⟨s0, s1, s2, s3, s4, s5, s6, s7, s8, s9, s10, s11, s12, s13, s14, s15, s16, s17, s18, s19, s20, s21, s22, s23⟩; go_simp; with_reducible rfl); rotate_left; (·simp only [Act.put, s1, s2, s3, i64_w, i32_w]; rfl)
            refine pv (v := ?_) (a' := ?_) HT_.out 17 (some 50) m16_19_ ?_ ?_ ?_; rotate_left 2; (·intro w'; go_simp; with_reducible rfl); (·simp only [Act.put, s1, s2, s3, i64_w, i32_w]; rfl)
            refine take_ (i := 18) (N := some 51) (v := ?_) (a' := ?_) m16_20_ rfl rfl (take_ofW HT_.out HW_.out (by kernel_rfl)) (fun _ _ _ h => h) (Or.inl ⟨by rfl, ?_⟩) hHeld ?_ ?_; rotate_left; (·rintro w' ⟨s0, s1, s2, s3, s4, s5, s6, s7, s8, s9, s10, s11, s12, s13, s14, s15, s16, s17, s18, s19, s20, s21, s22, s23⟩; go_simp; with_reducible rfl); rotate_left; (·simp only [Act.put, s1, s2, s3, i64_w, i32_w]; rfl)
            refine take_ (i := 20) (N := some 53) (v := ?_) (a' := ?_) m16_21_ rfl rfl (take_ofW HT_.out HW_.out (by kernel_rfl)) (fun _ _ _ h => h) (Or.inl ⟨by rfl, ?_⟩) hHeld ?_ ?_; rotate_left; (·rintro w' ⟨s0, s1, s2, s3, s4, s5, s6, s7, s8, s9, s10, s11, s12, s13, s14, s15, s16, s17, s18, s19, s20, s21, s22, s23⟩; go_simp; with_reducible rfl); rotate_left; (·simp only [Act.put, s1, s2, s3, i64_w, i32_w]; rfl)
            refine pv (v := ?_) (a' := ?_) HT_.out 22 (some 55) m16_22_ ?_ ?_ ?_; rotate_left 2; (·intro w'; go_simp; with_reducible rfl); (·simp only [Act.put, s1, s2, s3, i64_w, i32_w]; rfl)
            refine take_ (i := 23) (N := some 56) (v := ?_) (a' := ?_) m16_23_ rfl rfl (take_ofW HT_.out HW_.out (by kernel_rfl)) (fun _ _ _ h => h) (Or.inl ⟨by rfl, ?_⟩) hHeld ?_ ?_; rotate_left; (·rintro w' ⟨s0, s1, s2, s3, s4, s5, s6, s7, s8, s9, s10, s11, s12, s13, s14, s15, s16, s17, s18, s19, s20, s21, s22, s23⟩; go_simp; with_reducible rfl); rotate_left; (·simp only [Act.put, s1, s2, s3, i64_w, i32_w]; rfl)
            refine one_ (i := 24) (N := some 57) m16_24_ rfl rfl (one_of HT_.out (by kernel_rfl)) (by decide) (fun K hK => ?_)
            refine goes_ Try.func16 (by kernel_rfl) rfl #[.agg #[.int .i64 ((rd_T31 l0_3 x30_2).f0), .int .i64 ((rd_T31 l0_3 x30_2).f1), .int .i64 ((rd_T31 l0_3 x30_2).f2), .slice A368_3 ((rd_T31 l0_3 x30_2).f3).length c368_3], .agg #[.int .i64 ((rd_T31 l1_3 x30_2).f0), .int .i64 ((rd_T31 l1_3 x30_2).f1), .int .i64 ((rd_T31 l1_3 x30_2).f2), .slice A369_3 ((rd_T31 l1_3 x30_2).f3).length c369_3]] (by rfl) rfl rfl (by (try simp only [List.map_toArray, List.map_cons, List.map_nil]); first | done | rfl | (simp only [List.length_drop, List.length_take]; rfl)) ?_
            with_reducible refine (ih k2 (by have := HJ2.out; have := HK2.out; omega) ((rd_T31 l0_3 x30_2).f0) ((rd_T31 l0_3 x30_2).f1) ((rd_T31 l0_3 x30_2).f2) _ _ ((rd_T31 l0_3 x30_2).f3) ((rd_T31 l1_3 x30_2).f0) ((rd_T31 l1_3 x30_2).f1) ((rd_T31 l1_3 x30_2).f2) _ _ ((rd_T31 l1_3 x30_2).f3) true _ ?side1 ?side2 ?side3 ?side4 A25.out).mono ?_
            (case side1 => repeat (first | exact (Kd.C_below HR370_3.out HB.out) | (with_reducible refine Kd.C_alloc ?_ _) | (with_reducible refine Kd.C_drewN ?_ _) | (with_reducible refine Kd.C_drew ?_)))
            (case side2 => exact HC370_3.out)
            (case side3 => repeat (first | exact (Kd.C_below HR371_3.out HB.out) | (with_reducible refine Kd.C_alloc ?_ _) | (with_reducible refine Kd.C_drewN ?_ _) | (with_reducible refine Kd.C_drew ?_)))
            (case side4 => exact HC371_3.out)
            rintro e w28 ⟨rfl, hb⟩
            refine ⟨_, rfl, ?_⟩
            replace BK366 := zM (bb hb BK366.out); replace BK367 := zM (bb hb BK367.out); replace HB := zM (below_step (by repeat first | refine zS ?_ GE366.out | refine zS ?_ GE367.out | exact HB.out | apply zA | apply zN | apply zD) hb)
            (try clear hb)
            (try clear hb2)
            (try clear hk)
            (try clear hi)
            refine hK.out _ _ ⟨(blk_cell BK366.out 0).trans rfl, (blk_cell BK366.out 1).trans rfl, (blk_cell BK366.out 2).trans rfl, (blk_cell BK366.out 3).trans rfl, (blk_cell BK367.out 0).trans rfl, (blk_cell BK367.out 1).trans rfl, (blk_cell BK367.out 2).trans rfl, (blk_cell BK367.out 3).trans rfl, ((HB.out.cell (zL w _ hw368_0)).trans hw368_0), ((HB.out.cell (zL w _ hw368_1)).trans hw368_1), ((HB.out.cell (zL w _ hw368_2)).trans hw368_2), ((HB.out.cell (zL w _ hw368_3)).trans hw368_3), ((HB.out.cell (zL w _ hw369_0)).trans hw369_0), ((HB.out.cell (zL w _ hw369_1)).trans hw369_1), ((HB.out.cell (zL w _ hw369_2)).trans hw369_2), ((HB.out.cell (zL w _ hw369_3)).trans hw369_3), ((HB.out.cell (zL w _ hw370_0)).trans hw370_0), ((HB.out.cell (zL w _ hw370_1)).trans hw370_1), ((HB.out.cell (zL w _ hw370_2)).trans hw370_2), ((HB.out.cell (zL w _ hw370_3)).trans hw370_3), ((HB.out.cell (zL w _ hw371_0)).trans hw371_0), ((HB.out.cell (zL w _ hw371_1)).trans hw371_1), ((HB.out.cell (zL w _ hw371_2)).trans hw371_2), ((HB.out.cell (zL w _ hw371_3)).trans hw371_3)⟩ (fun hHeld => ?_)
            clear hK K
            refine norm_ (a' := ?_) ?_ ?_
            rotate_left
            ·show Act.put _ (some 57) _ = _
             simp only [Act.put, s1, s2, s3, i64_w, i32_w]
             rfl
            refine pv (v := ?_) (a' := ?_) HT_.out 25 (some 58) m16_25_ ?_ ?_ ?_; rotate_left 2; (·intro w'; go_simp; with_reducible rfl); (·simp only [Act.put, s1, s2, s3, i64_w, i32_w]; rfl)
            refine pv (v := ?_) (a' := ?_) HT_.out 26 (some 59) m16_26_ ?_ ?_ ?_; rotate_left 2; (·intro w'; go_simp; with_reducible rfl); (·simp only [Act.put, s1, s2, s3, i64_w, i32_w]; rfl)
            refine done_ (done_of HT_.out (by kernel_rfl)) ?_
            try go_wp2
            go_roundg k2
            case measure => have := HJ2.out; have := HK2.out; omega
            case rel => exact ⟨(wrap64 (x30_2 + 1)), (by first | rfl | (simp; done) | (simp [*]; done)), H', ⟨by have := HJ2.out; have := HK2.out; omega⟩, ⟨by (with_reducible repeat (first | refine blk_drewN ?_ _ | refine blk_drew ?_ | refine blk_alloc ?_ _)); exact BK366.out⟩, ⟨by (with_reducible repeat (first | refine blk_drewN ?_ _ | refine blk_drew ?_ | refine blk_alloc ?_ _)); exact BK367.out⟩, ⟨by repeat first | refine zS ?_ GE366.out | refine zS ?_ GE367.out | exact HB.out | apply zA | apply zN | apply zD⟩⟩
           ·replace c26 := Bool.eq_false_iff.mpr c26
            subst c26
            have H1 : (some false) = some r := by rw [if_neg (show ¬ (false = true) by decide)] at H; exact H
            clear H
            have H := H1
            clear H1
            obtain rfl := Option.some.inj H
            try go_wp2
            replace BK366 := zM (blk_drew BK366.out); replace BK367 := zM (blk_drew BK367.out); replace HB := zM (zD HB.out)
            have p368 : 0 ≤ (x30_2 : Int) := of_decide_eq_true (by first | (with_reducible assumption) | assumption)
            have q368 : x30_2 < (l0_3.length : Int) := of_decide_eq_true (by first | (with_reducible assumption) | assumption)
            obtain ⟨ad368, A368_3, c368_3, e368, hx368_0, hx368_1, hx368_2, hx368_3, hl368_3, hi368_3⟩ := at_T31 HR0_3.out x30_2 p368 q368
            have hw368_3 := hx368_3
            have hw368_2 := hx368_2
            have hw368_1 := hx368_1
            have hw368_0 := hx368_0
            cases e368
            replace hx368_0 := (HB.out.cell (zL w _ hx368_0)).trans hx368_0
            replace hx368_1 := (HB.out.cell (zL w _ hx368_1)).trans hx368_1
            replace hx368_2 := (HB.out.cell (zL w _ hx368_2)).trans hx368_2
            replace hx368_3 := (HB.out.cell (zL w _ hx368_3)).trans hx368_3
            have HR368_3 := zM hi368_3
            have HC368_3 := zM hl368_3
            clear hi368_3 hl368_3
            replace p368 := eq_true p368
            replace q368 := eq_true q368
            have p369 : 0 ≤ (x30_2 : Int) := of_decide_eq_true (by first | (with_reducible assumption) | assumption)
            have q369 : x30_2 < (l1_3.length : Int) := of_decide_eq_true (by first | (with_reducible assumption) | assumption)
            obtain ⟨ad369, A369_3, c369_3, e369, hx369_0, hx369_1, hx369_2, hx369_3, hl369_3, hi369_3⟩ := at_T31 HR1_3.out x30_2 p369 q369
            have hw369_3 := hx369_3
            have hw369_2 := hx369_2
            have hw369_1 := hx369_1
            have hw369_0 := hx369_0
            cases e369
            replace hx369_0 := (HB.out.cell (zL w _ hx369_0)).trans hx369_0
            replace hx369_1 := (HB.out.cell (zL w _ hx369_1)).trans hx369_1
            replace hx369_2 := (HB.out.cell (zL w _ hx369_2)).trans hx369_2
            replace hx369_3 := (HB.out.cell (zL w _ hx369_3)).trans hx369_3
            have HR369_3 := zM hi369_3
            have HC369_3 := zM hl369_3
            clear hi369_3 hl369_3
            replace p369 := eq_true p369
            replace q369 := eq_true q369
            have p370 : 0 ≤ (x30_2 : Int) := of_decide_eq_true (by first | (with_reducible assumption) | assumption)
            have q370 : x30_2 < (l0_3.length : Int) := of_decide_eq_true (by first | (with_reducible assumption) | assumption)
            obtain ⟨ad370, A370_3, c370_3, e370, hx370_0, hx370_1, hx370_2, hx370_3, hl370_3, hi370_3⟩ := at_T31 HR0_3.out x30_2 p370 q370
            have hw370_3 := hx370_3
            have hw370_2 := hx370_2
            have hw370_1 := hx370_1
            have hw370_0 := hx370_0
            obtain rfl : ad368 = ad370 := (by injection e370)
            replace hx370_0 := (HB.out.cell (zL w _ hx370_0)).trans hx370_0
            replace hx370_1 := (HB.out.cell (zL w _ hx370_1)).trans hx370_1
            replace hx370_2 := (HB.out.cell (zL w _ hx370_2)).trans hx370_2
            replace hx370_3 := (HB.out.cell (zL w _ hx370_3)).trans hx370_3
            have HR370_3 := zM hi370_3
            have HC370_3 := zM hl370_3
            clear hi370_3 hl370_3
            replace p370 := eq_true p370
            replace q370 := eq_true q370
            have ea_ := Option.some.inj (hx368_3.symm.trans hx370_3)
            injection ea_ with ea_ en_ ec_
            subst ea_
            subst ec_
            clear en_
            have p371 : 0 ≤ (x30_2 : Int) := of_decide_eq_true (by first | (with_reducible assumption) | assumption)
            have q371 : x30_2 < (l1_3.length : Int) := of_decide_eq_true (by first | (with_reducible assumption) | assumption)
            obtain ⟨ad371, A371_3, c371_3, e371, hx371_0, hx371_1, hx371_2, hx371_3, hl371_3, hi371_3⟩ := at_T31 HR1_3.out x30_2 p371 q371
            have hw371_3 := hx371_3
            have hw371_2 := hx371_2
            have hw371_1 := hx371_1
            have hw371_0 := hx371_0
            obtain rfl : ad369 = ad371 := (by injection e371)
            replace hx371_0 := (HB.out.cell (zL w _ hx371_0)).trans hx371_0
            replace hx371_1 := (HB.out.cell (zL w _ hx371_1)).trans hx371_1
            replace hx371_2 := (HB.out.cell (zL w _ hx371_2)).trans hx371_2
            replace hx371_3 := (HB.out.cell (zL w _ hx371_3)).trans hx371_3
            have HR371_3 := zM hi371_3
            have HC371_3 := zM hl371_3
            clear hi371_3 hl371_3
            replace p371 := eq_true p371
            replace q371 := eq_true q371
            have ea_ := Option.some.inj (hx369_3.symm.trans hx371_3)
            injection ea_ with ea_ en_ ec_
            subst ea_
            subst ec_
            clear en_
            refine start_ (n := 27) (S := fun w' => w'.cell? ⟨gb366, 0, none⟩ = some (.int .i64 a0_0) ∧ w'.cell? ⟨gb366, 1, none⟩ = some (.int .i64 a0_1) ∧ w'.cell? ⟨gb366, 2, none⟩ = some (.int .i64 a0_2) ∧ w'.cell? ⟨gb366, 3, none⟩ = some (.slice (some ad368) l0_3.length c0_3) ∧ w'.cell? ⟨gb367, 0, none⟩ = some (.int .i64 a1_0) ∧ w'.cell? ⟨gb367, 1, none⟩ = some (.int .i64 a1_1) ∧ w'.cell? ⟨gb367, 2, none⟩ = some (.int .i64 a1_2) ∧ w'.cell? ⟨gb367, 3, none⟩ = some (.slice (some ad369) l1_3.length c1_3) ∧ w'.cell? (ad368.add ((x30_2).toNat * 4)) = some (.int .i64 ((rd_T31 l0_3 x30_2).f0)) ∧ w'.cell? ⟨(ad368.add ((x30_2).toNat * 4)).block, (ad368.add ((x30_2).toNat * 4)).off + 1, none⟩ = some (.int .i64 ((rd_T31 l0_3 x30_2).f1)) ∧ w'.cell? ⟨(ad368.add ((x30_2).toNat * 4)).block, (ad368.add ((x30_2).toNat * 4)).off + 2, none⟩ = some (.int .i64 ((rd_T31 l0_3 x30_2).f2)) ∧ w'.cell? ⟨(ad368.add ((x30_2).toNat * 4)).block, (ad368.add ((x30_2).toNat * 4)).off + 3, none⟩ = some (.slice A368_3 ((rd_T31 l0_3 x30_2).f3).length c368_3) ∧ w'.cell? (ad369.add ((x30_2).toNat * 4)) = some (.int .i64 ((rd_T31 l1_3 x30_2).f0)) ∧ w'.cell? ⟨(ad369.add ((x30_2).toNat * 4)).block, (ad369.add ((x30_2).toNat * 4)).off + 1, none⟩ = some (.int .i64 ((rd_T31 l1_3 x30_2).f1)) ∧ w'.cell? ⟨(ad369.add ((x30_2).toNat * 4)).block, (ad369.add ((x30_2).toNat * 4)).off + 2, none⟩ = some (.int .i64 ((rd_T31 l1_3 x30_2).f2)) ∧ w'.cell? ⟨(ad369.add ((x30_2).toNat * 4)).block, (ad369.add ((x30_2).toNat * 4)).off + 3, none⟩ = some (.slice A369_3 ((rd_T31 l1_3 x30_2).f3).length c369_3) ∧ w'.cell? (ad368.add ((x30_2).toNat * 4)) = some (.int .i64 ((rd_T31 l0_3 x30_2).f0)) ∧ w'.cell? ⟨(ad368.add ((x30_2).toNat * 4)).block, (ad368.add ((x30_2).toNat * 4)).off + 1, none⟩ = some (.int .i64 ((rd_T31 l0_3 x30_2).f1)) ∧ w'.cell? ⟨(ad368.add ((x30_2).toNat * 4)).block, (ad368.add ((x30_2).toNat * 4)).off + 2, none⟩ = some (.int .i64 ((rd_T31 l0_3 x30_2).f2)) ∧ w'.cell? ⟨(ad368.add ((x30_2).toNat * 4)).block, (ad368.add ((x30_2).toNat * 4)).off + 3, none⟩ = some (.slice A368_3 ((rd_T31 l0_3 x30_2).f3).length c368_3) ∧ w'.cell? (ad369.add ((x30_2).toNat * 4)) = some (.int .i64 ((rd_T31 l1_3 x30_2).f0)) ∧ w'.cell? ⟨(ad369.add ((x30_2).toNat * 4)).block, (ad369.add ((x30_2).toNat * 4)).off + 1, none⟩ = some (.int .i64 ((rd_T31 l1_3 x30_2).f1)) ∧ w'.cell? ⟨(ad369.add ((x30_2).toNat * 4)).block, (ad369.add ((x30_2).toNat * 4)).off + 2, none⟩ = some (.int .i64 ((rd_T31 l1_3 x30_2).f2)) ∧ w'.cell? ⟨(ad369.add ((x30_2).toNat * 4)).block, (ad369.add ((x30_2).toNat * 4)).off + 3, none⟩ = some (.slice A369_3 ((rd_T31 l1_3 x30_2).f3).length c369_3)) (ds := []) #[false, false, false, false, false, false, false, false, false, false, false, false, false, false, false, false, false, false, false, false, false, false, false, false, false, false, false] (by kernel_rfl) rfl rfl ⟨(blk_cell BK366.out 0).trans rfl, (blk_cell BK366.out 1).trans rfl, (blk_cell BK366.out 2).trans rfl, (blk_cell BK366.out 3).trans rfl, (blk_cell BK367.out 0).trans rfl, (blk_cell BK367.out 1).trans rfl, (blk_cell BK367.out 2).trans rfl, (blk_cell BK367.out 3).trans rfl, ((HB.out.cell (zL w _ hw368_0)).trans hw368_0), ((HB.out.cell (zL w _ hw368_1)).trans hw368_1), ((HB.out.cell (zL w _ hw368_2)).trans hw368_2), ((HB.out.cell (zL w _ hw368_3)).trans hw368_3), ((HB.out.cell (zL w _ hw369_0)).trans hw369_0), ((HB.out.cell (zL w _ hw369_1)).trans hw369_1), ((HB.out.cell (zL w _ hw369_2)).trans hw369_2), ((HB.out.cell (zL w _ hw369_3)).trans hw369_3), ((HB.out.cell (zL w _ hw370_0)).trans hw370_0), ((HB.out.cell (zL w _ hw370_1)).trans hw370_1), ((HB.out.cell (zL w _ hw370_2)).trans hw370_2), ((HB.out.cell (zL w _ hw370_3)).trans hw370_3), ((HB.out.cell (zL w _ hw371_0)).trans hw371_0), ((HB.out.cell (zL w _ hw371_1)).trans hw371_1), ((HB.out.cell (zL w _ hw371_2)).trans hw371_2), ((HB.out.cell (zL w _ hw371_3)).trans hw371_3)⟩ (fun hHeld => ?_); refine with_tabW backseatref11_Same.tab6 backseatref11_Same.bits6 (fun HT_ HW_ => ?_)
            generalize wr.drew = w29 at BK366 BK367 HB HR368_3 HR369_3 HR370_3 HR371_3 hx368_0 hx368_1 hx368_2 hx368_3 hx369_0 hx369_1 hx369_2 hx369_3 hx370_0 hx370_1 hx370_2 hx370_3 hx371_0 hx371_1 hx371_2 hx371_3 hHeld ⊢
            refine pv (v := ?_) (a' := ?_) HT_.out 0 (some 33) m16_0_ ?_ ?_ ?_; rotate_left 2; (·intro w'; go_simp; with_reducible rfl); (·simp only [Act.put, s1, s2, s3, i64_w, i32_w]; rfl)
            refine pv (v := ?_) (a' := ?_) HT_.out 2 (some 35) m16_1_ ?_ ?_ ?_; rotate_left 2; (·intro w'; go_simp; with_reducible rfl); (·simp only [Act.put, s1, s2, s3, i64_w, i32_w]; rfl)
            refine pv (v := ?_) (a' := ?_) HT_.out 6 (some 39) m16_2_ ?_ ?_ ?_; rotate_left 2; (·intro w'; go_simp; with_reducible rfl); (·simp only [Act.put, s1, s2, s3, i64_w, i32_w]; rfl)
            refine pv (v := ?_) (a' := ?_) HT_.out 8 (some 41) m16_3_ ?_ ?_ ?_; rotate_left 2; (·intro w'; go_simp; with_reducible rfl); (·simp only [Act.put, s1, s2, s3, i64_w, i32_w]; rfl)
            refine take_ (i := 1) (N := some 34) (v := ?_) (a' := ?_) m16_4_ rfl rfl (take_ofW HT_.out HW_.out (by kernel_rfl)) (fun _ _ _ h => h) (Or.inl ⟨by rfl, ?_⟩) hHeld ?_ ?_; rotate_left; (·rintro w' ⟨s0, s1, s2, s3, s4, s5, s6, s7, s8, s9, s10, s11, s12, s13, s14, s15, s16, s17, s18, s19, s20, s21, s22, s23⟩; go_simp; with_reducible rfl); rotate_left; (·simp only [Act.put, s1, s2, s3, i64_w, i32_w]; rfl)
            refine pv (v := ?_) (a' := ?_) HT_.out 3 (some 36) m16_5_ ?_ ?_ ?_; rotate_left 2; (·intro w'; go_simp; with_reducible rfl); (·simp only [Act.put, s1, s2, s3, i64_w, i32_w]; rfl)
            refine pv (v := ?_) (a' := ?_) HT_.out 4 (some 37) m16_6_ ?_ ?_ ?_; rotate_left 2; (·intro w'; go_simp; with_reducible rfl); (·simp only [Act.put, s1, s2, s3, i64_w, i32_w]; rfl)
            refine take_ (i := 5) (N := some 38) (v := ?_) (a' := ?_) m16_7_ rfl rfl (take_ofW HT_.out HW_.out (by kernel_rfl)) (fun _ _ _ h => h) (Or.inl ⟨by rfl, ?_⟩) hHeld ?_ ?_; rotate_left; (·rintro w' ⟨s0, s1, s2, s3, s4, s5, s6, s7, s8, s9, s10, s11, s12, s13, s14, s15, s16, s17, s18, s19, s20, s21, s22, s23⟩; go_simp; with_reducible rfl); rotate_left; (·simp only [Act.put, s1, s2, s3, i64_w, i32_w]; rfl)
            refine take_ (i := 7) (N := some 40) (v := ?_) (a' := ?_) m16_8_ rfl rfl (take_ofW HT_.out HW_.out (by kernel_rfl)) (fun _ _ _ h => h) (Or.inl ⟨by rfl, ?_⟩) hHeld ?_ ?_; rotate_left; (·rintro w' ⟨s0, s1, s2, s3, s4, s5, s6, s7, s8, s9, s10, s11, s12, s13, s14, s15, s16, s17, s18, s19, s20, s21, s22, s23⟩; go_simp; with_reducible rfl); rotate_left; (·simp only [Act.put, s1, s2, s3, i64_w, i32_w]; rfl)
            refine pv (v := ?_) (a' := ?_) HT_.out 9 (some 42) m16_9_ ?_ ?_ ?_; rotate_left 2; (·intro w'; go_simp; with_reducible rfl); (·simp only [Act.put, s1, s2, s3, i64_w, i32_w]; rfl)
            refine pv (v := ?_) (a' := ?_) HT_.out 10 (some 43) m16_10_ ?_ ?_ ?_; rotate_left 2; (·intro w'; go_simp; with_reducible rfl); (·simp only [Act.put, s1, s2, s3, i64_w, i32_w]; rfl)
            refine take_ (i := 11) (N := some 44) (v := ?_) (a' := ?_) m16_11_ rfl rfl (take_ofW HT_.out HW_.out (by kernel_rfl)) (fun _ _ _ h => h) (Or.inl ⟨by rfl, ?_⟩) hHeld ?_ ?_; rotate_left; (·rintro w' ⟨s0, s1, s2, s3, s4, s5, s6, s7, s8, s9, s10, s11, s12, s13, s14, s15, s16, s17, s18, s19, s20, s21, s22, s23⟩; go_simp; with_reducible rfl); rotate_left; (·simp only [Act.put, s1, s2, s3, i64_w, i32_w]; rfl)
            refine pv (v := ?_) (a' := ?_) HT_.out 12 (some 45) m16_12_ ?_ ?_ ?_; rotate_left 2; (·intro w'; go_simp; with_reducible rfl); (·simp only [Act.put, s1, s2, s3, i64_w, i32_w]; rfl)
            refine pv (v := ?_) (a' := ?_) HT_.out 13 (some 46) m16_13_ ?_ ?_ ?_; rotate_left 2; (·intro w'; go_simp; with_reducible rfl); (·simp only [Act.put, s1, s2, s3, i64_w, i32_w]; rfl)
            refine pv (v := ?_) (a' := ?_) HT_.out 14 (some 47) m16_14_ ?_ ?_ ?_; rotate_left 2; (·intro w'; go_simp; with_reducible rfl); (·simp only [Act.put, s1, s2, s3, i64_w, i32_w]; rfl)
            refine pv (v := ?_) (a' := ?_) HT_.out 16 (some 49) m16_15_ ?_ ?_ ?_; rotate_left 2; (·intro w'; go_simp; with_reducible rfl); (·simp only [Act.put, s1, s2, s3, i64_w, i32_w]; rfl)
            refine pv (v := ?_) (a' := ?_) HT_.out 19 (some 52) m16_16_ ?_ ?_ ?_; rotate_left 2; (·intro w'; go_simp; with_reducible rfl); (·simp only [Act.put, s1, s2, s3, i64_w, i32_w]; rfl)
            refine pv (v := ?_) (a' := ?_) HT_.out 21 (some 54) m16_17_ ?_ ?_ ?_; rotate_left 2; (·intro w'; go_simp; with_reducible rfl); (·simp only [Act.put, s1, s2, s3, i64_w, i32_w]; rfl)
            refine take_ (i := 15) (N := some 48) (v := ?_) (a' := ?_) m16_18_ rfl rfl (take_ofW HT_.out HW_.out (by kernel_rfl)) (fun _ _ _ h => h) (Or.inl ⟨by rfl, ?_⟩) hHeld ?_ ?_; rotate_left; (·rintro w' ⟨s0, s1, s2, s3, s4, s5, s6, s7, s8, s9, s10, s11, s12, s13, s14, s15, s16, s17, s18, s19, s20, s21, s22, s23⟩; go_simp; with_reducible rfl); rotate_left; (·simp only [Act.put, s1, s2, s3, i64_w, i32_w]; rfl)
            refine pv (v := ?_) (a' := ?_) HT_.out 17 (some 50) m16_19_ ?_ ?_ ?_; rotate_left 2; (·intro w'; go_simp; with_reducible rfl); (·simp only [Act.put, s1, s2, s3, i64_w, i32_w]; rfl)
            refine take_ (i := 18) (N := some 51) (v := ?_) (a' := ?_) m16_20_ rfl rfl (take_ofW HT_.out HW_.out (by kernel_rfl)) (fun _ _ _ h => h) (Or.inl ⟨by rfl, ?_⟩) hHeld ?_ ?_; rotate_left; (·rintro w' ⟨s0, s1, s2, s3, s4, s5, s6, s7, s8, s9, s10, s11, s12, s13, s14, s15, s16, s17, s18, s19, s20, s21, s22, s23⟩; go_simp; with_reducible rfl); rotate_left; (·simp only [Act.put, s1, s2, s3, i64_w, i32_w]; rfl)
            refine take_ (i := 20) (N := some 53) (v := ?_) (a' := ?_) m16_21_ rfl rfl (take_ofW HT_.out HW_.out (by kernel_rfl)) (fun _ _ _ h => h) (Or.inl ⟨by rfl, ?_⟩) hHeld ?_ ?_; rotate_left; (·rintro w' ⟨s0, s1, s2, s3, s4, s5, s6, s7, s8, s9, s10, s11, s12, s13, s14, s15, s16, s17, s18, s19, s20, s21, s22, s23⟩; go_simp; with_reducible rfl); rotate_left; (·simp only [Act.put, s1, s2, s3, i64_w, i32_w]; rfl)
            refine pv (v := ?_) (a' := ?_) HT_.out 22 (some 55) m16_22_ ?_ ?_ ?_; rotate_left 2; (·intro w'; go_simp; with_reducible rfl); (·simp only [Act.put, s1, s2, s3, i64_w, i32_w]; rfl)
            refine take_ (i := 23) (N := some 56) (v := ?_) (a' := ?_) m16_23_ rfl rfl (take_ofW HT_.out HW_.out (by kernel_rfl)) (fun _ _ _ h => h) (Or.inl ⟨by rfl, ?_⟩) hHeld ?_ ?_; rotate_left; (·rintro w' ⟨s0, s1, s2, s3, s4, s5, s6, s7, s8, s9, s10, s11, s12, s13, s14, s15, s16, s17, s18, s19, s20, s21, s22, s23⟩; go_simp; with_reducible rfl); rotate_left; (·simp only [Act.put, s1, s2, s3, i64_w, i32_w]; rfl)
            refine one_ (i := 24) (N := some 57) m16_24_ rfl rfl (one_of HT_.out (by kernel_rfl)) (by decide) (fun K hK => ?_)
            refine goes_ Try.func16 (by kernel_rfl) rfl #[.agg #[.int .i64 ((rd_T31 l0_3 x30_2).f0), .int .i64 ((rd_T31 l0_3 x30_2).f1), .int .i64 ((rd_T31 l0_3 x30_2).f2), .slice A368_3 ((rd_T31 l0_3 x30_2).f3).length c368_3], .agg #[.int .i64 ((rd_T31 l1_3 x30_2).f0), .int .i64 ((rd_T31 l1_3 x30_2).f1), .int .i64 ((rd_T31 l1_3 x30_2).f2), .slice A369_3 ((rd_T31 l1_3 x30_2).f3).length c369_3]] (by rfl) rfl rfl (by (try simp only [List.map_toArray, List.map_cons, List.map_nil]); first | done | rfl | (simp only [List.length_drop, List.length_take]; rfl)) ?_
            with_reducible refine (ih k2 (by have := HJ2.out; have := HK2.out; omega) ((rd_T31 l0_3 x30_2).f0) ((rd_T31 l0_3 x30_2).f1) ((rd_T31 l0_3 x30_2).f2) _ _ ((rd_T31 l0_3 x30_2).f3) ((rd_T31 l1_3 x30_2).f0) ((rd_T31 l1_3 x30_2).f1) ((rd_T31 l1_3 x30_2).f2) _ _ ((rd_T31 l1_3 x30_2).f3) false _ ?side1 ?side2 ?side3 ?side4 A25.out).mono ?_
            (case side1 => repeat (first | exact (Kd.C_below HR370_3.out HB.out) | (with_reducible refine Kd.C_alloc ?_ _) | (with_reducible refine Kd.C_drewN ?_ _) | (with_reducible refine Kd.C_drew ?_)))
            (case side2 => exact HC370_3.out)
            (case side3 => repeat (first | exact (Kd.C_below HR371_3.out HB.out) | (with_reducible refine Kd.C_alloc ?_ _) | (with_reducible refine Kd.C_drewN ?_ _) | (with_reducible refine Kd.C_drew ?_)))
            (case side4 => exact HC371_3.out)
            rintro e w30 ⟨rfl, hb⟩
            refine ⟨_, rfl, ?_⟩
            replace BK366 := zM (bb hb BK366.out); replace BK367 := zM (bb hb BK367.out); replace HB := zM (below_step (by repeat first | refine zS ?_ GE366.out | refine zS ?_ GE367.out | exact HB.out | apply zA | apply zN | apply zD) hb)
            (try clear hb)
            (try clear hb2)
            (try clear hk)
            (try clear hi)
            refine hK.out _ _ ⟨(blk_cell BK366.out 0).trans rfl, (blk_cell BK366.out 1).trans rfl, (blk_cell BK366.out 2).trans rfl, (blk_cell BK366.out 3).trans rfl, (blk_cell BK367.out 0).trans rfl, (blk_cell BK367.out 1).trans rfl, (blk_cell BK367.out 2).trans rfl, (blk_cell BK367.out 3).trans rfl, ((HB.out.cell (zL w _ hw368_0)).trans hw368_0), ((HB.out.cell (zL w _ hw368_1)).trans hw368_1), ((HB.out.cell (zL w _ hw368_2)).trans hw368_2), ((HB.out.cell (zL w _ hw368_3)).trans hw368_3), ((HB.out.cell (zL w _ hw369_0)).trans hw369_0), ((HB.out.cell (zL w _ hw369_1)).trans hw369_1), ((HB.out.cell (zL w _ hw369_2)).trans hw369_2), ((HB.out.cell (zL w _ hw369_3)).trans hw369_3), ((HB.out.cell (zL w _ hw370_0)).trans hw370_0), ((HB.out.cell (zL w _ hw370_1)).trans hw370_1), ((HB.out.cell (zL w _ hw370_2)).trans hw370_2), ((HB.out.cell (zL w _ hw370_3)).trans hw370_3), ((HB.out.cell (zL w _ hw371_0)).trans hw371_0), ((HB.out.cell (zL w _ hw371_1)).trans hw371_1), ((HB.out.cell (zL w _ hw371_2)).trans hw371_2), ((HB.out.cell (zL w _ hw371_3)).trans hw371_3)⟩ (fun hHeld => ?_)
            clear hK K
            refine norm_ (a' := ?_) ?_ ?_
            rotate_left
            ·show Act.put _ (some 57) _ = _
             simp only [Act.put, s1, s2, s3, i64_w, i32_w]
             rfl
            refine pv (v := ?_) (a' := ?_) HT_.out 25 (some 58) m16_25_ ?_ ?_ ?_; rotate_left 2; (·intro w'; go_simp; with_reducible rfl); (·simp only [Act.put, s1, s2, s3, i64_w, i32_w]; rfl)
            refine pv (v := ?_) (a' := ?_) HT_.out 26 (some 59) m16_26_ ?_ ?_ ?_; rotate_left 2; (·intro w'; go_simp; with_reducible rfl); (·simp only [Act.put, s1, s2, s3, i64_w, i32_w]; rfl)
            refine done_ (done_of HT_.out (by kernel_rfl)) ?_
            try go_wp2
            go_ret
            exact ⟨by first | rfl | (simp [errW_none, errW_some] <;> rfl) | (simp [*, errW_none, errW_some] <;> rfl), by repeat first | refine zS ?_ GE366.out | refine zS ?_ GE367.out | exact HB.out | apply zA | apply zN | apply zD⟩
          ·rw [if_neg c24] at H
           have c24b0 : (((rd_T31 l0_3 x30_2).f2) == ((rd_T31 l1_3 x30_2).f2)) = false := beq_eq_false_iff_ne.mpr c24
           have c24b1 : (((rd_T31 l0_3 x30_2).f2) != ((rd_T31 l1_3 x30_2).f2)) = true := bne_iff_ne.mpr c24
           obtain rfl := Option.some.inj H
           try go_wp2
           replace BK366 := zM (blk_drew BK366.out); replace BK367 := zM (blk_drew BK367.out); replace HB := zM (zD HB.out)
           have p368 : 0 ≤ (x30_2 : Int) := of_decide_eq_true (by first | (with_reducible assumption) | assumption)
           have q368 : x30_2 < (l0_3.length : Int) := of_decide_eq_true (by first | (with_reducible assumption) | assumption)
           obtain ⟨ad368, A368_3, c368_3, e368, hx368_0, hx368_1, hx368_2, hx368_3, hl368_3, hi368_3⟩ := at_T31 HR0_3.out x30_2 p368 q368
           have hw368_3 := hx368_3
           have hw368_2 := hx368_2
           have hw368_1 := hx368_1
           have hw368_0 := hx368_0
           cases e368
           replace hx368_0 := (HB.out.cell (zL w _ hx368_0)).trans hx368_0
           replace hx368_1 := (HB.out.cell (zL w _ hx368_1)).trans hx368_1
           replace hx368_2 := (HB.out.cell (zL w _ hx368_2)).trans hx368_2
           replace hx368_3 := (HB.out.cell (zL w _ hx368_3)).trans hx368_3
           have HR368_3 := zM hi368_3
           have HC368_3 := zM hl368_3
           clear hi368_3 hl368_3
           replace p368 := eq_true p368
           replace q368 := eq_true q368
           have p369 : 0 ≤ (x30_2 : Int) := of_decide_eq_true (by first | (with_reducible assumption) | assumption)
           have q369 : x30_2 < (l1_3.length : Int) := of_decide_eq_true (by first | (with_reducible assumption) | assumption)
           obtain ⟨ad369, A369_3, c369_3, e369, hx369_0, hx369_1, hx369_2, hx369_3, hl369_3, hi369_3⟩ := at_T31 HR1_3.out x30_2 p369 q369
           have hw369_3 := hx369_3
           have hw369_2 := hx369_2
           have hw369_1 := hx369_1
           have hw369_0 := hx369_0
           cases e369
           replace hx369_0 := (HB.out.cell (zL w _ hx369_0)).trans hx369_0
           replace hx369_1 := (HB.out.cell (zL w _ hx369_1)).trans hx369_1
           replace hx369_2 := (HB.out.cell (zL w _ hx369_2)).trans hx369_2
           replace hx369_3 := (HB.out.cell (zL w _ hx369_3)).trans hx369_3
           have HR369_3 := zM hi369_3
           have HC369_3 := zM hl369_3
           clear hi369_3 hl369_3
           replace p369 := eq_true p369
           replace q369 := eq_true q369
           refine start_ (n := 27) (S := fun w' => w'.cell? ⟨gb366, 0, none⟩ = some (.int .i64 a0_0) ∧ w'.cell? ⟨gb366, 1, none⟩ = some (.int .i64 a0_1) ∧ w'.cell? ⟨gb366, 2, none⟩ = some (.int .i64 a0_2) ∧ w'.cell? ⟨gb366, 3, none⟩ = some (.slice (some ad368) l0_3.length c0_3) ∧ w'.cell? ⟨gb367, 0, none⟩ = some (.int .i64 a1_0) ∧ w'.cell? ⟨gb367, 1, none⟩ = some (.int .i64 a1_1) ∧ w'.cell? ⟨gb367, 2, none⟩ = some (.int .i64 a1_2) ∧ w'.cell? ⟨gb367, 3, none⟩ = some (.slice (some ad369) l1_3.length c1_3) ∧ w'.cell? (ad368.add ((x30_2).toNat * 4)) = some (.int .i64 ((rd_T31 l0_3 x30_2).f0)) ∧ w'.cell? ⟨(ad368.add ((x30_2).toNat * 4)).block, (ad368.add ((x30_2).toNat * 4)).off + 1, none⟩ = some (.int .i64 ((rd_T31 l0_3 x30_2).f1)) ∧ w'.cell? ⟨(ad368.add ((x30_2).toNat * 4)).block, (ad368.add ((x30_2).toNat * 4)).off + 2, none⟩ = some (.int .i64 ((rd_T31 l0_3 x30_2).f2)) ∧ w'.cell? ⟨(ad368.add ((x30_2).toNat * 4)).block, (ad368.add ((x30_2).toNat * 4)).off + 3, none⟩ = some (.slice A368_3 ((rd_T31 l0_3 x30_2).f3).length c368_3) ∧ w'.cell? (ad369.add ((x30_2).toNat * 4)) = some (.int .i64 ((rd_T31 l1_3 x30_2).f0)) ∧ w'.cell? ⟨(ad369.add ((x30_2).toNat * 4)).block, (ad369.add ((x30_2).toNat * 4)).off + 1, none⟩ = some (.int .i64 ((rd_T31 l1_3 x30_2).f1)) ∧ w'.cell? ⟨(ad369.add ((x30_2).toNat * 4)).block, (ad369.add ((x30_2).toNat * 4)).off + 2, none⟩ = some (.int .i64 ((rd_T31 l1_3 x30_2).f2)) ∧ w'.cell? ⟨(ad369.add ((x30_2).toNat * 4)).block, (ad369.add ((x30_2).toNat * 4)).off + 3, none⟩ = some (.slice A369_3 ((rd_T31 l1_3 x30_2).f3).length c369_3)) (ds := []) #[false, false, false, false, false, false, false, false, false, false, false, false, false, false, false, false, false, false, false, false, false, false, false, false, false, false, false] (by kernel_rfl) rfl rfl ⟨(blk_cell BK366.out 0).trans rfl, (blk_cell BK366.out 1).trans rfl, (blk_cell BK366.out 2).trans rfl, (blk_cell BK366.out 3).trans rfl, (blk_cell BK367.out 0).trans rfl, (blk_cell BK367.out 1).trans rfl, (blk_cell BK367.out 2).trans rfl, (blk_cell BK367.out 3).trans rfl, ((HB.out.cell (zL w _ hw368_0)).trans hw368_0), ((HB.out.cell (zL w _ hw368_1)).trans hw368_1), ((HB.out.cell (zL w _ hw368_2)).trans hw368_2), ((HB.out.cell (zL w _ hw368_3)).trans hw368_3), ((HB.out.cell (zL w _ hw369_0)).trans hw369_0), ((HB.out.cell (zL w _ hw369_1)).trans hw369_1), ((HB.out.cell (zL w _ hw369_2)).trans hw369_2), ((HB.out.cell (zL w _ hw369_3)).trans hw369_3)⟩ (fun hHeld => ?_); refine with_tabW backseatref11_Same.tab6 backseatref11_Same.bits6 (fun HT_ HW_ => ?_)
           generalize wr.drew = w31 at BK366 BK367 HB HR368_3 HR369_3 hx368_0 hx368_1 hx368_2 hx368_3 hx369_0 hx369_1 hx369_2 hx369_3 hHeld ⊢
           refine pv (v := ?_) (a' := ?_) HT_.out 0 (some 33) m16_0_ ?_ ?_ ?_; rotate_left 2; (·intro w'; go_simp; with_reducible rfl); (·simp only [Act.put, s1, s2, s3, i64_w, i32_w]; rfl)
           refine pv (v := ?_) (a' := ?_) HT_.out 2 (some 35) m16_1_ ?_ ?_ ?_; rotate_left 2; (·intro w'; go_simp; with_reducible rfl); (·simp only [Act.put, s1, s2, s3, i64_w, i32_w]; rfl)
           refine pv (v := ?_) (a' := ?_) HT_.out 6 (some 39) m16_2_ ?_ ?_ ?_; rotate_left 2; (·intro w'; go_simp; with_reducible rfl); (·simp only [Act.put, s1, s2, s3, i64_w, i32_w]; rfl)
           refine pv (v := ?_) (a' := ?_) HT_.out 8 (some 41) m16_3_ ?_ ?_ ?_; rotate_left 2; (·intro w'; go_simp; with_reducible rfl); (·simp only [Act.put, s1, s2, s3, i64_w, i32_w]; rfl)
           refine take_ (i := 1) (N := some 34) (v := ?_) (a' := ?_) m16_4_ rfl rfl (take_ofW HT_.out HW_.out (by kernel_rfl)) (fun _ _ _ h => h) (Or.inl ⟨by rfl, ?_⟩) hHeld ?_ ?_; rotate_left; (·rintro w' ⟨s0, s1, s2, s3, s4, s5, s6, s7, s8, s9, s10, s11, s12, s13, s14, s15⟩; go_simp; with_reducible rfl); rotate_left; (·simp only [Act.put, s1, s2, s3, i64_w, i32_w]; rfl)
           refine pv (v := ?_) (a' := ?_) HT_.out 3 (some 36) m16_5_ ?_ ?_ ?_; rotate_left 2; (·intro w'; go_simp; with_reducible rfl); (·simp only [Act.put, s1, s2, s3, i64_w, i32_w]; rfl)
           refine pv (v := ?_) (a' := ?_) HT_.out 4 (some 37) m16_6_ ?_ ?_ ?_; rotate_left 2; (·intro w'; go_simp; with_reducible rfl); (·simp only [Act.put, s1, s2, s3, i64_w, i32_w]; rfl)
           refine take_ (i := 5) (N := some 38) (v := ?_) (a' := ?_) m16_7_ rfl rfl (take_ofW HT_.out HW_.out (by kernel_rfl)) (fun _ _ _ h => h) (Or.inl ⟨by rfl, ?_⟩) hHeld ?_ ?_; rotate_left; (·rintro w' ⟨s0, s1, s2, s3, s4, s5, s6, s7, s8, s9, s10, s11, s12, s13, s14, s15⟩; go_simp; with_reducible rfl); rotate_left; (·simp only [Act.put, s1, s2, s3, i64_w, i32_w]; rfl)
           refine take_ (i := 7) (N := some 40) (v := ?_) (a' := ?_) m16_8_ rfl rfl (take_ofW HT_.out HW_.out (by kernel_rfl)) (fun _ _ _ h => h) (Or.inl ⟨by rfl, ?_⟩) hHeld ?_ ?_; rotate_left; (·rintro w' ⟨s0, s1, s2, s3, s4, s5, s6, s7, s8, s9, s10, s11, s12, s13, s14, s15⟩; go_simp; with_reducible rfl); rotate_left; (·simp only [Act.put, s1, s2, s3, i64_w, i32_w]; rfl)
           refine pv (v := ?_) (a' := ?_) HT_.out 9 (some 42) m16_9_ ?_ ?_ ?_; rotate_left 2; (·intro w'; go_simp; with_reducible rfl); (·simp only [Act.put, s1, s2, s3, i64_w, i32_w]; rfl)
           refine pv (v := ?_) (a' := ?_) HT_.out 10 (some 43) m16_10_ ?_ ?_ ?_; rotate_left 2; (·intro w'; go_simp; with_reducible rfl); (·simp only [Act.put, s1, s2, s3, i64_w, i32_w]; rfl)
           refine take_ (i := 11) (N := some 44) (v := ?_) (a' := ?_) m16_11_ rfl rfl (take_ofW HT_.out HW_.out (by kernel_rfl)) (fun _ _ _ h => h) (Or.inl ⟨by rfl, ?_⟩) hHeld ?_ ?_; rotate_left; (·rintro w' ⟨s0, s1, s2, s3, s4, s5, s6, s7, s8, s9, s10, s11, s12, s13, s14, s15⟩; go_simp; with_reducible rfl); rotate_left; (·simp only [Act.put, s1, s2, s3, i64_w, i32_w]; rfl)
           refine pv (v := ?_) (a' := ?_) HT_.out 12 (some 45) m16_12_ ?_ ?_ ?_; rotate_left 2; (·intro w'; go_simp; with_reducible rfl); (·simp only [Act.put, s1, s2, s3, i64_w, i32_w]; rfl)
           refine pv (v := ?_) (a' := ?_) HT_.out 13 (some 46) m16_13_ ?_ ?_ ?_; rotate_left 2; (·intro w'; go_simp; with_reducible rfl); (·simp only [Act.put, s1, s2, s3, i64_w, i32_w]; rfl)
           refine pure_ (i := 14) (N := some 47) (v := undef) (a' := ?_) m16_14_ rfl rfl (any_of HT_.out (by kernel_rfl)) (fun _ _ _ h => h) (Or.inr ⟨by rfl, rfl⟩) ?_ ?_
           rotate_left
           ·simp only [Act.put, s1, s2, s3, i64_w, i32_w]
            rfl
           refine pure_ (i := 15) (N := some 48) (v := undef) (a' := ?_) m16_27_ rfl rfl (any_of HT_.out (by kernel_rfl)) (fun _ _ _ h => h) (Or.inr ⟨by rfl, rfl⟩) ?_ ?_
           rotate_left
           ·simp only [Act.put, s1, s2, s3, i64_w, i32_w]
            rfl
           refine pure_ (i := 16) (N := some 49) (v := undef) (a' := ?_) m16_28_ rfl rfl (any_of HT_.out (by kernel_rfl)) (fun _ _ _ h => h) (Or.inr ⟨by rfl, rfl⟩) ?_ ?_
           rotate_left
           ·simp only [Act.put, s1, s2, s3, i64_w, i32_w]
            rfl
           refine pure_ (i := 17) (N := some 50) (v := undef) (a' := ?_) m16_29_ rfl rfl (any_of HT_.out (by kernel_rfl)) (fun _ _ _ h => h) (Or.inr ⟨by rfl, rfl⟩) ?_ ?_
           rotate_left
           ·simp only [Act.put, s1, s2, s3, i64_w, i32_w]
            rfl
           refine pure_ (i := 18) (N := some 51) (v := undef) (a' := ?_) m16_30_ rfl rfl (any_of HT_.out (by kernel_rfl)) (fun _ _ _ h => h) (Or.inr ⟨by rfl, rfl⟩) ?_ ?_
           rotate_left
           ·simp only [Act.put, s1, s2, s3, i64_w, i32_w]
            rfl
           refine pure_ (i := 19) (N := some 52) (v := undef) (a' := ?_) m16_31_ rfl rfl (any_of HT_.out (by kernel_rfl)) (fun _ _ _ h => h) (Or.inr ⟨by rfl, rfl⟩) ?_ ?_
           rotate_left
           ·simp only [Act.put, s1, s2, s3, i64_w, i32_w]
            rfl
           refine pure_ (i := 20) (N := some 53) (v := undef) (a' := ?_) m16_32_ rfl rfl (any_of HT_.out (by kernel_rfl)) (fun _ _ _ h => h) (Or.inr ⟨by rfl, rfl⟩) ?_ ?_
           rotate_left
           ·simp only [Act.put, s1, s2, s3, i64_w, i32_w]
            rfl
           refine pure_ (i := 21) (N := some 54) (v := undef) (a' := ?_) m16_21_ rfl rfl (any_of HT_.out (by kernel_rfl)) (fun _ _ _ h => h) (Or.inr ⟨by rfl, rfl⟩) ?_ ?_
           rotate_left
           ·simp only [Act.put, s1, s2, s3, i64_w, i32_w]
            rfl
           refine pure_ (i := 22) (N := some 55) (v := undef) (a' := ?_) m16_22_ rfl rfl (any_of HT_.out (by kernel_rfl)) (fun _ _ _ h => h) (Or.inr ⟨by rfl, rfl⟩) ?_ ?_
           rotate_left
           ·simp only [Act.put, s1, s2, s3, i64_w, i32_w]
            rfl
           refine pure_ (i := 23) (N := some 56) (v := undef) (a' := ?_) m16_23_ rfl rfl (any_of HT_.out (by kernel_rfl)) (fun _ _ _ h => h) (Or.inr ⟨by rfl, rfl⟩) ?_ ?_
           rotate_left
           ·simp only [Act.put, s1, s2, s3, i64_w, i32_w]
            rfl
           refine pure_ (i := 24) (N := some 57) (v := undef) (a' := ?_) m16_24_ rfl rfl (any_of HT_.out (by kernel_rfl)) (fun _ _ _ h => h) (Or.inr ⟨by rfl, rfl⟩) ?_ ?_
           rotate_left
           ·simp only [Act.put, s1, s2, s3, i64_w, i32_w]
            rfl
           refine pure_ (i := 25) (N := some 58) (v := undef) (a' := ?_) m16_25_ rfl rfl (any_of HT_.out (by kernel_rfl)) (fun _ _ _ h => h) (Or.inr ⟨by rfl, rfl⟩) ?_ ?_
           rotate_left
           ·simp only [Act.put, s1, s2, s3, i64_w, i32_w]
            rfl
           refine pv (v := ?_) (a' := ?_) HT_.out 26 (some 59) m16_26_ ?_ ?_ ?_; rotate_left 2; (·intro w'; go_simp; with_reducible rfl); (·simp only [Act.put, s1, s2, s3, i64_w, i32_w]; rfl)
           refine done_ (done_of HT_.out (by kernel_rfl)) ?_
           try go_wp2
           go_ret
           exact ⟨by first | rfl | (simp [errW_none, errW_some] <;> rfl) | (simp [*, errW_none, errW_some] <;> rfl), by repeat first | refine zS ?_ GE366.out | refine zS ?_ GE367.out | exact HB.out | apply zA | apply zN | apply zD⟩
         ·rw [if_neg c23] at H
          exact absurd H (by simp)
        ·rw [if_neg c22] at H
         exact absurd H (by simp)
       ·rw [if_neg c21] at H
        exact absurd H (by simp)
      ·rw [if_neg c20] at H
       have c20b0 : decide (x30_2 < (l0_3.length : Int)) = false := decide_eq_false c20
       clear c20
       obtain rfl := Option.some.inj H
       go_wp2
       go_ret
       exact ⟨by first | rfl | (simp [errW_none, errW_some] <;> rfl) | (simp [*, errW_none, errW_some] <;> rfl), by repeat first | refine zS ?_ GE366.out | refine zS ?_ GE367.out | exact HB.out | apply zA | apply zN | apply zD⟩
end Go.Proofs.Ytplngfammfdemaa.Q
