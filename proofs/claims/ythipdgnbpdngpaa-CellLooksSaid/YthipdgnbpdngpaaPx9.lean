-- Written by hybrid.py, a program of this project, for the seat Ythipdgnbpdngpaa.
import Derived.Test.YthipdgnbpdngpaaPx0
import Derived.Test.YthipdgnbpdngpaaPx5
import Derived.Test.YthipdgnbpdngpaaPx8
namespace Go.Proofs.Ythipdgnbpdngpaa.P
open Go.RowKit Go.Proofs.Ythipdgnbpdngpaa Go.Proofs.YthipdgnbpdngpaaW.PrintWords Go.Proofs.YthipdgnbpdngpaaW.PrintLast Go.Proofs.YthipdgnbpdngpaaW.PrintMore
attribute [local go_sem] max2_int min2_int max_two min_two max_three min_three max_four min_four   -- for this text's walks alone
set_option linter.unusedVariables false
set_option linter.unusedSimpArgs false

/-! ### backseatref04_Change: function 10 -/
mutual
def backseatref04_Change.l0 : Nat → List Int → Int → Int → Int → Int → Option (Int × Int × Int)
  | 0, _, _, _, _, _ => none
  | k + 1, x1, x5, x243000, x243001, x243002 => if x5 < (x1.length : Int) then (if 0 ≤ x5 then (if (rd x1 x5) = 38 then (backseatref04_Change.j1 k x1 x5 (rd x1 x5) false x243000 x243001 x243002) else (backseatref04_Change.j1 k x1 x5 (rd x1 x5) ((rd x1 x5) != 48) x243000 x243001 x243002)) else (none)) else (some (x243000, x243001, x243002))
def backseatref04_Change.j1 : Nat → List Int → Int → Int → Bool → Int → Int → Int → Option (Int × Int × Int)
  | 0, _, _, _, _, _, _, _ => none
  | k + 1, x1, x5, x6, x24, x243000, x243001, x243002 => if x24 = true then ((backseatref04_one.f k x243000 x243001 x243002 x6).bind fun bt245 => (backseatref04_Change.l0 k x1 (wrap64 (x5 + 1)) bt245.1 bt245.2.1 bt245.2.2)) else (if (wrap64 (x5 + 2)) ≥ (x1.length : Int) then (backseatref04_Change.j2 k x1 x5 x6 true x243000 x243001 x243002) else (if 0 ≤ (wrap64 (x5 + 1)) then (if (wrap64 (x5 + 1)) < (x1.length : Int) then (if (rd x1 (wrap64 (x5 + 1))) = 5 then (if 0 ≤ (wrap64 (x5 + 2)) then (if (wrap64 (x5 + 2)) < (x1.length : Int) then ((backseatref04_in.f (rd x1 (wrap64 (x5 + 2))) 0 255).bind fun t250 => (backseatref04_Change.j2 k x1 x5 x6 (!t250) x243000 x243001 x243002)) else (none)) else (none)) else (backseatref04_Change.j2 k x1 x5 x6 true x243000 x243001 x243002)) else (none)) else (none)))
def backseatref04_Change.j2 : Nat → List Int → Int → Int → Bool → Int → Int → Int → Option (Int × Int × Int)
  | 0, _, _, _, _, _, _, _ => none
  | k + 1, x1, x5, x6, x51, x243000, x243001, x243002 => if x51 = true then (some (x243000, x243001, x243002)) else (if x6 = 38 then (if 0 ≤ (wrap64 (x5 + 2)) then (if (wrap64 (x5 + 2)) < (x1.length : Int) then (backseatref04_Change.l0 k x1 (wrap64 (x5 + 3)) (wrap64 ((rd x1 (wrap64 (x5 + 2))) + 1)) x243001 x243002) else (none)) else (none)) else (if 0 ≤ (wrap64 (x5 + 2)) then (if (wrap64 (x5 + 2)) < (x1.length : Int) then (backseatref04_Change.l0 k x1 (wrap64 (x5 + 3)) x243000 (wrap64 ((rd x1 (wrap64 (x5 + 2))) + 1)) x243002) else (none)) else (none)))
end
def backseatref04_Change.f (k : Nat) (a0_0 : Int) (a0_1 : Int) (a0_2 : Int) (l1 : List Int) : Option (Int × Int × Int) := if (l1.length : Int) = 0 then (some (0, 0, 0)) else (backseatref04_Change.l0 k l1 0 a0_0 a0_1 a0_2)
theorem backseatref04_Change.mono_l : ∀ k, (∀ y0 y1 y2 y3 y4, LeO (backseatref04_Change.l0 k y0 y1 y2 y3 y4) (backseatref04_Change.l0 (k + 1) y0 y1 y2 y3 y4)) ∧ (∀ y0 y1 y2 y3 y4 y5 y6, LeO (backseatref04_Change.j1 k y0 y1 y2 y3 y4 y5 y6) (backseatref04_Change.j1 (k + 1) y0 y1 y2 y3 y4 y5 y6)) ∧ (∀ y0 y1 y2 y3 y4 y5 y6, LeO (backseatref04_Change.j2 k y0 y1 y2 y3 y4 y5 y6) (backseatref04_Change.j2 (k + 1) y0 y1 y2 y3 y4 y5 y6))
  | 0 => ⟨fun _ _ _ _ _ r h => by simp [backseatref04_Change.l0] at h, fun _ _ _ _ _ _ _ r h => by simp [backseatref04_Change.j1] at h, fun _ _ _ _ _ _ _ r h => by simp [backseatref04_Change.j2] at h⟩
  | k + 1 => by
    obtain ⟨ih0, ih1, ih2⟩ := backseatref04_Change.mono_l k
    refine ⟨?_, ?_, ?_⟩
    · intro y0 y1 y2 y3 y4
      unfold backseatref04_Change.l0
      repeat' first
      | (with_reducible exact ih0 _ _ _ _ _)
      | (with_reducible exact ih1 _ _ _ _ _ _ _)
      | (with_reducible exact ih2 _ _ _ _ _ _ _)
      | (with_reducible exact backseatref04_one.mono _ _ _ _ _)
      | (with_reducible exact LeO.refl _)
      | (with_reducible exact LeO.none _)
      | (with_reducible refine LeO.ite ?_ ?_)
      | (with_reducible refine LeO.bind ?_ (fun _ => ?_))
      | exact ih0 _ _ _ _ _
      | exact ih1 _ _ _ _ _ _ _
      | exact ih2 _ _ _ _ _ _ _
      | exact backseatref04_one.mono _ _ _ _ _
      | exact LeO.none _
      | refine LeO.ite ?_ ?_
      | refine LeO.bind ?_ (fun _ => ?_)
    · intro y0 y1 y2 y3 y4 y5 y6
      unfold backseatref04_Change.j1
      repeat' first
      | (with_reducible exact ih0 _ _ _ _ _)
      | (with_reducible exact ih1 _ _ _ _ _ _ _)
      | (with_reducible exact ih2 _ _ _ _ _ _ _)
      | (with_reducible exact backseatref04_one.mono _ _ _ _ _)
      | (with_reducible exact LeO.refl _)
      | (with_reducible exact LeO.none _)
      | (with_reducible refine LeO.ite ?_ ?_)
      | (with_reducible refine LeO.bind ?_ (fun _ => ?_))
      | exact ih0 _ _ _ _ _
      | exact ih1 _ _ _ _ _ _ _
      | exact ih2 _ _ _ _ _ _ _
      | exact backseatref04_one.mono _ _ _ _ _
      | exact LeO.none _
      | refine LeO.ite ?_ ?_
      | refine LeO.bind ?_ (fun _ => ?_)
    · intro y0 y1 y2 y3 y4 y5 y6
      unfold backseatref04_Change.j2
      repeat' first
      | (with_reducible exact ih0 _ _ _ _ _)
      | (with_reducible exact ih1 _ _ _ _ _ _ _)
      | (with_reducible exact ih2 _ _ _ _ _ _ _)
      | (with_reducible exact backseatref04_one.mono _ _ _ _ _)
      | (with_reducible exact LeO.refl _)
      | (with_reducible exact LeO.none _)
      | (with_reducible refine LeO.ite ?_ ?_)
      | (with_reducible refine LeO.bind ?_ (fun _ => ?_))
      | exact ih0 _ _ _ _ _
      | exact ih1 _ _ _ _ _ _ _
      | exact ih2 _ _ _ _ _ _ _
      | exact backseatref04_one.mono _ _ _ _ _
      | exact LeO.none _
      | refine LeO.ite ?_ ?_
      | refine LeO.bind ?_ (fun _ => ?_)
theorem backseatref04_Change.mono : ∀ a0 a1 a2 a3 k, LeO (backseatref04_Change.f k a0 a1 a2 a3) (backseatref04_Change.f (k + 1) a0 a1 a2 a3) := by
  intro a0 a1 a2 a3 k
  obtain ⟨ih0, ih1, ih2⟩ := backseatref04_Change.mono_l k
  unfold backseatref04_Change.f
  repeat' first
      | (with_reducible exact ih0 _ _ _ _ _)
      | (with_reducible exact ih1 _ _ _ _ _ _ _)
      | (with_reducible exact ih2 _ _ _ _ _ _ _)
      | (with_reducible exact backseatref04_one.mono _ _ _ _ _)
      | (with_reducible exact LeO.refl _)
      | (with_reducible exact LeO.none _)
      | (with_reducible refine LeO.ite ?_ ?_)
      | (with_reducible refine LeO.bind ?_ (fun _ => ?_))
      | exact ih0 _ _ _ _ _
      | exact ih1 _ _ _ _ _ _ _
      | exact ih2 _ _ _ _ _ _ _
      | exact backseatref04_one.mono _ _ _ _ _
      | exact LeO.none _
      | refine LeO.ite ?_ ?_
      | refine LeO.bind ?_ (fun _ => ?_)
set_option maxHeartbeats 8000000 in
set_option maxRecDepth 100000 in
theorem backseatref04_Change.calls (k : Nat) (a0_0 : Int) (a0_1 : Int) (a0_2 : Int) (A1 : Option Addr) (c1 : Nat) (l1 : List Int) (r1 : Int) (r2 : Int) (r3 : Int) (w : World) (hr1 : Kd.C (Kd.int .i64) w A1 l1.length l1) (hc1 : l1.length ≤ c1) (h : backseatref04_Change.f k a0_0 a0_1 a0_2 l1 = some (r1, r2, r3)) :
    Calls Try.prog 10 #[.agg #[.int .i64 a0_0, .int .i64 a0_1, .int .i64 a0_2], .slice A1 l1.length c1] w fun e w' => e = .returned (.agg #[.int .i64 r1, .int .i64 r2, .int .i64 r3]) ∧ Below w.heap.size w w' := by
  have hu23 := Try.underlying23
  have HR1 := Aside0.mk hr1
  have HC1 := Aside0.mk hc1
  clear hr1 hc1
  have HB := Aside0.mk (Below.refl w.heap.size w)
  have H : (if (l1.length : Int) = 0 then (some (0, 0, 0)) else (backseatref04_Change.l0 k l1 0 a0_0 a0_1 a0_2)) = some (r1, r2, r3) := h
  clear h
  by_cases c3 : (l1.length : Int) = 0
  · rw [if_pos c3] at H
    have c3b0 : ((l1.length : Int) == 0) = true := beq_iff_eq.mpr c3
    have c3b1 : ((l1.length : Int) != 0) = false := bne_eq_false_iff_eq.mpr c3
    clear c3
    simp only [Option.some.injEq, Prod.mk.injEq] at H
    obtain ⟨rfl, rfl, rfl⟩ := H
    go_enter Try.func10, Try.ntmps10
    go_wp2_with (first | ((with_reducible refine gate_dst (N := 2) rfl ?_); refine box_event ?hg (N := 2) ?hd (cs := #[.int .i64 a0_0, .int .i64 a0_1, .int .i64 a0_2]) (t := 23) ?hr ?_; (case hd => rfl); (case hg => rfl); (case hr => first | (go_simp; done) | (go_simp; rfl)); intro gb242 hg w4 hbox hb; have n0_ := Aside0.mk (below_step (by repeat (first | (with_reducible first | exact HB.out | apply below_alloc | apply pw_below_drewN | apply below_drew1) | exact HB.out)) hb); have n1_ := Aside0.mk (hbox); have n2_ := Aside0.mk ((by rw [hg]; exact (below_size (by repeat (first | (with_reducible first | exact HB.out | apply below_alloc | apply pw_below_drewN | apply below_drew1) | exact HB.out))) : w.heap.size ≤ gb242)); have n3_ := Aside0.mk ((by rw [hg]; exact (below_size (by repeat (first | (with_reducible first | exact HB.out | apply below_alloc | apply pw_below_drewN | apply below_drew1) | exact HB.out))) : w.heap.size ≤ gb242)); clear HB; have HB := n0_; have BK242 := n1_; have GW242 := n2_; have GE242 := n3_; clear n0_ n1_ n2_ n3_; clear hb hbox hg) | ((with_reducible refine gate_dst (N := 4) rfl ?_); refine box_event ?hg (N := 4) ?hd (cs := #[.int .i64 0, .int .i64 0, .int .i64 0]) (t := 23) ?hr ?_; (case hd => rfl); (case hg => rfl); (case hr => first | (go_simp; done) | (go_simp; rfl)); intro gb243 hg w5 hbox hb; have n0_ := Aside0.mk (blk_below (g := gb242) (o := .cells #[.int .i64 a0_0, .int .i64 a0_1, .int .i64 a0_2] 23 (0, 0)) (by (with_reducible repeat (first | refine blk_drewN ?_ _ | refine blk_drew ?_ | refine blk_alloc ?_ _)); exact BK242.out) hb); have n1_ := Aside0.mk (below_step (by repeat (first | (with_reducible first | exact HB.out | apply below_alloc | apply pw_below_drewN | apply below_drew1 | refine below_set ?_ GE242.out) | exact HB.out)) hb); have n2_ := Aside0.mk (hbox); have n3_ := Aside0.mk ((by rw [hg]; exact (below_size (by repeat (first | (with_reducible first | exact HB.out | apply below_alloc | apply pw_below_drewN | apply below_drew1 | refine below_set ?_ GE242.out) | exact HB.out))) : w.heap.size ≤ gb243)); have n4_ := Aside0.mk ((by rw [hg]; exact (below_size (by repeat (first | (with_reducible first | exact HB.out | apply below_alloc | apply pw_below_drewN | apply below_drew1 | refine below_set ?_ GE242.out) | exact HB.out))) : w.heap.size ≤ gb243)); have n5_ := Aside0.mk ((by rw [hg]; exact Nat.ne_of_lt (blk_lt (g := gb242) (o := .cells #[.int .i64 a0_0, .int .i64 a0_1, .int .i64 a0_2] 23 (0, 0)) (by (with_reducible repeat (first | refine blk_drewN ?_ _ | refine blk_drew ?_ | refine blk_alloc ?_ _)); exact BK242.out)) : gb242 ≠ gb243)); have n6_ := Aside0.mk ((by rw [hg]; exact Nat.ne_of_gt (blk_lt (g := gb242) (o := .cells #[.int .i64 a0_0, .int .i64 a0_1, .int .i64 a0_2] 23 (0, 0)) (by (with_reducible repeat (first | refine blk_drewN ?_ _ | refine blk_drew ?_ | refine blk_alloc ?_ _)); exact BK242.out)) : gb243 ≠ gb242)); clear BK242; clear HB; have BK242 := n0_; have HB := n1_; have BK243 := n2_; have GW243 := n3_; have GE243 := n4_; have NB242_243 := n5_; have NB243_242 := n6_; clear n0_ n1_ n2_ n3_ n4_ n5_ n6_; clear hb hbox hg; have hnb6 := NB243_242.out; have hnc6 := NB242_243.out; have hcz7_0 : w5.cell? ⟨gb243, 0, none⟩ = some (.int .i64 0) := (blk_cell BK243.out 0).trans rfl; have hcz7_1 : w5.cell? ⟨gb243, 1, none⟩ = some (.int .i64 0) := (blk_cell BK243.out 1).trans rfl; have hcz7_2 : w5.cell? ⟨gb243, 2, none⟩ = some (.int .i64 0) := (blk_cell BK243.out 2).trans rfl; have hfz7_0 := blk_frozen BK243.out 0; have hfz7_1 := blk_frozen BK243.out 1; have hfz7_2 := blk_frozen BK243.out 2))
    refine bodyPost_ret (results_cell_row rfl _ _ gb243 23 #[.int .i64 0, .int .i64 0, .int .i64 0] (0, 0) _ rfl (by (with_reducible repeat (first | refine blk_drewN ?_ _ | refine blk_drew ?_ | refine blk_alloc ?_ _)); refine blk_put (cs := #[.int .i64 0, .int .i64 0, .int .i64 0]) ?_ 2 _ rfl; (with_reducible repeat (first | refine blk_drewN ?_ _ | refine blk_drew ?_ | refine blk_alloc ?_ _)); refine blk_put (cs := #[.int .i64 0, .int .i64 0, .int .i64 0]) ?_ 1 _ rfl; (with_reducible repeat (first | refine blk_drewN ?_ _ | refine blk_drew ?_ | refine blk_alloc ?_ _)); refine blk_put (cs := #[.int .i64 0, .int .i64 0, .int .i64 0]) ?_ 0 _ rfl; (with_reducible repeat (first | refine blk_drewN ?_ _ | refine blk_drew ?_ | refine blk_alloc ?_ _)); exact BK243.out) Try.underlying23 rfl (by kernel_rfl)) rfl ?_
    exact ⟨by first | rfl | (simp [errW_none, errW_some] <;> rfl) | (simp [*, errW_none, errW_some] <;> rfl), by repeat (first | (with_reducible first | exact HB.out | apply below_alloc | apply pw_below_drewN | apply below_drew1 | refine below_set ?_ GE242.out | refine below_set ?_ GE243.out) | exact HB.out)⟩
  · rw [if_neg c3] at H
    have c3b0 : ((l1.length : Int) == 0) = false := beq_eq_false_iff_ne.mpr c3
    have c3b1 : ((l1.length : Int) != 0) = true := bne_iff_ne.mpr c3
    have c3b2 : ¬ (l1 = []) := fun h_ => c3 (by rw [h_]; rfl)
    have H' := Aside0.mk H
    clear H
    go_enter Try.func10, Try.ntmps10
    go_wp2_with (first | ((with_reducible refine gate_dst (N := 2) rfl ?_); refine box_event ?hg (N := 2) ?hd (cs := #[.int .i64 a0_0, .int .i64 a0_1, .int .i64 a0_2]) (t := 23) ?hr ?_; (case hd => rfl); (case hg => rfl); (case hr => first | (go_simp; done) | (go_simp; rfl)); intro gb242 hg w8 hbox hb; have n0_ := Aside0.mk (below_step (by repeat (first | (with_reducible first | exact HB.out | apply below_alloc | apply pw_below_drewN | apply below_drew1) | exact HB.out)) hb); have n1_ := Aside0.mk (hbox); have n2_ := Aside0.mk ((by rw [hg]; exact (below_size (by repeat (first | (with_reducible first | exact HB.out | apply below_alloc | apply pw_below_drewN | apply below_drew1) | exact HB.out))) : w.heap.size ≤ gb242)); have n3_ := Aside0.mk ((by rw [hg]; exact (below_size (by repeat (first | (with_reducible first | exact HB.out | apply below_alloc | apply pw_below_drewN | apply below_drew1) | exact HB.out))) : w.heap.size ≤ gb242)); clear HB; have HB := n0_; have BK242 := n1_; have GW242 := n2_; have GE242 := n3_; clear n0_ n1_ n2_ n3_; clear hb hbox hg) | ((with_reducible refine gate_dst (N := 4) rfl ?_); refine box_event ?hg (N := 4) ?hd (cs := #[.int .i64 0, .int .i64 0, .int .i64 0]) (t := 23) ?hr ?_; (case hd => rfl); (case hg => rfl); (case hr => first | (go_simp; done) | (go_simp; rfl)); intro gb243 hg w9 hbox hb; have n0_ := Aside0.mk (blk_below (g := gb242) (o := .cells #[.int .i64 a0_0, .int .i64 a0_1, .int .i64 a0_2] 23 (0, 0)) (by (with_reducible repeat (first | refine blk_drewN ?_ _ | refine blk_drew ?_ | refine blk_alloc ?_ _)); exact BK242.out) hb); have n1_ := Aside0.mk (below_step (by repeat (first | (with_reducible first | exact HB.out | apply below_alloc | apply pw_below_drewN | apply below_drew1 | refine below_set ?_ GE242.out) | exact HB.out)) hb); have n2_ := Aside0.mk (hbox); have n3_ := Aside0.mk ((by rw [hg]; exact (below_size (by repeat (first | (with_reducible first | exact HB.out | apply below_alloc | apply pw_below_drewN | apply below_drew1 | refine below_set ?_ GE242.out) | exact HB.out))) : w.heap.size ≤ gb243)); have n4_ := Aside0.mk ((by rw [hg]; exact (below_size (by repeat (first | (with_reducible first | exact HB.out | apply below_alloc | apply pw_below_drewN | apply below_drew1 | refine below_set ?_ GE242.out) | exact HB.out))) : w.heap.size ≤ gb243)); have n5_ := Aside0.mk ((by rw [hg]; exact Nat.ne_of_lt (blk_lt (g := gb242) (o := .cells #[.int .i64 a0_0, .int .i64 a0_1, .int .i64 a0_2] 23 (0, 0)) (by (with_reducible repeat (first | refine blk_drewN ?_ _ | refine blk_drew ?_ | refine blk_alloc ?_ _)); exact BK242.out)) : gb242 ≠ gb243)); have n6_ := Aside0.mk ((by rw [hg]; exact Nat.ne_of_gt (blk_lt (g := gb242) (o := .cells #[.int .i64 a0_0, .int .i64 a0_1, .int .i64 a0_2] 23 (0, 0)) (by (with_reducible repeat (first | refine blk_drewN ?_ _ | refine blk_drew ?_ | refine blk_alloc ?_ _)); exact BK242.out)) : gb243 ≠ gb242)); clear BK242; clear HB; have BK242 := n0_; have HB := n1_; have BK243 := n2_; have GW243 := n3_; have GE243 := n4_; have NB242_243 := n5_; have NB243_242 := n6_; clear n0_ n1_ n2_ n3_ n4_ n5_ n6_; clear hb hbox hg))
    go_loopg [5] k (fun kq v5 w' => ∃ (x5_1 : Int) (x243000_1 : Int) (x243001_1 : Int) (x243002_1 : Int) (x244000_1 : Int) (x244001_1 : Int) (x244002_1 : Int), v5 = .int .i64 x5_1 ∧ Aside0 (backseatref04_Change.l0 kq l1 x5_1 x243000_1 x243001_1 x243002_1 = some (r1, r2, r3)) ∧ Aside0 (kq ≤ k) ∧ Aside0 (w'.heap[gb242]? = some (.cells #[.int .i64 x243000_1, .int .i64 x243001_1, .int .i64 x243002_1] 23 (0, 0))) ∧ Aside0 (w'.heap[gb243]? = some (.cells #[.int .i64 x244000_1, .int .i64 x244001_1, .int .i64 x244002_1] 23 (0, 0))) ∧ Aside0 (Below w.heap.size w w'))
    case atStart => exact ⟨(0), (a0_0), (a0_1), (a0_2), (0), (0), (0), (by first | rfl | (simp; done) | (simp [*]; done)), H', ⟨Nat.le_refl _⟩, ⟨by (with_reducible repeat (first | refine blk_drewN ?_ _ | refine blk_drew ?_ | refine blk_alloc ?_ _)); exact BK242.out⟩, ⟨by (with_reducible repeat (first | refine blk_drewN ?_ _ | refine blk_drew ?_ | refine blk_alloc ?_ _)); exact BK243.out⟩, ⟨by repeat (first | (with_reducible first | exact HB.out | apply below_alloc | apply pw_below_drewN | apply below_drew1 | refine below_set ?_ GE242.out | refine below_set ?_ GE243.out) | exact HB.out)⟩⟩
    case round =>
      clear H'
      try clear c1
      try clear p2
      try clear c3
      try clear c3b0
      try clear c3b1
      try clear c3b2
      try clear c6
      try clear hcz7_0
      try clear hcz7_1
      try clear hcz7_2
      try clear hfz7_0
      try clear hfz7_1
      try clear hfz7_2
      obtain ⟨x5_1, x243000_1, x243001_1, x243002_1, x244000_1, x244001_1, x244002_1, rfl, HA, HK1, BK242, BK243, HB⟩ := hrel
      cases gk with
      | zero => exact absurd HA.out (by simp [backseatref04_Change.l0])
      | succ k1 =>
        have H := HA.out
        clear HA
        simp only [backseatref04_Change.l0] at H
        by_cases c10 : x5_1 < (l1.length : Int)
        · rw [if_pos c10] at H
          have c10b0 : decide (x5_1 < (l1.length : Int)) = true := decide_eq_true c10
          clear c10
          by_cases c11 : 0 ≤ x5_1
          · rw [if_pos c11] at H
            have c11b0 : decide (0 ≤ x5_1) = true := decide_eq_true c11
            clear c11
            have HC12 := Aside0.mk H
            clear H
            have p244 : 0 ≤ (x5_1 : Int) := of_decide_eq_true (by first | (with_reducible assumption) | assumption)
            have q244 : x5_1 < (l1.length : Int) := of_decide_eq_true (by first | (with_reducible assumption) | assumption)
            obtain ⟨ad244, e244, hx244_0⟩ := Kd.at_int HR1.out x5_1 p244 q244
            cases e244
            replace hx244_0 := (HB.out.cell (World.block_lt_of_cell? w _ hx244_0)).trans hx244_0
            replace p244 := eq_true p244
            replace q244 := eq_true q244
            go_upto_region 6 with (fail)
            go_cut [24] (fun v24 wc => ∃ (kq : Nat) (x24_11 : Bool), v24 = .bool x24_11 ∧ Aside0 (backseatref04_Change.j1 kq l1 x5_1 (rd l1 x5_1) x24_11 x243000_1 x243001_1 x243002_1 = some (r1, r2, r3)) ∧ Aside0 (kq ≤ k1) ∧ Aside0 (wc.heap[gb242]? = some (.cells #[.int .i64 x243000_1, .int .i64 x243001_1, .int .i64 x243002_1] 23 (0, 0))) ∧ Aside0 (wc.heap[gb243]? = some (.cells #[.int .i64 x244000_1, .int .i64 x244001_1, .int .i64 x244002_1] 23 (0, 0))) ∧ Aside0 (Below w.heap.size w wc))
            case first =>
              have H := HC12.out
              clear HC12
              by_cases c13 : (rd l1 x5_1) = 38
              · rw [if_pos c13] at H
                have c13b0 : ((rd l1 x5_1) == 38) = true := beq_iff_eq.mpr c13
                have c13b1 : ((rd l1 x5_1) != 38) = false := bne_eq_false_iff_eq.mpr c13
                clear c13
                (first | rw [c13b0] | (simp only [i64_w, i32_w]; rw [c13b0]) | skip)
                have H' := Aside0.mk H
                clear H
                go_wp2
                go_meet
                case rel => exact ⟨_, (false), (by first | rfl | (simp; done) | (simp [*]; done)), H', ⟨by have := HK1.out; first | omega | exact Nat.le_refl _⟩, ⟨by (with_reducible repeat (first | refine blk_drewN ?_ _ | refine blk_drew ?_ | refine blk_alloc ?_ _)); exact BK242.out⟩, ⟨by (with_reducible repeat (first | refine blk_drewN ?_ _ | refine blk_drew ?_ | refine blk_alloc ?_ _)); exact BK243.out⟩, ⟨by repeat (first | (with_reducible first | exact HB.out | apply below_alloc | apply pw_below_drewN | apply below_drew1 | refine below_set ?_ GE242.out | refine below_set ?_ GE243.out) | exact HB.out)⟩⟩
              · rw [if_neg c13] at H
                have c13b0 : ((rd l1 x5_1) == 38) = false := beq_eq_false_iff_ne.mpr c13
                have c13b1 : ((rd l1 x5_1) != 38) = true := bne_iff_ne.mpr c13
                (first | rw [c13b0] | (simp only [i64_w, i32_w]; rw [c13b0]) | skip)
                have H' := Aside0.mk H
                clear H
                go_wp2
                go_meet
                case rel => exact ⟨_, (((rd l1 x5_1) != 48)), (by first | rfl | (simp; done) | (simp [*]; done)), H', ⟨by have := HK1.out; first | omega | exact Nat.le_refl _⟩, ⟨by (with_reducible repeat (first | refine blk_drewN ?_ _ | refine blk_drew ?_ | refine blk_alloc ?_ _)); exact BK242.out⟩, ⟨by (with_reducible repeat (first | refine blk_drewN ?_ _ | refine blk_drew ?_ | refine blk_alloc ?_ _)); exact BK243.out⟩, ⟨by repeat (first | (with_reducible first | exact HB.out | apply below_alloc | apply pw_below_drewN | apply below_drew1 | refine below_set ?_ GE242.out | refine below_set ?_ GE243.out) | exact HB.out)⟩⟩
            case rest =>
              clear HC12
              try clear c1
              try clear p2
              try clear q2
              try clear hx2
              try clear c3
              try clear c3b0
              try clear c3b1
              try clear c3b2
              try clear c6
              try clear c10
              try clear c10b0
              try clear c11
              try clear c11b0
              try clear c13
              try clear c13b0
              try clear c13b1
              try clear hcz7_0
              try clear hcz7_1
              try clear hcz7_2
              try clear hfz7_0
              try clear hfz7_1
              try clear hfz7_2
              try clear hx244_0
              try clear p2
              try clear p244
              try clear q244
              obtain ⟨kq, x24_11, rfl, HA, HJ11, BK242, BK243, HB⟩ := hcut
              cases kq with
              | zero => exact absurd HA.out (by simp [backseatref04_Change.j1])
              | succ kj11 =>
                have H := HA.out
                clear HA
                simp only [backseatref04_Change.j1] at H
                by_cases c14 : x24_11 = true
                · subst c14
                  have H1 : ((backseatref04_one.f kj11 x243000_1 x243001_1 x243002_1 (rd l1 x5_1)).bind fun bt245 => (backseatref04_Change.l0 kj11 l1 (wrap64 (x5_1 + 1)) bt245.1 bt245.2.1 bt245.2.2)) = some (r1, r2, r3) := by rw [if_pos rfl] at H; exact H
                  clear H
                  have H := H1
                  clear H1
                  replace H := Option.bind_eq_some_iff.mp H
                  obtain ⟨⟨t245, t246, t247⟩, A150, H⟩ := H
                  replace H : (backseatref04_Change.l0 kj11 l1 (wrap64 (x5_1 + 1)) t245 t246 t247) = some (r1, r2, r3) := H
                  have A15 := Aside0.mk A150
                  clear A150
                  have H' := Aside0.mk H
                  clear H
                  have hnb16 := NB242_243.out
                  have hnc16 := NB243_242.out
                  have hcz17_0 : wc.cell? ⟨gb242, 0, none⟩ = some (.int .i64 x243000_1) := (blk_cell BK242.out 0).trans rfl
                  have hcz17_1 : wc.cell? ⟨gb242, 1, none⟩ = some (.int .i64 x243001_1) := (blk_cell BK242.out 1).trans rfl
                  have hcz17_2 : wc.cell? ⟨gb242, 2, none⟩ = some (.int .i64 x243002_1) := (blk_cell BK242.out 2).trans rfl
                  have hfz17_0 := blk_frozen BK242.out 0
                  have hfz17_1 := blk_frozen BK242.out 1
                  have hfz17_2 := blk_frozen BK242.out 2
                  go_wp2_with (first | ((with_reducible refine gate_callee (f := 16) rfl ?_); refine goesL_ (some 27) rfl rfl Try.func16 (by kernel_rfl) rfl #[.agg #[.int .i64 x243000_1, .int .i64 x243001_1, .int .i64 x243002_1], .int .i64 (rd l1 x5_1)] rfl (by (try simp only [List.map_toArray, List.map_cons, List.map_nil]); first | done | rfl | (simp only [List.length_drop, List.length_take]; rfl)) ?_; (with_reducible refine (backseatref04_one.calls kj11 x243000_1 x243001_1 x243002_1 (rd l1 x5_1) t245 t246 t247 _ A15.out).mono ?_); rintro e w18 ⟨rfl, hb⟩; refine ⟨_, rfl, ?_⟩; have n0_ := Aside0.mk (blk_below (g := gb242) (o := .cells #[.int .i64 x243000_1, .int .i64 x243001_1, .int .i64 x243002_1] 23 (0, 0)) (by (with_reducible repeat (first | refine blk_drewN ?_ _ | refine blk_drew ?_ | refine blk_alloc ?_ _)); exact BK242.out) hb); have n1_ := Aside0.mk (blk_below (g := gb243) (o := .cells #[.int .i64 x244000_1, .int .i64 x244001_1, .int .i64 x244002_1] 23 (0, 0)) (by (with_reducible repeat (first | refine blk_drewN ?_ _ | refine blk_drew ?_ | refine blk_alloc ?_ _)); exact BK243.out) hb); have n2_ := Aside0.mk (below_step (by repeat (first | (with_reducible first | exact HB.out | apply below_alloc | apply pw_below_drewN | apply below_drew1 | refine below_set ?_ GE242.out | refine below_set ?_ GE243.out) | exact HB.out)) hb); clear BK242; clear BK243; clear HB; have BK242 := n0_; have BK243 := n1_; have HB := n2_; clear n0_ n1_ n2_; (try clear hb); (try clear hb2); (try clear hk); (try clear hi); have hcz19_0 : w18.cell? ⟨gb242, 0, none⟩ = some (.int .i64 x243000_1) := (blk_cell BK242.out 0).trans rfl; have hcz19_1 : w18.cell? ⟨gb242, 1, none⟩ = some (.int .i64 x243001_1) := (blk_cell BK242.out 1).trans rfl; have hcz19_2 : w18.cell? ⟨gb242, 2, none⟩ = some (.int .i64 x243002_1) := (blk_cell BK242.out 2).trans rfl; have hfz19_0 := blk_frozen BK242.out 0; have hfz19_1 := blk_frozen BK242.out 1; have hfz19_2 := blk_frozen BK242.out 2))
                  go_roundg kj11
                  case measure => have := HK1.out; have := HJ11.out; omega
                  case rel => exact ⟨(wrap64 (x5_1 + 1)), (t245), (t246), (t247), (x244000_1), (x244001_1), (x244002_1), (by first | rfl | (simp; done) | (simp [*]; done)), H', ⟨by have := HK1.out; have := HJ11.out; omega⟩, ⟨by (with_reducible repeat (first | refine blk_drewN ?_ _ | refine blk_drew ?_ | refine blk_alloc ?_ _)); refine blk_put (cs := #[.int .i64 t245, .int .i64 t246, .int .i64 x243002_1]) ?_ 2 _ rfl; (with_reducible repeat (first | refine blk_drewN ?_ _ | refine blk_drew ?_ | refine blk_alloc ?_ _)); refine blk_put (cs := #[.int .i64 t245, .int .i64 x243001_1, .int .i64 x243002_1]) ?_ 1 _ rfl; (with_reducible repeat (first | refine blk_drewN ?_ _ | refine blk_drew ?_ | refine blk_alloc ?_ _)); refine blk_put (cs := #[.int .i64 x243000_1, .int .i64 x243001_1, .int .i64 x243002_1]) ?_ 0 _ rfl; (with_reducible repeat (first | refine blk_drewN ?_ _ | refine blk_drew ?_ | refine blk_alloc ?_ _)); exact BK242.out⟩, ⟨by (with_reducible repeat (first | refine blk_drewN ?_ _ | refine blk_drew ?_ | refine blk_alloc ?_ _)); refine blk_far ?_ NB243_242.out _; (with_reducible repeat (first | refine blk_drewN ?_ _ | refine blk_drew ?_ | refine blk_alloc ?_ _)); refine blk_far ?_ NB243_242.out _; (with_reducible repeat (first | refine blk_drewN ?_ _ | refine blk_drew ?_ | refine blk_alloc ?_ _)); refine blk_far ?_ NB243_242.out _; (with_reducible repeat (first | refine blk_drewN ?_ _ | refine blk_drew ?_ | refine blk_alloc ?_ _)); exact BK243.out⟩, ⟨by repeat (first | (with_reducible first | exact HB.out | apply below_alloc | apply pw_below_drewN | apply below_drew1 | refine below_set ?_ GE242.out | refine below_set ?_ GE243.out) | exact HB.out)⟩⟩
                · replace c14 := Bool.eq_false_iff.mpr c14
                  subst c14
                  have H1 : (if (wrap64 (x5_1 + 2)) ≥ (l1.length : Int) then (backseatref04_Change.j2 kj11 l1 x5_1 (rd l1 x5_1) true x243000_1 x243001_1 x243002_1) else (if 0 ≤ (wrap64 (x5_1 + 1)) then (if (wrap64 (x5_1 + 1)) < (l1.length : Int) then (if (rd l1 (wrap64 (x5_1 + 1))) = 5 then (if 0 ≤ (wrap64 (x5_1 + 2)) then (if (wrap64 (x5_1 + 2)) < (l1.length : Int) then ((backseatref04_in.f (rd l1 (wrap64 (x5_1 + 2))) 0 255).bind fun t250 => (backseatref04_Change.j2 kj11 l1 x5_1 (rd l1 x5_1) (!t250) x243000_1 x243001_1 x243002_1)) else (none)) else (none)) else (backseatref04_Change.j2 kj11 l1 x5_1 (rd l1 x5_1) true x243000_1 x243001_1 x243002_1)) else (none)) else (none))) = some (r1, r2, r3) := by rw [if_neg (show ¬ (false = true) by decide)] at H; exact H
                  clear H
                  have H := H1
                  clear H1
                  have HC20 := Aside0.mk H
                  clear H
                  go_upto_region 9 with (fail)
                  go_cut [51] (fun v51 wc => ∃ (kq : Nat) (x51_19 : Bool), v51 = .bool x51_19 ∧ Aside0 (backseatref04_Change.j2 kq l1 x5_1 (rd l1 x5_1) x51_19 x243000_1 x243001_1 x243002_1 = some (r1, r2, r3)) ∧ Aside0 (kq ≤ kj11) ∧ Aside0 (wc.heap[gb242]? = some (.cells #[.int .i64 x243000_1, .int .i64 x243001_1, .int .i64 x243002_1] 23 (0, 0))) ∧ Aside0 (wc.heap[gb243]? = some (.cells #[.int .i64 x244000_1, .int .i64 x244001_1, .int .i64 x244002_1] 23 (0, 0))) ∧ Aside0 (Below w.heap.size w wc))
                  case first =>
                    have H := HC20.out
                    clear HC20
                    by_cases c21 : (wrap64 (x5_1 + 2)) ≥ (l1.length : Int)
                    · rw [if_pos c21] at H
                      have c21b0 : decide ((l1.length : Int) ≤ (wrap64 (x5_1 + 2))) = true := decide_eq_true c21
                      clear c21
                      (first | rw [c21b0] | (simp only [i64_w, i32_w]; rw [c21b0]) | skip)
                      have H' := Aside0.mk H
                      clear H
                      go_wp2
                      go_meet
                      case rel => exact ⟨_, (true), (by first | rfl | (simp; done) | (simp [*]; done)), H', ⟨by have := HK1.out; have := HJ11.out; first | omega | exact Nat.le_refl _⟩, ⟨by (with_reducible repeat (first | refine blk_drewN ?_ _ | refine blk_drew ?_ | refine blk_alloc ?_ _)); exact BK242.out⟩, ⟨by (with_reducible repeat (first | refine blk_drewN ?_ _ | refine blk_drew ?_ | refine blk_alloc ?_ _)); exact BK243.out⟩, ⟨by repeat (first | (with_reducible first | exact HB.out | apply below_alloc | apply pw_below_drewN | apply below_drew1 | refine below_set ?_ GE242.out | refine below_set ?_ GE243.out) | exact HB.out)⟩⟩
                    · rw [if_neg c21] at H
                      have c21b0 : decide ((l1.length : Int) ≤ (wrap64 (x5_1 + 2))) = false := decide_eq_false c21
                      clear c21
                      (first | rw [c21b0] | (simp only [i64_w, i32_w]; rw [c21b0]) | skip)
                      obtain ⟨ji22, hji22⟩ : ∃ j_ : Int, (wrap64 (x5_1 + 1)) = j_ := ⟨_, rfl⟩
                      replace H : (if 0 ≤ (ji22) then (if (ji22) < (l1.length : Int) then (if (rd l1 (ji22)) = 5 then (if 0 ≤ (wrap64 (x5_1 + 2)) then (if (wrap64 (x5_1 + 2)) < (l1.length : Int) then ((backseatref04_in.f (rd l1 (wrap64 (x5_1 + 2))) 0 255).bind fun t250 => (backseatref04_Change.j2 kj11 l1 x5_1 (rd l1 x5_1) (!t250) x243000_1 x243001_1 x243002_1)) else (none)) else (none)) else (backseatref04_Change.j2 kj11 l1 x5_1 (rd l1 x5_1) true x243000_1 x243001_1 x243002_1)) else (none)) else (none)) = some (r1, r2, r3) := by first | (rw [hji22] at H; exact H) | (simp only [hji22] at H ⊢; exact H)
                      have hji22w : (IntKind.i64.wrap (x5_1 + 1)) = ji22 := (i64_w _).trans hji22
                      by_cases c23 : 0 ≤ (ji22)
                      · rw [if_pos c23] at H
                        have c23b0 : decide (0 ≤ (ji22)) = true := decide_eq_true c23
                        clear c23
                        by_cases c24 : (ji22) < (l1.length : Int)
                        · rw [if_pos c24] at H
                          have c24b0 : decide ((ji22) < (l1.length : Int)) = true := decide_eq_true c24
                          clear c24
                          by_cases c25 : (rd l1 (ji22)) = 5
                          · rw [if_pos c25] at H
                            have c25b0 : ((rd l1 (ji22)) == 5) = true := beq_iff_eq.mpr c25
                            have c25b1 : ((rd l1 (ji22)) != 5) = false := bne_eq_false_iff_eq.mpr c25
                            clear c25
                            obtain ⟨ji26, hji26⟩ : ∃ j_ : Int, (wrap64 (x5_1 + 2)) = j_ := ⟨_, rfl⟩
                            replace H : (if 0 ≤ (ji26) then (if (ji26) < (l1.length : Int) then ((backseatref04_in.f (rd l1 (ji26)) 0 255).bind fun t250 => (backseatref04_Change.j2 kj11 l1 x5_1 (rd l1 x5_1) (!t250) x243000_1 x243001_1 x243002_1)) else (none)) else (none)) = some (r1, r2, r3) := by first | (rw [hji26] at H; exact H) | (simp only [hji26] at H ⊢; exact H)
                            (try rw [hji26] at c21b0)
                            have hji26w : (IntKind.i64.wrap (x5_1 + 2)) = ji26 := (i64_w _).trans hji26
                            by_cases c27 : 0 ≤ (ji26)
                            · rw [if_pos c27] at H
                              have c27b0 : decide (0 ≤ (ji26)) = true := decide_eq_true c27
                              clear c27
                              by_cases c28 : (ji26) < (l1.length : Int)
                              · rw [if_pos c28] at H
                                have c28b0 : decide ((ji26) < (l1.length : Int)) = true := decide_eq_true c28
                                clear c28
                                replace H := Option.bind_eq_some_iff.mp H
                                obtain ⟨t250, A290, H⟩ := H
                                replace H : (backseatref04_Change.j2 kj11 l1 x5_1 (rd l1 x5_1) (!t250) x243000_1 x243001_1 x243002_1) = some (r1, r2, r3) := H
                                have A29 := Aside0.mk A290
                                clear A290
                                have H' := Aside0.mk H
                                clear H
                                have p248 : 0 ≤ ((ji22) : Int) := of_decide_eq_true (by first | (with_reducible assumption) | assumption)
                                have q248 : (ji22) < (l1.length : Int) := of_decide_eq_true (by first | (with_reducible assumption) | assumption)
                                obtain ⟨ad248, e248, hx248_0⟩ := Kd.at_int HR1.out (ji22) p248 q248
                                obtain rfl : ad244 = ad248 := (by injection e248)
                                replace hx248_0 := (HB.out.cell (World.block_lt_of_cell? w _ hx248_0)).trans hx248_0
                                replace p248 := eq_true p248
                                replace q248 := eq_true q248
                                have p249 : 0 ≤ ((ji26) : Int) := of_decide_eq_true (by first | (with_reducible assumption) | assumption)
                                have q249 : (ji26) < (l1.length : Int) := of_decide_eq_true (by first | (with_reducible assumption) | assumption)
                                obtain ⟨ad249, e249, hx249_0⟩ := Kd.at_int HR1.out (ji26) p249 q249
                                obtain rfl : ad244 = ad249 := (by injection e249)
                                replace hx249_0 := (HB.out.cell (World.block_lt_of_cell? w _ hx249_0)).trans hx249_0
                                replace p249 := eq_true p249
                                replace q249 := eq_true q249
                                go_wp2_with (first | (go_at_call 14; (with_reducible refine (backseatref04_in.calls (rd l1 (ji26)) 0 255 t250 _ A29.out).mono ?_); rintro e w' ⟨rfl, ⟨nd, rfl⟩⟩))
                                go_meet
                                case rel => exact ⟨_, (!t250), (by first | rfl | (simp; done) | (simp [*]; done)), H', ⟨by have := HK1.out; have := HJ11.out; first | omega | exact Nat.le_refl _⟩, ⟨by (with_reducible repeat (first | refine blk_drewN ?_ _ | refine blk_drew ?_ | refine blk_alloc ?_ _)); exact BK242.out⟩, ⟨by (with_reducible repeat (first | refine blk_drewN ?_ _ | refine blk_drew ?_ | refine blk_alloc ?_ _)); exact BK243.out⟩, ⟨by repeat (first | (with_reducible first | exact HB.out | apply below_alloc | apply pw_below_drewN | apply below_drew1 | refine below_set ?_ GE242.out | refine below_set ?_ GE243.out) | exact HB.out)⟩⟩
                              · rw [if_neg c28] at H
                                exact absurd H (by simp)
                            · rw [if_neg c27] at H
                              exact absurd H (by simp)
                          · rw [if_neg c25] at H
                            have c25b0 : ((rd l1 (ji22)) == 5) = false := beq_eq_false_iff_ne.mpr c25
                            have c25b1 : ((rd l1 (ji22)) != 5) = true := bne_iff_ne.mpr c25
                            have H' := Aside0.mk H
                            clear H
                            have p248 : 0 ≤ ((ji22) : Int) := of_decide_eq_true (by first | (with_reducible assumption) | assumption)
                            have q248 : (ji22) < (l1.length : Int) := of_decide_eq_true (by first | (with_reducible assumption) | assumption)
                            obtain ⟨ad248, e248, hx248_0⟩ := Kd.at_int HR1.out (ji22) p248 q248
                            obtain rfl : ad244 = ad248 := (by injection e248)
                            replace hx248_0 := (HB.out.cell (World.block_lt_of_cell? w _ hx248_0)).trans hx248_0
                            replace p248 := eq_true p248
                            replace q248 := eq_true q248
                            go_wp2
                            go_meet
                            case rel => exact ⟨_, (true), (by first | rfl | (simp; done) | (simp [*]; done)), H', ⟨by have := HK1.out; have := HJ11.out; first | omega | exact Nat.le_refl _⟩, ⟨by (with_reducible repeat (first | refine blk_drewN ?_ _ | refine blk_drew ?_ | refine blk_alloc ?_ _)); exact BK242.out⟩, ⟨by (with_reducible repeat (first | refine blk_drewN ?_ _ | refine blk_drew ?_ | refine blk_alloc ?_ _)); exact BK243.out⟩, ⟨by repeat (first | (with_reducible first | exact HB.out | apply below_alloc | apply pw_below_drewN | apply below_drew1 | refine below_set ?_ GE242.out | refine below_set ?_ GE243.out) | exact HB.out)⟩⟩
                        · rw [if_neg c24] at H
                          exact absurd H (by simp)
                      · rw [if_neg c23] at H
                        exact absurd H (by simp)
                  case rest =>
                    clear HC20
                    try clear c1
                    try clear c2
                    try clear p2
                    try clear q2
                    try clear hx2
                    try clear c3
                    try clear c3b0
                    try clear c3b1
                    try clear c3b2
                    try clear c6
                    try clear p6
                    try clear c10
                    try clear c10b0
                    try clear c11
                    try clear c11b0
                    try clear c13
                    try clear c13b0
                    try clear c13b1
                    try clear c14
                    try clear c16
                    try clear c21
                    try clear c21b0
                    try clear c23
                    try clear c23b0
                    try clear c24
                    try clear c24b0
                    try clear p24
                    try clear q24
                    try clear hx24
                    try clear c25
                    try clear c25b0
                    try clear c25b1
                    try clear c27
                    try clear c27b0
                    try clear c28
                    try clear c28b0
                    try clear hcz17_0
                    try clear hcz17_1
                    try clear hcz17_2
                    try clear hcz19_0
                    try clear hcz19_1
                    try clear hcz19_2
                    try clear hcz7_0
                    try clear hcz7_1
                    try clear hcz7_2
                    try clear hfz17_0
                    try clear hfz17_1
                    try clear hfz17_2
                    try clear hfz19_0
                    try clear hfz19_1
                    try clear hfz19_2
                    try clear hfz7_0
                    try clear hfz7_1
                    try clear hfz7_2
                    try clear hx244_0
                    try clear hx248_0
                    try clear hx249_0
                    try clear p2
                    try clear p244
                    try clear p248
                    try clear p249
                    try clear q2
                    try clear q244
                    try clear q248
                    try clear q249
                    obtain ⟨kq, x51_19, rfl, HA, HJ19, BK242, BK243, HB⟩ := hcut
                    cases kq with
                    | zero => exact absurd HA.out (by simp [backseatref04_Change.j2])
                    | succ kj19 =>
                      have H := HA.out
                      clear HA
                      simp only [backseatref04_Change.j2] at H
                      by_cases c30 : x51_19 = true
                      · subst c30
                        have H1 : (some (x243000_1, x243001_1, x243002_1)) = some (r1, r2, r3) := by rw [if_pos rfl] at H; exact H
                        clear H
                        have H := H1
                        clear H1
                        simp only [Option.some.injEq, Prod.mk.injEq] at H
                        obtain ⟨rfl, rfl, rfl⟩ := H
                        have hnb31 := NB242_243.out
                        have hnc31 := NB243_242.out
                        have hcz32_0 : wc.cell? ⟨gb242, 0, none⟩ = some (.int .i64 x243000_1) := (blk_cell BK242.out 0).trans rfl
                        have hcz32_1 : wc.cell? ⟨gb242, 1, none⟩ = some (.int .i64 x243001_1) := (blk_cell BK242.out 1).trans rfl
                        have hcz32_2 : wc.cell? ⟨gb242, 2, none⟩ = some (.int .i64 x243002_1) := (blk_cell BK242.out 2).trans rfl
                        have hfz32_0 := blk_frozen BK242.out 0
                        have hfz32_1 := blk_frozen BK242.out 1
                        have hfz32_2 := blk_frozen BK242.out 2
                        have hcz33_0 : wc.cell? ⟨gb243, 0, none⟩ = some (.int .i64 x244000_1) := (blk_cell BK243.out 0).trans rfl
                        have hcz33_1 : wc.cell? ⟨gb243, 1, none⟩ = some (.int .i64 x244001_1) := (blk_cell BK243.out 1).trans rfl
                        have hcz33_2 : wc.cell? ⟨gb243, 2, none⟩ = some (.int .i64 x244002_1) := (blk_cell BK243.out 2).trans rfl
                        have hfz33_0 := blk_frozen BK243.out 0
                        have hfz33_1 := blk_frozen BK243.out 1
                        have hfz33_2 := blk_frozen BK243.out 2
                        go_wp2
                        refine bodyPost_ret (results_cell_row rfl _ _ gb243 23 #[.int .i64 x243000_1, .int .i64 x243001_1, .int .i64 x243002_1] (0, 0) _ rfl (by (with_reducible repeat (first | refine blk_drewN ?_ _ | refine blk_drew ?_ | refine blk_alloc ?_ _)); refine blk_put (cs := #[.int .i64 x243000_1, .int .i64 x243001_1, .int .i64 x244002_1]) ?_ 2 _ rfl; (with_reducible repeat (first | refine blk_drewN ?_ _ | refine blk_drew ?_ | refine blk_alloc ?_ _)); refine blk_put (cs := #[.int .i64 x243000_1, .int .i64 x244001_1, .int .i64 x244002_1]) ?_ 1 _ rfl; (with_reducible repeat (first | refine blk_drewN ?_ _ | refine blk_drew ?_ | refine blk_alloc ?_ _)); refine blk_put (cs := #[.int .i64 x244000_1, .int .i64 x244001_1, .int .i64 x244002_1]) ?_ 0 _ rfl; (with_reducible repeat (first | refine blk_drewN ?_ _ | refine blk_drew ?_ | refine blk_alloc ?_ _)); exact BK243.out) Try.underlying23 rfl (by kernel_rfl)) rfl ?_
                        exact ⟨by first | rfl | (simp [errW_none, errW_some] <;> rfl) | (simp [*, errW_none, errW_some] <;> rfl), by repeat (first | (with_reducible first | exact HB.out | apply below_alloc | apply pw_below_drewN | apply below_drew1 | refine below_set ?_ GE242.out | refine below_set ?_ GE243.out) | exact HB.out)⟩
                      · replace c30 := Bool.eq_false_iff.mpr c30
                        subst c30
                        have H1 : (if (rd l1 x5_1) = 38 then (if 0 ≤ (wrap64 (x5_1 + 2)) then (if (wrap64 (x5_1 + 2)) < (l1.length : Int) then (backseatref04_Change.l0 kj19 l1 (wrap64 (x5_1 + 3)) (wrap64 ((rd l1 (wrap64 (x5_1 + 2))) + 1)) x243001_1 x243002_1) else (none)) else (none)) else (if 0 ≤ (wrap64 (x5_1 + 2)) then (if (wrap64 (x5_1 + 2)) < (l1.length : Int) then (backseatref04_Change.l0 kj19 l1 (wrap64 (x5_1 + 3)) x243000_1 (wrap64 ((rd l1 (wrap64 (x5_1 + 2))) + 1)) x243002_1) else (none)) else (none))) = some (r1, r2, r3) := by rw [if_neg (show ¬ (false = true) by decide)] at H; exact H
                        clear H
                        have H := H1
                        clear H1
                        by_cases c34 : (rd l1 x5_1) = 38
                        · rw [if_pos c34] at H
                          have c34b0 : ((rd l1 x5_1) == 38) = true := beq_iff_eq.mpr c34
                          have c34b1 : ((rd l1 x5_1) != 38) = false := bne_eq_false_iff_eq.mpr c34
                          clear c34
                          obtain ⟨ji35, hji35⟩ : ∃ j_ : Int, (wrap64 (x5_1 + 2)) = j_ := ⟨_, rfl⟩
                          replace H : (if 0 ≤ (ji35) then (if (ji35) < (l1.length : Int) then (backseatref04_Change.l0 kj19 l1 (wrap64 (x5_1 + 3)) (wrap64 ((rd l1 (ji35)) + 1)) x243001_1 x243002_1) else (none)) else (none)) = some (r1, r2, r3) := by first | (rw [hji35] at H; exact H) | (simp only [hji35] at H ⊢; exact H)
                          have hji35w : (IntKind.i64.wrap (x5_1 + 2)) = ji35 := (i64_w _).trans hji35
                          by_cases c36 : 0 ≤ (ji35)
                          · rw [if_pos c36] at H
                            have c36b0 : decide (0 ≤ (ji35)) = true := decide_eq_true c36
                            clear c36
                            by_cases c37 : (ji35) < (l1.length : Int)
                            · rw [if_pos c37] at H
                              have c37b0 : decide ((ji35) < (l1.length : Int)) = true := decide_eq_true c37
                              clear c37
                              have H' := Aside0.mk H
                              clear H
                              have p251 : 0 ≤ ((ji35) : Int) := of_decide_eq_true (by first | (with_reducible assumption) | assumption)
                              have q251 : (ji35) < (l1.length : Int) := of_decide_eq_true (by first | (with_reducible assumption) | assumption)
                              obtain ⟨ad251, e251, hx251_0⟩ := Kd.at_int HR1.out (ji35) p251 q251
                              obtain rfl : ad244 = ad251 := (by injection e251)
                              replace hx251_0 := (HB.out.cell (World.block_lt_of_cell? w _ hx251_0)).trans hx251_0
                              replace p251 := eq_true p251
                              replace q251 := eq_true q251
                              have hnb38 := NB242_243.out
                              have hnc38 := NB243_242.out
                              have hcz39_0 : wc.cell? ⟨gb242, 0, none⟩ = some (.int .i64 x243000_1) := (blk_cell BK242.out 0).trans rfl
                              have hcz39_1 : wc.cell? ⟨gb242, 1, none⟩ = some (.int .i64 x243001_1) := (blk_cell BK242.out 1).trans rfl
                              have hcz39_2 : wc.cell? ⟨gb242, 2, none⟩ = some (.int .i64 x243002_1) := (blk_cell BK242.out 2).trans rfl
                              have hfz39_0 := blk_frozen BK242.out 0
                              have hfz39_1 := blk_frozen BK242.out 1
                              have hfz39_2 := blk_frozen BK242.out 2
                              go_wp2
                              go_roundg kj19
                              case measure => have := HK1.out; have := HJ11.out; have := HJ19.out; omega
                              case rel => exact ⟨(wrap64 (x5_1 + 3)), (wrap64 ((rd l1 (ji35)) + 1)), (x243001_1), (x243002_1), (x244000_1), (x244001_1), (x244002_1), (by first | rfl | (simp; done) | (simp [*]; done)), H', ⟨by have := HK1.out; have := HJ11.out; have := HJ19.out; omega⟩, ⟨by (with_reducible repeat (first | refine blk_drewN ?_ _ | refine blk_drew ?_ | refine blk_alloc ?_ _)); refine blk_put (cs := #[.int .i64 x243000_1, .int .i64 x243001_1, .int .i64 x243002_1]) ?_ 0 _ rfl; (with_reducible repeat (first | refine blk_drewN ?_ _ | refine blk_drew ?_ | refine blk_alloc ?_ _)); exact BK242.out⟩, ⟨by (with_reducible repeat (first | refine blk_drewN ?_ _ | refine blk_drew ?_ | refine blk_alloc ?_ _)); refine blk_far ?_ NB243_242.out _; (with_reducible repeat (first | refine blk_drewN ?_ _ | refine blk_drew ?_ | refine blk_alloc ?_ _)); exact BK243.out⟩, ⟨by repeat (first | (with_reducible first | exact HB.out | apply below_alloc | apply pw_below_drewN | apply below_drew1 | refine below_set ?_ GE242.out | refine below_set ?_ GE243.out) | exact HB.out)⟩⟩
                            · rw [if_neg c37] at H
                              exact absurd H (by simp)
                          · rw [if_neg c36] at H
                            exact absurd H (by simp)
                        · rw [if_neg c34] at H
                          have c34b0 : ((rd l1 x5_1) == 38) = false := beq_eq_false_iff_ne.mpr c34
                          have c34b1 : ((rd l1 x5_1) != 38) = true := bne_iff_ne.mpr c34
                          obtain ⟨ji40, hji40⟩ : ∃ j_ : Int, (wrap64 (x5_1 + 2)) = j_ := ⟨_, rfl⟩
                          replace H : (if 0 ≤ (ji40) then (if (ji40) < (l1.length : Int) then (backseatref04_Change.l0 kj19 l1 (wrap64 (x5_1 + 3)) x243000_1 (wrap64 ((rd l1 (ji40)) + 1)) x243002_1) else (none)) else (none)) = some (r1, r2, r3) := by first | (rw [hji40] at H; exact H) | (simp only [hji40] at H ⊢; exact H)
                          have hji40w : (IntKind.i64.wrap (x5_1 + 2)) = ji40 := (i64_w _).trans hji40
                          by_cases c41 : 0 ≤ (ji40)
                          · rw [if_pos c41] at H
                            have c41b0 : decide (0 ≤ (ji40)) = true := decide_eq_true c41
                            clear c41
                            by_cases c42 : (ji40) < (l1.length : Int)
                            · rw [if_pos c42] at H
                              have c42b0 : decide ((ji40) < (l1.length : Int)) = true := decide_eq_true c42
                              clear c42
                              have H' := Aside0.mk H
                              clear H
                              have p252 : 0 ≤ ((ji40) : Int) := of_decide_eq_true (by first | (with_reducible assumption) | assumption)
                              have q252 : (ji40) < (l1.length : Int) := of_decide_eq_true (by first | (with_reducible assumption) | assumption)
                              obtain ⟨ad252, e252, hx252_0⟩ := Kd.at_int HR1.out (ji40) p252 q252
                              obtain rfl : ad244 = ad252 := (by injection e252)
                              replace hx252_0 := (HB.out.cell (World.block_lt_of_cell? w _ hx252_0)).trans hx252_0
                              replace p252 := eq_true p252
                              replace q252 := eq_true q252
                              have hnb43 := NB242_243.out
                              have hnc43 := NB243_242.out
                              have hcz44_0 : wc.cell? ⟨gb242, 0, none⟩ = some (.int .i64 x243000_1) := (blk_cell BK242.out 0).trans rfl
                              have hcz44_1 : wc.cell? ⟨gb242, 1, none⟩ = some (.int .i64 x243001_1) := (blk_cell BK242.out 1).trans rfl
                              have hcz44_2 : wc.cell? ⟨gb242, 2, none⟩ = some (.int .i64 x243002_1) := (blk_cell BK242.out 2).trans rfl
                              have hfz44_0 := blk_frozen BK242.out 0
                              have hfz44_1 := blk_frozen BK242.out 1
                              have hfz44_2 := blk_frozen BK242.out 2
                              go_wp2
                              go_roundg kj19
                              case measure => have := HK1.out; have := HJ11.out; have := HJ19.out; omega
                              case rel => exact ⟨(wrap64 (x5_1 + 3)), (x243000_1), (wrap64 ((rd l1 (ji40)) + 1)), (x243002_1), (x244000_1), (x244001_1), (x244002_1), (by first | rfl | (simp; done) | (simp [*]; done)), H', ⟨by have := HK1.out; have := HJ11.out; have := HJ19.out; omega⟩, ⟨by (with_reducible repeat (first | refine blk_drewN ?_ _ | refine blk_drew ?_ | refine blk_alloc ?_ _)); refine blk_put (cs := #[.int .i64 x243000_1, .int .i64 x243001_1, .int .i64 x243002_1]) ?_ 1 _ rfl; (with_reducible repeat (first | refine blk_drewN ?_ _ | refine blk_drew ?_ | refine blk_alloc ?_ _)); exact BK242.out⟩, ⟨by (with_reducible repeat (first | refine blk_drewN ?_ _ | refine blk_drew ?_ | refine blk_alloc ?_ _)); refine blk_far ?_ NB243_242.out _; (with_reducible repeat (first | refine blk_drewN ?_ _ | refine blk_drew ?_ | refine blk_alloc ?_ _)); exact BK243.out⟩, ⟨by repeat (first | (with_reducible first | exact HB.out | apply below_alloc | apply pw_below_drewN | apply below_drew1 | refine below_set ?_ GE242.out | refine below_set ?_ GE243.out) | exact HB.out)⟩⟩
                            · rw [if_neg c42] at H
                              exact absurd H (by simp)
                          · rw [if_neg c41] at H
                            exact absurd H (by simp)
          · rw [if_neg c11] at H
            exact absurd H (by simp)
        · rw [if_neg c10] at H
          have c10b0 : decide (x5_1 < (l1.length : Int)) = false := decide_eq_false c10
          clear c10
          simp only [Option.some.injEq, Prod.mk.injEq] at H
          obtain ⟨rfl, rfl, rfl⟩ := H
          have hnb45 := NB242_243.out
          have hnc45 := NB243_242.out
          have hcz46_0 : wr.cell? ⟨gb242, 0, none⟩ = some (.int .i64 x243000_1) := (blk_cell BK242.out 0).trans rfl
          have hcz46_1 : wr.cell? ⟨gb242, 1, none⟩ = some (.int .i64 x243001_1) := (blk_cell BK242.out 1).trans rfl
          have hcz46_2 : wr.cell? ⟨gb242, 2, none⟩ = some (.int .i64 x243002_1) := (blk_cell BK242.out 2).trans rfl
          have hfz46_0 := blk_frozen BK242.out 0
          have hfz46_1 := blk_frozen BK242.out 1
          have hfz46_2 := blk_frozen BK242.out 2
          have hcz47_0 : wr.cell? ⟨gb243, 0, none⟩ = some (.int .i64 x244000_1) := (blk_cell BK243.out 0).trans rfl
          have hcz47_1 : wr.cell? ⟨gb243, 1, none⟩ = some (.int .i64 x244001_1) := (blk_cell BK243.out 1).trans rfl
          have hcz47_2 : wr.cell? ⟨gb243, 2, none⟩ = some (.int .i64 x244002_1) := (blk_cell BK243.out 2).trans rfl
          have hfz47_0 := blk_frozen BK243.out 0
          have hfz47_1 := blk_frozen BK243.out 1
          have hfz47_2 := blk_frozen BK243.out 2
          go_wp2
          refine bodyPost_ret (results_cell_row rfl _ _ gb243 23 #[.int .i64 x243000_1, .int .i64 x243001_1, .int .i64 x243002_1] (0, 0) _ rfl (by (with_reducible repeat (first | refine blk_drewN ?_ _ | refine blk_drew ?_ | refine blk_alloc ?_ _)); refine blk_put (cs := #[.int .i64 x243000_1, .int .i64 x243001_1, .int .i64 x244002_1]) ?_ 2 _ rfl; (with_reducible repeat (first | refine blk_drewN ?_ _ | refine blk_drew ?_ | refine blk_alloc ?_ _)); refine blk_put (cs := #[.int .i64 x243000_1, .int .i64 x244001_1, .int .i64 x244002_1]) ?_ 1 _ rfl; (with_reducible repeat (first | refine blk_drewN ?_ _ | refine blk_drew ?_ | refine blk_alloc ?_ _)); refine blk_put (cs := #[.int .i64 x244000_1, .int .i64 x244001_1, .int .i64 x244002_1]) ?_ 0 _ rfl; (with_reducible repeat (first | refine blk_drewN ?_ _ | refine blk_drew ?_ | refine blk_alloc ?_ _)); exact BK243.out) Try.underlying23 rfl (by kernel_rfl)) rfl ?_
          exact ⟨by first | rfl | (simp [errW_none, errW_some] <;> rfl) | (simp [*, errW_none, errW_some] <;> rfl), by repeat (first | (with_reducible first | exact HB.out | apply below_alloc | apply pw_below_drewN | apply below_drew1 | refine below_set ?_ GE242.out | refine below_set ?_ GE243.out) | exact HB.out)⟩

end Go.Proofs.Ythipdgnbpdngpaa.P
