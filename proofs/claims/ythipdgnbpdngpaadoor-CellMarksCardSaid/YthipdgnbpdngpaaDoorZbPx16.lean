-- A copy of the text YthipdgnbpdngpaaDoorPx16 with what this claim does not reach left out (prune.py, a program of this project).
import Derived.Test.YthipdgnbpdngpaaDoorZbPx0
import Derived.Test.YthipdgnbpdngpaaDoorZbPx9
import Derived.Test.YthipdgnbpdngpaaDoorZbPx15
namespace Go.Proofs.YthipdgnbpdngpaaDoor.P
open Go.RowKit Go.Proofs.YthipdgnbpdngpaaDoor Go.Proofs.YthipdgnbpdngpaaDoorW.PrintWords Go.Proofs.YthipdgnbpdngpaaDoorW.PrintLast Go.Proofs.YthipdgnbpdngpaaDoorW.PrintMore
attribute [local go_sem] max2_int min2_int max_two min_two max_three min_three max_four min_four   -- for this text's walks alone
set_option linter.unusedVariables false
set_option linter.unusedSimpArgs false
mutual
def cell_Change.j0 : Nat → List Int → Int → Int → Int → Option (Int × Int × Int × Int)
  | 0, _, _, _, _ => none
  | k + 1, x1, x277000, x277001, x277002 => cell_Change.l0 k x1 x277000 x277001 x277002
def cell_Change.l0 : Nat → List Int → Int → Int → Int → Option (Int × Int × Int × Int)
  | 0, _, _, _, _ => none
  | k + 1, x1, x277000, x277001, x277002 => if (x1.length : Int) > 0 then (if 0 < (x1.length : Int) then (if 1 ≤ (x1.length : Int) then ((some (x1.drop 1 : List Int)).bind fun y283 => (if (rd x1 0) = 38 then (cell_Change.j2 k y283 (rd x1 0) false x277000 x277001 x277002) else (cell_Change.j2 k y283 (rd x1 0) ((rd x1 0) != 48) x277000 x277001 x277002))) else (none)) else (none)) else (some (x277000, x277001, x277002, 0))
def cell_Change.j2 : Nat → List Int → Int → Bool → Int → Int → Int → Option (Int × Int × Int × Int)
  | 0, _, _, _, _, _, _ => none
  | k + 1, x1, x6, x28, x277000, x277001, x277002 => if x28 = true then ((cell_one.f k x277000 x277001 x277002 x6).bind fun bt288 => (cell_Change.l0 k x1 bt288.1 bt288.2.1 bt288.2.2)) else (if (x1.length : Int) < 2 then (cell_Change.j3 k x1 x6 true x277000 x277001 x277002) else (if 0 < (x1.length : Int) then (if (rd x1 0) = 5 then (if 1 < (x1.length : Int) then ((cell_in.f (rd x1 1) 0 255).bind fun t293 => (cell_Change.j3 k x1 x6 (!t293) x277000 x277001 x277002)) else (none)) else (cell_Change.j3 k x1 x6 true x277000 x277001 x277002)) else (none)))
def cell_Change.j3 : Nat → List Int → Int → Bool → Int → Int → Int → Option (Int × Int × Int × Int)
  | 0, _, _, _, _, _, _ => none
  | k + 1, x1, x6, x47, x277000, x277001, x277002 => if x47 = true then (some (x277000, x277001, x277002, 0)) else (if x6 = 38 then (if 1 < (x1.length : Int) then (if 2 ≤ (x1.length : Int) then (cell_Change.l0 k (x1.drop 2) (wrap64 ((rd x1 1) + 1)) x277001 x277002) else (none)) else (none)) else (if 1 < (x1.length : Int) then (if 2 ≤ (x1.length : Int) then (cell_Change.l0 k (x1.drop 2) x277000 (wrap64 ((rd x1 1) + 1)) x277002) else (none)) else (none)))
end
def cell_Change.f (k : Nat) (a0_0 : Int) (a0_1 : Int) (a0_2 : Int) (l1 : List Int) : Option (Int × Int × Int × Int) := (cell_Look.f a0_0 a0_1 a0_2).bind fun t278 => (if t278 = true then (if (l1.length : Int) = 0 then (cell_Change.j0 k (([0] : List Int)) a0_0 a0_1 a0_2) else (cell_Change.j0 k l1 a0_0 a0_1 a0_2)) else (some (0, 0, 0, 1)))
theorem cell_Change.mono_l : ∀ k, (∀ y0 y1 y2 y3, LeO (cell_Change.j0 k y0 y1 y2 y3) (cell_Change.j0 (k + 1) y0 y1 y2 y3)) ∧ (∀ y0 y1 y2 y3, LeO (cell_Change.l0 k y0 y1 y2 y3) (cell_Change.l0 (k + 1) y0 y1 y2 y3)) ∧ (∀ y0 y1 y2 y3 y4 y5, LeO (cell_Change.j2 k y0 y1 y2 y3 y4 y5) (cell_Change.j2 (k + 1) y0 y1 y2 y3 y4 y5)) ∧ (∀ y0 y1 y2 y3 y4 y5, LeO (cell_Change.j3 k y0 y1 y2 y3 y4 y5) (cell_Change.j3 (k + 1) y0 y1 y2 y3 y4 y5))
  | 0 => ⟨fun _ _ _ _ r h => by simp [cell_Change.j0] at h, fun _ _ _ _ r h => by simp [cell_Change.l0] at h, fun _ _ _ _ _ _ r h => by simp [cell_Change.j2] at h, fun _ _ _ _ _ _ r h => by simp [cell_Change.j3] at h⟩
  | k + 1 => by
    obtain ⟨ih0, ih1, ih2, ih3⟩ := cell_Change.mono_l k
    refine ⟨?_, ?_, ?_, ?_⟩
    · intro y0 y1 y2 y3
      unfold cell_Change.j0
      repeat' first
      | (with_reducible exact ih0 _ _ _ _)
      | (with_reducible exact ih1 _ _ _ _)
      | (with_reducible exact ih2 _ _ _ _ _ _)
      | (with_reducible exact ih3 _ _ _ _ _ _)
      | (with_reducible exact cell_one.mono _ _ _ _ _)
      | (with_reducible exact LeO.refl _)
      | (with_reducible exact LeO.none _)
      | (with_reducible refine LeO.ite ?_ ?_)
      | (with_reducible refine LeO.bind ?_ (fun _ => ?_))
      | exact ih0 _ _ _ _
      | exact ih1 _ _ _ _
      | exact ih2 _ _ _ _ _ _
      | exact ih3 _ _ _ _ _ _
      | exact cell_one.mono _ _ _ _ _
      | exact LeO.none _
      | refine LeO.ite ?_ ?_
      | refine LeO.bind ?_ (fun _ => ?_)
    · intro y0 y1 y2 y3
      unfold cell_Change.l0
      repeat' first
      | (with_reducible exact ih0 _ _ _ _)
      | (with_reducible exact ih1 _ _ _ _)
      | (with_reducible exact ih2 _ _ _ _ _ _)
      | (with_reducible exact ih3 _ _ _ _ _ _)
      | (with_reducible exact cell_one.mono _ _ _ _ _)
      | (with_reducible exact LeO.refl _)
      | (with_reducible exact LeO.none _)
      | (with_reducible refine LeO.ite ?_ ?_)
      | (with_reducible refine LeO.bind ?_ (fun _ => ?_))
      | exact ih0 _ _ _ _
      | exact ih1 _ _ _ _
      | exact ih2 _ _ _ _ _ _
      | exact ih3 _ _ _ _ _ _
      | exact cell_one.mono _ _ _ _ _
      | exact LeO.none _
      | refine LeO.ite ?_ ?_
      | refine LeO.bind ?_ (fun _ => ?_)
    · intro y0 y1 y2 y3 y4 y5
      unfold cell_Change.j2
      repeat' first
      | (with_reducible exact ih0 _ _ _ _)
      | (with_reducible exact ih1 _ _ _ _)
      | (with_reducible exact ih2 _ _ _ _ _ _)
      | (with_reducible exact ih3 _ _ _ _ _ _)
      | (with_reducible exact cell_one.mono _ _ _ _ _)
      | (with_reducible exact LeO.refl _)
      | (with_reducible exact LeO.none _)
      | (with_reducible refine LeO.ite ?_ ?_)
      | (with_reducible refine LeO.bind ?_ (fun _ => ?_))
      | exact ih0 _ _ _ _
      | exact ih1 _ _ _ _
      | exact ih2 _ _ _ _ _ _
      | exact ih3 _ _ _ _ _ _
      | exact cell_one.mono _ _ _ _ _
      | exact LeO.none _
      | refine LeO.ite ?_ ?_
      | refine LeO.bind ?_ (fun _ => ?_)
    · intro y0 y1 y2 y3 y4 y5
      unfold cell_Change.j3
      repeat' first
      | (with_reducible exact ih0 _ _ _ _)
      | (with_reducible exact ih1 _ _ _ _)
      | (with_reducible exact ih2 _ _ _ _ _ _)
      | (with_reducible exact ih3 _ _ _ _ _ _)
      | (with_reducible exact cell_one.mono _ _ _ _ _)
      | (with_reducible exact LeO.refl _)
      | (with_reducible exact LeO.none _)
      | (with_reducible refine LeO.ite ?_ ?_)
      | (with_reducible refine LeO.bind ?_ (fun _ => ?_))
      | exact ih0 _ _ _ _
      | exact ih1 _ _ _ _
      | exact ih2 _ _ _ _ _ _
      | exact ih3 _ _ _ _ _ _
      | exact cell_one.mono _ _ _ _ _
      | exact LeO.none _
      | refine LeO.ite ?_ ?_
      | refine LeO.bind ?_ (fun _ => ?_)
theorem cell_Change.mono : ∀ a0 a1 a2 a3 k, LeO (cell_Change.f k a0 a1 a2 a3) (cell_Change.f (k + 1) a0 a1 a2 a3) := by
  intro a0 a1 a2 a3 k
  obtain ⟨ih0, ih1, ih2, ih3⟩ := cell_Change.mono_l k
  unfold cell_Change.f
  repeat' first
      | (with_reducible exact ih0 _ _ _ _)
      | (with_reducible exact ih1 _ _ _ _)
      | (with_reducible exact ih2 _ _ _ _ _ _)
      | (with_reducible exact ih3 _ _ _ _ _ _)
      | (with_reducible exact cell_one.mono _ _ _ _ _)
      | (with_reducible exact LeO.refl _)
      | (with_reducible exact LeO.none _)
      | (with_reducible refine LeO.ite ?_ ?_)
      | (with_reducible refine LeO.bind ?_ (fun _ => ?_))
      | exact ih0 _ _ _ _
      | exact ih1 _ _ _ _
      | exact ih2 _ _ _ _ _ _
      | exact ih3 _ _ _ _ _ _
      | exact cell_one.mono _ _ _ _ _
      | exact LeO.none _
      | refine LeO.ite ?_ ?_
      | refine LeO.bind ?_ (fun _ => ?_)
set_option maxHeartbeats 8000000 in
set_option maxRecDepth 100000 in
theorem cell_Change.calls (k : Nat) (a0_0 : Int) (a0_1 : Int) (a0_2 : Int) (P1_ : Nat → Prop) (A1 : Option Addr) (c1 : Nat) (l1 : List Int) (r1 : Int) (r2 : Int) (r3 : Int) (r4 : Int) (w : World) (hs1 : Kd.V (Kd.int .i64) 3 w w.heap.size (fun k_ => P1_ k_) (.slice A1 l1.length c1) l1) (h : cell_Change.f k a0_0 a0_1 a0_2 l1 = some (r1, r2, r3, r4)) :
    Calls Tryd.prog 55 #[.agg #[.int .i64 a0_0, .int .i64 a0_1, .int .i64 a0_2], .slice A1 l1.length c1] w fun e w' => e = .returned (.tuple #[.agg #[.int .i64 r1, .int .i64 r2, .int .i64 r3], .int .i64 r4]) ∧ Below w.heap.size w w' := by
  have hu38 := Tryd.underlying38
  have HO1 := Aside0.mk (show Kd.V (Kd.int .i64) 3 w w.heap.size (fun k_ => (P1_ k_ ∨ w.heap.size ≤ k_)) (.slice A1 l1.length c1) l1 from Kd.V_mono hs1 (fun k_ hk => .inl hk))
  have HB := Aside0.mk (Below.refl w.heap.size w)
  have H : ((cell_Look.f a0_0 a0_1 a0_2).bind fun t278 => (if t278 = true then (if (l1.length : Int) = 0 then (cell_Change.j0 k (([0] : List Int)) a0_0 a0_1 a0_2) else (cell_Change.j0 k l1 a0_0 a0_1 a0_2)) else (some (0, 0, 0, 1)))) = some (r1, r2, r3, r4) := h
  clear h
  replace H := Option.bind_eq_some_iff.mp H
  obtain ⟨t278, A30, H⟩ := H
  replace H : (if t278 = true then (if (l1.length : Int) = 0 then (cell_Change.j0 k (([0] : List Int)) a0_0 a0_1 a0_2) else (cell_Change.j0 k l1 a0_0 a0_1 a0_2)) else (some (0, 0, 0, 1))) = some (r1, r2, r3, r4) := H
  have A3 := Aside0.mk A30
  clear A30
  by_cases c4 : t278 = true
  · subst c4
    have H1 : (if (l1.length : Int) = 0 then (cell_Change.j0 k (([0] : List Int)) a0_0 a0_1 a0_2) else (cell_Change.j0 k l1 a0_0 a0_1 a0_2)) = some (r1, r2, r3, r4) := by rw [if_pos rfl] at H; exact H
    clear H
    have H := H1
    clear H1
    have HC5 := Aside0.mk H
    clear H
    go_enter Tryd.func55, Tryd.ntmps55
    go_upto_if 13 with (first | ((with_reducible refine gate_dst (N := 2) rfl ?_); refine box_event ?hg (N := 2) ?hd (cs := #[.int .i64 a0_0, .int .i64 a0_1, .int .i64 a0_2]) (t := 38) ?hr ?_; (case hd => rfl); (case hg => rfl); (case hr => first | (go_simp; done) | (go_simp; rfl)); intro gb276 hg w6 hbox hb; have n0_ := Aside0.mk (Kd.V_below (Kd.V_elderB (by (with_reducible repeat (first | apply Kd.V_alloc | apply Kd.V_drewN | apply Kd.V_drew)); exact HO1.out) gb276 (Nat.le_of_eq hg.symm)) hb); have n1_ := Aside0.mk (below_step (by repeat (first | (with_reducible first | exact HB.out | apply below_alloc | apply pw_below_drewN | apply below_drew1) | exact HB.out)) hb); have n2_ := Aside0.mk (hbox); have n3_ := Aside0.mk ((by rw [hg]; exact (below_size (by repeat (first | (with_reducible first | exact HB.out | apply below_alloc | apply pw_below_drewN | apply below_drew1) | exact HB.out))) : w.heap.size ≤ gb276)); have n4_ := Aside0.mk ((by rw [hg]; exact (below_size (by repeat (first | (with_reducible first | exact HB.out | apply below_alloc | apply pw_below_drewN | apply below_drew1) | exact HB.out))) : w.heap.size ≤ gb276)); clear HO1; clear HB; have HO1 := n0_; have HB := n1_; have BK276 := n2_; have GW276 := n3_; have GE276 := n4_; clear n0_ n1_ n2_ n3_ n4_; clear hb hbox hg) | ((with_reducible refine gate_dst (N := 4) rfl ?_); refine box_event ?hg (N := 4) ?hd (cs := #[.int .i64 0, .int .i64 0, .int .i64 0]) (t := 38) ?hr ?_; (case hd => rfl); (case hg => rfl); (case hr => first | (go_simp; done) | (go_simp; rfl)); intro gb277 hg w7 hbox hb; have n0_ := Aside0.mk (Kd.V_below (Kd.V_elderB (by (with_reducible repeat (first | apply Kd.V_alloc | apply Kd.V_drewN | apply Kd.V_drew)); exact HO1.out) gb277 (Nat.le_of_eq hg.symm)) hb); have n1_ := Aside0.mk (blk_below (g := gb276) (o := .cells #[.int .i64 a0_0, .int .i64 a0_1, .int .i64 a0_2] 38 (0, 0)) (by (with_reducible repeat (first | refine blk_drewN ?_ _ | refine blk_drew ?_ | refine blk_alloc ?_ _)); exact BK276.out) hb); have n2_ := Aside0.mk (below_step (by repeat (first | (with_reducible first | exact HB.out | apply below_alloc | apply pw_below_drewN | apply below_drew1 | refine below_set ?_ GE276.out) | exact HB.out)) hb); have n3_ := Aside0.mk (hbox); have n4_ := Aside0.mk ((by rw [hg]; exact (below_size (by repeat (first | (with_reducible first | exact HB.out | apply below_alloc | apply pw_below_drewN | apply below_drew1 | refine below_set ?_ GE276.out) | exact HB.out))) : w.heap.size ≤ gb277)); have n5_ := Aside0.mk ((by rw [hg]; exact (below_size (by repeat (first | (with_reducible first | exact HB.out | apply below_alloc | apply pw_below_drewN | apply below_drew1 | refine below_set ?_ GE276.out) | exact HB.out))) : w.heap.size ≤ gb277)); have n6_ := Aside0.mk ((by rw [hg]; exact Nat.ne_of_lt (blk_lt (g := gb276) (o := .cells #[.int .i64 a0_0, .int .i64 a0_1, .int .i64 a0_2] 38 (0, 0)) (by (with_reducible repeat (first | refine blk_drewN ?_ _ | refine blk_drew ?_ | refine blk_alloc ?_ _)); exact BK276.out)) : gb276 ≠ gb277)); have n7_ := Aside0.mk ((by rw [hg]; exact Nat.ne_of_gt (blk_lt (g := gb276) (o := .cells #[.int .i64 a0_0, .int .i64 a0_1, .int .i64 a0_2] 38 (0, 0)) (by (with_reducible repeat (first | refine blk_drewN ?_ _ | refine blk_drew ?_ | refine blk_alloc ?_ _)); exact BK276.out)) : gb277 ≠ gb276)); clear HO1; clear BK276; clear HB; have HO1 := n0_; have BK276 := n1_; have HB := n2_; have BK277 := n3_; have GW277 := n4_; have GE277 := n5_; have NB276_277 := n6_; have NB277_276 := n7_; clear n0_ n1_ n2_ n3_ n4_ n5_ n6_ n7_; clear hb hbox hg; have hnb8 := NB276_277.out; have hnc8 := NB277_276.out; have hcz9_0 : w7.cell? ⟨gb276, 0, none⟩ = some (.int .i64 a0_0) := (blk_cell BK276.out 0).trans rfl; have hcz9_1 : w7.cell? ⟨gb276, 1, none⟩ = some (.int .i64 a0_1) := (blk_cell BK276.out 1).trans rfl; have hcz9_2 : w7.cell? ⟨gb276, 2, none⟩ = some (.int .i64 a0_2) := (blk_cell BK276.out 2).trans rfl; have hfz9_0 := blk_frozen BK276.out 0; have hfz9_1 := blk_frozen BK276.out 1; have hfz9_2 := blk_frozen BK276.out 2) | ((with_reducible refine gate_callee (f := 52) rfl ?_); refine goesL_ (some 8) rfl rfl Tryd.func52 (by kernel_rfl) rfl #[.agg #[.int .i64 a0_0, .int .i64 a0_1, .int .i64 a0_2]] rfl (by (try simp only [List.map_toArray, List.map_cons, List.map_nil]); first | done | rfl | (simp only [List.length_drop, List.length_take]; rfl)) ?_; (with_reducible refine (cell_Look.calls a0_0 a0_1 a0_2 true _ A3.out).mono ?_); rintro e w10 ⟨rfl, hb⟩; refine ⟨_, rfl, ?_⟩; have n0_ := Aside0.mk (Kd.V_below (by (with_reducible repeat (first | apply Kd.V_alloc | apply Kd.V_drewN | apply Kd.V_drew)); exact HO1.out) hb); have n1_ := Aside0.mk (blk_below (g := gb276) (o := .cells #[.int .i64 a0_0, .int .i64 a0_1, .int .i64 a0_2] 38 (0, 0)) (by (with_reducible repeat (first | refine blk_drewN ?_ _ | refine blk_drew ?_ | refine blk_alloc ?_ _)); exact BK276.out) hb); have n2_ := Aside0.mk (blk_below (g := gb277) (o := .cells #[.int .i64 0, .int .i64 0, .int .i64 0] 38 (0, 0)) (by (with_reducible repeat (first | refine blk_drewN ?_ _ | refine blk_drew ?_ | refine blk_alloc ?_ _)); exact BK277.out) hb); have n3_ := Aside0.mk (below_step (by repeat (first | (with_reducible first | exact HB.out | apply below_alloc | apply pw_below_drewN | apply below_drew1 | refine below_set ?_ GE276.out | refine below_set ?_ GE277.out) | exact HB.out)) hb); clear HO1; clear BK276; clear BK277; clear HB; have HO1 := n0_; have BK276 := n1_; have BK277 := n2_; have HB := n3_; clear n0_ n1_ n2_ n3_; (try clear hb); (try clear hb2); (try clear hk); (try clear hi)))
    (try simp only [Act.put, List.setIfInBounds_toArray, List.set_cons_zero, List.set_cons_succ])
    go_cut [1] (fun v1 wc => ∃ (kq : Nat) (x1_4 : List Int), Aside0 (cell_Change.j0 kq x1_4 a0_0 a0_1 a0_2 = some (r1, r2, r3, r4)) ∧ Aside0 (kq ≤ k) ∧ Aside0 (Kd.V (Kd.int .i64) 3 wc w.heap.size (fun k_ => (P1_ k_ ∨ w.heap.size ≤ k_) ∧ k_ ≠ gb276 ∧ k_ ≠ gb277) v1 x1_4) ∧ Aside0 (wc.heap[gb276]? = some (.cells #[.int .i64 a0_0, .int .i64 a0_1, .int .i64 a0_2] 38 (0, 0))) ∧ Aside0 (wc.heap[gb277]? = some (.cells #[.int .i64 0, .int .i64 0, .int .i64 0] 38 (0, 0))) ∧ Aside0 (Below w.heap.size w wc))
    case first =>
      have H := HC5.out
      clear HC5
      by_cases c11 : (l1.length : Int) = 0
      · rw [if_pos c11] at H
        have c11b0 : ((l1.length : Int) == 0) = true := beq_iff_eq.mpr c11
        have c11b1 : ((l1.length : Int) != 0) = false := bne_eq_false_iff_eq.mpr c11
        clear c11
        (first | rw [c11b0] | (simp only [i64_w, i32_w]; rw [c11b0]) | skip)
        obtain ⟨y279, hy279⟩ : ∃ y_ : List Int, y_ = (([0] : List Int)) := ⟨_, rfl⟩
        replace H : (cell_Change.j0 k y279 a0_0 a0_1 a0_2) = some (r1, r2, r3, r4) := by first | (rw [hy279]; with_reducible exact H) | (have H2_ := (Option.bind_some _ _).symm.trans H; rw [hy279]; with_reducible exact H2_) | (have H2_ := (Option.bind_some _ _).symm.trans H; with_reducible exact H2_) | with_reducible exact H | (rw [hy279]; exact H) | exact H
        have Ny279 := Aside0.mk hy279
        clear hy279
        have H' := Aside0.mk H
        clear H
        go_wp2_with (first | ((with_reducible refine gate_dst (N := 14) rfl ?_); refine Kd.R_lit (Kd.int .i64) _ 3 ?hg (N := 14) ?hd (xs := ([0] : List Int)) (inner := [.int .i64 0]) (ok := fun _ => True) (okp := fun _ => True) ?hr ?hp (fun _ hk => hk) trivial (Below.refl _ _) (Nat.le_refl _) (by simp) ?_; (case hd => rfl); (case hg => rfl); (case hr => first | (go_simp; done) | (go_simp; rfl)); (case hp => exact (Reps.one (show Kd.M (Kd.int .i64) _ _ _ 0 [.int .i64 0] from rfl) (Reps.none _ _))); intro v280 w12 ho13 hb hg_ hnew_; clear hg_ hnew_; (first | rw [← Ny279.out] at ho13 | (simp only [Int.reduceToNat] at ho13; rw [← Ny279.out] at ho13)); have n0_ := Aside0.mk (Kd.V_elder' (by (with_reducible repeat (first | apply Kd.V_alloc | apply Kd.V_drewN | apply Kd.V_drew)); exact HO1.out) (Kd.R_base ho13) hb); have n1_ := Aside0.mk (Kd.R_lower (Kd.R_newM (M := fun k_ => (w.heap.size ≤ k_)) ho13 (below_size (by repeat (first | (with_reducible first | exact HB.out | apply below_alloc | apply pw_below_drewN | apply below_drew1 | refine below_set ?_ GE276.out | refine below_set ?_ GE277.out) | exact HB.out))) (fun k_ h_ => h_)) (below_size (by repeat (first | (with_reducible first | exact HB.out | apply below_alloc | apply pw_below_drewN | apply below_drew1 | refine below_set ?_ GE276.out | refine below_set ?_ GE277.out) | exact HB.out)))); have n2_ := Aside0.mk (blk_below (g := gb276) (o := .cells #[.int .i64 a0_0, .int .i64 a0_1, .int .i64 a0_2] 38 (0, 0)) (by (with_reducible repeat (first | refine blk_drewN ?_ _ | refine blk_drew ?_ | refine blk_alloc ?_ _)); exact BK276.out) hb); have n3_ := Aside0.mk (blk_below (g := gb277) (o := .cells #[.int .i64 0, .int .i64 0, .int .i64 0] 38 (0, 0)) (by (with_reducible repeat (first | refine blk_drewN ?_ _ | refine blk_drew ?_ | refine blk_alloc ?_ _)); exact BK277.out) hb); have n4_ := Aside0.mk (below_step (by repeat (first | (with_reducible first | exact HB.out | apply below_alloc | apply pw_below_drewN | apply below_drew1 | refine below_set ?_ GE276.out | refine below_set ?_ GE277.out) | exact HB.out)) hb); clear HO1; clear BK276; clear BK277; clear HB; have HO1 := n0_; have HO281 := n1_; have BK276 := n2_; have BK277 := n3_; have HB := n4_; clear n0_ n1_ n2_ n3_ n4_; clear hb ho13))
        go_meet
        case rel => exact ⟨_, (y279), H', ⟨by first | omega | exact Nat.le_refl _⟩, ⟨Kd.V_mono (Kd.R_V (Kd.R_types (Kd.R_types HO281.out BK276.out (by decide)) BK277.out (by decide))) (fun k_ hk => ⟨.inr (by first | exact hk.1.1.1 | exact hk.1.1.2 | exact hk.1.1), hk.1.2, hk.2⟩)⟩, ⟨by (with_reducible repeat (first | refine blk_drewN ?_ _ | refine blk_drew ?_ | refine blk_alloc ?_ _)); exact BK276.out⟩, ⟨by (with_reducible repeat (first | refine blk_drewN ?_ _ | refine blk_drew ?_ | refine blk_alloc ?_ _)); exact BK277.out⟩, ⟨by repeat (first | (with_reducible first | exact HB.out | apply below_alloc | apply pw_below_drewN | apply below_drew1 | refine below_set ?_ GE276.out | refine below_set ?_ GE277.out) | exact HB.out)⟩⟩
      · rw [if_neg c11] at H
        have c11b0 : ((l1.length : Int) == 0) = false := beq_eq_false_iff_ne.mpr c11
        have c11b1 : ((l1.length : Int) != 0) = true := bne_iff_ne.mpr c11
        have c11b2 : ¬ (l1 = []) := fun h_ => c11 (by rw [h_]; rfl)
        (first | rw [c11b0] | (simp only [i64_w, i32_w]; rw [c11b0]) | skip)
        have H' := Aside0.mk H
        clear H
        go_wp2
        go_meet
        case rel => exact ⟨_, (l1), H', ⟨by first | omega | exact Nat.le_refl _⟩, ⟨by (with_reducible repeat (first | apply Kd.V_alloc | apply Kd.V_drewN | apply Kd.V_drew)); exact Kd.V_mono HO1.out (fun _ hk => ⟨hk.1.1, ⟨hk.1.2, hk.2⟩⟩)⟩, ⟨by (with_reducible repeat (first | refine blk_drewN ?_ _ | refine blk_drew ?_ | refine blk_alloc ?_ _)); exact BK276.out⟩, ⟨by (with_reducible repeat (first | refine blk_drewN ?_ _ | refine blk_drew ?_ | refine blk_alloc ?_ _)); exact BK277.out⟩, ⟨by repeat (first | (with_reducible first | exact HB.out | apply below_alloc | apply pw_below_drewN | apply below_drew1 | refine below_set ?_ GE276.out | refine below_set ?_ GE277.out) | exact HB.out)⟩⟩
    case rest =>
      clear HC5
      try clear c1
      try clear p2
      try clear c4
      try clear c5
      try clear c8
      try clear c11
      try clear c11b0
      try clear c11b1
      try clear c11b2
      try clear hcz9_0
      try clear hcz9_1
      try clear hcz9_2
      try clear hfz9_0
      try clear hfz9_1
      try clear hfz9_2
      obtain ⟨kq, x1_4, HA, HJ4, HO_1, BK276, BK277, HB⟩ := hcut
      cases kq with
      | zero => exact absurd HA.out (by simp [cell_Change.j0])
      | succ kj4 =>
        have H := HA.out
        clear HA
        simp only [cell_Change.j0] at H
        have H' := Aside0.mk H
        clear H
        go_wp2
        go_loopg [1] kj4 (fun kq v1 w' => ∃ (x1_2 : List Int) (x277000_2 : Int) (x277001_2 : Int) (x277002_2 : Int), Aside0 (cell_Change.l0 kq x1_2 x277000_2 x277001_2 x277002_2 = some (r1, r2, r3, r4)) ∧ Aside0 (kq ≤ kj4) ∧ Aside0 (Kd.V (Kd.int .i64) 3 w' w.heap.size (fun k_ => (P1_ k_ ∨ w.heap.size ≤ k_) ∧ k_ ≠ gb276 ∧ k_ ≠ gb277) v1 x1_2) ∧ Aside0 (w'.heap[gb276]? = some (.cells #[.int .i64 x277000_2, .int .i64 x277001_2, .int .i64 x277002_2] 38 (0, 0))) ∧ Aside0 (w'.heap[gb277]? = some (.cells #[.int .i64 0, .int .i64 0, .int .i64 0] 38 (0, 0))) ∧ Aside0 (Below w.heap.size w w'))
        case atStart => exact ⟨(x1_4), (a0_0), (a0_1), (a0_2), H', ⟨Nat.le_refl _⟩, ⟨by (with_reducible repeat (first | apply Kd.V_alloc | apply Kd.V_drewN | apply Kd.V_drew)); exact HO_1.out⟩, ⟨by (with_reducible repeat (first | refine blk_drewN ?_ _ | refine blk_drew ?_ | refine blk_alloc ?_ _)); exact BK276.out⟩, ⟨by (with_reducible repeat (first | refine blk_drewN ?_ _ | refine blk_drew ?_ | refine blk_alloc ?_ _)); exact BK277.out⟩, ⟨by repeat (first | (with_reducible first | exact HB.out | apply below_alloc | apply pw_below_drewN | apply below_drew1 | refine below_set ?_ GE276.out | refine below_set ?_ GE277.out) | exact HB.out)⟩⟩
        case round =>
          clear H'
          try clear c1
          try clear p2
          try clear c4
          try clear c5
          try clear c8
          try clear c11
          try clear c11b0
          try clear c11b1
          try clear c11b2
          try clear hcz9_0
          try clear hcz9_1
          try clear hcz9_2
          try clear hfz9_0
          try clear hfz9_1
          try clear hfz9_2
          try clear p2
          obtain ⟨x1_2, x277000_2, x277001_2, x277002_2, HA, HK2, HO_1, BK276, BK277, HB⟩ := hrel
          cases gk with
          | zero => exact absurd HA.out (by simp [cell_Change.l0])
          | succ k2 =>
            have H := HA.out
            clear HA
            simp only [cell_Change.l0] at H
            by_cases c14 : (x1_2.length : Int) > 0
            · rw [if_pos c14] at H
              have c14b0 : decide (0 < (x1_2.length : Int)) = true := decide_eq_true c14
              have c14b1 : decide (0 < x1_2.length) = true := decide_eq_true (by omega)
              clear c14
              by_cases c15 : 0 < (x1_2.length : Int)
              · rw [if_pos c15] at H
                have c15b0 : decide (0 < (x1_2.length : Int)) = true := decide_eq_true c15
                have c15b1 : decide (0 < x1_2.length) = true := decide_eq_true (by omega)
                clear c15
                by_cases c16 : 1 ≤ (x1_2.length : Int)
                · rw [if_pos c16] at H
                  have c16b0 := eq_true c16
                  have c16b1 : decide (1 ≤ (x1_2.length : Int)) = true := decide_eq_true c16
                  clear c16
                  obtain ⟨y283, hy283⟩ : ∃ y_ : List Int, y_ = (x1_2.drop 1) := ⟨_, rfl⟩
                  replace H : (if (rd x1_2 0) = 38 then (cell_Change.j2 k2 y283 (rd x1_2 0) false x277000_2 x277001_2 x277002_2) else (cell_Change.j2 k2 y283 (rd x1_2 0) ((rd x1_2 0) != 48) x277000_2 x277001_2 x277002_2)) = some (r1, r2, r3, r4) := by first | (rw [hy283]; with_reducible exact H) | (have H2_ := (Option.bind_some _ _).symm.trans H; rw [hy283]; with_reducible exact H2_) | (have H2_ := (Option.bind_some _ _).symm.trans H; with_reducible exact H2_) | with_reducible exact H | (rw [hy283]; exact H) | exact H
                  have Ny283 := Aside0.mk hy283
                  clear hy283
                  have HC17 := Aside0.mk H
                  clear H
                  obtain ⟨Ao18, co18, eo18⟩ := Kd.V_slice HO_1.out
                  subst eo18
                  have p282 : 0 ≤ (0 : Int) := (by omega)
                  have q282 : 0 < (x1_2.length : Int) := of_decide_eq_true (by first | (with_reducible assumption) | assumption)
                  obtain ⟨ad282, e282, hx282_0⟩ := Kd.at_int (Kd.V_reads' HO_1.out).2.2 0 p282 q282
                  cases e282
                  have qi282 : (0 < x1_2.length) = True := eq_true (by omega)
                  (try rw [show ((0 : Int)).toNat = 0 from rfl] at hx282_0)
                  (try rw [Addr.add_zero'] at hx282_0)
                  replace p282 := eq_true p282
                  replace q282 := eq_true q282
                  have q19 : (1 : Int) ≤ ((x1_2.length : Int) : Int) := of_decide_eq_true (by first | (with_reducible assumption) | assumption)
                  obtain ⟨i019, hi019, _, hsz19, _⟩ := info_parts info3
                  have hroom19 : x1_2.length ≤ co18 := (Kd.V_reads' HO_1.out).2.1
                  have hC19 : Kd.F (Kd.int .i64) _ _ (some ad282) x1_2.length x1_2 := (Kd.V_at (base := w.heap.size) HO_1.out).2.2
                  have hcut19 := cut_from (P := Tryd.prog) 50 3 .i64 Tryd.underlying50 hi019 1 hsz19 (some ad282) x1_2.length co18 1 (by omega) q19
                  have hr19 := Kd.F_cut (m := (1 : Int).toNat) (c := co18) hC19 (by omega) hroom19
                  obtain ⟨A19, hA19⟩ : ∃ A1, A1 = (if co18 = (1 : Int).toNat then (some ad282) else ((some ad282) : Option Addr).map (·.add ((1 : Int).toNat * 1))) := ⟨_, rfl⟩
                  obtain ⟨c19, hc19⟩ : ∃ c1, c1 = co18 - (1 : Int).toNat := ⟨_, rfl⟩
                  have hy19 : y283.length = x1_2.length - (1 : Int).toNat := (by rw [Ny283.out, List.length_drop] <;> omega)
                  rw [show (x1_2).drop (1 : Int).toNat = y283 from Ny283.out.symm] at hr19
                  replace hr19 : Kd.F (Kd.int .i64) _ _ A19 y283.length y283 := (by rw [hA19]; exact hr19)
                  rw [← hy19, ← hA19, ← hc19] at hcut19
                  have HO287 := Aside0.mk (show Kd.V (Kd.int .i64) 3 _ w.heap.size _ (.slice A19 y283.length c19) y283 from Kd.V_mk (by rw [hy19, hc19]; exact Nat.sub_le_sub_right hroom19 _) hr19)
                  have HC287 := Aside0.mk (show y283.length ≤ c19 from by rw [hy19, hc19]; exact Nat.sub_le_sub_right hroom19 _)
                  clear hr19 hC19 hroom19 hi019 hsz19 hc19
                  have KY19 := Aside0.mk hy19
                  have KA19 := Aside0.mk hA19
                  clear hy19 hA19
                  replace q19 := eq_true q19
                  go_upto_region 8 with (fail)
                  go_cut [28] (fun v28 wc => ∃ (kq : Nat) (x28_16 : Bool), v28 = .bool x28_16 ∧ Aside0 (cell_Change.j2 kq y283 (rd x1_2 0) x28_16 x277000_2 x277001_2 x277002_2 = some (r1, r2, r3, r4)) ∧ Aside0 (kq ≤ k2) ∧ Aside0 (Kd.V (Kd.int .i64) 3 wc w.heap.size (fun k_ => (P1_ k_ ∨ w.heap.size ≤ k_) ∧ k_ ≠ gb276 ∧ k_ ≠ gb277) (.slice A19 y283.length c19) y283) ∧ Aside0 (wc.heap[gb276]? = some (.cells #[.int .i64 x277000_2, .int .i64 x277001_2, .int .i64 x277002_2] 38 (0, 0))) ∧ Aside0 (wc.heap[gb277]? = some (.cells #[.int .i64 0, .int .i64 0, .int .i64 0] 38 (0, 0))) ∧ Aside0 (Below w.heap.size w wc))
                  case first =>
                    have H := HC17.out
                    clear HC17
                    by_cases c20 : (rd x1_2 0) = 38
                    · rw [if_pos c20] at H
                      have c20b0 : ((rd x1_2 0) == 38) = true := beq_iff_eq.mpr c20
                      have c20b1 : ((rd x1_2 0) != 38) = false := bne_eq_false_iff_eq.mpr c20
                      clear c20
                      (first | rw [c20b0] | (simp only [i64_w, i32_w]; rw [c20b0]) | skip)
                      have H' := Aside0.mk H
                      clear H
                      go_wp2
                      go_meet
                      case rel => exact ⟨_, (false), (by first | rfl | (simp; done) | (simp [*]; done)), H', ⟨by have := HJ4.out; have := HK2.out; first | omega | exact Nat.le_refl _⟩, ⟨by (with_reducible repeat (first | apply Kd.V_alloc | apply Kd.V_drewN | apply Kd.V_drew)); exact HO287.out⟩, ⟨by (with_reducible repeat (first | refine blk_drewN ?_ _ | refine blk_drew ?_ | refine blk_alloc ?_ _)); exact BK276.out⟩, ⟨by (with_reducible repeat (first | refine blk_drewN ?_ _ | refine blk_drew ?_ | refine blk_alloc ?_ _)); exact BK277.out⟩, ⟨by repeat (first | (with_reducible first | exact HB.out | apply below_alloc | apply pw_below_drewN | apply below_drew1 | refine below_set ?_ GE276.out | refine below_set ?_ GE277.out) | exact HB.out)⟩⟩
                    · rw [if_neg c20] at H
                      have c20b0 : ((rd x1_2 0) == 38) = false := beq_eq_false_iff_ne.mpr c20
                      have c20b1 : ((rd x1_2 0) != 38) = true := bne_iff_ne.mpr c20
                      (first | rw [c20b0] | (simp only [i64_w, i32_w]; rw [c20b0]) | skip)
                      have H' := Aside0.mk H
                      clear H
                      go_wp2
                      go_meet
                      case rel => exact ⟨_, (((rd x1_2 0) != 48)), (by first | rfl | (simp; done) | (simp [*]; done)), H', ⟨by have := HJ4.out; have := HK2.out; first | omega | exact Nat.le_refl _⟩, ⟨by (with_reducible repeat (first | apply Kd.V_alloc | apply Kd.V_drewN | apply Kd.V_drew)); exact HO287.out⟩, ⟨by (with_reducible repeat (first | refine blk_drewN ?_ _ | refine blk_drew ?_ | refine blk_alloc ?_ _)); exact BK276.out⟩, ⟨by (with_reducible repeat (first | refine blk_drewN ?_ _ | refine blk_drew ?_ | refine blk_alloc ?_ _)); exact BK277.out⟩, ⟨by repeat (first | (with_reducible first | exact HB.out | apply below_alloc | apply pw_below_drewN | apply below_drew1 | refine below_set ?_ GE276.out | refine below_set ?_ GE277.out) | exact HB.out)⟩⟩
                  case rest =>
                    clear HC17
                    try clear c1
                    try clear q1
                    try clear c2
                    try clear p2
                    try clear q2
                    try clear hx2
                    try clear qi2
                    try clear c4
                    try clear c5
                    try clear c8
                    try clear c11
                    try clear c11b0
                    try clear c11b1
                    try clear c11b2
                    try clear c14
                    try clear c14b0
                    try clear c14b1
                    try clear c15
                    try clear c15b0
                    try clear c15b1
                    try clear c16
                    try clear c16b0
                    try clear c16b1
                    try clear c19
                    try clear q19
                    try clear c20
                    try clear c20b0
                    try clear c20b1
                    try clear hcz9_0
                    try clear hcz9_1
                    try clear hcz9_2
                    try clear hfz9_0
                    try clear hfz9_1
                    try clear hfz9_2
                    try clear hx282_0
                    try clear p2
                    try clear p282
                    try clear q19
                    try clear q282
                    obtain ⟨kq, x28_16, rfl, HA, HJ16, HO_1, BK276, BK277, HB⟩ := hcut
                    cases kq with
                    | zero => exact absurd HA.out (by simp [cell_Change.j2])
                    | succ kj16 =>
                      have H := HA.out
                      clear HA
                      simp only [cell_Change.j2] at H
                      by_cases c21 : x28_16 = true
                      · subst c21
                        have H1 : ((cell_one.f kj16 x277000_2 x277001_2 x277002_2 (rd x1_2 0)).bind fun bt288 => (cell_Change.l0 kj16 y283 bt288.1 bt288.2.1 bt288.2.2)) = some (r1, r2, r3, r4) := by rw [if_pos rfl] at H; exact H
                        clear H
                        have H := H1
                        clear H1
                        replace H := Option.bind_eq_some_iff.mp H
                        obtain ⟨⟨t288, t289, t290⟩, A220, H⟩ := H
                        replace H : (cell_Change.l0 kj16 y283 t288 t289 t290) = some (r1, r2, r3, r4) := H
                        have A22 := Aside0.mk A220
                        clear A220
                        have H' := Aside0.mk H
                        clear H
                        have hnb23 := NB276_277.out
                        have hnc23 := NB277_276.out
                        have hcz24_0 : wc.cell? ⟨gb276, 0, none⟩ = some (.int .i64 x277000_2) := (blk_cell BK276.out 0).trans rfl
                        have hcz24_1 : wc.cell? ⟨gb276, 1, none⟩ = some (.int .i64 x277001_2) := (blk_cell BK276.out 1).trans rfl
                        have hcz24_2 : wc.cell? ⟨gb276, 2, none⟩ = some (.int .i64 x277002_2) := (blk_cell BK276.out 2).trans rfl
                        have hfz24_0 := blk_frozen BK276.out 0
                        have hfz24_1 := blk_frozen BK276.out 1
                        have hfz24_2 := blk_frozen BK276.out 2
                        go_wp2_with (first | ((with_reducible refine gate_callee (f := 67) rfl ?_); refine goesL_ (some 31) rfl rfl Tryd.func67 (by kernel_rfl) rfl #[.agg #[.int .i64 x277000_2, .int .i64 x277001_2, .int .i64 x277002_2], .int .i64 (rd x1_2 0)] rfl (by (try simp only [List.map_toArray, List.map_cons, List.map_nil]); first | done | rfl | (simp only [List.length_drop, List.length_take]; rfl)) ?_; (with_reducible refine (cell_one.calls kj16 x277000_2 x277001_2 x277002_2 (rd x1_2 0) t288 t289 t290 _ A22.out).mono ?_); rintro e w25 ⟨rfl, hb⟩; refine ⟨_, rfl, ?_⟩; have n0_ := Aside0.mk (Kd.V_below (by (with_reducible repeat (first | apply Kd.V_alloc | apply Kd.V_drewN | apply Kd.V_drew)); exact HO_1.out) hb); have n1_ := Aside0.mk (blk_below (g := gb276) (o := .cells #[.int .i64 x277000_2, .int .i64 x277001_2, .int .i64 x277002_2] 38 (0, 0)) (by (with_reducible repeat (first | refine blk_drewN ?_ _ | refine blk_drew ?_ | refine blk_alloc ?_ _)); exact BK276.out) hb); have n2_ := Aside0.mk (blk_below (g := gb277) (o := .cells #[.int .i64 0, .int .i64 0, .int .i64 0] 38 (0, 0)) (by (with_reducible repeat (first | refine blk_drewN ?_ _ | refine blk_drew ?_ | refine blk_alloc ?_ _)); exact BK277.out) hb); have n3_ := Aside0.mk (below_step (by repeat (first | (with_reducible first | exact HB.out | apply below_alloc | apply pw_below_drewN | apply below_drew1 | refine below_set ?_ GE276.out | refine below_set ?_ GE277.out) | exact HB.out)) hb); clear HO_1; clear BK276; clear BK277; clear HB; have HO_1 := n0_; have BK276 := n1_; have BK277 := n2_; have HB := n3_; clear n0_ n1_ n2_ n3_; (try clear hb); (try clear hb2); (try clear hk); (try clear hi); have hcz26_0 : w25.cell? ⟨gb276, 0, none⟩ = some (.int .i64 x277000_2) := (blk_cell BK276.out 0).trans rfl; have hcz26_1 : w25.cell? ⟨gb276, 1, none⟩ = some (.int .i64 x277001_2) := (blk_cell BK276.out 1).trans rfl; have hcz26_2 : w25.cell? ⟨gb276, 2, none⟩ = some (.int .i64 x277002_2) := (blk_cell BK276.out 2).trans rfl; have hfz26_0 := blk_frozen BK276.out 0; have hfz26_1 := blk_frozen BK276.out 1; have hfz26_2 := blk_frozen BK276.out 2))
                        go_roundg kj16
                        case measure => have := HJ4.out; have := HK2.out; have := HJ16.out; omega
                        case rel => exact ⟨(y283), (t288), (t289), (t290), H', ⟨by have := HJ4.out; have := HK2.out; have := HJ16.out; omega⟩, ⟨by (with_reducible repeat (first | apply Kd.V_alloc | apply Kd.V_drewN | apply Kd.V_drew)); exact Kd.V_mono (Kd.V_far (p := ⟨gb276, 2, none⟩) (Kd.V_far (p := ⟨gb276, 1, none⟩) (Kd.V_far (p := ⟨gb276, 0, none⟩) (Kd.V_mono HO_1.out (fun k_ hk => (⟨hk, hk.2.1⟩ : _ ∧ k_ ≠ gb276))) (fun _ hk => hk.2) (.int .i64 t288)) (fun _ hk => hk.2) (.int .i64 t289)) (fun _ hk => hk.2) (.int .i64 t290)) (fun _ hk => ⟨hk.1.1, ⟨hk.1.2.1, hk.1.2.2⟩⟩)⟩, ⟨by (with_reducible repeat (first | refine blk_drewN ?_ _ | refine blk_drew ?_ | refine blk_alloc ?_ _)); refine blk_put (cs := #[.int .i64 t288, .int .i64 t289, .int .i64 x277002_2]) ?_ 2 _ rfl; (with_reducible repeat (first | refine blk_drewN ?_ _ | refine blk_drew ?_ | refine blk_alloc ?_ _)); refine blk_put (cs := #[.int .i64 t288, .int .i64 x277001_2, .int .i64 x277002_2]) ?_ 1 _ rfl; (with_reducible repeat (first | refine blk_drewN ?_ _ | refine blk_drew ?_ | refine blk_alloc ?_ _)); refine blk_put (cs := #[.int .i64 x277000_2, .int .i64 x277001_2, .int .i64 x277002_2]) ?_ 0 _ rfl; (with_reducible repeat (first | refine blk_drewN ?_ _ | refine blk_drew ?_ | refine blk_alloc ?_ _)); exact BK276.out⟩, ⟨by (with_reducible repeat (first | refine blk_drewN ?_ _ | refine blk_drew ?_ | refine blk_alloc ?_ _)); refine blk_far ?_ NB277_276.out _; (with_reducible repeat (first | refine blk_drewN ?_ _ | refine blk_drew ?_ | refine blk_alloc ?_ _)); refine blk_far ?_ NB277_276.out _; (with_reducible repeat (first | refine blk_drewN ?_ _ | refine blk_drew ?_ | refine blk_alloc ?_ _)); refine blk_far ?_ NB277_276.out _; (with_reducible repeat (first | refine blk_drewN ?_ _ | refine blk_drew ?_ | refine blk_alloc ?_ _)); exact BK277.out⟩, ⟨by repeat (first | (with_reducible first | exact HB.out | apply below_alloc | apply pw_below_drewN | apply below_drew1 | refine below_set ?_ GE276.out | refine below_set ?_ GE277.out) | exact HB.out)⟩⟩
                      · replace c21 := Bool.eq_false_iff.mpr c21
                        subst c21
                        have H1 : (if (y283.length : Int) < 2 then (cell_Change.j3 kj16 y283 (rd x1_2 0) true x277000_2 x277001_2 x277002_2) else (if 0 < (y283.length : Int) then (if (rd y283 0) = 5 then (if 1 < (y283.length : Int) then ((cell_in.f (rd y283 1) 0 255).bind fun t293 => (cell_Change.j3 kj16 y283 (rd x1_2 0) (!t293) x277000_2 x277001_2 x277002_2)) else (none)) else (cell_Change.j3 kj16 y283 (rd x1_2 0) true x277000_2 x277001_2 x277002_2)) else (none))) = some (r1, r2, r3, r4) := by rw [if_neg (show ¬ (false = true) by decide)] at H; exact H
                        clear H
                        have H := H1
                        clear H1
                        have HC27 := Aside0.mk H
                        clear H
                        go_upto_region 10 with (fail)
                        go_cut [47] (fun v47 wc => ∃ (kq : Nat) (x47_26 : Bool), v47 = .bool x47_26 ∧ Aside0 (cell_Change.j3 kq y283 (rd x1_2 0) x47_26 x277000_2 x277001_2 x277002_2 = some (r1, r2, r3, r4)) ∧ Aside0 (kq ≤ kj16) ∧ Aside0 (Kd.V (Kd.int .i64) 3 wc w.heap.size (fun k_ => (P1_ k_ ∨ w.heap.size ≤ k_) ∧ k_ ≠ gb276 ∧ k_ ≠ gb277) (.slice A19 y283.length c19) y283) ∧ Aside0 (wc.heap[gb276]? = some (.cells #[.int .i64 x277000_2, .int .i64 x277001_2, .int .i64 x277002_2] 38 (0, 0))) ∧ Aside0 (wc.heap[gb277]? = some (.cells #[.int .i64 0, .int .i64 0, .int .i64 0] 38 (0, 0))) ∧ Aside0 (Below w.heap.size w wc))
                        case first =>
                          have H := HC27.out
                          clear HC27
                          by_cases c28 : (y283.length : Int) < 2
                          · rw [if_pos c28] at H
                            have c28b0 : decide ((y283.length : Int) < 2) = true := decide_eq_true c28
                            have c28b1 : decide (y283.length < 2) = true := decide_eq_true (by omega)
                            clear c28
                            (first | rw [c28b0] | (simp only [i64_w, i32_w]; rw [c28b0]) | skip)
                            have H' := Aside0.mk H
                            clear H
                            go_wp2
                            go_meet
                            case rel => exact ⟨_, (true), (by first | rfl | (simp; done) | (simp [*]; done)), H', ⟨by have := HJ4.out; have := HK2.out; have := HJ16.out; first | omega | exact Nat.le_refl _⟩, ⟨by (with_reducible repeat (first | apply Kd.V_alloc | apply Kd.V_drewN | apply Kd.V_drew)); exact HO_1.out⟩, ⟨by (with_reducible repeat (first | refine blk_drewN ?_ _ | refine blk_drew ?_ | refine blk_alloc ?_ _)); exact BK276.out⟩, ⟨by (with_reducible repeat (first | refine blk_drewN ?_ _ | refine blk_drew ?_ | refine blk_alloc ?_ _)); exact BK277.out⟩, ⟨by repeat (first | (with_reducible first | exact HB.out | apply below_alloc | apply pw_below_drewN | apply below_drew1 | refine below_set ?_ GE276.out | refine below_set ?_ GE277.out) | exact HB.out)⟩⟩
                          · rw [if_neg c28] at H
                            have c28b0 : decide ((y283.length : Int) < 2) = false := decide_eq_false c28
                            have c28b1 : decide (y283.length < 2) = false := decide_eq_false (by omega)
                            clear c28
                            (first | rw [c28b0] | (simp only [i64_w, i32_w]; rw [c28b0]) | skip)
                            by_cases c29 : 0 < (y283.length : Int)
                            · rw [if_pos c29] at H
                              have c29b0 : decide (0 < (y283.length : Int)) = true := decide_eq_true c29
                              have c29b1 : decide (0 < y283.length) = true := decide_eq_true (by omega)
                              clear c29
                              by_cases c30 : (rd y283 0) = 5
                              · rw [if_pos c30] at H
                                have c30b0 : ((rd y283 0) == 5) = true := beq_iff_eq.mpr c30
                                have c30b1 : ((rd y283 0) != 5) = false := bne_eq_false_iff_eq.mpr c30
                                clear c30
                                by_cases c31 : 1 < (y283.length : Int)
                                · rw [if_pos c31] at H
                                  have c31b0 : decide (1 < (y283.length : Int)) = true := decide_eq_true c31
                                  have c31b1 : decide (1 < y283.length) = true := decide_eq_true (by omega)
                                  clear c31
                                  replace H := Option.bind_eq_some_iff.mp H
                                  obtain ⟨t293, A320, H⟩ := H
                                  replace H : (cell_Change.j3 kj16 y283 (rd x1_2 0) (!t293) x277000_2 x277001_2 x277002_2) = some (r1, r2, r3, r4) := H
                                  have A32 := Aside0.mk A320
                                  clear A320
                                  have H' := Aside0.mk H
                                  clear H
                                  have p291 : 0 ≤ (0 : Int) := (by omega)
                                  have q291 : 0 < (y283.length : Int) := of_decide_eq_true (by first | (with_reducible assumption) | assumption)
                                  obtain ⟨ad291, e291, hx291_0⟩ := Kd.at_int (Kd.V_reads' HO_1.out).2.2 0 p291 q291
                                  cases e291
                                  have qi291 : (0 < y283.length) = True := eq_true (by omega)
                                  (try rw [show ((0 : Int)).toNat = 0 from rfl] at hx291_0)
                                  (try rw [Addr.add_zero'] at hx291_0)
                                  replace p291 := eq_true p291
                                  replace q291 := eq_true q291
                                  have p292 : 0 ≤ (1 : Int) := (by omega)
                                  have q292 : 1 < (y283.length : Int) := of_decide_eq_true (by first | (with_reducible assumption) | assumption)
                                  obtain ⟨ad292, e292, hx292_0⟩ := Kd.at_int (Kd.V_reads' HO_1.out).2.2 1 p292 q292
                                  obtain rfl : ad291 = ad292 := (by injection e292)
                                  (try simp only [show (1 : Int).toNat = 1 from rfl, Nat.reduceMul, Nat.reduceEqDiff, Go.Addr.add, ↓reduceIte] at hx292_0)
                                  have qi292 : (1 < y283.length) = True := eq_true (by omega)
                                  (try rw [show ((1 : Int)).toNat = 1 from rfl] at hx292_0)
                                  replace p292 := eq_true p292
                                  replace q292 := eq_true q292
                                  go_wp2_with (first | (go_at_call 53; (with_reducible refine (cell_in.calls (rd y283 1) 0 255 t293 _ A32.out).mono ?_); rintro e w' ⟨rfl, ⟨nd, rfl⟩⟩))
                                  go_meet
                                  case rel => exact ⟨_, (!t293), (by first | rfl | (simp; done) | (simp [*]; done)), H', ⟨by have := HJ4.out; have := HK2.out; have := HJ16.out; first | omega | exact Nat.le_refl _⟩, ⟨by (with_reducible repeat (first | apply Kd.V_alloc | apply Kd.V_drewN | apply Kd.V_drew)); exact HO_1.out⟩, ⟨by (with_reducible repeat (first | refine blk_drewN ?_ _ | refine blk_drew ?_ | refine blk_alloc ?_ _)); exact BK276.out⟩, ⟨by (with_reducible repeat (first | refine blk_drewN ?_ _ | refine blk_drew ?_ | refine blk_alloc ?_ _)); exact BK277.out⟩, ⟨by repeat (first | (with_reducible first | exact HB.out | apply below_alloc | apply pw_below_drewN | apply below_drew1 | refine below_set ?_ GE276.out | refine below_set ?_ GE277.out) | exact HB.out)⟩⟩
                                · rw [if_neg c31] at H
                                  exact absurd H (by simp)
                              · rw [if_neg c30] at H
                                have c30b0 : ((rd y283 0) == 5) = false := beq_eq_false_iff_ne.mpr c30
                                have c30b1 : ((rd y283 0) != 5) = true := bne_iff_ne.mpr c30
                                have H' := Aside0.mk H
                                clear H
                                have p291 : 0 ≤ (0 : Int) := (by omega)
                                have q291 : 0 < (y283.length : Int) := of_decide_eq_true (by first | (with_reducible assumption) | assumption)
                                obtain ⟨ad291, e291, hx291_0⟩ := Kd.at_int (Kd.V_reads' HO_1.out).2.2 0 p291 q291
                                cases e291
                                have qi291 : (0 < y283.length) = True := eq_true (by omega)
                                (try rw [show ((0 : Int)).toNat = 0 from rfl] at hx291_0)
                                (try rw [Addr.add_zero'] at hx291_0)
                                replace p291 := eq_true p291
                                replace q291 := eq_true q291
                                go_wp2
                                go_meet
                                case rel => exact ⟨_, (true), (by first | rfl | (simp; done) | (simp [*]; done)), H', ⟨by have := HJ4.out; have := HK2.out; have := HJ16.out; first | omega | exact Nat.le_refl _⟩, ⟨by (with_reducible repeat (first | apply Kd.V_alloc | apply Kd.V_drewN | apply Kd.V_drew)); exact HO_1.out⟩, ⟨by (with_reducible repeat (first | refine blk_drewN ?_ _ | refine blk_drew ?_ | refine blk_alloc ?_ _)); exact BK276.out⟩, ⟨by (with_reducible repeat (first | refine blk_drewN ?_ _ | refine blk_drew ?_ | refine blk_alloc ?_ _)); exact BK277.out⟩, ⟨by repeat (first | (with_reducible first | exact HB.out | apply below_alloc | apply pw_below_drewN | apply below_drew1 | refine below_set ?_ GE276.out | refine below_set ?_ GE277.out) | exact HB.out)⟩⟩
                            · rw [if_neg c29] at H
                              exact absurd H (by simp)
                        case rest =>
                          clear HC27
                          try clear c1
                          try clear q1
                          try clear c2
                          try clear p2
                          try clear q2
                          try clear hx2
                          try clear qi2
                          try clear c3
                          try clear c4
                          try clear c5
                          try clear c6
                          try clear c8
                          try clear c11
                          try clear c11b0
                          try clear c11b1
                          try clear c11b2
                          try clear c14
                          try clear c14b0
                          try clear c14b1
                          try clear c15
                          try clear c15b0
                          try clear c15b1
                          try clear c16
                          try clear c16b0
                          try clear c16b1
                          try clear c19
                          try clear q19
                          try clear c20
                          try clear c20b0
                          try clear c20b1
                          try clear c21
                          try clear c23
                          try clear c28
                          try clear c28b0
                          try clear c28b1
                          try clear p28
                          try clear q28
                          try clear hx28
                          try clear qi28
                          try clear c29
                          try clear c29b0
                          try clear c29b1
                          try clear p29
                          try clear q29
                          try clear hx29
                          try clear qi29
                          try clear c30
                          try clear c30b0
                          try clear c30b1
                          try clear c31
                          try clear c31b0
                          try clear c31b1
                          try clear hcz24_0
                          try clear hcz24_1
                          try clear hcz24_2
                          try clear hcz26_0
                          try clear hcz26_1
                          try clear hcz26_2
                          try clear hcz9_0
                          try clear hcz9_1
                          try clear hcz9_2
                          try clear hfz24_0
                          try clear hfz24_1
                          try clear hfz24_2
                          try clear hfz26_0
                          try clear hfz26_1
                          try clear hfz26_2
                          try clear hfz9_0
                          try clear hfz9_1
                          try clear hfz9_2
                          try clear hx282_0
                          try clear hx291_0
                          try clear hx292_0
                          try clear p2
                          try clear p282
                          try clear p291
                          try clear p292
                          try clear q1
                          try clear q19
                          try clear q2
                          try clear q282
                          try clear q291
                          try clear q292
                          obtain ⟨kq, x47_26, rfl, HA, HJ26, HO_1, BK276, BK277, HB⟩ := hcut
                          cases kq with
                          | zero => exact absurd HA.out (by simp [cell_Change.j3])
                          | succ kj26 =>
                            have H := HA.out
                            clear HA
                            simp only [cell_Change.j3] at H
                            by_cases c33 : x47_26 = true
                            · subst c33
                              have H1 : (some (x277000_2, x277001_2, x277002_2, 0)) = some (r1, r2, r3, r4) := by rw [if_pos rfl] at H; exact H
                              clear H
                              have H := H1
                              clear H1
                              simp only [Option.some.injEq, Prod.mk.injEq] at H
                              obtain ⟨rfl, rfl, rfl, rfl⟩ := H
                              have hnb34 := NB276_277.out
                              have hnc34 := NB277_276.out
                              have hcz35_0 : wc.cell? ⟨gb276, 0, none⟩ = some (.int .i64 x277000_2) := (blk_cell BK276.out 0).trans rfl
                              have hcz35_1 : wc.cell? ⟨gb276, 1, none⟩ = some (.int .i64 x277001_2) := (blk_cell BK276.out 1).trans rfl
                              have hcz35_2 : wc.cell? ⟨gb276, 2, none⟩ = some (.int .i64 x277002_2) := (blk_cell BK276.out 2).trans rfl
                              have hfz35_0 := blk_frozen BK276.out 0
                              have hfz35_1 := blk_frozen BK276.out 1
                              have hfz35_2 := blk_frozen BK276.out 2
                              have hcz36_0 : wc.cell? ⟨gb277, 0, none⟩ = some (.int .i64 0) := (blk_cell BK277.out 0).trans rfl
                              have hcz36_1 : wc.cell? ⟨gb277, 1, none⟩ = some (.int .i64 0) := (blk_cell BK277.out 1).trans rfl
                              have hcz36_2 : wc.cell? ⟨gb277, 2, none⟩ = some (.int .i64 0) := (blk_cell BK277.out 2).trans rfl
                              have hfz36_0 := blk_frozen BK277.out 0
                              have hfz36_1 := blk_frozen BK277.out 1
                              have hfz36_2 := blk_frozen BK277.out 2
                              go_wp2
                              refine bodyPost_ret (results_ct rfl _ _ gb277 38 #[.int .i64 x277000_2, .int .i64 x277001_2, .int .i64 x277002_2] (0, 0) _ rfl (by (with_reducible repeat (first | refine blk_drewN ?_ _ | refine blk_drew ?_ | refine blk_alloc ?_ _)); refine blk_put (cs := #[.int .i64 x277000_2, .int .i64 x277001_2, .int .i64 0]) ?_ 2 _ rfl; (with_reducible repeat (first | refine blk_drewN ?_ _ | refine blk_drew ?_ | refine blk_alloc ?_ _)); refine blk_put (cs := #[.int .i64 x277000_2, .int .i64 0, .int .i64 0]) ?_ 1 _ rfl; (with_reducible repeat (first | refine blk_drewN ?_ _ | refine blk_drew ?_ | refine blk_alloc ?_ _)); refine blk_put (cs := #[.int .i64 0, .int .i64 0, .int .i64 0]) ?_ 0 _ rfl; (with_reducible repeat (first | refine blk_drewN ?_ _ | refine blk_drew ?_ | refine blk_alloc ?_ _)); exact BK277.out) Tryd.underlying38 rfl (by kernel_rfl)) rfl ?_
                              exact ⟨by first | rfl | (simp [errW_none, errW_some] <;> rfl) | (simp [*, errW_none, errW_some] <;> rfl), by repeat (first | (with_reducible first | exact HB.out | apply below_alloc | apply pw_below_drewN | apply below_drew1 | refine below_set ?_ GE276.out | refine below_set ?_ GE277.out) | exact HB.out)⟩
                            · replace c33 := Bool.eq_false_iff.mpr c33
                              subst c33
                              have H1 : (if (rd x1_2 0) = 38 then (if 1 < (y283.length : Int) then (if 2 ≤ (y283.length : Int) then (cell_Change.l0 kj26 (y283.drop 2) (wrap64 ((rd y283 1) + 1)) x277001_2 x277002_2) else (none)) else (none)) else (if 1 < (y283.length : Int) then (if 2 ≤ (y283.length : Int) then (cell_Change.l0 kj26 (y283.drop 2) x277000_2 (wrap64 ((rd y283 1) + 1)) x277002_2) else (none)) else (none))) = some (r1, r2, r3, r4) := by rw [if_neg (show ¬ (false = true) by decide)] at H; exact H
                              clear H
                              have H := H1
                              clear H1
                              by_cases c37 : (rd x1_2 0) = 38
                              · rw [if_pos c37] at H
                                have c37b0 : ((rd x1_2 0) == 38) = true := beq_iff_eq.mpr c37
                                have c37b1 : ((rd x1_2 0) != 38) = false := bne_eq_false_iff_eq.mpr c37
                                clear c37
                                by_cases c38 : 1 < (y283.length : Int)
                                · rw [if_pos c38] at H
                                  have c38b0 : decide (1 < (y283.length : Int)) = true := decide_eq_true c38
                                  have c38b1 : decide (1 < y283.length) = true := decide_eq_true (by omega)
                                  clear c38
                                  by_cases c39 : 2 ≤ (y283.length : Int)
                                  · rw [if_pos c39] at H
                                    have c39b0 := eq_true c39
                                    have c39b1 : decide (2 ≤ (y283.length : Int)) = true := decide_eq_true c39
                                    clear c39
                                    obtain ⟨y295, hy295⟩ : ∃ y_ : List Int, y_ = (y283.drop 2) := ⟨_, rfl⟩
                                    replace H : (cell_Change.l0 kj26 y295 (wrap64 ((rd y283 1) + 1)) x277001_2 x277002_2) = some (r1, r2, r3, r4) := by first | (rw [hy295]; with_reducible exact H) | (have H2_ := (Option.bind_some _ _).symm.trans H; rw [hy295]; with_reducible exact H2_) | (have H2_ := (Option.bind_some _ _).symm.trans H; with_reducible exact H2_) | with_reducible exact H | (rw [hy295]; exact H) | exact H
                                    have Ny295 := Aside0.mk hy295
                                    clear hy295
                                    have H' := Aside0.mk H
                                    clear H
                                    have p294 : 0 ≤ (1 : Int) := (by omega)
                                    have q294 : 1 < (y283.length : Int) := of_decide_eq_true (by first | (with_reducible assumption) | assumption)
                                    obtain ⟨ad294, e294, hx294_0⟩ := Kd.at_int (Kd.V_reads' HO_1.out).2.2 1 p294 q294
                                    cases e294
                                    (try simp only [show (1 : Int).toNat = 1 from rfl, Nat.reduceMul, Nat.reduceEqDiff, Go.Addr.add, ↓reduceIte] at hx294_0)
                                    have qi294 : (1 < y283.length) = True := eq_true (by omega)
                                    (try rw [show ((1 : Int)).toNat = 1 from rfl] at hx294_0)
                                    replace p294 := eq_true p294
                                    replace q294 := eq_true q294
                                    have hnb40 := NB276_277.out
                                    have hnc40 := NB277_276.out
                                    have hcz41_0 : wc.cell? ⟨gb276, 0, none⟩ = some (.int .i64 x277000_2) := (blk_cell BK276.out 0).trans rfl
                                    have hcz41_1 : wc.cell? ⟨gb276, 1, none⟩ = some (.int .i64 x277001_2) := (blk_cell BK276.out 1).trans rfl
                                    have hcz41_2 : wc.cell? ⟨gb276, 2, none⟩ = some (.int .i64 x277002_2) := (blk_cell BK276.out 2).trans rfl
                                    have hfz41_0 := blk_frozen BK276.out 0
                                    have hfz41_1 := blk_frozen BK276.out 1
                                    have hfz41_2 := blk_frozen BK276.out 2
                                    go_wp2_with (first | ((with_reducible refine gate_store (t := 3) (p := 54) rfl ?_); refine store_event (t := 3) (p := 54) (v := ?vo_w42) (w1 := (wc.setCell ⟨gb276, 0, none⟩ (.int .i64 (wrap64 ((rd y283 1) + 1))))) ?hg ?ho ?hn ?hr ?_; (case ho => rfl); (case hg => rfl); (case hn => rfl); (case hr => first | (go_simp; done) | (go_simp; rfl)); intro w42 hw; have n0_ : Aside0 (Kd.V (Kd.int .i64) 3 w42 w.heap.size (fun k_ => (P1_ k_ ∨ w.heap.size ≤ k_) ∧ k_ ≠ gb276 ∧ k_ ≠ gb277) (.slice (some ad294) y283.length c19) y283) := ⟨(by rw [hw]; exact (by (with_reducible repeat (first | apply Kd.V_alloc | apply Kd.V_drewN | apply Kd.V_drew)); exact Kd.V_mono (Kd.V_far (p := ⟨gb276, 0, none⟩) (Kd.V_mono HO_1.out (fun k_ hk => (⟨hk, hk.2.1⟩ : _ ∧ k_ ≠ gb276))) (fun _ hk => hk.2) (.int .i64 (wrap64 ((rd y283 1) + 1)))) (fun _ hk => ⟨hk.1.1, ⟨hk.1.2.1, hk.1.2.2⟩⟩)))⟩; have n1_ : Aside0 (w42.heap[gb276]? = some (.cells #[.int .i64 (wrap64 ((rd y283 1) + 1)), .int .i64 x277001_2, .int .i64 x277002_2] 38 (0, 0))) := ⟨(by rw [hw]; exact (by (with_reducible repeat (first | refine blk_drewN ?_ _ | refine blk_drew ?_ | refine blk_alloc ?_ _)); refine blk_put (cs := #[.int .i64 x277000_2, .int .i64 x277001_2, .int .i64 x277002_2]) ?_ 0 _ rfl; (with_reducible repeat (first | refine blk_drewN ?_ _ | refine blk_drew ?_ | refine blk_alloc ?_ _)); exact BK276.out))⟩; have n2_ : Aside0 (w42.heap[gb277]? = some (.cells #[.int .i64 0, .int .i64 0, .int .i64 0] 38 (0, 0))) := ⟨(by rw [hw]; exact (by (with_reducible repeat (first | refine blk_drewN ?_ _ | refine blk_drew ?_ | refine blk_alloc ?_ _)); refine blk_far ?_ NB277_276.out _; (with_reducible repeat (first | refine blk_drewN ?_ _ | refine blk_drew ?_ | refine blk_alloc ?_ _)); exact BK277.out))⟩; have n3_ : Aside0 (Below w.heap.size w w42) := ⟨(by rw [hw]; exact (by repeat (first | (with_reducible first | exact HB.out | apply below_alloc | apply pw_below_drewN | apply below_drew1 | refine below_set ?_ GE276.out | refine below_set ?_ GE277.out) | exact HB.out)))⟩; clear hw; clear HO_1; clear BK276; clear BK277; clear HB; have HO_1 := n0_; have BK276 := n1_; have BK277 := n2_; have HB := n3_; clear n0_ n1_ n2_ n3_; have q43 : (2 : Int) ≤ ((y283.length : Int) : Int) := of_decide_eq_true (by first | (with_reducible assumption) | assumption); obtain ⟨i043, hi043, _, hsz43, _⟩ := info_parts info3; have hroom43 : y283.length ≤ c19 := (Kd.V_reads' HO_1.out).2.1; have hC43 : Kd.F (Kd.int .i64) _ _ (some ad294) y283.length y283 := (Kd.V_at (base := w.heap.size) HO_1.out).2.2; have hcut43 := cut_from (P := Tryd.prog) 50 3 .i64 Tryd.underlying50 hi043 1 hsz43 (some ad294) y283.length c19 2 (by omega) q43; have hr43 := Kd.F_cut (m := (2 : Int).toNat) (c := c19) hC43 (by omega) hroom43; obtain ⟨A43, hA43⟩ : ∃ A1, A1 = (if c19 = (2 : Int).toNat then (some ad294) else ((some ad294) : Option Addr).map (·.add ((2 : Int).toNat * 1))) := ⟨_, rfl⟩; obtain ⟨c43, hc43⟩ : ∃ c1, c1 = c19 - (2 : Int).toNat := ⟨_, rfl⟩; have hy43 : y295.length = y283.length - (2 : Int).toNat := (by rw [Ny295.out, List.length_drop] <;> omega); rw [show (y283).drop (2 : Int).toNat = y295 from Ny295.out.symm] at hr43; replace hr43 : Kd.F (Kd.int .i64) _ _ A43 y295.length y295 := (by rw [hA43]; exact hr43); rw [← hy43, ← hA43, ← hc43] at hcut43; have HO299 := Aside0.mk (show Kd.V (Kd.int .i64) 3 _ w.heap.size _ (.slice A43 y295.length c43) y295 from Kd.V_mk (by rw [hy43, hc43]; exact Nat.sub_le_sub_right hroom43 _) hr43); have HC299 := Aside0.mk (show y295.length ≤ c43 from by rw [hy43, hc43]; exact Nat.sub_le_sub_right hroom43 _); clear hr43 hC43 hroom43 hi043 hsz43 hc43; have KY43 := Aside0.mk hy43; have KA43 := Aside0.mk hA43; clear hy43 hA43; replace q43 := eq_true q43))
                                    go_roundg kj26
                                    case measure => have := HJ4.out; have := HK2.out; have := HJ16.out; have := HJ26.out; omega
                                    case rel => exact ⟨(y295), (wrap64 ((rd y283 1) + 1)), (x277001_2), (x277002_2), H', ⟨by have := HJ4.out; have := HK2.out; have := HJ16.out; have := HJ26.out; omega⟩, ⟨by (with_reducible repeat (first | apply Kd.V_alloc | apply Kd.V_drewN | apply Kd.V_drew)); exact HO299.out⟩, ⟨by (with_reducible repeat (first | refine blk_drewN ?_ _ | refine blk_drew ?_ | refine blk_alloc ?_ _)); exact BK276.out⟩, ⟨by (with_reducible repeat (first | refine blk_drewN ?_ _ | refine blk_drew ?_ | refine blk_alloc ?_ _)); exact BK277.out⟩, ⟨by repeat (first | (with_reducible first | exact HB.out | apply below_alloc | apply pw_below_drewN | apply below_drew1 | refine below_set ?_ GE276.out | refine below_set ?_ GE277.out) | exact HB.out)⟩⟩
                                  · rw [if_neg c39] at H
                                    exact absurd H (by simp)
                                · rw [if_neg c38] at H
                                  exact absurd H (by simp)
                              · rw [if_neg c37] at H
                                have c37b0 : ((rd x1_2 0) == 38) = false := beq_eq_false_iff_ne.mpr c37
                                have c37b1 : ((rd x1_2 0) != 38) = true := bne_iff_ne.mpr c37
                                by_cases c44 : 1 < (y283.length : Int)
                                · rw [if_pos c44] at H
                                  have c44b0 : decide (1 < (y283.length : Int)) = true := decide_eq_true c44
                                  have c44b1 : decide (1 < y283.length) = true := decide_eq_true (by omega)
                                  clear c44
                                  by_cases c45 : 2 ≤ (y283.length : Int)
                                  · rw [if_pos c45] at H
                                    have c45b0 := eq_true c45
                                    have c45b1 : decide (2 ≤ (y283.length : Int)) = true := decide_eq_true c45
                                    clear c45
                                    obtain ⟨y301, hy301⟩ : ∃ y_ : List Int, y_ = (y283.drop 2) := ⟨_, rfl⟩
                                    replace H : (cell_Change.l0 kj26 y301 x277000_2 (wrap64 ((rd y283 1) + 1)) x277002_2) = some (r1, r2, r3, r4) := by first | (rw [hy301]; with_reducible exact H) | (have H2_ := (Option.bind_some _ _).symm.trans H; rw [hy301]; with_reducible exact H2_) | (have H2_ := (Option.bind_some _ _).symm.trans H; with_reducible exact H2_) | with_reducible exact H | (rw [hy301]; exact H) | exact H
                                    have Ny301 := Aside0.mk hy301
                                    clear hy301
                                    have H' := Aside0.mk H
                                    clear H
                                    have p300 : 0 ≤ (1 : Int) := (by omega)
                                    have q300 : 1 < (y283.length : Int) := of_decide_eq_true (by first | (with_reducible assumption) | assumption)
                                    obtain ⟨ad300, e300, hx300_0⟩ := Kd.at_int (Kd.V_reads' HO_1.out).2.2 1 p300 q300
                                    cases e300
                                    (try simp only [show (1 : Int).toNat = 1 from rfl, Nat.reduceMul, Nat.reduceEqDiff, Go.Addr.add, ↓reduceIte] at hx300_0)
                                    have qi300 : (1 < y283.length) = True := eq_true (by omega)
                                    (try rw [show ((1 : Int)).toNat = 1 from rfl] at hx300_0)
                                    replace p300 := eq_true p300
                                    replace q300 := eq_true q300
                                    have hnb46 := NB276_277.out
                                    have hnc46 := NB277_276.out
                                    have hcz47_0 : wc.cell? ⟨gb276, 0, none⟩ = some (.int .i64 x277000_2) := (blk_cell BK276.out 0).trans rfl
                                    have hcz47_1 : wc.cell? ⟨gb276, 1, none⟩ = some (.int .i64 x277001_2) := (blk_cell BK276.out 1).trans rfl
                                    have hcz47_2 : wc.cell? ⟨gb276, 2, none⟩ = some (.int .i64 x277002_2) := (blk_cell BK276.out 2).trans rfl
                                    have hfz47_0 := blk_frozen BK276.out 0
                                    have hfz47_1 := blk_frozen BK276.out 1
                                    have hfz47_2 := blk_frozen BK276.out 2
                                    go_wp2_with (first | ((with_reducible refine gate_store (t := 3) (p := 59) rfl ?_); refine store_event (t := 3) (p := 59) (v := ?vo_w48) (w1 := (wc.setCell ⟨gb276, 1, none⟩ (.int .i64 (wrap64 ((rd y283 1) + 1))))) ?hg ?ho ?hn ?hr ?_; (case ho => rfl); (case hg => rfl); (case hn => rfl); (case hr => first | (go_simp; done) | (go_simp; rfl)); intro w48 hw; have n0_ : Aside0 (Kd.V (Kd.int .i64) 3 w48 w.heap.size (fun k_ => (P1_ k_ ∨ w.heap.size ≤ k_) ∧ k_ ≠ gb276 ∧ k_ ≠ gb277) (.slice (some ad300) y283.length c19) y283) := ⟨(by rw [hw]; exact (by (with_reducible repeat (first | apply Kd.V_alloc | apply Kd.V_drewN | apply Kd.V_drew)); exact Kd.V_mono (Kd.V_far (p := ⟨gb276, 1, none⟩) (Kd.V_mono HO_1.out (fun k_ hk => (⟨hk, hk.2.1⟩ : _ ∧ k_ ≠ gb276))) (fun _ hk => hk.2) (.int .i64 (wrap64 ((rd y283 1) + 1)))) (fun _ hk => ⟨hk.1.1, ⟨hk.1.2.1, hk.1.2.2⟩⟩)))⟩; have n1_ : Aside0 (w48.heap[gb276]? = some (.cells #[.int .i64 x277000_2, .int .i64 (wrap64 ((rd y283 1) + 1)), .int .i64 x277002_2] 38 (0, 0))) := ⟨(by rw [hw]; exact (by (with_reducible repeat (first | refine blk_drewN ?_ _ | refine blk_drew ?_ | refine blk_alloc ?_ _)); refine blk_put (cs := #[.int .i64 x277000_2, .int .i64 x277001_2, .int .i64 x277002_2]) ?_ 1 _ rfl; (with_reducible repeat (first | refine blk_drewN ?_ _ | refine blk_drew ?_ | refine blk_alloc ?_ _)); exact BK276.out))⟩; have n2_ : Aside0 (w48.heap[gb277]? = some (.cells #[.int .i64 0, .int .i64 0, .int .i64 0] 38 (0, 0))) := ⟨(by rw [hw]; exact (by (with_reducible repeat (first | refine blk_drewN ?_ _ | refine blk_drew ?_ | refine blk_alloc ?_ _)); refine blk_far ?_ NB277_276.out _; (with_reducible repeat (first | refine blk_drewN ?_ _ | refine blk_drew ?_ | refine blk_alloc ?_ _)); exact BK277.out))⟩; have n3_ : Aside0 (Below w.heap.size w w48) := ⟨(by rw [hw]; exact (by repeat (first | (with_reducible first | exact HB.out | apply below_alloc | apply pw_below_drewN | apply below_drew1 | refine below_set ?_ GE276.out | refine below_set ?_ GE277.out) | exact HB.out)))⟩; clear hw; clear HO_1; clear BK276; clear BK277; clear HB; have HO_1 := n0_; have BK276 := n1_; have BK277 := n2_; have HB := n3_; clear n0_ n1_ n2_ n3_; have q49 : (2 : Int) ≤ ((y283.length : Int) : Int) := of_decide_eq_true (by first | (with_reducible assumption) | assumption); obtain ⟨i049, hi049, _, hsz49, _⟩ := info_parts info3; have hroom49 : y283.length ≤ c19 := (Kd.V_reads' HO_1.out).2.1; have hC49 : Kd.F (Kd.int .i64) _ _ (some ad300) y283.length y283 := (Kd.V_at (base := w.heap.size) HO_1.out).2.2; have hcut49 := cut_from (P := Tryd.prog) 50 3 .i64 Tryd.underlying50 hi049 1 hsz49 (some ad300) y283.length c19 2 (by omega) q49; have hr49 := Kd.F_cut (m := (2 : Int).toNat) (c := c19) hC49 (by omega) hroom49; obtain ⟨A49, hA49⟩ : ∃ A1, A1 = (if c19 = (2 : Int).toNat then (some ad300) else ((some ad300) : Option Addr).map (·.add ((2 : Int).toNat * 1))) := ⟨_, rfl⟩; obtain ⟨c49, hc49⟩ : ∃ c1, c1 = c19 - (2 : Int).toNat := ⟨_, rfl⟩; have hy49 : y301.length = y283.length - (2 : Int).toNat := (by rw [Ny301.out, List.length_drop] <;> omega); rw [show (y283).drop (2 : Int).toNat = y301 from Ny301.out.symm] at hr49; replace hr49 : Kd.F (Kd.int .i64) _ _ A49 y301.length y301 := (by rw [hA49]; exact hr49); rw [← hy49, ← hA49, ← hc49] at hcut49; have HO305 := Aside0.mk (show Kd.V (Kd.int .i64) 3 _ w.heap.size _ (.slice A49 y301.length c49) y301 from Kd.V_mk (by rw [hy49, hc49]; exact Nat.sub_le_sub_right hroom49 _) hr49); have HC305 := Aside0.mk (show y301.length ≤ c49 from by rw [hy49, hc49]; exact Nat.sub_le_sub_right hroom49 _); clear hr49 hC49 hroom49 hi049 hsz49 hc49; have KY49 := Aside0.mk hy49; have KA49 := Aside0.mk hA49; clear hy49 hA49; replace q49 := eq_true q49))
                                    go_roundg kj26
                                    case measure => have := HJ4.out; have := HK2.out; have := HJ16.out; have := HJ26.out; omega
                                    case rel => exact ⟨(y301), (x277000_2), (wrap64 ((rd y283 1) + 1)), (x277002_2), H', ⟨by have := HJ4.out; have := HK2.out; have := HJ16.out; have := HJ26.out; omega⟩, ⟨by (with_reducible repeat (first | apply Kd.V_alloc | apply Kd.V_drewN | apply Kd.V_drew)); exact HO305.out⟩, ⟨by (with_reducible repeat (first | refine blk_drewN ?_ _ | refine blk_drew ?_ | refine blk_alloc ?_ _)); exact BK276.out⟩, ⟨by (with_reducible repeat (first | refine blk_drewN ?_ _ | refine blk_drew ?_ | refine blk_alloc ?_ _)); exact BK277.out⟩, ⟨by repeat (first | (with_reducible first | exact HB.out | apply below_alloc | apply pw_below_drewN | apply below_drew1 | refine below_set ?_ GE276.out | refine below_set ?_ GE277.out) | exact HB.out)⟩⟩
                                  · rw [if_neg c45] at H
                                    exact absurd H (by simp)
                                · rw [if_neg c44] at H
                                  exact absurd H (by simp)
                · rw [if_neg c16] at H
                  exact absurd H (by simp)
              · rw [if_neg c15] at H
                exact absurd H (by simp)
            · rw [if_neg c14] at H
              have c14b0 : decide (0 < (x1_2.length : Int)) = false := decide_eq_false c14
              have c14b1 : decide (0 < x1_2.length) = false := decide_eq_false (by omega)
              clear c14
              simp only [Option.some.injEq, Prod.mk.injEq] at H
              obtain ⟨rfl, rfl, rfl, rfl⟩ := H
              obtain ⟨Ao50, co50, eo50⟩ := Kd.V_slice HO_1.out
              subst eo50
              have hnb51 := NB276_277.out
              have hnc51 := NB277_276.out
              have hcz52_0 : wr.cell? ⟨gb276, 0, none⟩ = some (.int .i64 x277000_2) := (blk_cell BK276.out 0).trans rfl
              have hcz52_1 : wr.cell? ⟨gb276, 1, none⟩ = some (.int .i64 x277001_2) := (blk_cell BK276.out 1).trans rfl
              have hcz52_2 : wr.cell? ⟨gb276, 2, none⟩ = some (.int .i64 x277002_2) := (blk_cell BK276.out 2).trans rfl
              have hfz52_0 := blk_frozen BK276.out 0
              have hfz52_1 := blk_frozen BK276.out 1
              have hfz52_2 := blk_frozen BK276.out 2
              have hcz53_0 : wr.cell? ⟨gb277, 0, none⟩ = some (.int .i64 0) := (blk_cell BK277.out 0).trans rfl
              have hcz53_1 : wr.cell? ⟨gb277, 1, none⟩ = some (.int .i64 0) := (blk_cell BK277.out 1).trans rfl
              have hcz53_2 : wr.cell? ⟨gb277, 2, none⟩ = some (.int .i64 0) := (blk_cell BK277.out 2).trans rfl
              have hfz53_0 := blk_frozen BK277.out 0
              have hfz53_1 := blk_frozen BK277.out 1
              have hfz53_2 := blk_frozen BK277.out 2
              go_wp2
              refine bodyPost_ret (results_ct rfl _ _ gb277 38 #[.int .i64 x277000_2, .int .i64 x277001_2, .int .i64 x277002_2] (0, 0) _ rfl (by (with_reducible repeat (first | refine blk_drewN ?_ _ | refine blk_drew ?_ | refine blk_alloc ?_ _)); refine blk_put (cs := #[.int .i64 x277000_2, .int .i64 x277001_2, .int .i64 0]) ?_ 2 _ rfl; (with_reducible repeat (first | refine blk_drewN ?_ _ | refine blk_drew ?_ | refine blk_alloc ?_ _)); refine blk_put (cs := #[.int .i64 x277000_2, .int .i64 0, .int .i64 0]) ?_ 1 _ rfl; (with_reducible repeat (first | refine blk_drewN ?_ _ | refine blk_drew ?_ | refine blk_alloc ?_ _)); refine blk_put (cs := #[.int .i64 0, .int .i64 0, .int .i64 0]) ?_ 0 _ rfl; (with_reducible repeat (first | refine blk_drewN ?_ _ | refine blk_drew ?_ | refine blk_alloc ?_ _)); exact BK277.out) Tryd.underlying38 rfl (by kernel_rfl)) rfl ?_
              exact ⟨by first | rfl | (simp [errW_none, errW_some] <;> rfl) | (simp [*, errW_none, errW_some] <;> rfl), by repeat (first | (with_reducible first | exact HB.out | apply below_alloc | apply pw_below_drewN | apply below_drew1 | refine below_set ?_ GE276.out | refine below_set ?_ GE277.out) | exact HB.out)⟩
  · replace c4 := Bool.eq_false_iff.mpr c4
    subst c4
    have H1 : (some (0, 0, 0, 1)) = some (r1, r2, r3, r4) := by rw [if_neg (show ¬ (false = true) by decide)] at H; exact H
    clear H
    have H := H1
    clear H1
    simp only [Option.some.injEq, Prod.mk.injEq] at H
    obtain ⟨rfl, rfl, rfl, rfl⟩ := H
    go_enter Tryd.func55, Tryd.ntmps55
    go_wp2_with (first | ((with_reducible refine gate_dst (N := 2) rfl ?_); refine box_event ?hg (N := 2) ?hd (cs := #[.int .i64 a0_0, .int .i64 a0_1, .int .i64 a0_2]) (t := 38) ?hr ?_; (case hd => rfl); (case hg => rfl); (case hr => first | (go_simp; done) | (go_simp; rfl)); intro gb276 hg w54 hbox hb; have n0_ := Aside0.mk (Kd.V_below (Kd.V_elderB (by (with_reducible repeat (first | apply Kd.V_alloc | apply Kd.V_drewN | apply Kd.V_drew)); exact HO1.out) gb276 (Nat.le_of_eq hg.symm)) hb); have n1_ := Aside0.mk (below_step (by repeat (first | (with_reducible first | exact HB.out | apply below_alloc | apply pw_below_drewN | apply below_drew1) | exact HB.out)) hb); have n2_ := Aside0.mk (hbox); have n3_ := Aside0.mk ((by rw [hg]; exact (below_size (by repeat (first | (with_reducible first | exact HB.out | apply below_alloc | apply pw_below_drewN | apply below_drew1) | exact HB.out))) : w.heap.size ≤ gb276)); have n4_ := Aside0.mk ((by rw [hg]; exact (below_size (by repeat (first | (with_reducible first | exact HB.out | apply below_alloc | apply pw_below_drewN | apply below_drew1) | exact HB.out))) : w.heap.size ≤ gb276)); clear HO1; clear HB; have HO1 := n0_; have HB := n1_; have BK276 := n2_; have GW276 := n3_; have GE276 := n4_; clear n0_ n1_ n2_ n3_ n4_; clear hb hbox hg) | ((with_reducible refine gate_dst (N := 4) rfl ?_); refine box_event ?hg (N := 4) ?hd (cs := #[.int .i64 0, .int .i64 0, .int .i64 0]) (t := 38) ?hr ?_; (case hd => rfl); (case hg => rfl); (case hr => first | (go_simp; done) | (go_simp; rfl)); intro gb277 hg w55 hbox hb; have n0_ := Aside0.mk (Kd.V_below (Kd.V_elderB (by (with_reducible repeat (first | apply Kd.V_alloc | apply Kd.V_drewN | apply Kd.V_drew)); exact HO1.out) gb277 (Nat.le_of_eq hg.symm)) hb); have n1_ := Aside0.mk (blk_below (g := gb276) (o := .cells #[.int .i64 a0_0, .int .i64 a0_1, .int .i64 a0_2] 38 (0, 0)) (by (with_reducible repeat (first | refine blk_drewN ?_ _ | refine blk_drew ?_ | refine blk_alloc ?_ _)); exact BK276.out) hb); have n2_ := Aside0.mk (below_step (by repeat (first | (with_reducible first | exact HB.out | apply below_alloc | apply pw_below_drewN | apply below_drew1 | refine below_set ?_ GE276.out) | exact HB.out)) hb); have n3_ := Aside0.mk (hbox); have n4_ := Aside0.mk ((by rw [hg]; exact (below_size (by repeat (first | (with_reducible first | exact HB.out | apply below_alloc | apply pw_below_drewN | apply below_drew1 | refine below_set ?_ GE276.out) | exact HB.out))) : w.heap.size ≤ gb277)); have n5_ := Aside0.mk ((by rw [hg]; exact (below_size (by repeat (first | (with_reducible first | exact HB.out | apply below_alloc | apply pw_below_drewN | apply below_drew1 | refine below_set ?_ GE276.out) | exact HB.out))) : w.heap.size ≤ gb277)); have n6_ := Aside0.mk ((by rw [hg]; exact Nat.ne_of_lt (blk_lt (g := gb276) (o := .cells #[.int .i64 a0_0, .int .i64 a0_1, .int .i64 a0_2] 38 (0, 0)) (by (with_reducible repeat (first | refine blk_drewN ?_ _ | refine blk_drew ?_ | refine blk_alloc ?_ _)); exact BK276.out)) : gb276 ≠ gb277)); have n7_ := Aside0.mk ((by rw [hg]; exact Nat.ne_of_gt (blk_lt (g := gb276) (o := .cells #[.int .i64 a0_0, .int .i64 a0_1, .int .i64 a0_2] 38 (0, 0)) (by (with_reducible repeat (first | refine blk_drewN ?_ _ | refine blk_drew ?_ | refine blk_alloc ?_ _)); exact BK276.out)) : gb277 ≠ gb276)); clear HO1; clear BK276; clear HB; have HO1 := n0_; have BK276 := n1_; have HB := n2_; have BK277 := n3_; have GW277 := n4_; have GE277 := n5_; have NB276_277 := n6_; have NB277_276 := n7_; clear n0_ n1_ n2_ n3_ n4_ n5_ n6_ n7_; clear hb hbox hg; have hnb56 := NB276_277.out; have hnc56 := NB277_276.out; have hcz57_0 : w55.cell? ⟨gb276, 0, none⟩ = some (.int .i64 a0_0) := (blk_cell BK276.out 0).trans rfl; have hcz57_1 : w55.cell? ⟨gb276, 1, none⟩ = some (.int .i64 a0_1) := (blk_cell BK276.out 1).trans rfl; have hcz57_2 : w55.cell? ⟨gb276, 2, none⟩ = some (.int .i64 a0_2) := (blk_cell BK276.out 2).trans rfl; have hfz57_0 := blk_frozen BK276.out 0; have hfz57_1 := blk_frozen BK276.out 1; have hfz57_2 := blk_frozen BK276.out 2) | ((with_reducible refine gate_callee (f := 52) rfl ?_); refine goesL_ (some 8) rfl rfl Tryd.func52 (by kernel_rfl) rfl #[.agg #[.int .i64 a0_0, .int .i64 a0_1, .int .i64 a0_2]] rfl (by (try simp only [List.map_toArray, List.map_cons, List.map_nil]); first | done | rfl | (simp only [List.length_drop, List.length_take]; rfl)) ?_; (with_reducible refine (cell_Look.calls a0_0 a0_1 a0_2 false _ A3.out).mono ?_); rintro e w58 ⟨rfl, hb⟩; refine ⟨_, rfl, ?_⟩; have n0_ := Aside0.mk (Kd.V_below (by (with_reducible repeat (first | apply Kd.V_alloc | apply Kd.V_drewN | apply Kd.V_drew)); exact HO1.out) hb); have n1_ := Aside0.mk (blk_below (g := gb276) (o := .cells #[.int .i64 a0_0, .int .i64 a0_1, .int .i64 a0_2] 38 (0, 0)) (by (with_reducible repeat (first | refine blk_drewN ?_ _ | refine blk_drew ?_ | refine blk_alloc ?_ _)); exact BK276.out) hb); have n2_ := Aside0.mk (blk_below (g := gb277) (o := .cells #[.int .i64 0, .int .i64 0, .int .i64 0] 38 (0, 0)) (by (with_reducible repeat (first | refine blk_drewN ?_ _ | refine blk_drew ?_ | refine blk_alloc ?_ _)); exact BK277.out) hb); have n3_ := Aside0.mk (below_step (by repeat (first | (with_reducible first | exact HB.out | apply below_alloc | apply pw_below_drewN | apply below_drew1 | refine below_set ?_ GE276.out | refine below_set ?_ GE277.out) | exact HB.out)) hb); clear HO1; clear BK276; clear BK277; clear HB; have HO1 := n0_; have BK276 := n1_; have BK277 := n2_; have HB := n3_; clear n0_ n1_ n2_ n3_; (try clear hb); (try clear hb2); (try clear hk); (try clear hi); have hcz59_0 : w58.cell? ⟨gb277, 0, none⟩ = some (.int .i64 0) := (blk_cell BK277.out 0).trans rfl; have hcz59_1 : w58.cell? ⟨gb277, 1, none⟩ = some (.int .i64 0) := (blk_cell BK277.out 1).trans rfl; have hcz59_2 : w58.cell? ⟨gb277, 2, none⟩ = some (.int .i64 0) := (blk_cell BK277.out 2).trans rfl; have hfz59_0 := blk_frozen BK277.out 0; have hfz59_1 := blk_frozen BK277.out 1; have hfz59_2 := blk_frozen BK277.out 2))
    refine bodyPost_ret (results_ct rfl _ _ gb277 38 #[.int .i64 0, .int .i64 0, .int .i64 0] (0, 0) _ rfl (by (with_reducible repeat (first | refine blk_drewN ?_ _ | refine blk_drew ?_ | refine blk_alloc ?_ _)); refine blk_put (cs := #[.int .i64 0, .int .i64 0, .int .i64 0]) ?_ 2 _ rfl; (with_reducible repeat (first | refine blk_drewN ?_ _ | refine blk_drew ?_ | refine blk_alloc ?_ _)); refine blk_put (cs := #[.int .i64 0, .int .i64 0, .int .i64 0]) ?_ 1 _ rfl; (with_reducible repeat (first | refine blk_drewN ?_ _ | refine blk_drew ?_ | refine blk_alloc ?_ _)); refine blk_put (cs := #[.int .i64 0, .int .i64 0, .int .i64 0]) ?_ 0 _ rfl; (with_reducible repeat (first | refine blk_drewN ?_ _ | refine blk_drew ?_ | refine blk_alloc ?_ _)); exact BK277.out) Tryd.underlying38 rfl (by kernel_rfl)) rfl ?_
    exact ⟨by first | rfl | (simp [errW_none, errW_some] <;> rfl) | (simp [*, errW_none, errW_some] <;> rfl), by repeat (first | (with_reducible first | exact HB.out | apply below_alloc | apply pw_below_drewN | apply below_drew1 | refine below_set ?_ GE276.out | refine below_set ?_ GE277.out) | exact HB.out)⟩
end Go.Proofs.YthipdgnbpdngpaaDoor.P
