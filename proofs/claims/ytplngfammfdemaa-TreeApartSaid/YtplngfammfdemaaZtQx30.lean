-- A copy of the text YtplngfammfdemaaQx30 with what this claim does not reach left out (prune.py, a program of this project).
import Derived.Test.YtplngfammfdemaaZtGMul
import Derived.Test.YtplngfammfdemaaZtQx27
import Derived.Test.YtplngfammfdemaaZtQx29
import Derived.Test.YtplngfammfdemaaZtQx14
namespace Go.Proofs.Ytplngfammfdemaa.Q
open Go.RowKit Go.Proofs.Ytplngfammfdemaa Go.Proofs.YtplngfammfdemaaW.PrintWords Go.Proofs.YtplngfammfdemaaW.PrintLast Go.Proofs.YtplngfammfdemaaW.PrintMore
attribute [local go_sem] max2_int min2_int max_two min_two max_three min_three max_four min_four   -- for this text's walks alone
set_option linter.unusedVariables false
set_option linter.unusedSimpArgs false
mutual
def backseatlaw11_TreeApart.l0 : Nat → Int → Int → List (S44) → List (S44) → Int → Int → Option (Bool)
 | 0, _, _, _, _, _, _ => none
 | k + 1, x1, x2, x7, x33, x34, x35 => if x35 < x34 then (if 0 ≤ x35 then (if x35 < (x33.length : Int) then (if ((rd_T44 x33 x35).f1) < 0 then (backseatlaw11_TreeApart.j1 k x1 x2 x7 x35 x33 x34 x35 true ((rd_T44 x33 x35).f0) ((rd_T44 x33 x35).f1) ((rd_T44 x33 x35).f2) ((rd_T44 x33 x35).f3) ((rd_T44 x33 x35).f4)) else (if ((rd_T44 x33 x35).f2) < 0 then (backseatlaw11_TreeApart.j1 k x1 x2 x7 x35 x33 x34 x35 true ((rd_T44 x33 x35).f0) ((rd_T44 x33 x35).f1) ((rd_T44 x33 x35).f2) ((rd_T44 x33 x35).f3) ((rd_T44 x33 x35).f4)) else (if ((rd_T44 x33 x35).f3) < 1 then (backseatlaw11_TreeApart.j1 k x1 x2 x7 x35 x33 x34 x35 true ((rd_T44 x33 x35).f0) ((rd_T44 x33 x35).f1) ((rd_T44 x33 x35).f2) ((rd_T44 x33 x35).f3) ((rd_T44 x33 x35).f4)) else (if ((rd_T44 x33 x35).f4) < 1 then (backseatlaw11_TreeApart.j1 k x1 x2 x7 x35 x33 x34 x35 true ((rd_T44 x33 x35).f0) ((rd_T44 x33 x35).f1) ((rd_T44 x33 x35).f2) ((rd_T44 x33 x35).f3) ((rd_T44 x33 x35).f4)) else (if (wrap64 (((rd_T44 x33 x35).f1) + ((rd_T44 x33 x35).f3))) > x1 then (backseatlaw11_TreeApart.j1 k x1 x2 x7 x35 x33 x34 x35 true ((rd_T44 x33 x35).f0) ((rd_T44 x33 x35).f1) ((rd_T44 x33 x35).f2) ((rd_T44 x33 x35).f3) ((rd_T44 x33 x35).f4)) else (backseatlaw11_TreeApart.j1 k x1 x2 x7 x35 x33 x34 x35 (decide ((wrap64 (((rd_T44 x33 x35).f2) + ((rd_T44 x33 x35).f4))) > x2)) ((rd_T44 x33 x35).f0) ((rd_T44 x33 x35).f1) ((rd_T44 x33 x35).f2) ((rd_T44 x33 x35).f3) ((rd_T44 x33 x35).f4))))))) else (none)) else (none)) else ((backseatlaw11_alive.f k).bind fun t561 => (if t561 = true then (some (decide ((x7.length : Int) ≥ 1))) else (some false)))
def backseatlaw11_TreeApart.j1 : Nat → Int → Int → List (S44) → Int → List (S44) → Int → Int → Bool → Int → Int → Int → Int → Int → Option (Bool)
 | 0, _, _, _, _, _, _, _, _, _, _, _, _, _ => none
 | k + 1, x1, x2, x7, x9, x33, x34, x35, x75, x564000, x564001, x564002, x564003, x564004 => if x75 = true then (some false) else (backseatlaw11_TreeApart.l1 k x1 x2 x7 x33 x34 x35 x7 x9 0 x564000 x564001 x564002 x564003 x564004)
def backseatlaw11_TreeApart.l1 : Nat → Int → Int → List (S44) → List (S44) → Int → Int → List (S44) → Int → Int → Int → Int → Int → Int → Int → Option (Bool)
 | 0, _, _, _, _, _, _, _, _, _, _, _, _, _, _ => none
 | k + 1, x1, x2, x7, x33, x34, x35, x78, x79, x80, x564000, x564001, x564002, x564003, x564004 => if x80 < x79 then (if 0 ≤ x80 then (if x80 < (x78.length : Int) then (if (wrap64 (x564001 + x564003)) < ((rd_T44 x78 x80).f1) then (backseatlaw11_TreeApart.l1 k x1 x2 x7 x33 x34 x35 x78 x79 (wrap64 (x80 + 1)) x564000 x564001 x564002 x564003 x564004) else (if (wrap64 (((rd_T44 x78 x80).f1) + ((rd_T44 x78 x80).f3))) < x564001 then (backseatlaw11_TreeApart.l1 k x1 x2 x7 x33 x34 x35 x78 x79 (wrap64 (x80 + 1)) x564000 x564001 x564002 x564003 x564004) else (if (wrap64 (x564002 + x564004)) < ((rd_T44 x78 x80).f2) then (backseatlaw11_TreeApart.l1 k x1 x2 x7 x33 x34 x35 x78 x79 (wrap64 (x80 + 1)) x564000 x564001 x564002 x564003 x564004) else (if ((wrap64 (((rd_T44 x78 x80).f2) + ((rd_T44 x78 x80).f4))) < x564002) then (backseatlaw11_TreeApart.l1 k x1 x2 x7 x33 x34 x35 x78 x79 (wrap64 (x80 + 1)) x564000 x564001 x564002 x564003 x564004) else (some false))))) else (none)) else (none)) else (backseatlaw11_TreeApart.l0 k x1 x2 x7 x33 x34 (wrap64 (x35 + 1)))
end
def backseatlaw11_TreeApart.f (k : Nat) (a0_0 : Int) (a0_1 : Int) (a0_2 : Int) (l0_3 : List (S31)) (a1 : Int) (a2 : Int) : Option (Bool) := (backseatref11_Count.f k a0_0 a0_1 a0_2 l0_3 60).bind fun t554 => (if t554 > 60 then ((backseatlaw11_alive.f k).bind fun t555 => (some t555)) else ((tree_Rects.f k a0_0 a0_1 a0_2 l0_3 a1 a2).bind fun bt556 => (if bt556.2 = 0 then (backseatlaw11_TreeApart.l0 k a1 a2 bt556.1 bt556.1 (bt556.1.length : Int) 0) else ((backseatlaw11_alive.f k).bind fun t560 => (if t560 = true then (some ((bt556.1.length : Int) == 0)) else (some false))))))
theorem backseatlaw11_TreeApart.mono_l : ∀ k, (∀ y0 y1 y2 y3 y4 y5, LeO (backseatlaw11_TreeApart.l0 k y0 y1 y2 y3 y4 y5) (backseatlaw11_TreeApart.l0 (k + 1) y0 y1 y2 y3 y4 y5)) ∧ (∀ y0 y1 y2 y3 y4 y5 y6 y7 y8 y9 y10 y11 y12, LeO (backseatlaw11_TreeApart.j1 k y0 y1 y2 y3 y4 y5 y6 y7 y8 y9 y10 y11 y12) (backseatlaw11_TreeApart.j1 (k + 1) y0 y1 y2 y3 y4 y5 y6 y7 y8 y9 y10 y11 y12)) ∧ (∀ y0 y1 y2 y3 y4 y5 y6 y7 y8 y9 y10 y11 y12 y13, LeO (backseatlaw11_TreeApart.l1 k y0 y1 y2 y3 y4 y5 y6 y7 y8 y9 y10 y11 y12 y13) (backseatlaw11_TreeApart.l1 (k + 1) y0 y1 y2 y3 y4 y5 y6 y7 y8 y9 y10 y11 y12 y13))
 | 0 => ⟨fun _ _ _ _ _ _ r h => by simp [backseatlaw11_TreeApart.l0] at h, fun _ _ _ _ _ _ _ _ _ _ _ _ _ r h => by simp [backseatlaw11_TreeApart.j1] at h, fun _ _ _ _ _ _ _ _ _ _ _ _ _ _ r h => by simp [backseatlaw11_TreeApart.l1] at h⟩
 | k + 1 => by
  obtain ⟨ih0, ih1, ih2⟩ := backseatlaw11_TreeApart.mono_l k
  refine ⟨?_, ?_, ?_⟩
  ·intro y0 y1 y2 y3 y4 y5
   unfold backseatlaw11_TreeApart.l0
   repeat' first
   | (with_reducible exact ih0 _ _ _ _ _ _)
   | (with_reducible exact ih1 _ _ _ _ _ _ _ _ _ _ _ _ _)
   | (with_reducible exact ih2 _ _ _ _ _ _ _ _ _ _ _ _ _ _)
   | (with_reducible exact backseatlaw11_alive.mono _)
   | (with_reducible exact backseatref11_Count.mono _ _ _ _ _ _)
   | (with_reducible exact tree_Rects.mono _ _ _ _ _ _ _)
   | (with_reducible exact LeO.refl _)
   | (with_reducible exact LeO.none _)
   | (with_reducible refine LeO.ite ?_ ?_)
   | (with_reducible refine LeO.bind ?_ (fun _ => ?_))
   | exact ih0 _ _ _ _ _ _
   | exact ih1 _ _ _ _ _ _ _ _ _ _ _ _ _
   | exact ih2 _ _ _ _ _ _ _ _ _ _ _ _ _ _
   | exact backseatlaw11_alive.mono _
   | exact backseatref11_Count.mono _ _ _ _ _ _
   | exact tree_Rects.mono _ _ _ _ _ _ _
   | exact LeO.none _
   | refine LeO.ite ?_ ?_
   | refine LeO.bind ?_ (fun _ => ?_)
  ·intro y0 y1 y2 y3 y4 y5 y6 y7 y8 y9 y10 y11 y12
   unfold backseatlaw11_TreeApart.j1
   repeat' first
   | (with_reducible exact ih0 _ _ _ _ _ _)
   | (with_reducible exact ih1 _ _ _ _ _ _ _ _ _ _ _ _ _)
   | (with_reducible exact ih2 _ _ _ _ _ _ _ _ _ _ _ _ _ _)
   | (with_reducible exact backseatlaw11_alive.mono _)
   | (with_reducible exact backseatref11_Count.mono _ _ _ _ _ _)
   | (with_reducible exact tree_Rects.mono _ _ _ _ _ _ _)
   | (with_reducible exact LeO.refl _)
   | (with_reducible exact LeO.none _)
   | (with_reducible refine LeO.ite ?_ ?_)
   | (with_reducible refine LeO.bind ?_ (fun _ => ?_))
   | exact ih0 _ _ _ _ _ _
   | exact ih1 _ _ _ _ _ _ _ _ _ _ _ _ _
   | exact ih2 _ _ _ _ _ _ _ _ _ _ _ _ _ _
   | exact backseatlaw11_alive.mono _
   | exact backseatref11_Count.mono _ _ _ _ _ _
   | exact tree_Rects.mono _ _ _ _ _ _ _
   | exact LeO.none _
   | refine LeO.ite ?_ ?_
   | refine LeO.bind ?_ (fun _ => ?_)
  ·intro y0 y1 y2 y3 y4 y5 y6 y7 y8 y9 y10 y11 y12 y13
   unfold backseatlaw11_TreeApart.l1
   repeat' first
   | (with_reducible exact ih0 _ _ _ _ _ _)
   | (with_reducible exact ih1 _ _ _ _ _ _ _ _ _ _ _ _ _)
   | (with_reducible exact ih2 _ _ _ _ _ _ _ _ _ _ _ _ _ _)
   | (with_reducible exact backseatlaw11_alive.mono _)
   | (with_reducible exact backseatref11_Count.mono _ _ _ _ _ _)
   | (with_reducible exact tree_Rects.mono _ _ _ _ _ _ _)
   | (with_reducible exact LeO.refl _)
   | (with_reducible exact LeO.none _)
   | (with_reducible refine LeO.ite ?_ ?_)
   | (with_reducible refine LeO.bind ?_ (fun _ => ?_))
   | exact ih0 _ _ _ _ _ _
   | exact ih1 _ _ _ _ _ _ _ _ _ _ _ _ _
   | exact ih2 _ _ _ _ _ _ _ _ _ _ _ _ _ _
   | exact backseatlaw11_alive.mono _
   | exact backseatref11_Count.mono _ _ _ _ _ _
   | exact tree_Rects.mono _ _ _ _ _ _ _
   | exact LeO.none _
   | refine LeO.ite ?_ ?_
   | refine LeO.bind ?_ (fun _ => ?_)
theorem backseatlaw11_TreeApart.mono : ∀ a0 a1 a2 a3 a4 a5 k, LeO (backseatlaw11_TreeApart.f k a0 a1 a2 a3 a4 a5) (backseatlaw11_TreeApart.f (k + 1) a0 a1 a2 a3 a4 a5) := by
 intro a0 a1 a2 a3 a4 a5 k
 obtain ⟨ih0, ih1, ih2⟩ := backseatlaw11_TreeApart.mono_l k
 unfold backseatlaw11_TreeApart.f
 repeat' first
  | (with_reducible exact ih0 _ _ _ _ _ _)
  | (with_reducible exact ih1 _ _ _ _ _ _ _ _ _ _ _ _ _)
  | (with_reducible exact ih2 _ _ _ _ _ _ _ _ _ _ _ _ _ _)
  | (with_reducible exact backseatlaw11_alive.mono _)
  | (with_reducible exact backseatref11_Count.mono _ _ _ _ _ _)
  | (with_reducible exact tree_Rects.mono _ _ _ _ _ _ _)
  | (with_reducible exact LeO.refl _)
  | (with_reducible exact LeO.none _)
  | (with_reducible refine LeO.ite ?_ ?_)
  | (with_reducible refine LeO.bind ?_ (fun _ => ?_))
  | exact ih0 _ _ _ _ _ _
  | exact ih1 _ _ _ _ _ _ _ _ _ _ _ _ _
  | exact ih2 _ _ _ _ _ _ _ _ _ _ _ _ _ _
  | exact backseatlaw11_alive.mono _
  | exact backseatref11_Count.mono _ _ _ _ _ _
  | exact tree_Rects.mono _ _ _ _ _ _ _
  | exact LeO.none _
  | refine LeO.ite ?_ ?_
  | refine LeO.bind ?_ (fun _ => ?_)
set_option maxHeartbeats 8000000 in
set_option maxRecDepth 100000 in
theorem backseatlaw11_TreeApart.calls (k : Nat) (a0_0 : Int) (a0_1 : Int) (a0_2 : Int) (A0_3 : Option Addr) (c0_3 : Nat) (l0_3 : List (S31)) (a1 : Int) (a2 : Int) (r : Bool) (w : World) (hr0_3 : Kd.C k31 w A0_3 l0_3.length l0_3) (hc0_3 : l0_3.length ≤ c0_3) (h : backseatlaw11_TreeApart.f k a0_0 a0_1 a0_2 l0_3 a1 a2 = some r) :
 Calls Try.prog 7 #[.agg #[.int .i64 a0_0, .int .i64 a0_1, .int .i64 a0_2, .slice A0_3 l0_3.length c0_3], .int .i64 a1, .int .i64 a2] w fun e w' => e = .returned (.bool r) ∧ Below w.heap.size w w' := by
 have hu31 := Try.underlying31
 have hu44 := Try.underlying44
 have HR0_3 := zM hr0_3
 have HC0_3 := zM hc0_3
 clear hr0_3 hc0_3
 have HB := zM (Below.refl w.heap.size w)
 have H : ((backseatref11_Count.f k a0_0 a0_1 a0_2 l0_3 60).bind fun t554 => (if t554 > 60 then ((backseatlaw11_alive.f k).bind fun t555 => (some t555)) else ((tree_Rects.f k a0_0 a0_1 a0_2 l0_3 a1 a2).bind fun bt556 => (if bt556.2 = 0 then (backseatlaw11_TreeApart.l0 k a1 a2 bt556.1 bt556.1 (bt556.1.length : Int) 0) else ((backseatlaw11_alive.f k).bind fun t560 => (if t560 = true then (some ((bt556.1.length : Int) == 0)) else (some false))))))) = some r := h
 clear h
 replace H := Option.bind_eq_some_iff.mp H
 obtain ⟨t554, A40, H⟩ := H
 replace H : (if t554 > 60 then ((backseatlaw11_alive.f k).bind fun t555 => (some t555)) else ((tree_Rects.f k a0_0 a0_1 a0_2 l0_3 a1 a2).bind fun bt556 => (if bt556.2 = 0 then (backseatlaw11_TreeApart.l0 k a1 a2 bt556.1 bt556.1 (bt556.1.length : Int) 0) else ((backseatlaw11_alive.f k).bind fun t560 => (if t560 = true then (some ((bt556.1.length : Int) == 0)) else (some false)))))) = some r := H
 have A4 := zM A40
 clear A40
 by_cases c5 : t554 > 60
 ·rw [if_pos c5] at H
  have c5b0 : decide (60 < t554) = true := decide_eq_true c5
  clear c5
  replace H := Option.bind_eq_some_iff.mp H
  obtain ⟨t555, A60, H⟩ := H
  replace H : (some t555) = some r := H
  have A6 := zM A60
  clear A60
  obtain rfl := Option.some.inj H
  go_enter Try.func7, Try.ntmps7
  go_wp2_with (first | ((with_reducible refine gate_dst (N := 3) rfl ?_); (try (refine gate_guard (by rfl) ?_; dsimp only)); refine box_event ?hg (N := 3) ?hd (cs := #[.int .i64 a0_0, .int .i64 a0_1, .int .i64 a0_2, .slice A0_3 l0_3.length c0_3]) (t := 31) ?hr ?_; (case hd => rfl); (case hg => rfl); (case hr => first | (go_simp; done) | (go_simp; rfl)); intro gb553 hg w7 hbox hb; have BK553 := zM (hbox); have GW553 := zM ((by rw [hg]; exact (below_size (by first | exact HB.out | exact zN HB.out _ | exact zD HB.out)) : w.heap.size ≤ gb553)); have GE553 := GW553; replace HB := zM (below_step (by first | exact HB.out | exact zN HB.out _ | exact zD HB.out) hb); clear hb hbox hg; obtain ⟨hcz8_0, hcz8_1, hcz8_2, hcz8_3, hfz8_0, hfz8_1, hfz8_2, hfz8_3⟩ := cz4 BK553.out) | ((with_reducible refine gate_callee (f := 27) rfl ?_); refine ga (some 15) rfl rfl Try.func27 (by kernel_rfl) rfl #[.agg #[.int .i64 a0_0, .int .i64 a0_1, .int .i64 a0_2, .slice A0_3 l0_3.length c0_3], .int .i64 60] rfl ?_; (with_reducible refine (backseatref11_Count.calls k a0_0 a0_1 a0_2 _ _ l0_3 60 t554 _ ?side1 ?side2 A4.out).mono ?_); (case side1 => repeat (first | exact (Kd.C_below HR0_3.out HB.out) | (with_reducible refine Kd.C_alloc ?_ _) | (with_reducible refine Kd.C_drewN ?_ _) | (with_reducible refine Kd.C_drew ?_))); (case side2 => exact HC0_3.out); rintro e w9 ⟨rfl, hb⟩; refine ⟨_, rfl, ?_⟩; replace BK553 := zM (bb hb BK553.out); replace HB := zM (below_step (by repeat first | refine zS ?_ GE553.out | exact HB.out | apply zA | apply zN | apply zD) hb); (try clear hb); (try clear hb2); (try clear hk); (try clear hi)) | ((with_reducible refine gate_callee (f := 28) rfl ?_); refine ga (some 17) rfl rfl Try.func28 (by kernel_rfl) rfl #[] rfl ?_; (with_reducible refine (backseatlaw11_alive.calls k  t555 _ A6.out).mono ?_); rintro e w10 ⟨rfl, hb⟩; refine ⟨_, rfl, ?_⟩; replace BK553 := zM (bb hb BK553.out); replace HB := zM (below_step (by repeat first | refine zS ?_ GE553.out | exact HB.out | apply zA | apply zN | apply zD) hb); (try clear hb); (try clear hb2); (try clear hk); (try clear hi)))
  go_ret
  exact ⟨by first | rfl | (simp [errW_none, errW_some] <;> rfl) | (simp [*, errW_none, errW_some] <;> rfl), by repeat first | refine zS ?_ GE553.out | exact HB.out | apply zA | apply zN | apply zD⟩
 ·rw [if_neg c5] at H
  have c5b0 : decide (60 < t554) = false := decide_eq_false c5
  clear c5
  replace H := Option.bind_eq_some_iff.mp H
  obtain ⟨⟨t556, t559⟩, A110, H⟩ := H
  replace H : (if t559 = 0 then (backseatlaw11_TreeApart.l0 k a1 a2 t556 t556 (t556.length : Int) 0) else ((backseatlaw11_alive.f k).bind fun t560 => (if t560 = true then (some ((t556.length : Int) == 0)) else (some false)))) = some r := H
  have A11 := zM A110
  clear A110
  by_cases c12 : t559 = 0
  ·rw [if_pos c12] at H
   have c12b0 : (t559 == 0) = true := beq_iff_eq.mpr c12
   have c12b1 : (t559 != 0) = false := bne_eq_false_iff_eq.mpr c12
   clear c12
   have H' := zM H
   clear H
   go_enter Try.func7, Try.ntmps7
   go_wp2_with (first | ((with_reducible refine gate_dst (N := 3) rfl ?_); (try (refine gate_guard (by rfl) ?_; dsimp only)); refine box_event ?hg (N := 3) ?hd (cs := #[.int .i64 a0_0, .int .i64 a0_1, .int .i64 a0_2, .slice A0_3 l0_3.length c0_3]) (t := 31) ?hr ?_; (case hd => rfl); (case hg => rfl); (case hr => first | (go_simp; done) | (go_simp; rfl)); intro gb553 hg w13 hbox hb; have BK553 := zM (hbox); have GW553 := zM ((by rw [hg]; exact (below_size (by first | exact HB.out | exact zN HB.out _ | exact zD HB.out)) : w.heap.size ≤ gb553)); have GE553 := GW553; replace HB := zM (below_step (by first | exact HB.out | exact zN HB.out _ | exact zD HB.out) hb); clear hb hbox hg; obtain ⟨hcz14_0, hcz14_1, hcz14_2, hcz14_3, hfz14_0, hfz14_1, hfz14_2, hfz14_3⟩ := cz4 BK553.out) | ((with_reducible refine gate_callee (f := 27) rfl ?_); refine ga (some 15) rfl rfl Try.func27 (by kernel_rfl) rfl #[.agg #[.int .i64 a0_0, .int .i64 a0_1, .int .i64 a0_2, .slice A0_3 l0_3.length c0_3], .int .i64 60] rfl ?_; (with_reducible refine (backseatref11_Count.calls k a0_0 a0_1 a0_2 _ _ l0_3 60 t554 _ ?side1 ?side2 A4.out).mono ?_); (case side1 => repeat (first | exact (Kd.C_below HR0_3.out HB.out) | (with_reducible refine Kd.C_alloc ?_ _) | (with_reducible refine Kd.C_drewN ?_ _) | (with_reducible refine Kd.C_drew ?_))); (case side2 => exact HC0_3.out); rintro e w15 ⟨rfl, hb⟩; refine ⟨_, rfl, ?_⟩; replace BK553 := zM (bb hb BK553.out); replace HB := zM (below_step (by repeat first | refine zS ?_ GE553.out | exact HB.out | apply zA | apply zN | apply zD) hb); (try clear hb); (try clear hb2); (try clear hk); (try clear hi); obtain ⟨hcz16_0, hcz16_1, hcz16_2, hcz16_3, hfz16_0, hfz16_1, hfz16_2, hfz16_3⟩ := cz4 BK553.out) | ((with_reducible refine gate_callee (f := 18) rfl ?_); refine ga (some 22) rfl rfl Try.func18 (by kernel_rfl) rfl #[.agg #[.int .i64 a0_0, .int .i64 a0_1, .int .i64 a0_2, .slice A0_3 l0_3.length c0_3], .int .i64 a1, .int .i64 a2] rfl ?_; (with_reducible refine (tree_Rects.calls k a0_0 a0_1 a0_2 _ _ l0_3 a1 a2 t556 t559 _ ?side1 ?side2 A11.out).mono ?_); (case side1 => repeat (first | exact (Kd.C_below HR0_3.out HB.out) | (with_reducible refine Kd.C_alloc ?_ _) | (with_reducible refine Kd.C_drewN ?_ _) | (with_reducible refine Kd.C_drew ?_))); (case side2 => exact HC0_3.out); rintro e w17 ⟨v557, rfl, ho0, hb⟩; refine ⟨_, rfl, ?_⟩; have HO558 := zM (Kd.R_lower ho0 (below_size (by repeat first | refine zS ?_ GE553.out | exact HB.out | apply zA | apply zN | apply zD))); replace BK553 := zM (bb hb BK553.out); replace HB := zM (below_step (by repeat first | refine zS ?_ GE553.out | exact HB.out | apply zA | apply zN | apply zD) hb); (try clear hb); (try clear hb2); (try clear hk); (try clear hi); (try clear ho0); obtain ⟨Ao18, co18, eo18⟩ := Kd.R_slice HO558.out; subst eo18))
   go_loopg [35] k (fun kq v35 w' => ∃ (x35_1 : Int), v35 = .int .i64 x35_1 ∧ Aside0 (backseatlaw11_TreeApart.l0 kq a1 a2 t556 t556 (t556.length : Int) x35_1 = some r) ∧ Aside0 (kq ≤ k) ∧ Aside0 (Kd.R k44 44 w' w.heap.size (fun _ => True) (.slice Ao18 t556.length co18) t556) ∧ Aside0 (Kd.R k44 44 w' w.heap.size (fun _ => True) (.slice Ao18 t556.length co18) t556) ∧ Aside0 (w'.heap[gb553]? = some (.cells #[.int .i64 a0_0, .int .i64 a0_1, .int .i64 a0_2, (.slice A0_3 l0_3.length c0_3)] 31 (0, 0))) ∧ Aside0 (Below w.heap.size w w'))
   case atStart => exact ⟨(0), (by first | rfl | (simp; done) | (simp [*]; done)), H', ⟨Nat.le_refl _⟩, ⟨by (with_reducible repeat (first | apply Kd.R_alloc | apply Kd.R_drewN | apply Kd.R_drew)); exact HO558.out⟩, ⟨by (with_reducible repeat (first | apply Kd.R_alloc | apply Kd.R_drewN | apply Kd.R_drew)); exact HO558.out⟩, ⟨by (with_reducible repeat (first | refine blk_drewN ?_ _ | refine blk_drew ?_ | refine blk_alloc ?_ _)); exact BK553.out⟩, ⟨by repeat first | refine zS ?_ GE553.out | exact HB.out | apply zA | apply zN | apply zD⟩⟩
   case round =>
    clear H'
    (try clear c1); (try clear c2); (try clear p2); (try clear c5); (try clear c5b0); (try clear c7); (try clear c12); (try clear c12b0); (try clear c12b1); (try clear c18); (try clear hcz14_0); (try clear hcz14_1); (try clear hcz14_2); (try clear hcz14_3); (try clear hcz16_0); (try clear hcz16_1); (try clear hcz16_2); (try clear hcz16_3); (try clear hcz8_0); (try clear hcz8_1); (try clear hcz8_2); (try clear hcz8_3); (try clear hfz14_0); (try clear hfz14_1); (try clear hfz14_2); (try clear hfz14_3); (try clear hfz16_0); (try clear hfz16_1); (try clear hfz16_2); (try clear hfz16_3); (try clear hfz8_0); (try clear hfz8_1); (try clear hfz8_2); (try clear hfz8_3)
    obtain ⟨x35_1, rfl, HA, HK1, HO_7, HO_33, BK553, HB⟩ := hrel
    cases gk with
    | zero => exact absurd HA.out (by simp [backseatlaw11_TreeApart.l0])
    | succ k1 =>
     have H := HA.out
     clear HA
     simp only [backseatlaw11_TreeApart.l0] at H
     by_cases c19 : x35_1 < (t556.length : Int)
     ·rw [if_pos c19] at H
      have c19b0 : decide (x35_1 < (t556.length : Int)) = true := decide_eq_true c19
      clear c19
      by_cases c20 : 0 ≤ x35_1
      ·rw [if_pos c20] at H
       have c20b0 : decide (0 ≤ x35_1) = true := decide_eq_true c20
       clear c20
       by_cases c21 : x35_1 < (t556.length : Int)
       ·rw [if_pos c21] at H
        have c21b0 : decide (x35_1 < (t556.length : Int)) = true := decide_eq_true c21
        clear c21
        have HC22 := zM H
        clear H
        have p562 : 0 ≤ (x35_1 : Int) := of_decide_eq_true (by first | (with_reducible assumption) | assumption)
        have q562 : x35_1 < (t556.length : Int) := of_decide_eq_true (by first | (with_reducible assumption) | assumption)
        obtain ⟨ad562, e562, hx562_0, hx562_1, hx562_2, hx562_3, hx562_4⟩ := at_T44 (Kd.R_reads' HO_33.out).2.2 x35_1 p562 q562
        cases e562
        replace p562 := eq_true p562
        replace q562 := eq_true q562
        go_upto_region 9 with (first | ((with_reducible refine gate_dst (N := 10) rfl ?_); (try (refine gate_guard (by rfl) ?_; dsimp only)); refine box_event ?hg (N := 10) ?hd (cs := #[.int .i64 0, .int .i64 0, .int .i64 0, .int .i64 0, .int .i64 0]) (t := 44) ?hr ?_; (case hd => rfl); (case hg => rfl); (case hr => first | (go_simp; done) | (go_simp; rfl)); intro gb563 hg w23 hbox hb; have BK563 := zM (hbox); have GW563 := zM ((by rw [hg]; exact (below_size (by repeat first | refine zS ?_ GE553.out | exact HB.out | apply zA | apply zN | apply zD)) : w.heap.size ≤ gb563)); have GE563 := GW563; have NB553_563 := zM ((by rw [hg]; exact lt1 BK553.out : gb553 ≠ gb563)); have NB563_553 := zM ((by rw [hg]; exact gt1 BK553.out : gb563 ≠ gb553)); replace HO_7 := zM (Kd.R_below (Kd.R_elderB (by (with_reducible repeat (first | apply Kd.R_alloc | apply Kd.R_drewN | apply Kd.R_drew)); exact HO_7.out) gb563 (Nat.le_of_eq hg.symm)) hb); replace HO_33 := zM (Kd.R_below (Kd.R_elderB (by (with_reducible repeat (first | apply Kd.R_alloc | apply Kd.R_drewN | apply Kd.R_drew)); exact HO_33.out) gb563 (Nat.le_of_eq hg.symm)) hb); replace BK553 := zM (bb hb BK553.out); replace HB := zM (below_step (by repeat first | refine zS ?_ GE553.out | exact HB.out | apply zA | apply zN | apply zD) hb); clear hb hbox hg; have hnb24 := NB563_553.out; have hnc24 := NB553_563.out; obtain ⟨hcz25_0, hcz25_1, hcz25_2, hcz25_3, hcz25_4, hfz25_0, hfz25_1, hfz25_2, hfz25_3, hfz25_4⟩ := cz5 BK563.out))
        (try simp only [Act.put, List.setIfInBounds_toArray, List.set_cons_zero, List.set_cons_succ])
        go_cut [75] (fun v75 wc => ∃ (kq : Nat) (x75_21 : Bool), v75 = .bool x75_21 ∧ Aside0 (backseatlaw11_TreeApart.j1 kq a1 a2 t556 x35_1 t556 (t556.length : Int) x35_1 x75_21 ((rd_T44 t556 x35_1).f0) ((rd_T44 t556 x35_1).f1) ((rd_T44 t556 x35_1).f2) ((rd_T44 t556 x35_1).f3) ((rd_T44 t556 x35_1).f4) = some r) ∧ Aside0 (kq ≤ k1) ∧ Aside0 (Kd.R k44 44 wc w.heap.size (fun k_ => k_ ≠ gb563) (.slice (some ad562) t556.length co18) t556) ∧ Aside0 (Kd.R k44 44 wc w.heap.size (fun k_ => k_ ≠ gb563) (.slice (some ad562) t556.length co18) t556) ∧ Aside0 (wc.heap[gb553]? = some (.cells #[.int .i64 a0_0, .int .i64 a0_1, .int .i64 a0_2, (.slice A0_3 l0_3.length c0_3)] 31 (0, 0))) ∧ Aside0 (wc.heap[gb563]? = some (.cells #[.int .i64 ((rd_T44 t556 x35_1).f0), .int .i64 ((rd_T44 t556 x35_1).f1), .int .i64 ((rd_T44 t556 x35_1).f2), .int .i64 ((rd_T44 t556 x35_1).f3), .int .i64 ((rd_T44 t556 x35_1).f4)] 44 (0, 0))) ∧ Aside0 (Below w.heap.size w wc))
        case first =>
         have H := HC22.out
         clear HC22
         by_cases c26 : ((rd_T44 t556 x35_1).f1) < 0
         ·rw [if_pos c26] at H
          have c26b0 : decide (((rd_T44 t556 x35_1).f1) < 0) = true := decide_eq_true c26
          clear c26
          (first | rw [c26b0] | (simp only [i64_w, i32_w]; rw [c26b0]) | skip)
          have H' := zM H
          clear H
          have hnb27 := NB563_553.out
          have hnc27 := NB553_563.out
          have hcz28_0 : w23.cell? ⟨gb563, 0, none⟩ = some (.int .i64 0) := (blk_cell BK563.out 0).trans rfl
          have hcz28_1 : w23.cell? ⟨gb563, 1, none⟩ = some (.int .i64 0) := (blk_cell BK563.out 1).trans rfl
          have hcz28_2 : w23.cell? ⟨gb563, 2, none⟩ = some (.int .i64 0) := (blk_cell BK563.out 2).trans rfl
          have hcz28_3 : w23.cell? ⟨gb563, 3, none⟩ = some (.int .i64 0) := (blk_cell BK563.out 3).trans rfl
          have hcz28_4 : w23.cell? ⟨gb563, 4, none⟩ = some (.int .i64 0) := (blk_cell BK563.out 4).trans rfl
          have hfz28_0 := blk_frozen BK563.out 0
          have hfz28_1 := blk_frozen BK563.out 1
          have hfz28_2 := blk_frozen BK563.out 2
          have hfz28_3 := blk_frozen BK563.out 3
          have hfz28_4 := blk_frozen BK563.out 4
          go_wp2
          go_meet
          case rel => exact ⟨_, (true), (by first | rfl | (simp; done) | (simp [*]; done)), H', ⟨by have := HK1.out; first | omega | exact Nat.le_refl _⟩, ⟨by (with_reducible repeat (first | apply Kd.R_alloc | apply Kd.R_drewN | apply Kd.R_drew)); exact Kd.R_mono (Kd.R_far (p := ⟨gb563, 4, none⟩) (Kd.R_far (p := ⟨gb563, 3, none⟩) (Kd.R_far (p := ⟨gb563, 2, none⟩) (Kd.R_far (p := ⟨gb563, 1, none⟩) (Kd.R_far (p := ⟨gb563, 0, none⟩) (Kd.R_mono HO_7.out (fun k_ hk => (⟨hk, hk.2⟩ : _ ∧ k_ ≠ gb563))) (fun _ hk => hk.2) (.int .i64 ((rd_T44 t556 x35_1).f0))) (fun _ hk => hk.2) (.int .i64 ((rd_T44 t556 x35_1).f1))) (fun _ hk => hk.2) (.int .i64 ((rd_T44 t556 x35_1).f2))) (fun _ hk => hk.2) (.int .i64 ((rd_T44 t556 x35_1).f3))) (fun _ hk => hk.2) (.int .i64 ((rd_T44 t556 x35_1).f4))) (fun _ hk => hk.1.2)⟩, ⟨by (with_reducible repeat (first | apply Kd.R_alloc | apply Kd.R_drewN | apply Kd.R_drew)); exact Kd.R_mono (Kd.R_far (p := ⟨gb563, 4, none⟩) (Kd.R_far (p := ⟨gb563, 3, none⟩) (Kd.R_far (p := ⟨gb563, 2, none⟩) (Kd.R_far (p := ⟨gb563, 1, none⟩) (Kd.R_far (p := ⟨gb563, 0, none⟩) (Kd.R_mono HO_33.out (fun k_ hk => (⟨hk, hk.2⟩ : _ ∧ k_ ≠ gb563))) (fun _ hk => hk.2) (.int .i64 ((rd_T44 t556 x35_1).f0))) (fun _ hk => hk.2) (.int .i64 ((rd_T44 t556 x35_1).f1))) (fun _ hk => hk.2) (.int .i64 ((rd_T44 t556 x35_1).f2))) (fun _ hk => hk.2) (.int .i64 ((rd_T44 t556 x35_1).f3))) (fun _ hk => hk.2) (.int .i64 ((rd_T44 t556 x35_1).f4))) (fun _ hk => hk.1.2)⟩, ⟨by exact (far5 NB553_563.out BK553.out)⟩, ⟨by exact (put5 BK563.out)⟩, ⟨by repeat first | refine zS ?_ GE553.out | refine zS ?_ GE563.out | exact HB.out | apply zA | apply zN | apply zD⟩⟩
         ·rw [if_neg c26] at H
          have c26b0 : decide (((rd_T44 t556 x35_1).f1) < 0) = false := decide_eq_false c26
          clear c26
          (first | rw [c26b0] | (simp only [i64_w, i32_w]; rw [c26b0]) | skip)
          by_cases c29 : ((rd_T44 t556 x35_1).f2) < 0
          ·rw [if_pos c29] at H
           have c29b0 : decide (((rd_T44 t556 x35_1).f2) < 0) = true := decide_eq_true c29
           clear c29
           have H' := zM H
           clear H
           have hnb30 := NB563_553.out
           have hnc30 := NB553_563.out
           have hcz31_0 : w23.cell? ⟨gb563, 0, none⟩ = some (.int .i64 0) := (blk_cell BK563.out 0).trans rfl
           have hcz31_1 : w23.cell? ⟨gb563, 1, none⟩ = some (.int .i64 0) := (blk_cell BK563.out 1).trans rfl
           have hcz31_2 : w23.cell? ⟨gb563, 2, none⟩ = some (.int .i64 0) := (blk_cell BK563.out 2).trans rfl
           have hcz31_3 : w23.cell? ⟨gb563, 3, none⟩ = some (.int .i64 0) := (blk_cell BK563.out 3).trans rfl
           have hcz31_4 : w23.cell? ⟨gb563, 4, none⟩ = some (.int .i64 0) := (blk_cell BK563.out 4).trans rfl
           have hfz31_0 := blk_frozen BK563.out 0
           have hfz31_1 := blk_frozen BK563.out 1
           have hfz31_2 := blk_frozen BK563.out 2
           have hfz31_3 := blk_frozen BK563.out 3
           have hfz31_4 := blk_frozen BK563.out 4
           go_wp2
           go_meet
           case rel => exact ⟨_, (true), (by first | rfl | (simp; done) | (simp [*]; done)), H', ⟨by have := HK1.out; first | omega | exact Nat.le_refl _⟩, ⟨by (with_reducible repeat (first | apply Kd.R_alloc | apply Kd.R_drewN | apply Kd.R_drew)); exact Kd.R_mono (Kd.R_far (p := ⟨gb563, 4, none⟩) (Kd.R_far (p := ⟨gb563, 3, none⟩) (Kd.R_far (p := ⟨gb563, 2, none⟩) (Kd.R_far (p := ⟨gb563, 1, none⟩) (Kd.R_far (p := ⟨gb563, 0, none⟩) (Kd.R_mono HO_7.out (fun k_ hk => (⟨hk, hk.2⟩ : _ ∧ k_ ≠ gb563))) (fun _ hk => hk.2) (.int .i64 ((rd_T44 t556 x35_1).f0))) (fun _ hk => hk.2) (.int .i64 ((rd_T44 t556 x35_1).f1))) (fun _ hk => hk.2) (.int .i64 ((rd_T44 t556 x35_1).f2))) (fun _ hk => hk.2) (.int .i64 ((rd_T44 t556 x35_1).f3))) (fun _ hk => hk.2) (.int .i64 ((rd_T44 t556 x35_1).f4))) (fun _ hk => hk.1.2)⟩, ⟨by (with_reducible repeat (first | apply Kd.R_alloc | apply Kd.R_drewN | apply Kd.R_drew)); exact Kd.R_mono (Kd.R_far (p := ⟨gb563, 4, none⟩) (Kd.R_far (p := ⟨gb563, 3, none⟩) (Kd.R_far (p := ⟨gb563, 2, none⟩) (Kd.R_far (p := ⟨gb563, 1, none⟩) (Kd.R_far (p := ⟨gb563, 0, none⟩) (Kd.R_mono HO_33.out (fun k_ hk => (⟨hk, hk.2⟩ : _ ∧ k_ ≠ gb563))) (fun _ hk => hk.2) (.int .i64 ((rd_T44 t556 x35_1).f0))) (fun _ hk => hk.2) (.int .i64 ((rd_T44 t556 x35_1).f1))) (fun _ hk => hk.2) (.int .i64 ((rd_T44 t556 x35_1).f2))) (fun _ hk => hk.2) (.int .i64 ((rd_T44 t556 x35_1).f3))) (fun _ hk => hk.2) (.int .i64 ((rd_T44 t556 x35_1).f4))) (fun _ hk => hk.1.2)⟩, ⟨by exact (far5 NB553_563.out BK553.out)⟩, ⟨by exact (put5 BK563.out)⟩, ⟨by repeat first | refine zS ?_ GE553.out | refine zS ?_ GE563.out | exact HB.out | apply zA | apply zN | apply zD⟩⟩
          ·rw [if_neg c29] at H
           have c29b0 : decide (((rd_T44 t556 x35_1).f2) < 0) = false := decide_eq_false c29
           clear c29
           by_cases c32 : ((rd_T44 t556 x35_1).f3) < 1
           ·rw [if_pos c32] at H
            have c32b0 : decide (((rd_T44 t556 x35_1).f3) < 1) = true := decide_eq_true c32
            clear c32
            have H' := zM H
            clear H
            have hnb33 := NB563_553.out
            have hnc33 := NB553_563.out
            have hcz34_0 : w23.cell? ⟨gb563, 0, none⟩ = some (.int .i64 0) := (blk_cell BK563.out 0).trans rfl
            have hcz34_1 : w23.cell? ⟨gb563, 1, none⟩ = some (.int .i64 0) := (blk_cell BK563.out 1).trans rfl
            have hcz34_2 : w23.cell? ⟨gb563, 2, none⟩ = some (.int .i64 0) := (blk_cell BK563.out 2).trans rfl
            have hcz34_3 : w23.cell? ⟨gb563, 3, none⟩ = some (.int .i64 0) := (blk_cell BK563.out 3).trans rfl
            have hcz34_4 : w23.cell? ⟨gb563, 4, none⟩ = some (.int .i64 0) := (blk_cell BK563.out 4).trans rfl
            have hfz34_0 := blk_frozen BK563.out 0
            have hfz34_1 := blk_frozen BK563.out 1
            have hfz34_2 := blk_frozen BK563.out 2
            have hfz34_3 := blk_frozen BK563.out 3
            have hfz34_4 := blk_frozen BK563.out 4
            go_wp2
            go_meet
            case rel => exact ⟨_, (true), (by first | rfl | (simp; done) | (simp [*]; done)), H', ⟨by have := HK1.out; first | omega | exact Nat.le_refl _⟩, ⟨by (with_reducible repeat (first | apply Kd.R_alloc | apply Kd.R_drewN | apply Kd.R_drew)); exact Kd.R_mono (Kd.R_far (p := ⟨gb563, 4, none⟩) (Kd.R_far (p := ⟨gb563, 3, none⟩) (Kd.R_far (p := ⟨gb563, 2, none⟩) (Kd.R_far (p := ⟨gb563, 1, none⟩) (Kd.R_far (p := ⟨gb563, 0, none⟩) (Kd.R_mono HO_7.out (fun k_ hk => (⟨hk, hk.2⟩ : _ ∧ k_ ≠ gb563))) (fun _ hk => hk.2) (.int .i64 ((rd_T44 t556 x35_1).f0))) (fun _ hk => hk.2) (.int .i64 ((rd_T44 t556 x35_1).f1))) (fun _ hk => hk.2) (.int .i64 ((rd_T44 t556 x35_1).f2))) (fun _ hk => hk.2) (.int .i64 ((rd_T44 t556 x35_1).f3))) (fun _ hk => hk.2) (.int .i64 ((rd_T44 t556 x35_1).f4))) (fun _ hk => hk.1.2)⟩, ⟨by (with_reducible repeat (first | apply Kd.R_alloc | apply Kd.R_drewN | apply Kd.R_drew)); exact Kd.R_mono (Kd.R_far (p := ⟨gb563, 4, none⟩) (Kd.R_far (p := ⟨gb563, 3, none⟩) (Kd.R_far (p := ⟨gb563, 2, none⟩) (Kd.R_far (p := ⟨gb563, 1, none⟩) (Kd.R_far (p := ⟨gb563, 0, none⟩) (Kd.R_mono HO_33.out (fun k_ hk => (⟨hk, hk.2⟩ : _ ∧ k_ ≠ gb563))) (fun _ hk => hk.2) (.int .i64 ((rd_T44 t556 x35_1).f0))) (fun _ hk => hk.2) (.int .i64 ((rd_T44 t556 x35_1).f1))) (fun _ hk => hk.2) (.int .i64 ((rd_T44 t556 x35_1).f2))) (fun _ hk => hk.2) (.int .i64 ((rd_T44 t556 x35_1).f3))) (fun _ hk => hk.2) (.int .i64 ((rd_T44 t556 x35_1).f4))) (fun _ hk => hk.1.2)⟩, ⟨by exact (far5 NB553_563.out BK553.out)⟩, ⟨by exact (put5 BK563.out)⟩, ⟨by repeat first | refine zS ?_ GE553.out | refine zS ?_ GE563.out | exact HB.out | apply zA | apply zN | apply zD⟩⟩
           ·rw [if_neg c32] at H
            have c32b0 : decide (((rd_T44 t556 x35_1).f3) < 1) = false := decide_eq_false c32
            clear c32
            by_cases c35 : ((rd_T44 t556 x35_1).f4) < 1
            ·rw [if_pos c35] at H
             have c35b0 : decide (((rd_T44 t556 x35_1).f4) < 1) = true := decide_eq_true c35
             clear c35
             have H' := zM H
             clear H
             have hnb36 := NB563_553.out
             have hnc36 := NB553_563.out
             have hcz37_0 : w23.cell? ⟨gb563, 0, none⟩ = some (.int .i64 0) := (blk_cell BK563.out 0).trans rfl
             have hcz37_1 : w23.cell? ⟨gb563, 1, none⟩ = some (.int .i64 0) := (blk_cell BK563.out 1).trans rfl
             have hcz37_2 : w23.cell? ⟨gb563, 2, none⟩ = some (.int .i64 0) := (blk_cell BK563.out 2).trans rfl
             have hcz37_3 : w23.cell? ⟨gb563, 3, none⟩ = some (.int .i64 0) := (blk_cell BK563.out 3).trans rfl
             have hcz37_4 : w23.cell? ⟨gb563, 4, none⟩ = some (.int .i64 0) := (blk_cell BK563.out 4).trans rfl
             have hfz37_0 := blk_frozen BK563.out 0
             have hfz37_1 := blk_frozen BK563.out 1
             have hfz37_2 := blk_frozen BK563.out 2
             have hfz37_3 := blk_frozen BK563.out 3
             have hfz37_4 := blk_frozen BK563.out 4
             go_wp2
             go_meet
             case rel => exact ⟨_, (true), (by first | rfl | (simp; done) | (simp [*]; done)), H', ⟨by have := HK1.out; first | omega | exact Nat.le_refl _⟩, ⟨by (with_reducible repeat (first | apply Kd.R_alloc | apply Kd.R_drewN | apply Kd.R_drew)); exact Kd.R_mono (Kd.R_far (p := ⟨gb563, 4, none⟩) (Kd.R_far (p := ⟨gb563, 3, none⟩) (Kd.R_far (p := ⟨gb563, 2, none⟩) (Kd.R_far (p := ⟨gb563, 1, none⟩) (Kd.R_far (p := ⟨gb563, 0, none⟩) (Kd.R_mono HO_7.out (fun k_ hk => (⟨hk, hk.2⟩ : _ ∧ k_ ≠ gb563))) (fun _ hk => hk.2) (.int .i64 ((rd_T44 t556 x35_1).f0))) (fun _ hk => hk.2) (.int .i64 ((rd_T44 t556 x35_1).f1))) (fun _ hk => hk.2) (.int .i64 ((rd_T44 t556 x35_1).f2))) (fun _ hk => hk.2) (.int .i64 ((rd_T44 t556 x35_1).f3))) (fun _ hk => hk.2) (.int .i64 ((rd_T44 t556 x35_1).f4))) (fun _ hk => hk.1.2)⟩, ⟨by (with_reducible repeat (first | apply Kd.R_alloc | apply Kd.R_drewN | apply Kd.R_drew)); exact Kd.R_mono (Kd.R_far (p := ⟨gb563, 4, none⟩) (Kd.R_far (p := ⟨gb563, 3, none⟩) (Kd.R_far (p := ⟨gb563, 2, none⟩) (Kd.R_far (p := ⟨gb563, 1, none⟩) (Kd.R_far (p := ⟨gb563, 0, none⟩) (Kd.R_mono HO_33.out (fun k_ hk => (⟨hk, hk.2⟩ : _ ∧ k_ ≠ gb563))) (fun _ hk => hk.2) (.int .i64 ((rd_T44 t556 x35_1).f0))) (fun _ hk => hk.2) (.int .i64 ((rd_T44 t556 x35_1).f1))) (fun _ hk => hk.2) (.int .i64 ((rd_T44 t556 x35_1).f2))) (fun _ hk => hk.2) (.int .i64 ((rd_T44 t556 x35_1).f3))) (fun _ hk => hk.2) (.int .i64 ((rd_T44 t556 x35_1).f4))) (fun _ hk => hk.1.2)⟩, ⟨by exact (far5 NB553_563.out BK553.out)⟩, ⟨by exact (put5 BK563.out)⟩, ⟨by repeat first | refine zS ?_ GE553.out | refine zS ?_ GE563.out | exact HB.out | apply zA | apply zN | apply zD⟩⟩
            ·rw [if_neg c35] at H
             have c35b0 : decide (((rd_T44 t556 x35_1).f4) < 1) = false := decide_eq_false c35
             clear c35
             by_cases c38 : (wrap64 (((rd_T44 t556 x35_1).f1) + ((rd_T44 t556 x35_1).f3))) > a1
             ·rw [if_pos c38] at H
              have c38b0 : decide (a1 < (wrap64 (((rd_T44 t556 x35_1).f1) + ((rd_T44 t556 x35_1).f3)))) = true := decide_eq_true c38
              clear c38
              have H' := zM H
              clear H
              have hnb39 := NB563_553.out
              have hnc39 := NB553_563.out
              have hcz40_0 : w23.cell? ⟨gb563, 0, none⟩ = some (.int .i64 0) := (blk_cell BK563.out 0).trans rfl
              have hcz40_1 : w23.cell? ⟨gb563, 1, none⟩ = some (.int .i64 0) := (blk_cell BK563.out 1).trans rfl
              have hcz40_2 : w23.cell? ⟨gb563, 2, none⟩ = some (.int .i64 0) := (blk_cell BK563.out 2).trans rfl
              have hcz40_3 : w23.cell? ⟨gb563, 3, none⟩ = some (.int .i64 0) := (blk_cell BK563.out 3).trans rfl
              have hcz40_4 : w23.cell? ⟨gb563, 4, none⟩ = some (.int .i64 0) := (blk_cell BK563.out 4).trans rfl
              have hfz40_0 := blk_frozen BK563.out 0
              have hfz40_1 := blk_frozen BK563.out 1
              have hfz40_2 := blk_frozen BK563.out 2
              have hfz40_3 := blk_frozen BK563.out 3
              have hfz40_4 := blk_frozen BK563.out 4
              go_wp2
              go_meet
              case rel => exact ⟨_, (true), (by first | rfl | (simp; done) | (simp [*]; done)), H', ⟨by have := HK1.out; first | omega | exact Nat.le_refl _⟩, ⟨by (with_reducible repeat (first | apply Kd.R_alloc | apply Kd.R_drewN | apply Kd.R_drew)); exact Kd.R_mono (Kd.R_far (p := ⟨gb563, 4, none⟩) (Kd.R_far (p := ⟨gb563, 3, none⟩) (Kd.R_far (p := ⟨gb563, 2, none⟩) (Kd.R_far (p := ⟨gb563, 1, none⟩) (Kd.R_far (p := ⟨gb563, 0, none⟩) (Kd.R_mono HO_7.out (fun k_ hk => (⟨hk, hk.2⟩ : _ ∧ k_ ≠ gb563))) (fun _ hk => hk.2) (.int .i64 ((rd_T44 t556 x35_1).f0))) (fun _ hk => hk.2) (.int .i64 ((rd_T44 t556 x35_1).f1))) (fun _ hk => hk.2) (.int .i64 ((rd_T44 t556 x35_1).f2))) (fun _ hk => hk.2) (.int .i64 ((rd_T44 t556 x35_1).f3))) (fun _ hk => hk.2) (.int .i64 ((rd_T44 t556 x35_1).f4))) (fun _ hk => hk.1.2)⟩, ⟨by (with_reducible repeat (first | apply Kd.R_alloc | apply Kd.R_drewN | apply Kd.R_drew)); exact Kd.R_mono (Kd.R_far (p := ⟨gb563, 4, none⟩) (Kd.R_far (p := ⟨gb563, 3, none⟩) (Kd.R_far (p := ⟨gb563, 2, none⟩) (Kd.R_far (p := ⟨gb563, 1, none⟩) (Kd.R_far (p := ⟨gb563, 0, none⟩) (Kd.R_mono HO_33.out (fun k_ hk => (⟨hk, hk.2⟩ : _ ∧ k_ ≠ gb563))) (fun _ hk => hk.2) (.int .i64 ((rd_T44 t556 x35_1).f0))) (fun _ hk => hk.2) (.int .i64 ((rd_T44 t556 x35_1).f1))) (fun _ hk => hk.2) (.int .i64 ((rd_T44 t556 x35_1).f2))) (fun _ hk => hk.2) (.int .i64 ((rd_T44 t556 x35_1).f3))) (fun _ hk => hk.2) (.int .i64 ((rd_T44 t556 x35_1).f4))) (fun _ hk => hk.1.2)⟩, ⟨by exact (far5 NB553_563.out BK553.out)⟩, ⟨by exact (put5 BK563.out)⟩, ⟨by repeat first | refine zS ?_ GE553.out | refine zS ?_ GE563.out | exact HB.out | apply zA | apply zN | apply zD⟩⟩
             ·rw [if_neg c38] at H
              have c38b0 : decide (a1 < (wrap64 (((rd_T44 t556 x35_1).f1) + ((rd_T44 t556 x35_1).f3)))) = false := decide_eq_false c38
              clear c38
              have H' := zM H
              clear H
              have hnb41 := NB563_553.out
              have hnc41 := NB553_563.out
              have hcz42_0 : w23.cell? ⟨gb563, 0, none⟩ = some (.int .i64 0) := (blk_cell BK563.out 0).trans rfl
              have hcz42_1 : w23.cell? ⟨gb563, 1, none⟩ = some (.int .i64 0) := (blk_cell BK563.out 1).trans rfl
              have hcz42_2 : w23.cell? ⟨gb563, 2, none⟩ = some (.int .i64 0) := (blk_cell BK563.out 2).trans rfl
              have hcz42_3 : w23.cell? ⟨gb563, 3, none⟩ = some (.int .i64 0) := (blk_cell BK563.out 3).trans rfl
              have hcz42_4 : w23.cell? ⟨gb563, 4, none⟩ = some (.int .i64 0) := (blk_cell BK563.out 4).trans rfl
              have hfz42_0 := blk_frozen BK563.out 0
              have hfz42_1 := blk_frozen BK563.out 1
              have hfz42_2 := blk_frozen BK563.out 2
              have hfz42_3 := blk_frozen BK563.out 3
              have hfz42_4 := blk_frozen BK563.out 4
              go_wp2
              go_meet
              case rel => exact ⟨_, (decide ((wrap64 (((rd_T44 t556 x35_1).f2) + ((rd_T44 t556 x35_1).f4))) > a2)), (by first | rfl | (simp; done) | (simp [*]; done)), H', ⟨by have := HK1.out; first | omega | exact Nat.le_refl _⟩, ⟨by (with_reducible repeat (first | apply Kd.R_alloc | apply Kd.R_drewN | apply Kd.R_drew)); exact Kd.R_mono (Kd.R_far (p := ⟨gb563, 4, none⟩) (Kd.R_far (p := ⟨gb563, 3, none⟩) (Kd.R_far (p := ⟨gb563, 2, none⟩) (Kd.R_far (p := ⟨gb563, 1, none⟩) (Kd.R_far (p := ⟨gb563, 0, none⟩) (Kd.R_mono HO_7.out (fun k_ hk => (⟨hk, hk.2⟩ : _ ∧ k_ ≠ gb563))) (fun _ hk => hk.2) (.int .i64 ((rd_T44 t556 x35_1).f0))) (fun _ hk => hk.2) (.int .i64 ((rd_T44 t556 x35_1).f1))) (fun _ hk => hk.2) (.int .i64 ((rd_T44 t556 x35_1).f2))) (fun _ hk => hk.2) (.int .i64 ((rd_T44 t556 x35_1).f3))) (fun _ hk => hk.2) (.int .i64 ((rd_T44 t556 x35_1).f4))) (fun _ hk => hk.1.2)⟩, ⟨by (with_reducible repeat (first | apply Kd.R_alloc | apply Kd.R_drewN | apply Kd.R_drew)); exact Kd.R_mono (Kd.R_far (p := ⟨gb563, 4, none⟩) (Kd.R_far (p := ⟨gb563, 3, none⟩) (Kd.R_far (p := ⟨gb563, 2, none⟩) (Kd.R_far (p := ⟨gb563, 1, none⟩) (Kd.R_far (p := ⟨gb563, 0, none⟩) (Kd.R_mono HO_33.out (fun k_ hk => (⟨hk, hk.2⟩ : _ ∧ k_ ≠ gb563))) (fun _ hk => hk.2) (.int .i64 ((rd_T44 t556 x35_1).f0))) (fun _ hk => hk.2) (.int .i64 ((rd_T44 t556 x35_1).f1))) (fun _ hk => hk.2) (.int .i64 ((rd_T44 t556 x35_1).f2))) (fun _ hk => hk.2) (.int .i64 ((rd_T44 t556 x35_1).f3))) (fun _ hk => hk.2) (.int .i64 ((rd_T44 t556 x35_1).f4))) (fun _ hk => hk.1.2)⟩, ⟨by exact (far5 NB553_563.out BK553.out)⟩, ⟨by exact (put5 BK563.out)⟩, ⟨by repeat first | refine zS ?_ GE553.out | refine zS ?_ GE563.out | exact HB.out | apply zA | apply zN | apply zD⟩⟩
        case rest =>
         clear HC22
         (try clear c1); (try clear c2); (try clear p2); (try clear c3); (try clear c4); (try clear c5); (try clear c5b0); (try clear p5); (try clear q5); (try clear hx5); (try clear p6); (try clear c7); (try clear c12); (try clear c12b0); (try clear c12b1); (try clear c18); (try clear c19); (try clear c19b0); (try clear c20); (try clear c21); (try clear c24); (try clear c26); (try clear c26b0); (try clear c27); (try clear c28); (try clear c29); (try clear c29b0); (try clear c30); (try clear c32); (try clear c32b0); (try clear c33); (try clear c35); (try clear c35b0); (try clear c36); (try clear c38); (try clear c38b0); (try clear c39); (try clear c41); (try clear hcz14_0); (try clear hcz14_1); (try clear hcz14_2); (try clear hcz14_3); (try clear hcz16_0); (try clear hcz16_1); (try clear hcz16_2); (try clear hcz16_3); (try clear hcz25_0); (try clear hcz25_1); (try clear hcz25_2); (try clear hcz25_3); (try clear hcz25_4); (try clear hcz28_0); (try clear hcz28_1); (try clear hcz28_2); (try clear hcz28_3); (try clear hcz28_4); (try clear hcz31_0); (try clear hcz31_1); (try clear hcz31_2); (try clear hcz31_3); (try clear hcz31_4); (try clear hcz34_0); (try clear hcz34_1); (try clear hcz34_2); (try clear hcz34_3); (try clear hcz34_4); (try clear hcz37_0); (try clear hcz37_1); (try clear hcz37_2); (try clear hcz37_3); (try clear hcz37_4); (try clear hcz40_0); (try clear hcz40_1); (try clear hcz40_2); (try clear hcz40_3); (try clear hcz40_4); (try clear hcz42_0); (try clear hcz42_1); (try clear hcz42_2); (try clear hcz42_3); (try clear hcz42_4); (try clear hcz8_0); (try clear hcz8_1); (try clear hcz8_2); (try clear hcz8_3); (try clear hfz14_0); (try clear hfz14_1); (try clear hfz14_2); (try clear hfz14_3); (try clear hfz16_0); (try clear hfz16_1); (try clear hfz16_2); (try clear hfz16_3); (try clear hfz25_0); (try clear hfz25_1); (try clear hfz25_2); (try clear hfz25_3); (try clear hfz25_4); (try clear hfz28_0); (try clear hfz28_1); (try clear hfz28_2); (try clear hfz28_3); (try clear hfz28_4); (try clear hfz31_0); (try clear hfz31_1); (try clear hfz31_2); (try clear hfz31_3); (try clear hfz31_4); (try clear hfz34_0); (try clear hfz34_1); (try clear hfz34_2); (try clear hfz34_3); (try clear hfz34_4); (try clear hfz37_0); (try clear hfz37_1); (try clear hfz37_2); (try clear hfz37_3); (try clear hfz37_4); (try clear hfz40_0); (try clear hfz40_1); (try clear hfz40_2); (try clear hfz40_3); (try clear hfz40_4); (try clear hfz42_0); (try clear hfz42_1); (try clear hfz42_2); (try clear hfz42_3); (try clear hfz42_4); (try clear hfz8_0); (try clear hfz8_1); (try clear hfz8_2); (try clear hfz8_3); (try clear hx562_0); (try clear hx562_1); (try clear hx562_2); (try clear hx562_3); (try clear hx562_4); (try clear p2); (try clear p562); (try clear q562)
         obtain ⟨kq, x75_21, rfl, HA, HJ21, HO_7, HO_33, BK553, BK563, HB⟩ := hcut
         cases kq with
         | zero => exact absurd HA.out (by simp [backseatlaw11_TreeApart.j1])
         | succ kj21 =>
          have H := HA.out
          clear HA
          simp only [backseatlaw11_TreeApart.j1] at H
          by_cases c43 : x75_21 = true
          ·subst c43
           have H1 : (some false) = some r := by rw [if_pos rfl] at H; exact H
           clear H
           have H := H1
           clear H1
           obtain rfl := Option.some.inj H
           go_wp2
           go_ret
           exact ⟨by first | rfl | (simp [errW_none, errW_some] <;> rfl) | (simp [*, errW_none, errW_some] <;> rfl), by repeat first | refine zS ?_ GE553.out | refine zS ?_ GE563.out | exact HB.out | apply zA | apply zN | apply zD⟩
          ·replace c43 := Bool.eq_false_iff.mpr c43
           subst c43
           have H1 : (backseatlaw11_TreeApart.l1 kj21 a1 a2 t556 t556 (t556.length : Int) x35_1 t556 x35_1 0 ((rd_T44 t556 x35_1).f0) ((rd_T44 t556 x35_1).f1) ((rd_T44 t556 x35_1).f2) ((rd_T44 t556 x35_1).f3) ((rd_T44 t556 x35_1).f4)) = some r := by rw [if_neg (show ¬ (false = true) by decide)] at H; exact H
           clear H
           have H := H1
           clear H1
           have H' := zM H
           clear H
           have hn_ : t556.length ≤ co18 := (Kd.R_reads' HO_7.out).2.1
           have hj0_ : 0 ≤ (x35_1 : Int) := of_decide_eq_true c20b0
           have hj1_ : (x35_1 : Int) < (t556.length : Int) := of_decide_eq_true c21b0
           have hj2_ : (x35_1 : Int) ≤ (co18 : Int) := by omega
           go_wp2
           go_loopg [80] kj21 (fun kq v80 w' => ∃ (x80_3 : Int), v80 = .int .i64 x80_3 ∧ Aside0 (backseatlaw11_TreeApart.l1 kq a1 a2 t556 t556 (t556.length : Int) x35_1 t556 x35_1 x80_3 ((rd_T44 t556 x35_1).f0) ((rd_T44 t556 x35_1).f1) ((rd_T44 t556 x35_1).f2) ((rd_T44 t556 x35_1).f3) ((rd_T44 t556 x35_1).f4) = some r) ∧ Aside0 (kq ≤ kj21) ∧ Aside0 (Kd.R k44 44 w' w.heap.size (fun k_ => k_ ≠ gb563) (.slice (some ad562) t556.length co18) t556) ∧ Aside0 (Kd.R k44 44 w' w.heap.size (fun k_ => k_ ≠ gb563) (.slice (some ad562) t556.length co18) t556) ∧ Aside0 (Kd.R k44 44 w' w.heap.size (fun k_ => k_ ≠ gb563) (.slice (some ad562) t556.length co18) t556) ∧ Aside0 (w'.heap[gb553]? = some (.cells #[.int .i64 a0_0, .int .i64 a0_1, .int .i64 a0_2, (.slice A0_3 l0_3.length c0_3)] 31 (0, 0))) ∧ Aside0 (w'.heap[gb563]? = some (.cells #[.int .i64 ((rd_T44 t556 x35_1).f0), .int .i64 ((rd_T44 t556 x35_1).f1), .int .i64 ((rd_T44 t556 x35_1).f2), .int .i64 ((rd_T44 t556 x35_1).f3), .int .i64 ((rd_T44 t556 x35_1).f4)] 44 (0, 0))) ∧ Aside0 (Below w.heap.size w w'))
           case atStart => exact ⟨(0), (by first | rfl | (simp; done) | (simp [*]; done)), H', ⟨Nat.le_refl _⟩, ⟨by (with_reducible repeat (first | apply Kd.R_alloc | apply Kd.R_drewN | apply Kd.R_drew)); exact HO_7.out⟩, ⟨by (with_reducible repeat (first | apply Kd.R_alloc | apply Kd.R_drewN | apply Kd.R_drew)); exact HO_33.out⟩, ⟨by (with_reducible repeat (first | apply Kd.R_alloc | apply Kd.R_drewN | apply Kd.R_drew)); exact HO_7.out⟩, ⟨by (with_reducible repeat (first | refine blk_drewN ?_ _ | refine blk_drew ?_ | refine blk_alloc ?_ _)); exact BK553.out⟩, ⟨by (with_reducible repeat (first | refine blk_drewN ?_ _ | refine blk_drew ?_ | refine blk_alloc ?_ _)); exact BK563.out⟩, ⟨by repeat first | refine zS ?_ GE553.out | refine zS ?_ GE563.out | exact HB.out | apply zA | apply zN | apply zD⟩⟩
           case round =>
            clear H'
            (try clear c1); (try clear c2); (try clear p2); (try clear c3); (try clear c4); (try clear c5); (try clear c5b0); (try clear p5); (try clear q5); (try clear hx5); (try clear p6); (try clear c7); (try clear c12); (try clear c12b0); (try clear c12b1); (try clear c18); (try clear c19); (try clear c19b0); (try clear c20); (try clear c20b0); (try clear c21); (try clear c21b0); (try clear c24); (try clear c26); (try clear c26b0); (try clear c27); (try clear c28); (try clear c29); (try clear c29b0); (try clear c30); (try clear c32); (try clear c32b0); (try clear c33); (try clear c35); (try clear c35b0); (try clear c36); (try clear c38); (try clear c38b0); (try clear c39); (try clear c41); (try clear c43); (try clear hcz14_0); (try clear hcz14_1); (try clear hcz14_2); (try clear hcz14_3); (try clear hcz16_0); (try clear hcz16_1); (try clear hcz16_2); (try clear hcz16_3); (try clear hcz25_0); (try clear hcz25_1); (try clear hcz25_2); (try clear hcz25_3); (try clear hcz25_4); (try clear hcz28_0); (try clear hcz28_1); (try clear hcz28_2); (try clear hcz28_3); (try clear hcz28_4); (try clear hcz31_0); (try clear hcz31_1); (try clear hcz31_2); (try clear hcz31_3); (try clear hcz31_4); (try clear hcz34_0); (try clear hcz34_1); (try clear hcz34_2); (try clear hcz34_3); (try clear hcz34_4); (try clear hcz37_0); (try clear hcz37_1); (try clear hcz37_2); (try clear hcz37_3); (try clear hcz37_4); (try clear hcz40_0); (try clear hcz40_1); (try clear hcz40_2); (try clear hcz40_3); (try clear hcz40_4); (try clear hcz42_0); (try clear hcz42_1); (try clear hcz42_2); (try clear hcz42_3); (try clear hcz42_4); (try clear hcz8_0); (try clear hcz8_1); (try clear hcz8_2); (try clear hcz8_3); (try clear hfz14_0); (try clear hfz14_1); (try clear hfz14_2); (try clear hfz14_3); (try clear hfz16_0); (try clear hfz16_1); (try clear hfz16_2); (try clear hfz16_3); (try clear hfz25_0); (try clear hfz25_1); (try clear hfz25_2); (try clear hfz25_3); (try clear hfz25_4); (try clear hfz28_0); (try clear hfz28_1); (try clear hfz28_2); (try clear hfz28_3); (try clear hfz28_4); (try clear hfz31_0); (try clear hfz31_1); (try clear hfz31_2); (try clear hfz31_3); (try clear hfz31_4); (try clear hfz34_0); (try clear hfz34_1); (try clear hfz34_2); (try clear hfz34_3); (try clear hfz34_4); (try clear hfz37_0); (try clear hfz37_1); (try clear hfz37_2); (try clear hfz37_3); (try clear hfz37_4); (try clear hfz40_0); (try clear hfz40_1); (try clear hfz40_2); (try clear hfz40_3); (try clear hfz40_4); (try clear hfz42_0); (try clear hfz42_1); (try clear hfz42_2); (try clear hfz42_3); (try clear hfz42_4); (try clear hfz8_0); (try clear hfz8_1); (try clear hfz8_2); (try clear hfz8_3); (try clear hx562_0); (try clear hx562_1); (try clear hx562_2); (try clear hx562_3); (try clear hx562_4); (try clear p2); (try clear p5); (try clear p562); (try clear p6); (try clear q5); (try clear q562)
            obtain ⟨x80_3, rfl, HA, HK3, HO_7, HO_33, HO_78, BK553, BK563, HB⟩ := hrel
            cases gk with
            | zero => exact absurd HA.out (by simp [backseatlaw11_TreeApart.l1])
            | succ k3 =>
             have H := HA.out
             clear HA
             simp only [backseatlaw11_TreeApart.l1] at H
             by_cases c44 : x80_3 < x35_1
             ·rw [if_pos c44] at H
              have c44b0 : decide (x80_3 < x35_1) = true := decide_eq_true c44
              have c44d0 : decide (x80_3 < ((x35_1.toNat : Nat) : Int)) = true := decide_eq_true (by have := of_decide_eq_true c44b0; omega)
              have c44e0 : decide (x80_3 < max x35_1 0) = true := decide_eq_true (by have := of_decide_eq_true c44b0; omega)
              have c44h0 : x80_3 < max x35_1 0 := of_decide_eq_true c44e0
              clear c44
              by_cases c45 : 0 ≤ x80_3
              ·rw [if_pos c45] at H
               have c45b0 : decide (0 ≤ x80_3) = true := decide_eq_true c45
               clear c45
               by_cases c46 : x80_3 < (t556.length : Int)
               ·rw [if_pos c46] at H
                have c46b0 : decide (x80_3 < (t556.length : Int)) = true := decide_eq_true c46
                clear c46
                by_cases c47 : (wrap64 (((rd_T44 t556 x35_1).f1) + ((rd_T44 t556 x35_1).f3))) < ((rd_T44 t556 x80_3).f1)
                ·rw [if_pos c47] at H
                 have c47b0 : decide ((wrap64 (((rd_T44 t556 x35_1).f1) + ((rd_T44 t556 x35_1).f3))) < ((rd_T44 t556 x80_3).f1)) = true := decide_eq_true c47
                 clear c47
                 have H' := zM H
                 clear H
                 have p564 : 0 ≤ (x80_3 : Int) := of_decide_eq_true (by first | (with_reducible assumption) | assumption)
                 have q564 : x80_3 < (t556.length : Int) := of_decide_eq_true (by first | (with_reducible assumption) | assumption)
                 obtain ⟨ad564, e564, hx564_0, hx564_1, hx564_2, hx564_3, hx564_4⟩ := at_T44 (Kd.R_reads' HO_78.out).2.2 x80_3 p564 q564
                 obtain rfl : ad562 = ad564 := (by injection e564)
                 replace p564 := eq_true p564
                 replace q564 := eq_true q564
                 go_wp2_with (first | ((with_reducible refine gate_dst (N := 12) rfl ?_); (try (refine gate_guard (by rfl) ?_; dsimp only)); refine box_event ?hg (N := 12) ?hd (cs := #[.int .i64 0, .int .i64 0, .int .i64 0, .int .i64 0, .int .i64 0]) (t := 44) ?hr ?_; (case hd => rfl); (case hg => rfl); (case hr => first | (go_simp; done) | (go_simp; rfl)); intro gb565 hg w48 hbox hb; have BK565 := zM (hbox); have GW565 := zM ((by rw [hg]; exact (below_size (by repeat first | refine zS ?_ GE553.out | refine zS ?_ GE563.out | exact HB.out | apply zA | apply zN | apply zD)) : w.heap.size ≤ gb565)); have GE565 := GW565; have NB553_565 := zM ((by rw [hg]; exact lt1 BK553.out : gb553 ≠ gb565)); have NB565_553 := zM ((by rw [hg]; exact gt1 BK553.out : gb565 ≠ gb553)); have NB563_565 := zM ((by rw [hg]; exact lt1 BK563.out : gb563 ≠ gb565)); have NB565_563 := zM ((by rw [hg]; exact gt1 BK563.out : gb565 ≠ gb563)); replace HO_7 := zM (Kd.R_below (Kd.R_elderB (by (with_reducible repeat (first | apply Kd.R_alloc | apply Kd.R_drewN | apply Kd.R_drew)); exact HO_7.out) gb565 (Nat.le_of_eq hg.symm)) hb); replace HO_33 := zM (Kd.R_below (Kd.R_elderB (by (with_reducible repeat (first | apply Kd.R_alloc | apply Kd.R_drewN | apply Kd.R_drew)); exact HO_33.out) gb565 (Nat.le_of_eq hg.symm)) hb); replace HO_78 := zM (Kd.R_below (Kd.R_elderB (by (with_reducible repeat (first | apply Kd.R_alloc | apply Kd.R_drewN | apply Kd.R_drew)); exact HO_78.out) gb565 (Nat.le_of_eq hg.symm)) hb); replace BK553 := zM (bb hb BK553.out); replace BK563 := zM (bb hb BK563.out); replace HB := zM (below_step (by repeat first | refine zS ?_ GE553.out | refine zS ?_ GE563.out | exact HB.out | apply zA | apply zN | apply zD) hb); clear hb hbox hg; have hnb49 := NB565_553.out; have hnc49 := NB553_565.out; have hnb50 := NB565_563.out; have hnc50 := NB563_565.out; obtain ⟨hcz51_0, hcz51_1, hcz51_2, hcz51_3, hcz51_4, hfz51_0, hfz51_1, hfz51_2, hfz51_3, hfz51_4⟩ := cz5 BK565.out; have hnb52 := NB563_553.out; have hnc52 := NB553_563.out; obtain ⟨hcz53_0, hcz53_1, hcz53_2, hcz53_3, hcz53_4, hfz53_0, hfz53_1, hfz53_2, hfz53_3, hfz53_4⟩ := cz5 BK563.out))
                 go_roundg k3
                 case measure => have := HK1.out; have := HJ21.out; have := HK3.out; omega
                 case rel => exact ⟨(wrap64 (x80_3 + 1)), (by first | rfl | (simp; done) | (simp [*]; done)), H', ⟨by have := HK1.out; have := HJ21.out; have := HK3.out; omega⟩, ⟨by (with_reducible repeat (first | apply Kd.R_alloc | apply Kd.R_drewN | apply Kd.R_drew)); exact Kd.R_mono (Kd.R_far (p := ⟨gb565, 4, none⟩) (Kd.R_far (p := ⟨gb565, 3, none⟩) (Kd.R_far (p := ⟨gb565, 2, none⟩) (Kd.R_far (p := ⟨gb565, 1, none⟩) (Kd.R_far (p := ⟨gb565, 0, none⟩) (Kd.R_mono HO_7.out (fun k_ hk => (⟨hk, hk.2⟩ : _ ∧ k_ ≠ gb565))) (fun _ hk => hk.2) (.int .i64 ((rd_T44 t556 x80_3).f0))) (fun _ hk => hk.2) (.int .i64 ((rd_T44 t556 x80_3).f1))) (fun _ hk => hk.2) (.int .i64 ((rd_T44 t556 x80_3).f2))) (fun _ hk => hk.2) (.int .i64 ((rd_T44 t556 x80_3).f3))) (fun _ hk => hk.2) (.int .i64 ((rd_T44 t556 x80_3).f4))) (fun _ hk => hk.1.1)⟩, ⟨by (with_reducible repeat (first | apply Kd.R_alloc | apply Kd.R_drewN | apply Kd.R_drew)); exact Kd.R_mono (Kd.R_far (p := ⟨gb565, 4, none⟩) (Kd.R_far (p := ⟨gb565, 3, none⟩) (Kd.R_far (p := ⟨gb565, 2, none⟩) (Kd.R_far (p := ⟨gb565, 1, none⟩) (Kd.R_far (p := ⟨gb565, 0, none⟩) (Kd.R_mono HO_33.out (fun k_ hk => (⟨hk, hk.2⟩ : _ ∧ k_ ≠ gb565))) (fun _ hk => hk.2) (.int .i64 ((rd_T44 t556 x80_3).f0))) (fun _ hk => hk.2) (.int .i64 ((rd_T44 t556 x80_3).f1))) (fun _ hk => hk.2) (.int .i64 ((rd_T44 t556 x80_3).f2))) (fun _ hk => hk.2) (.int .i64 ((rd_T44 t556 x80_3).f3))) (fun _ hk => hk.2) (.int .i64 ((rd_T44 t556 x80_3).f4))) (fun _ hk => hk.1.1)⟩, ⟨by (with_reducible repeat (first | apply Kd.R_alloc | apply Kd.R_drewN | apply Kd.R_drew)); exact Kd.R_mono (Kd.R_far (p := ⟨gb565, 4, none⟩) (Kd.R_far (p := ⟨gb565, 3, none⟩) (Kd.R_far (p := ⟨gb565, 2, none⟩) (Kd.R_far (p := ⟨gb565, 1, none⟩) (Kd.R_far (p := ⟨gb565, 0, none⟩) (Kd.R_mono HO_78.out (fun k_ hk => (⟨hk, hk.2⟩ : _ ∧ k_ ≠ gb565))) (fun _ hk => hk.2) (.int .i64 ((rd_T44 t556 x80_3).f0))) (fun _ hk => hk.2) (.int .i64 ((rd_T44 t556 x80_3).f1))) (fun _ hk => hk.2) (.int .i64 ((rd_T44 t556 x80_3).f2))) (fun _ hk => hk.2) (.int .i64 ((rd_T44 t556 x80_3).f3))) (fun _ hk => hk.2) (.int .i64 ((rd_T44 t556 x80_3).f4))) (fun _ hk => hk.1.1)⟩, ⟨by exact (far5 NB553_565.out BK553.out)⟩, ⟨by exact (far5 NB563_565.out BK563.out)⟩, ⟨by repeat first | refine zS ?_ GE553.out | refine zS ?_ GE563.out | refine zS ?_ GE565.out | exact HB.out | apply zA | apply zN | apply zD⟩⟩
                ·rw [if_neg c47] at H
                 have c47b0 : decide ((wrap64 (((rd_T44 t556 x35_1).f1) + ((rd_T44 t556 x35_1).f3))) < ((rd_T44 t556 x80_3).f1)) = false := decide_eq_false c47
                 clear c47
                 by_cases c54 : (wrap64 (((rd_T44 t556 x80_3).f1) + ((rd_T44 t556 x80_3).f3))) < ((rd_T44 t556 x35_1).f1)
                 ·rw [if_pos c54] at H
                  have c54b0 : decide ((wrap64 (((rd_T44 t556 x80_3).f1) + ((rd_T44 t556 x80_3).f3))) < ((rd_T44 t556 x35_1).f1)) = true := decide_eq_true c54
                  clear c54
                  have H' := zM H
                  clear H
                  have p564 : 0 ≤ (x80_3 : Int) := of_decide_eq_true (by first | (with_reducible assumption) | assumption)
                  have q564 : x80_3 < (t556.length : Int) := of_decide_eq_true (by first | (with_reducible assumption) | assumption)
                  obtain ⟨ad564, e564, hx564_0, hx564_1, hx564_2, hx564_3, hx564_4⟩ := at_T44 (Kd.R_reads' HO_78.out).2.2 x80_3 p564 q564
                  obtain rfl : ad562 = ad564 := (by injection e564)
                  replace p564 := eq_true p564
                  replace q564 := eq_true q564
                  go_wp2_with (first | ((with_reducible refine gate_dst (N := 12) rfl ?_); (try (refine gate_guard (by rfl) ?_; dsimp only)); refine box_event ?hg (N := 12) ?hd (cs := #[.int .i64 0, .int .i64 0, .int .i64 0, .int .i64 0, .int .i64 0]) (t := 44) ?hr ?_; (case hd => rfl); (case hg => rfl); (case hr => first | (go_simp; done) | (go_simp; rfl)); intro gb565 hg w55 hbox hb; have BK565 := zM (hbox); have GW565 := zM ((by rw [hg]; exact (below_size (by repeat first | refine zS ?_ GE553.out | refine zS ?_ GE563.out | exact HB.out | apply zA | apply zN | apply zD)) : w.heap.size ≤ gb565)); have GE565 := GW565; have NB553_565 := zM ((by rw [hg]; exact lt1 BK553.out : gb553 ≠ gb565)); have NB565_553 := zM ((by rw [hg]; exact gt1 BK553.out : gb565 ≠ gb553)); have NB563_565 := zM ((by rw [hg]; exact lt1 BK563.out : gb563 ≠ gb565)); have NB565_563 := zM ((by rw [hg]; exact gt1 BK563.out : gb565 ≠ gb563)); replace HO_7 := zM (Kd.R_below (Kd.R_elderB (by (with_reducible repeat (first | apply Kd.R_alloc | apply Kd.R_drewN | apply Kd.R_drew)); exact HO_7.out) gb565 (Nat.le_of_eq hg.symm)) hb); replace HO_33 := zM (Kd.R_below (Kd.R_elderB (by (with_reducible repeat (first | apply Kd.R_alloc | apply Kd.R_drewN | apply Kd.R_drew)); exact HO_33.out) gb565 (Nat.le_of_eq hg.symm)) hb); replace HO_78 := zM (Kd.R_below (Kd.R_elderB (by (with_reducible repeat (first | apply Kd.R_alloc | apply Kd.R_drewN | apply Kd.R_drew)); exact HO_78.out) gb565 (Nat.le_of_eq hg.symm)) hb); replace BK553 := zM (bb hb BK553.out); replace BK563 := zM (bb hb BK563.out); replace HB := zM (below_step (by repeat first | refine zS ?_ GE553.out | refine zS ?_ GE563.out | exact HB.out | apply zA | apply zN | apply zD) hb); clear hb hbox hg; have hnb56 := NB565_553.out; have hnc56 := NB553_565.out; have hnb57 := NB565_563.out; have hnc57 := NB563_565.out; obtain ⟨hcz58_0, hcz58_1, hcz58_2, hcz58_3, hcz58_4, hfz58_0, hfz58_1, hfz58_2, hfz58_3, hfz58_4⟩ := cz5 BK565.out; have hnb59 := NB563_553.out; have hnc59 := NB553_563.out; obtain ⟨hcz60_0, hcz60_1, hcz60_2, hcz60_3, hcz60_4, hfz60_0, hfz60_1, hfz60_2, hfz60_3, hfz60_4⟩ := cz5 BK563.out))
                  go_roundg k3
                  case measure => have := HK1.out; have := HJ21.out; have := HK3.out; omega
                  case rel => exact ⟨(wrap64 (x80_3 + 1)), (by first | rfl | (simp; done) | (simp [*]; done)), H', ⟨by have := HK1.out; have := HJ21.out; have := HK3.out; omega⟩, ⟨by (with_reducible repeat (first | apply Kd.R_alloc | apply Kd.R_drewN | apply Kd.R_drew)); exact Kd.R_mono (Kd.R_far (p := ⟨gb565, 4, none⟩) (Kd.R_far (p := ⟨gb565, 3, none⟩) (Kd.R_far (p := ⟨gb565, 2, none⟩) (Kd.R_far (p := ⟨gb565, 1, none⟩) (Kd.R_far (p := ⟨gb565, 0, none⟩) (Kd.R_mono HO_7.out (fun k_ hk => (⟨hk, hk.2⟩ : _ ∧ k_ ≠ gb565))) (fun _ hk => hk.2) (.int .i64 ((rd_T44 t556 x80_3).f0))) (fun _ hk => hk.2) (.int .i64 ((rd_T44 t556 x80_3).f1))) (fun _ hk => hk.2) (.int .i64 ((rd_T44 t556 x80_3).f2))) (fun _ hk => hk.2) (.int .i64 ((rd_T44 t556 x80_3).f3))) (fun _ hk => hk.2) (.int .i64 ((rd_T44 t556 x80_3).f4))) (fun _ hk => hk.1.1)⟩, ⟨by (with_reducible repeat (first | apply Kd.R_alloc | apply Kd.R_drewN | apply Kd.R_drew)); exact Kd.R_mono (Kd.R_far (p := ⟨gb565, 4, none⟩) (Kd.R_far (p := ⟨gb565, 3, none⟩) (Kd.R_far (p := ⟨gb565, 2, none⟩) (Kd.R_far (p := ⟨gb565, 1, none⟩) (Kd.R_far (p := ⟨gb565, 0, none⟩) (Kd.R_mono HO_33.out (fun k_ hk => (⟨hk, hk.2⟩ : _ ∧ k_ ≠ gb565))) (fun _ hk => hk.2) (.int .i64 ((rd_T44 t556 x80_3).f0))) (fun _ hk => hk.2) (.int .i64 ((rd_T44 t556 x80_3).f1))) (fun _ hk => hk.2) (.int .i64 ((rd_T44 t556 x80_3).f2))) (fun _ hk => hk.2) (.int .i64 ((rd_T44 t556 x80_3).f3))) (fun _ hk => hk.2) (.int .i64 ((rd_T44 t556 x80_3).f4))) (fun _ hk => hk.1.1)⟩, ⟨by (with_reducible repeat (first | apply Kd.R_alloc | apply Kd.R_drewN | apply Kd.R_drew)); exact Kd.R_mono (Kd.R_far (p := ⟨gb565, 4, none⟩) (Kd.R_far (p := ⟨gb565, 3, none⟩) (Kd.R_far (p := ⟨gb565, 2, none⟩) (Kd.R_far (p := ⟨gb565, 1, none⟩) (Kd.R_far (p := ⟨gb565, 0, none⟩) (Kd.R_mono HO_78.out (fun k_ hk => (⟨hk, hk.2⟩ : _ ∧ k_ ≠ gb565))) (fun _ hk => hk.2) (.int .i64 ((rd_T44 t556 x80_3).f0))) (fun _ hk => hk.2) (.int .i64 ((rd_T44 t556 x80_3).f1))) (fun _ hk => hk.2) (.int .i64 ((rd_T44 t556 x80_3).f2))) (fun _ hk => hk.2) (.int .i64 ((rd_T44 t556 x80_3).f3))) (fun _ hk => hk.2) (.int .i64 ((rd_T44 t556 x80_3).f4))) (fun _ hk => hk.1.1)⟩, ⟨by exact (far5 NB553_565.out BK553.out)⟩, ⟨by exact (far5 NB563_565.out BK563.out)⟩, ⟨by repeat first | refine zS ?_ GE553.out | refine zS ?_ GE563.out | refine zS ?_ GE565.out | exact HB.out | apply zA | apply zN | apply zD⟩⟩
                 ·rw [if_neg c54] at H
                  have c54b0 : decide ((wrap64 (((rd_T44 t556 x80_3).f1) + ((rd_T44 t556 x80_3).f3))) < ((rd_T44 t556 x35_1).f1)) = false := decide_eq_false c54
                  clear c54
                  by_cases c61 : (wrap64 (((rd_T44 t556 x35_1).f2) + ((rd_T44 t556 x35_1).f4))) < ((rd_T44 t556 x80_3).f2)
                  ·rw [if_pos c61] at H
                   have c61b0 : decide ((wrap64 (((rd_T44 t556 x35_1).f2) + ((rd_T44 t556 x35_1).f4))) < ((rd_T44 t556 x80_3).f2)) = true := decide_eq_true c61
                   clear c61
                   have H' := zM H
                   clear H
                   have p564 : 0 ≤ (x80_3 : Int) := of_decide_eq_true (by first | (with_reducible assumption) | assumption)
                   have q564 : x80_3 < (t556.length : Int) := of_decide_eq_true (by first | (with_reducible assumption) | assumption)
                   obtain ⟨ad564, e564, hx564_0, hx564_1, hx564_2, hx564_3, hx564_4⟩ := at_T44 (Kd.R_reads' HO_78.out).2.2 x80_3 p564 q564
                   obtain rfl : ad562 = ad564 := (by injection e564)
                   replace p564 := eq_true p564
                   replace q564 := eq_true q564
                   go_wp2_with (first | ((with_reducible refine gate_dst (N := 12) rfl ?_); (try (refine gate_guard (by rfl) ?_; dsimp only)); refine box_event ?hg (N := 12) ?hd (cs := #[.int .i64 0, .int .i64 0, .int .i64 0, .int .i64 0, .int .i64 0]) (t := 44) ?hr ?_; (case hd => rfl); (case hg => rfl); (case hr => first | (go_simp; done) | (go_simp; rfl)); intro gb565 hg w62 hbox hb; have BK565 := zM (hbox); have GW565 := zM ((by rw [hg]; exact (below_size (by repeat first | refine zS ?_ GE553.out | refine zS ?_ GE563.out | exact HB.out | apply zA | apply zN | apply zD)) : w.heap.size ≤ gb565)); have GE565 := GW565; have NB553_565 := zM ((by rw [hg]; exact lt1 BK553.out : gb553 ≠ gb565)); have NB565_553 := zM ((by rw [hg]; exact gt1 BK553.out : gb565 ≠ gb553)); have NB563_565 := zM ((by rw [hg]; exact lt1 BK563.out : gb563 ≠ gb565)); have NB565_563 := zM ((by rw [hg]; exact gt1 BK563.out : gb565 ≠ gb563)); replace HO_7 := zM (Kd.R_below (Kd.R_elderB (by (with_reducible repeat (first | apply Kd.R_alloc | apply Kd.R_drewN | apply Kd.R_drew)); exact HO_7.out) gb565 (Nat.le_of_eq hg.symm)) hb); replace HO_33 := zM (Kd.R_below (Kd.R_elderB (by (with_reducible repeat (first | apply Kd.R_alloc | apply Kd.R_drewN | apply Kd.R_drew)); exact HO_33.out) gb565 (Nat.le_of_eq hg.symm)) hb); replace HO_78 := zM (Kd.R_below (Kd.R_elderB (by (with_reducible repeat (first | apply Kd.R_alloc | apply Kd.R_drewN | apply Kd.R_drew)); exact HO_78.out) gb565 (Nat.le_of_eq hg.symm)) hb); replace BK553 := zM (bb hb BK553.out); replace BK563 := zM (bb hb BK563.out); replace HB := zM (below_step (by repeat first | refine zS ?_ GE553.out | refine zS ?_ GE563.out | exact HB.out | apply zA | apply zN | apply zD) hb); clear hb hbox hg; have hnb63 := NB565_553.out; have hnc63 := NB553_565.out; have hnb64 := NB565_563.out; have hnc64 := NB563_565.out; obtain ⟨hcz65_0, hcz65_1, hcz65_2, hcz65_3, hcz65_4, hfz65_0, hfz65_1, hfz65_2, hfz65_3, hfz65_4⟩ := cz5 BK565.out; have hnb66 := NB563_553.out; have hnc66 := NB553_563.out; obtain ⟨hcz67_0, hcz67_1, hcz67_2, hcz67_3, hcz67_4, hfz67_0, hfz67_1, hfz67_2, hfz67_3, hfz67_4⟩ := cz5 BK563.out))
                   go_roundg k3
                   case measure => have := HK1.out; have := HJ21.out; have := HK3.out; omega
                   case rel => exact ⟨(wrap64 (x80_3 + 1)), (by first | rfl | (simp; done) | (simp [*]; done)), H', ⟨by have := HK1.out; have := HJ21.out; have := HK3.out; omega⟩, ⟨by (with_reducible repeat (first | apply Kd.R_alloc | apply Kd.R_drewN | apply Kd.R_drew)); exact Kd.R_mono (Kd.R_far (p := ⟨gb565, 4, none⟩) (Kd.R_far (p := ⟨gb565, 3, none⟩) (Kd.R_far (p := ⟨gb565, 2, none⟩) (Kd.R_far (p := ⟨gb565, 1, none⟩) (Kd.R_far (p := ⟨gb565, 0, none⟩) (Kd.R_mono HO_7.out (fun k_ hk => (⟨hk, hk.2⟩ : _ ∧ k_ ≠ gb565))) (fun _ hk => hk.2) (.int .i64 ((rd_T44 t556 x80_3).f0))) (fun _ hk => hk.2) (.int .i64 ((rd_T44 t556 x80_3).f1))) (fun _ hk => hk.2) (.int .i64 ((rd_T44 t556 x80_3).f2))) (fun _ hk => hk.2) (.int .i64 ((rd_T44 t556 x80_3).f3))) (fun _ hk => hk.2) (.int .i64 ((rd_T44 t556 x80_3).f4))) (fun _ hk => hk.1.1)⟩, ⟨by (with_reducible repeat (first | apply Kd.R_alloc | apply Kd.R_drewN | apply Kd.R_drew)); exact Kd.R_mono (Kd.R_far (p := ⟨gb565, 4, none⟩) (Kd.R_far (p := ⟨gb565, 3, none⟩) (Kd.R_far (p := ⟨gb565, 2, none⟩) (Kd.R_far (p := ⟨gb565, 1, none⟩) (Kd.R_far (p := ⟨gb565, 0, none⟩) (Kd.R_mono HO_33.out (fun k_ hk => (⟨hk, hk.2⟩ : _ ∧ k_ ≠ gb565))) (fun _ hk => hk.2) (.int .i64 ((rd_T44 t556 x80_3).f0))) (fun _ hk => hk.2) (.int .i64 ((rd_T44 t556 x80_3).f1))) (fun _ hk => hk.2) (.int .i64 ((rd_T44 t556 x80_3).f2))) (fun _ hk => hk.2) (.int .i64 ((rd_T44 t556 x80_3).f3))) (fun _ hk => hk.2) (.int .i64 ((rd_T44 t556 x80_3).f4))) (fun _ hk => hk.1.1)⟩, ⟨by (with_reducible repeat (first | apply Kd.R_alloc | apply Kd.R_drewN | apply Kd.R_drew)); exact Kd.R_mono (Kd.R_far (p := ⟨gb565, 4, none⟩) (Kd.R_far (p := ⟨gb565, 3, none⟩) (Kd.R_far (p := ⟨gb565, 2, none⟩) (Kd.R_far (p := ⟨gb565, 1, none⟩) (Kd.R_far (p := ⟨gb565, 0, none⟩) (Kd.R_mono HO_78.out (fun k_ hk => (⟨hk, hk.2⟩ : _ ∧ k_ ≠ gb565))) (fun _ hk => hk.2) (.int .i64 ((rd_T44 t556 x80_3).f0))) (fun _ hk => hk.2) (.int .i64 ((rd_T44 t556 x80_3).f1))) (fun _ hk => hk.2) (.int .i64 ((rd_T44 t556 x80_3).f2))) (fun _ hk => hk.2) (.int .i64 ((rd_T44 t556 x80_3).f3))) (fun _ hk => hk.2) (.int .i64 ((rd_T44 t556 x80_3).f4))) (fun _ hk => hk.1.1)⟩, ⟨by exact (far5 NB553_565.out BK553.out)⟩, ⟨by exact (far5 NB563_565.out BK563.out)⟩, ⟨by repeat first | refine zS ?_ GE553.out | refine zS ?_ GE563.out | refine zS ?_ GE565.out | exact HB.out | apply zA | apply zN | apply zD⟩⟩
                  ·rw [if_neg c61] at H
                   have c61b0 : decide ((wrap64 (((rd_T44 t556 x35_1).f2) + ((rd_T44 t556 x35_1).f4))) < ((rd_T44 t556 x80_3).f2)) = false := decide_eq_false c61
                   clear c61
                   by_cases c68 : ((wrap64 (((rd_T44 t556 x80_3).f2) + ((rd_T44 t556 x80_3).f4))) < ((rd_T44 t556 x35_1).f2))
                   ·rw [if_pos c68] at H
                    have c68b0 : decide ((wrap64 (((rd_T44 t556 x80_3).f2) + ((rd_T44 t556 x80_3).f4))) < ((rd_T44 t556 x35_1).f2)) = true := decide_eq_true c68
                    clear c68
                    have H' := zM H
                    clear H
                    have p564 : 0 ≤ (x80_3 : Int) := of_decide_eq_true (by first | (with_reducible assumption) | assumption)
                    have q564 : x80_3 < (t556.length : Int) := of_decide_eq_true (by first | (with_reducible assumption) | assumption)
                    obtain ⟨ad564, e564, hx564_0, hx564_1, hx564_2, hx564_3, hx564_4⟩ := at_T44 (Kd.R_reads' HO_78.out).2.2 x80_3 p564 q564
                    obtain rfl : ad562 = ad564 := (by injection e564)
                    replace p564 := eq_true p564
                    replace q564 := eq_true q564
                    go_wp2_with (first | ((with_reducible refine gate_dst (N := 12) rfl ?_); (try (refine gate_guard (by rfl) ?_; dsimp only)); refine box_event ?hg (N := 12) ?hd (cs := #[.int .i64 0, .int .i64 0, .int .i64 0, .int .i64 0, .int .i64 0]) (t := 44) ?hr ?_; (case hd => rfl); (case hg => rfl); (case hr => first | (go_simp; done) | (go_simp; rfl)); intro gb565 hg w69 hbox hb; have BK565 := zM (hbox); have GW565 := zM ((by rw [hg]; exact (below_size (by repeat first | refine zS ?_ GE553.out | refine zS ?_ GE563.out | exact HB.out | apply zA | apply zN | apply zD)) : w.heap.size ≤ gb565)); have GE565 := GW565; have NB553_565 := zM ((by rw [hg]; exact lt1 BK553.out : gb553 ≠ gb565)); have NB565_553 := zM ((by rw [hg]; exact gt1 BK553.out : gb565 ≠ gb553)); have NB563_565 := zM ((by rw [hg]; exact lt1 BK563.out : gb563 ≠ gb565)); have NB565_563 := zM ((by rw [hg]; exact gt1 BK563.out : gb565 ≠ gb563)); replace HO_7 := zM (Kd.R_below (Kd.R_elderB (by (with_reducible repeat (first | apply Kd.R_alloc | apply Kd.R_drewN | apply Kd.R_drew)); exact HO_7.out) gb565 (Nat.le_of_eq hg.symm)) hb); replace HO_33 := zM (Kd.R_below (Kd.R_elderB (by (with_reducible repeat (first | apply Kd.R_alloc | apply Kd.R_drewN | apply Kd.R_drew)); exact HO_33.out) gb565 (Nat.le_of_eq hg.symm)) hb); replace HO_78 := zM (Kd.R_below (Kd.R_elderB (by (with_reducible repeat (first | apply Kd.R_alloc | apply Kd.R_drewN | apply Kd.R_drew)); exact HO_78.out) gb565 (Nat.le_of_eq hg.symm)) hb); replace BK553 := zM (bb hb BK553.out); replace BK563 := zM (bb hb BK563.out); replace HB := zM (below_step (by repeat first | refine zS ?_ GE553.out | refine zS ?_ GE563.out | exact HB.out | apply zA | apply zN | apply zD) hb); clear hb hbox hg; have hnb70 := NB565_553.out; have hnc70 := NB553_565.out; have hnb71 := NB565_563.out; have hnc71 := NB563_565.out; obtain ⟨hcz72_0, hcz72_1, hcz72_2, hcz72_3, hcz72_4, hfz72_0, hfz72_1, hfz72_2, hfz72_3, hfz72_4⟩ := cz5 BK565.out; have hnb73 := NB563_553.out; have hnc73 := NB553_563.out; obtain ⟨hcz74_0, hcz74_1, hcz74_2, hcz74_3, hcz74_4, hfz74_0, hfz74_1, hfz74_2, hfz74_3, hfz74_4⟩ := cz5 BK563.out))
                    go_roundg k3
                    case measure => have := HK1.out; have := HJ21.out; have := HK3.out; omega
                    case rel => exact ⟨(wrap64 (x80_3 + 1)), (by first | rfl | (simp; done) | (simp [*]; done)), H', ⟨by have := HK1.out; have := HJ21.out; have := HK3.out; omega⟩, ⟨by (with_reducible repeat (first | apply Kd.R_alloc | apply Kd.R_drewN | apply Kd.R_drew)); exact Kd.R_mono (Kd.R_far (p := ⟨gb565, 4, none⟩) (Kd.R_far (p := ⟨gb565, 3, none⟩) (Kd.R_far (p := ⟨gb565, 2, none⟩) (Kd.R_far (p := ⟨gb565, 1, none⟩) (Kd.R_far (p := ⟨gb565, 0, none⟩) (Kd.R_mono HO_7.out (fun k_ hk => (⟨hk, hk.2⟩ : _ ∧ k_ ≠ gb565))) (fun _ hk => hk.2) (.int .i64 ((rd_T44 t556 x80_3).f0))) (fun _ hk => hk.2) (.int .i64 ((rd_T44 t556 x80_3).f1))) (fun _ hk => hk.2) (.int .i64 ((rd_T44 t556 x80_3).f2))) (fun _ hk => hk.2) (.int .i64 ((rd_T44 t556 x80_3).f3))) (fun _ hk => hk.2) (.int .i64 ((rd_T44 t556 x80_3).f4))) (fun _ hk => hk.1.1)⟩, ⟨by (with_reducible repeat (first | apply Kd.R_alloc | apply Kd.R_drewN | apply Kd.R_drew)); exact Kd.R_mono (Kd.R_far (p := ⟨gb565, 4, none⟩) (Kd.R_far (p := ⟨gb565, 3, none⟩) (Kd.R_far (p := ⟨gb565, 2, none⟩) (Kd.R_far (p := ⟨gb565, 1, none⟩) (Kd.R_far (p := ⟨gb565, 0, none⟩) (Kd.R_mono HO_33.out (fun k_ hk => (⟨hk, hk.2⟩ : _ ∧ k_ ≠ gb565))) (fun _ hk => hk.2) (.int .i64 ((rd_T44 t556 x80_3).f0))) (fun _ hk => hk.2) (.int .i64 ((rd_T44 t556 x80_3).f1))) (fun _ hk => hk.2) (.int .i64 ((rd_T44 t556 x80_3).f2))) (fun _ hk => hk.2) (.int .i64 ((rd_T44 t556 x80_3).f3))) (fun _ hk => hk.2) (.int .i64 ((rd_T44 t556 x80_3).f4))) (fun _ hk => hk.1.1)⟩, ⟨by (with_reducible repeat (first | apply Kd.R_alloc | apply Kd.R_drewN | apply Kd.R_drew)); exact Kd.R_mono (Kd.R_far (p := ⟨gb565, 4, none⟩) (Kd.R_far (p := ⟨gb565, 3, none⟩) (Kd.R_far (p := ⟨gb565, 2, none⟩) (Kd.R_far (p := ⟨gb565, 1, none⟩) (Kd.R_far (p := ⟨gb565, 0, none⟩) (Kd.R_mono HO_78.out (fun k_ hk => (⟨hk, hk.2⟩ : _ ∧ k_ ≠ gb565))) (fun _ hk => hk.2) (.int .i64 ((rd_T44 t556 x80_3).f0))) (fun _ hk => hk.2) (.int .i64 ((rd_T44 t556 x80_3).f1))) (fun _ hk => hk.2) (.int .i64 ((rd_T44 t556 x80_3).f2))) (fun _ hk => hk.2) (.int .i64 ((rd_T44 t556 x80_3).f3))) (fun _ hk => hk.2) (.int .i64 ((rd_T44 t556 x80_3).f4))) (fun _ hk => hk.1.1)⟩, ⟨by exact (far5 NB553_565.out BK553.out)⟩, ⟨by exact (far5 NB563_565.out BK563.out)⟩, ⟨by repeat first | refine zS ?_ GE553.out | refine zS ?_ GE563.out | refine zS ?_ GE565.out | exact HB.out | apply zA | apply zN | apply zD⟩⟩
                   ·rw [if_neg c68] at H
                    have c68b0 : decide ((wrap64 (((rd_T44 t556 x80_3).f2) + ((rd_T44 t556 x80_3).f4))) < ((rd_T44 t556 x35_1).f2)) = false := decide_eq_false c68
                    clear c68
                    obtain rfl := Option.some.inj H
                    have p564 : 0 ≤ (x80_3 : Int) := of_decide_eq_true (by first | (with_reducible assumption) | assumption)
                    have q564 : x80_3 < (t556.length : Int) := of_decide_eq_true (by first | (with_reducible assumption) | assumption)
                    obtain ⟨ad564, e564, hx564_0, hx564_1, hx564_2, hx564_3, hx564_4⟩ := at_T44 (Kd.R_reads' HO_78.out).2.2 x80_3 p564 q564
                    obtain rfl : ad562 = ad564 := (by injection e564)
                    replace p564 := eq_true p564
                    replace q564 := eq_true q564
                    go_wp2_with (first | ((with_reducible refine gate_dst (N := 12) rfl ?_); (try (refine gate_guard (by rfl) ?_; dsimp only)); refine box_event ?hg (N := 12) ?hd (cs := #[.int .i64 0, .int .i64 0, .int .i64 0, .int .i64 0, .int .i64 0]) (t := 44) ?hr ?_; (case hd => rfl); (case hg => rfl); (case hr => first | (go_simp; done) | (go_simp; rfl)); intro gb565 hg w75 hbox hb; have BK565 := zM (hbox); have GW565 := zM ((by rw [hg]; exact (below_size (by repeat first | refine zS ?_ GE553.out | refine zS ?_ GE563.out | exact HB.out | apply zA | apply zN | apply zD)) : w.heap.size ≤ gb565)); have GE565 := GW565; have NB553_565 := zM ((by rw [hg]; exact lt1 BK553.out : gb553 ≠ gb565)); have NB565_553 := zM ((by rw [hg]; exact gt1 BK553.out : gb565 ≠ gb553)); have NB563_565 := zM ((by rw [hg]; exact lt1 BK563.out : gb563 ≠ gb565)); have NB565_563 := zM ((by rw [hg]; exact gt1 BK563.out : gb565 ≠ gb563)); replace HO_7 := zM (Kd.R_below (Kd.R_elderB (by (with_reducible repeat (first | apply Kd.R_alloc | apply Kd.R_drewN | apply Kd.R_drew)); exact HO_7.out) gb565 (Nat.le_of_eq hg.symm)) hb); replace HO_33 := zM (Kd.R_below (Kd.R_elderB (by (with_reducible repeat (first | apply Kd.R_alloc | apply Kd.R_drewN | apply Kd.R_drew)); exact HO_33.out) gb565 (Nat.le_of_eq hg.symm)) hb); replace HO_78 := zM (Kd.R_below (Kd.R_elderB (by (with_reducible repeat (first | apply Kd.R_alloc | apply Kd.R_drewN | apply Kd.R_drew)); exact HO_78.out) gb565 (Nat.le_of_eq hg.symm)) hb); replace BK553 := zM (bb hb BK553.out); replace BK563 := zM (bb hb BK563.out); replace HB := zM (below_step (by repeat first | refine zS ?_ GE553.out | refine zS ?_ GE563.out | exact HB.out | apply zA | apply zN | apply zD) hb); clear hb hbox hg; have hnb76 := NB565_553.out; have hnc76 := NB553_565.out; have hnb77 := NB565_563.out; have hnc77 := NB563_565.out; obtain ⟨hcz78_0, hcz78_1, hcz78_2, hcz78_3, hcz78_4, hfz78_0, hfz78_1, hfz78_2, hfz78_3, hfz78_4⟩ := cz5 BK565.out; have hnb79 := NB563_553.out; have hnc79 := NB553_563.out; obtain ⟨hcz80_0, hcz80_1, hcz80_2, hcz80_3, hcz80_4, hfz80_0, hfz80_1, hfz80_2, hfz80_3, hfz80_4⟩ := cz5 BK563.out))
                    go_ret
                    exact ⟨by first | rfl | (simp [errW_none, errW_some] <;> rfl) | (simp [*, errW_none, errW_some] <;> rfl), by repeat first | refine zS ?_ GE553.out | refine zS ?_ GE563.out | refine zS ?_ GE565.out | exact HB.out | apply zA | apply zN | apply zD⟩
               ·rw [if_neg c46] at H
                exact absurd H (by simp)
              ·rw [if_neg c45] at H
               exact absurd H (by simp)
             ·rw [if_neg c44] at H
              have c44b0 : decide (x80_3 < x35_1) = false := decide_eq_false c44
              have c44d0 : decide (x80_3 < ((x35_1.toNat : Nat) : Int)) = false := decide_eq_false (by have := of_decide_eq_false c44b0; omega)
              have c44e0 : decide (x80_3 < max x35_1 0) = false := decide_eq_false (by have := of_decide_eq_false c44b0; omega)
              have c44h0 : ¬ (x80_3 < max x35_1 0) := of_decide_eq_false c44e0
              clear c44
              have H' := zM H
              clear H
              go_wp2
              go_roundg k3
              case measure => have := HK1.out; have := HJ21.out; have := HK3.out; omega
              case rel => exact ⟨(wrap64 (x35_1 + 1)), (by first | rfl | (simp; done) | (simp [*]; done)), H', ⟨by have := HK1.out; have := HJ21.out; have := HK3.out; omega⟩, ⟨by (with_reducible repeat (first | apply Kd.R_alloc | apply Kd.R_drewN | apply Kd.R_drew)); exact Kd.R_mono HO_7.out (fun _ hk => trivial)⟩, ⟨by (with_reducible repeat (first | apply Kd.R_alloc | apply Kd.R_drewN | apply Kd.R_drew)); exact Kd.R_mono HO_33.out (fun _ hk => trivial)⟩, ⟨by (with_reducible repeat (first | refine blk_drewN ?_ _ | refine blk_drew ?_ | refine blk_alloc ?_ _)); exact BK553.out⟩, ⟨by repeat first | refine zS ?_ GE553.out | refine zS ?_ GE563.out | exact HB.out | apply zA | apply zN | apply zD⟩⟩
       ·rw [if_neg c21] at H
        exact absurd H (by simp)
      ·rw [if_neg c20] at H
       exact absurd H (by simp)
     ·rw [if_neg c19] at H
      have c19b0 : decide (x35_1 < (t556.length : Int)) = false := decide_eq_false c19
      clear c19
      replace H := Option.bind_eq_some_iff.mp H
      obtain ⟨t561, A810, H⟩ := H
      replace H : (if t561 = true then (some (decide ((t556.length : Int) ≥ 1))) else (some false)) = some r := H
      have A81 := zM A810
      clear A810
      by_cases c82 : t561 = true
      ·subst c82
       have H1 : (some (decide ((t556.length : Int) ≥ 1))) = some r := by rw [if_pos rfl] at H; exact H
       clear H
       have H := H1
       clear H1
       obtain rfl := Option.some.inj H
       go_wp2_with (first | ((with_reducible refine gate_callee (f := 28) rfl ?_); refine ga (some 126) rfl rfl Try.func28 (by kernel_rfl) rfl #[] rfl ?_; (with_reducible refine (backseatlaw11_alive.calls k1  true _ A81.out).mono ?_); rintro e w83 ⟨rfl, hb⟩; refine ⟨_, rfl, ?_⟩; replace HO_7 := zM (Kd.R_below (by (with_reducible repeat (first | apply Kd.R_alloc | apply Kd.R_drewN | apply Kd.R_drew)); exact HO_7.out) hb); replace HO_33 := zM (Kd.R_below (by (with_reducible repeat (first | apply Kd.R_alloc | apply Kd.R_drewN | apply Kd.R_drew)); exact HO_33.out) hb); replace BK553 := zM (bb hb BK553.out); replace HB := zM (below_step (by repeat first | refine zS ?_ GE553.out | exact HB.out | apply zA | apply zN | apply zD) hb); (try clear hb); (try clear hb2); (try clear hk); (try clear hi)))
       go_ret
       exact ⟨by first | rfl | (simp [errW_none, errW_some] <;> rfl) | (simp [*, errW_none, errW_some] <;> rfl), by repeat first | refine zS ?_ GE553.out | exact HB.out | apply zA | apply zN | apply zD⟩
      ·replace c82 := Bool.eq_false_iff.mpr c82
       subst c82
       have H1 : (some false) = some r := by rw [if_neg (show ¬ (false = true) by decide)] at H; exact H
       clear H
       have H := H1
       clear H1
       obtain rfl := Option.some.inj H
       go_wp2_with (first | ((with_reducible refine gate_callee (f := 28) rfl ?_); refine ga (some 126) rfl rfl Try.func28 (by kernel_rfl) rfl #[] rfl ?_; (with_reducible refine (backseatlaw11_alive.calls k1  false _ A81.out).mono ?_); rintro e w84 ⟨rfl, hb⟩; refine ⟨_, rfl, ?_⟩; replace HO_7 := zM (Kd.R_below (by (with_reducible repeat (first | apply Kd.R_alloc | apply Kd.R_drewN | apply Kd.R_drew)); exact HO_7.out) hb); replace HO_33 := zM (Kd.R_below (by (with_reducible repeat (first | apply Kd.R_alloc | apply Kd.R_drewN | apply Kd.R_drew)); exact HO_33.out) hb); replace BK553 := zM (bb hb BK553.out); replace HB := zM (below_step (by repeat first | refine zS ?_ GE553.out | exact HB.out | apply zA | apply zN | apply zD) hb); (try clear hb); (try clear hb2); (try clear hk); (try clear hi)))
       go_ret
       exact ⟨by first | rfl | (simp [errW_none, errW_some] <;> rfl) | (simp [*, errW_none, errW_some] <;> rfl), by repeat first | refine zS ?_ GE553.out | exact HB.out | apply zA | apply zN | apply zD⟩
  ·rw [if_neg c12] at H
   have c12b0 : (t559 == 0) = false := beq_eq_false_iff_ne.mpr c12
   have c12b1 : (t559 != 0) = true := bne_iff_ne.mpr c12
   replace H := Option.bind_eq_some_iff.mp H
   obtain ⟨t560, A850, H⟩ := H
   replace H : (if t560 = true then (some ((t556.length : Int) == 0)) else (some false)) = some r := H
   have A85 := zM A850
   clear A850
   by_cases c86 : t560 = true
   ·subst c86
    have H1 : (some ((t556.length : Int) == 0)) = some r := by rw [if_pos rfl] at H; exact H
    clear H
    have H := H1
    clear H1
    obtain rfl := Option.some.inj H
    go_enter Try.func7, Try.ntmps7
    go_wp2_with (first | ((with_reducible refine gate_dst (N := 3) rfl ?_); (try (refine gate_guard (by rfl) ?_; dsimp only)); refine box_event ?hg (N := 3) ?hd (cs := #[.int .i64 a0_0, .int .i64 a0_1, .int .i64 a0_2, .slice A0_3 l0_3.length c0_3]) (t := 31) ?hr ?_; (case hd => rfl); (case hg => rfl); (case hr => first | (go_simp; done) | (go_simp; rfl)); intro gb553 hg w87 hbox hb; have BK553 := zM (hbox); have GW553 := zM ((by rw [hg]; exact (below_size (by first | exact HB.out | exact zN HB.out _ | exact zD HB.out)) : w.heap.size ≤ gb553)); have GE553 := GW553; replace HB := zM (below_step (by first | exact HB.out | exact zN HB.out _ | exact zD HB.out) hb); clear hb hbox hg; obtain ⟨hcz88_0, hcz88_1, hcz88_2, hcz88_3, hfz88_0, hfz88_1, hfz88_2, hfz88_3⟩ := cz4 BK553.out) | ((with_reducible refine gate_callee (f := 27) rfl ?_); refine ga (some 15) rfl rfl Try.func27 (by kernel_rfl) rfl #[.agg #[.int .i64 a0_0, .int .i64 a0_1, .int .i64 a0_2, .slice A0_3 l0_3.length c0_3], .int .i64 60] rfl ?_; (with_reducible refine (backseatref11_Count.calls k a0_0 a0_1 a0_2 _ _ l0_3 60 t554 _ ?side1 ?side2 A4.out).mono ?_); (case side1 => repeat (first | exact (Kd.C_below HR0_3.out HB.out) | (with_reducible refine Kd.C_alloc ?_ _) | (with_reducible refine Kd.C_drewN ?_ _) | (with_reducible refine Kd.C_drew ?_))); (case side2 => exact HC0_3.out); rintro e w89 ⟨rfl, hb⟩; refine ⟨_, rfl, ?_⟩; replace BK553 := zM (bb hb BK553.out); replace HB := zM (below_step (by repeat first | refine zS ?_ GE553.out | exact HB.out | apply zA | apply zN | apply zD) hb); (try clear hb); (try clear hb2); (try clear hk); (try clear hi); obtain ⟨hcz90_0, hcz90_1, hcz90_2, hcz90_3, hfz90_0, hfz90_1, hfz90_2, hfz90_3⟩ := cz4 BK553.out) | ((with_reducible refine gate_callee (f := 18) rfl ?_); refine ga (some 22) rfl rfl Try.func18 (by kernel_rfl) rfl #[.agg #[.int .i64 a0_0, .int .i64 a0_1, .int .i64 a0_2, .slice A0_3 l0_3.length c0_3], .int .i64 a1, .int .i64 a2] rfl ?_; (with_reducible refine (tree_Rects.calls k a0_0 a0_1 a0_2 _ _ l0_3 a1 a2 t556 t559 _ ?side1 ?side2 A11.out).mono ?_); (case side1 => repeat (first | exact (Kd.C_below HR0_3.out HB.out) | (with_reducible refine Kd.C_alloc ?_ _) | (with_reducible refine Kd.C_drewN ?_ _) | (with_reducible refine Kd.C_drew ?_))); (case side2 => exact HC0_3.out); rintro e w91 ⟨v557, rfl, ho0, hb⟩; refine ⟨_, rfl, ?_⟩; have HO558 := zM (Kd.R_lower ho0 (below_size (by repeat first | refine zS ?_ GE553.out | exact HB.out | apply zA | apply zN | apply zD))); replace BK553 := zM (bb hb BK553.out); replace HB := zM (below_step (by repeat first | refine zS ?_ GE553.out | exact HB.out | apply zA | apply zN | apply zD) hb); (try clear hb); (try clear hb2); (try clear hk); (try clear hi); (try clear ho0)) | ((with_reducible refine gate_callee (f := 28) rfl ?_); refine ga (some 27) rfl rfl Try.func28 (by kernel_rfl) rfl #[] rfl ?_; (with_reducible refine (backseatlaw11_alive.calls k  true _ A85.out).mono ?_); rintro e w92 ⟨rfl, hb⟩; refine ⟨_, rfl, ?_⟩; replace HO558 := zM (Kd.R_below (by (with_reducible repeat (first | apply Kd.R_alloc | apply Kd.R_drewN | apply Kd.R_drew)); exact HO558.out) hb); replace BK553 := zM (bb hb BK553.out); replace HB := zM (below_step (by repeat first | refine zS ?_ GE553.out | exact HB.out | apply zA | apply zN | apply zD) hb); (try clear hb); (try clear hb2); (try clear hk); (try clear hi); obtain ⟨Ao93, co93, eo93⟩ := Kd.R_slice HO558.out; subst eo93))
    go_ret
    exact ⟨by first | rfl | (simp [errW_none, errW_some] <;> rfl) | (simp [*, errW_none, errW_some] <;> rfl), by repeat first | refine zS ?_ GE553.out | exact HB.out | apply zA | apply zN | apply zD⟩
   ·replace c86 := Bool.eq_false_iff.mpr c86
    subst c86
    have H1 : (some false) = some r := by rw [if_neg (show ¬ (false = true) by decide)] at H; exact H
    clear H
    have H := H1
    clear H1
    obtain rfl := Option.some.inj H
    go_enter Try.func7, Try.ntmps7
    go_wp2_with (first | ((with_reducible refine gate_dst (N := 3) rfl ?_); (try (refine gate_guard (by rfl) ?_; dsimp only)); refine box_event ?hg (N := 3) ?hd (cs := #[.int .i64 a0_0, .int .i64 a0_1, .int .i64 a0_2, .slice A0_3 l0_3.length c0_3]) (t := 31) ?hr ?_; (case hd => rfl); (case hg => rfl); (case hr => first | (go_simp; done) | (go_simp; rfl)); intro gb553 hg w94 hbox hb; have BK553 := zM (hbox); have GW553 := zM ((by rw [hg]; exact (below_size (by first | exact HB.out | exact zN HB.out _ | exact zD HB.out)) : w.heap.size ≤ gb553)); have GE553 := GW553; replace HB := zM (below_step (by first | exact HB.out | exact zN HB.out _ | exact zD HB.out) hb); clear hb hbox hg; obtain ⟨hcz95_0, hcz95_1, hcz95_2, hcz95_3, hfz95_0, hfz95_1, hfz95_2, hfz95_3⟩ := cz4 BK553.out) | ((with_reducible refine gate_callee (f := 27) rfl ?_); refine ga (some 15) rfl rfl Try.func27 (by kernel_rfl) rfl #[.agg #[.int .i64 a0_0, .int .i64 a0_1, .int .i64 a0_2, .slice A0_3 l0_3.length c0_3], .int .i64 60] rfl ?_; (with_reducible refine (backseatref11_Count.calls k a0_0 a0_1 a0_2 _ _ l0_3 60 t554 _ ?side1 ?side2 A4.out).mono ?_); (case side1 => repeat (first | exact (Kd.C_below HR0_3.out HB.out) | (with_reducible refine Kd.C_alloc ?_ _) | (with_reducible refine Kd.C_drewN ?_ _) | (with_reducible refine Kd.C_drew ?_))); (case side2 => exact HC0_3.out); rintro e w96 ⟨rfl, hb⟩; refine ⟨_, rfl, ?_⟩; replace BK553 := zM (bb hb BK553.out); replace HB := zM (below_step (by repeat first | refine zS ?_ GE553.out | exact HB.out | apply zA | apply zN | apply zD) hb); (try clear hb); (try clear hb2); (try clear hk); (try clear hi); obtain ⟨hcz97_0, hcz97_1, hcz97_2, hcz97_3, hfz97_0, hfz97_1, hfz97_2, hfz97_3⟩ := cz4 BK553.out) | ((with_reducible refine gate_callee (f := 18) rfl ?_); refine ga (some 22) rfl rfl Try.func18 (by kernel_rfl) rfl #[.agg #[.int .i64 a0_0, .int .i64 a0_1, .int .i64 a0_2, .slice A0_3 l0_3.length c0_3], .int .i64 a1, .int .i64 a2] rfl ?_; (with_reducible refine (tree_Rects.calls k a0_0 a0_1 a0_2 _ _ l0_3 a1 a2 t556 t559 _ ?side1 ?side2 A11.out).mono ?_); (case side1 => repeat (first | exact (Kd.C_below HR0_3.out HB.out) | (with_reducible refine Kd.C_alloc ?_ _) | (with_reducible refine Kd.C_drewN ?_ _) | (with_reducible refine Kd.C_drew ?_))); (case side2 => exact HC0_3.out); rintro e w98 ⟨v557, rfl, ho0, hb⟩; refine ⟨_, rfl, ?_⟩; have HO558 := zM (Kd.R_lower ho0 (below_size (by repeat first | refine zS ?_ GE553.out | exact HB.out | apply zA | apply zN | apply zD))); replace BK553 := zM (bb hb BK553.out); replace HB := zM (below_step (by repeat first | refine zS ?_ GE553.out | exact HB.out | apply zA | apply zN | apply zD) hb); (try clear hb); (try clear hb2); (try clear hk); (try clear hi); (try clear ho0)) | ((with_reducible refine gate_callee (f := 28) rfl ?_); refine ga (some 27) rfl rfl Try.func28 (by kernel_rfl) rfl #[] rfl ?_; (with_reducible refine (backseatlaw11_alive.calls k  false _ A85.out).mono ?_); rintro e w99 ⟨rfl, hb⟩; refine ⟨_, rfl, ?_⟩; replace HO558 := zM (Kd.R_below (by (with_reducible repeat (first | apply Kd.R_alloc | apply Kd.R_drewN | apply Kd.R_drew)); exact HO558.out) hb); replace BK553 := zM (bb hb BK553.out); replace HB := zM (below_step (by repeat first | refine zS ?_ GE553.out | exact HB.out | apply zA | apply zN | apply zD) hb); (try clear hb); (try clear hb2); (try clear hk); (try clear hi)))
    go_ret
    exact ⟨by first | rfl | (simp [errW_none, errW_some] <;> rfl) | (simp [*, errW_none, errW_some] <;> rfl), by repeat first | refine zS ?_ GE553.out | exact HB.out | apply zA | apply zN | apply zD⟩
end Go.Proofs.Ytplngfammfdemaa.Q
