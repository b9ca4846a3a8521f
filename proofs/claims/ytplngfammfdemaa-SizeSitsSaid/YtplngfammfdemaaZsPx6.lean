-- A copy of the text YtplngfammfdemaaPx6 with what this claim does not reach left out (prune.py, a program of this project).
import Derived.Test.YtplngfammfdemaaZsPx0
namespace Go.Proofs.Ytplngfammfdemaa.P
open Go.RowKit Go.Proofs.Ytplngfammfdemaa Go.Proofs.YtplngfammfdemaaW.PrintWords Go.Proofs.YtplngfammfdemaaW.PrintLast Go.Proofs.YtplngfammfdemaaW.PrintMore
attribute [local go_sem] max2_int min2_int max_two min_two max_three min_three max_four min_four   -- for this text's walks alone
set_option linter.unusedVariables false
set_option linter.unusedSimpArgs false
def backseatref16_Latest.l0 : Nat → List (S48) → Int → Int → Int → Int → Int → Int → Option (Int × Int × Int × Int)
  | 0, _, _, _, _, _, _, _ => none
  | k + 1, x7, x8, x9, x183000, x183001, x183002, x183003 => if x9 < x8 then (if 0 ≤ x9 then (if x9 < (x7.length : Int) then (if x183000 = 0 then (backseatref16_Latest.l0 k x7 x8 (wrap64 (x9 + 1)) ((rd_T48 x7 x9).f0) ((rd_T48 x7 x9).f1) ((rd_T48 x7 x9).f2) ((rd_T48 x7 x9).f3)) else (if ((rd_T48 x7 x9).f3) > x183003 then (backseatref16_Latest.l0 k x7 x8 (wrap64 (x9 + 1)) ((rd_T48 x7 x9).f0) ((rd_T48 x7 x9).f1) ((rd_T48 x7 x9).f2) ((rd_T48 x7 x9).f3)) else (backseatref16_Latest.l0 k x7 x8 (wrap64 (x9 + 1)) x183000 x183001 x183002 x183003))) else (none)) else (none)) else (some (x183000, x183001, x183002, x183003))
def backseatref16_Latest.f (k : Nat) (l0 : List (S48)) : Option (Int × Int × Int × Int) := backseatref16_Latest.l0 k l0 (l0.length : Int) 0 0 0 0 0
theorem backseatref16_Latest.mono_l : ∀ k, (∀ y0 y1 y2 y3 y4 y5 y6, LeO (backseatref16_Latest.l0 k y0 y1 y2 y3 y4 y5 y6) (backseatref16_Latest.l0 (k + 1) y0 y1 y2 y3 y4 y5 y6))
  | 0 => fun _ _ _ _ _ _ _ r h => by simp [backseatref16_Latest.l0] at h
  | k + 1 => by
    have ih0 := backseatref16_Latest.mono_l k
    · intro y0 y1 y2 y3 y4 y5 y6
      unfold backseatref16_Latest.l0
      repeat' first
      | (with_reducible exact ih0 _ _ _ _ _ _ _)
      | (with_reducible exact LeO.refl _)
      | (with_reducible exact LeO.none _)
      | (with_reducible refine LeO.ite ?_ ?_)
      | (with_reducible refine LeO.bind ?_ (fun _ => ?_))
      | exact ih0 _ _ _ _ _ _ _
      | exact LeO.none _
      | refine LeO.ite ?_ ?_
      | refine LeO.bind ?_ (fun _ => ?_)
theorem backseatref16_Latest.mono : ∀ a0 k, LeO (backseatref16_Latest.f k a0) (backseatref16_Latest.f (k + 1) a0) := by
  intro a0 k
  have ih0 := backseatref16_Latest.mono_l k
  unfold backseatref16_Latest.f
  repeat' first
      | (with_reducible exact ih0 _ _ _ _ _ _ _)
      | (with_reducible exact LeO.refl _)
      | (with_reducible exact LeO.none _)
      | (with_reducible refine LeO.ite ?_ ?_)
      | (with_reducible refine LeO.bind ?_ (fun _ => ?_))
      | exact ih0 _ _ _ _ _ _ _
      | exact LeO.none _
      | refine LeO.ite ?_ ?_
      | refine LeO.bind ?_ (fun _ => ?_)
mutual
def backseatref16_Some.l0 : Nat → List Int → List (S48) → List (S48) → Int → Int → Option ((List (S48)))
  | 0, _, _, _, _, _ => none
  | k + 1, x1, x5, x12, x13, x14 => if x14 < x13 then (if 0 ≤ x14 then (if x14 < (x12.length : Int) then (backseatref16_Some.l1 k x1 x5 false x12 x13 x14 x1 (x1.length : Int) 0 ((rd_T48 x12 x14).f0) ((rd_T48 x12 x14).f1) ((rd_T48 x12 x14).f2) ((rd_T48 x12 x14).f3)) else (none)) else (none)) else (some x5)
def backseatref16_Some.l1 : Nat → List Int → List (S48) → Bool → List (S48) → Int → Int → List Int → Int → Int → Int → Int → Int → Int → Option ((List (S48)))
  | 0, _, _, _, _, _, _, _, _, _, _, _, _, _ => none
  | k + 1, x1, x5, x8, x12, x13, x14, x18, x19, x20, x190000, x190001, x190002, x190003 => if x20 < x19 then (if 0 ≤ x20 then (if x20 < (x18.length : Int) then (if x8 = true then (backseatref16_Some.l1 k x1 x5 true x12 x13 x14 x18 x19 (wrap64 (x20 + 1)) x190000 x190001 x190002 x190003) else (backseatref16_Some.l1 k x1 x5 ((rd x18 x20) == x190000) x12 x13 x14 x18 x19 (wrap64 (x20 + 1)) x190000 x190001 x190002 x190003)) else (none)) else (none)) else (if x8 = true then (if x5.length < 4398046511104 then (backseatref16_Some.l0 k x1 (x5 ++ [(⟨x190000, x190001, x190002, x190003⟩ : S48)]) x12 x13 (wrap64 (x14 + 1))) else (none)) else (backseatref16_Some.l0 k x1 x5 x12 x13 (wrap64 (x14 + 1))))
end
def backseatref16_Some.f (k : Nat) (l0 : List (S48)) (l1 : List Int) : Option ((List (S48))) := backseatref16_Some.l0 k l1 (([] : List (S48))) l0 (l0.length : Int) 0
theorem backseatref16_Some.mono_l : ∀ k, (∀ y0 y1 y2 y3 y4, LeO (backseatref16_Some.l0 k y0 y1 y2 y3 y4) (backseatref16_Some.l0 (k + 1) y0 y1 y2 y3 y4)) ∧ (∀ y0 y1 y2 y3 y4 y5 y6 y7 y8 y9 y10 y11 y12, LeO (backseatref16_Some.l1 k y0 y1 y2 y3 y4 y5 y6 y7 y8 y9 y10 y11 y12) (backseatref16_Some.l1 (k + 1) y0 y1 y2 y3 y4 y5 y6 y7 y8 y9 y10 y11 y12))
  | 0 => ⟨fun _ _ _ _ _ r h => by simp [backseatref16_Some.l0] at h, fun _ _ _ _ _ _ _ _ _ _ _ _ _ r h => by simp [backseatref16_Some.l1] at h⟩
  | k + 1 => by
    obtain ⟨ih0, ih1⟩ := backseatref16_Some.mono_l k
    refine ⟨?_, ?_⟩
    · intro y0 y1 y2 y3 y4
      unfold backseatref16_Some.l0
      repeat' first
      | (with_reducible exact ih0 _ _ _ _ _)
      | (with_reducible exact ih1 _ _ _ _ _ _ _ _ _ _ _ _ _)
      | (with_reducible exact LeO.refl _)
      | (with_reducible exact LeO.none _)
      | (with_reducible refine LeO.ite ?_ ?_)
      | (with_reducible refine LeO.bind ?_ (fun _ => ?_))
      | exact ih0 _ _ _ _ _
      | exact ih1 _ _ _ _ _ _ _ _ _ _ _ _ _
      | exact LeO.none _
      | refine LeO.ite ?_ ?_
      | refine LeO.bind ?_ (fun _ => ?_)
    · intro y0 y1 y2 y3 y4 y5 y6 y7 y8 y9 y10 y11 y12
      unfold backseatref16_Some.l1
      repeat' first
      | (with_reducible exact ih0 _ _ _ _ _)
      | (with_reducible exact ih1 _ _ _ _ _ _ _ _ _ _ _ _ _)
      | (with_reducible exact LeO.refl _)
      | (with_reducible exact LeO.none _)
      | (with_reducible refine LeO.ite ?_ ?_)
      | (with_reducible refine LeO.bind ?_ (fun _ => ?_))
      | exact ih0 _ _ _ _ _
      | exact ih1 _ _ _ _ _ _ _ _ _ _ _ _ _
      | exact LeO.none _
      | refine LeO.ite ?_ ?_
      | refine LeO.bind ?_ (fun _ => ?_)
theorem backseatref16_Some.mono : ∀ a0 a1 k, LeO (backseatref16_Some.f k a0 a1) (backseatref16_Some.f (k + 1) a0 a1) := by
  intro a0 a1 k
  obtain ⟨ih0, ih1⟩ := backseatref16_Some.mono_l k
  unfold backseatref16_Some.f
  repeat' first
      | (with_reducible exact ih0 _ _ _ _ _)
      | (with_reducible exact ih1 _ _ _ _ _ _ _ _ _ _ _ _ _)
      | (with_reducible exact LeO.refl _)
      | (with_reducible exact LeO.none _)
      | (with_reducible refine LeO.ite ?_ ?_)
      | (with_reducible refine LeO.bind ?_ (fun _ => ?_))
      | exact ih0 _ _ _ _ _
      | exact ih1 _ _ _ _ _ _ _ _ _ _ _ _ _
      | exact LeO.none _
      | refine LeO.ite ?_ ?_
      | refine LeO.bind ?_ (fun _ => ?_)
set_option maxHeartbeats 8000000 in
set_option maxRecDepth 100000 in
theorem backseatref16_Some.calls (k : Nat) (A0 : Option Addr) (c0 : Nat) (l0 : List (S48)) (A1 : Option Addr) (c1 : Nat) (l1 : List Int) (r : List (S48)) (w : World) (hr0 : Kd.C k48 w A0 l0.length l0) (hc0 : l0.length ≤ c0) (hr1 : Kd.C (Kd.int .i64) w A1 l1.length l1) (hc1 : l1.length ≤ c1) (h : backseatref16_Some.f k l0 l1 = some r) :
    Calls Try.prog 26 #[.slice A0 l0.length c0, .slice A1 l1.length c1] w fun e w' => ∃ v0_ : Value, e = .returned (v0_) ∧ Kd.R k48 48 w' w.heap.size (fun _ => True) v0_ r ∧ Below w.heap.size w w' := by
  have hu48 := Try.underlying48
  have HR0 := Aside0.mk hr0
  have HC0 := Aside0.mk hc0
  clear hr0 hc0
  have HR1 := Aside0.mk hr1
  have HC1 := Aside0.mk hc1
  clear hr1 hc1
  have HB := Aside0.mk (Below.refl w.heap.size w)
  have H : (backseatref16_Some.l0 k l1 (([] : List (S48))) l0 (l0.length : Int) 0) = some r := h
  clear h
  obtain ⟨y185, hy185⟩ : ∃ y_ : List (S48), y_ = (([] : List (S48))) := ⟨_, rfl⟩
  replace H : (backseatref16_Some.l0 k l1 y185 l0 (l0.length : Int) 0) = some r := by first | (rw [hy185]; with_reducible exact H) | (have H2_ := (Option.bind_some _ _).symm.trans H; rw [hy185]; with_reducible exact H2_) | (have H2_ := (Option.bind_some _ _).symm.trans H; with_reducible exact H2_) | with_reducible exact H | (rw [hy185]; exact H) | exact H
  have Ny185 := Aside0.mk hy185
  clear hy185
  have H' := Aside0.mk H
  clear H
  go_enter Try.func26, Try.ntmps26
  go_wp2_with (first | ((with_reducible refine gate_dst (N := 11) rfl ?_); refine Kd.R_lit k48 _ 48 ?hg (N := 11) ?hd (xs := ([] : List (S48))) (inner := []) (ok := fun _ => True) (okp := fun _ => True) ?hr ?hp (fun _ hk => hk) trivial (Below.refl _ _) (Nat.le_refl _) (by simp) ?_; (case hd => rfl); (case hg => rfl); (case hr => first | (go_simp; done) | (go_simp; rfl)); (case hp => exact (Reps.none _ _)); intro v186 w3 ho4 hb hg_ hnew_; clear hg_ hnew_; (first | rw [← Ny185.out] at ho4 | (simp only [Int.reduceToNat] at ho4; rw [← Ny185.out] at ho4)); have n0_ := Aside0.mk (Kd.R_lower ho4 (below_size (by repeat (first | (with_reducible first | exact HB.out | apply below_alloc | apply pw_below_drewN | apply below_drew1) | exact HB.out)))); have n1_ := Aside0.mk (below_step (by repeat (first | (with_reducible first | exact HB.out | apply below_alloc | apply pw_below_drewN | apply below_drew1) | exact HB.out)) hb); clear HB; have HO187 := n0_; have HB := n1_; clear n0_ n1_; clear hb ho4))
  go_loopg [5, 14] k (fun kq v5 v14 w' => ∃ (x5_1 : List (S48)) (x14_1 : Int), v14 = .int .i64 x14_1 ∧ Aside0 (backseatref16_Some.l0 kq l1 x5_1 l0 (l0.length : Int) x14_1 = some r) ∧ Aside0 (kq ≤ k) ∧ Aside0 (Kd.R k48 48 w' w.heap.size (fun _ => True) v5 x5_1) ∧ Aside0 (Below w.heap.size w w'))
  case atStart => exact ⟨(y185), (0), (by first | rfl | (simp; done) | (simp [*]; done)), H', ⟨Nat.le_refl _⟩, ⟨by (with_reducible repeat (first | apply Kd.R_alloc | apply Kd.R_drewN | apply Kd.R_drew)); exact HO187.out⟩, ⟨by repeat (first | (with_reducible first | exact HB.out | apply below_alloc | apply pw_below_drewN | apply below_drew1) | exact HB.out)⟩⟩
  case round =>
    clear H'
    try clear c1
    try clear c2
    try clear p2
    obtain ⟨x5_1, x14_1, rfl, HA, HK1, HO_5, HB⟩ := hrel
    cases gk with
    | zero => exact absurd HA.out (by simp [backseatref16_Some.l0])
    | succ k1 =>
      have H := HA.out
      clear HA
      simp only [backseatref16_Some.l0] at H
      by_cases c5 : x14_1 < (l0.length : Int)
      · rw [if_pos c5] at H
        have c5b0 : decide (x14_1 < (l0.length : Int)) = true := decide_eq_true c5
        clear c5
        by_cases c6 : 0 ≤ x14_1
        · rw [if_pos c6] at H
          have c6b0 : decide (0 ≤ x14_1) = true := decide_eq_true c6
          clear c6
          by_cases c7 : x14_1 < (l0.length : Int)
          · rw [if_pos c7] at H
            have c7b0 : decide (x14_1 < (l0.length : Int)) = true := decide_eq_true c7
            clear c7
            have H' := Aside0.mk H
            clear H
            have p188 : 0 ≤ (x14_1 : Int) := of_decide_eq_true (by first | (with_reducible assumption) | assumption)
            have q188 : x14_1 < (l0.length : Int) := of_decide_eq_true (by first | (with_reducible assumption) | assumption)
            obtain ⟨ad188, e188, hx188_0, hx188_1, hx188_2, hx188_3⟩ := at_T48 HR0.out x14_1 p188 q188
            cases e188
            replace hx188_0 := (HB.out.cell (World.block_lt_of_cell? w _ hx188_0)).trans hx188_0
            replace hx188_1 := (HB.out.cell (World.block_lt_of_cell? w _ hx188_1)).trans hx188_1
            replace hx188_2 := (HB.out.cell (World.block_lt_of_cell? w _ hx188_2)).trans hx188_2
            replace hx188_3 := (HB.out.cell (World.block_lt_of_cell? w _ hx188_3)).trans hx188_3
            replace p188 := eq_true p188
            replace q188 := eq_true q188
            go_wp2_with (first | ((with_reducible refine gate_dst (N := 7) rfl ?_); refine box_event ?hg (N := 7) ?hd (cs := #[.int .i64 0, .int .i64 0, .int .i64 0, .int .i64 0]) (t := 48) ?hr ?_; (case hd => rfl); (case hg => rfl); (case hr => first | (go_simp; done) | (go_simp; rfl)); intro gb189 hg w8 hbox hb; have n0_ := Aside0.mk (Kd.R_below (Kd.R_elderB (by (with_reducible repeat (first | apply Kd.R_alloc | apply Kd.R_drewN | apply Kd.R_drew)); exact HO_5.out) gb189 (Nat.le_of_eq hg.symm)) hb); have n1_ := Aside0.mk (below_step (by repeat (first | (with_reducible first | exact HB.out | apply below_alloc | apply pw_below_drewN | apply below_drew1) | exact HB.out)) hb); have n2_ := Aside0.mk (hbox); have n3_ := Aside0.mk ((by rw [hg]; exact (below_size (by repeat (first | (with_reducible first | exact HB.out | apply below_alloc | apply pw_below_drewN | apply below_drew1) | exact HB.out))) : w.heap.size ≤ gb189)); have n4_ := Aside0.mk ((by rw [hg]; exact (below_size (by repeat (first | (with_reducible first | exact HB.out | apply below_alloc | apply pw_below_drewN | apply below_drew1) | exact HB.out))) : w.heap.size ≤ gb189)); clear HO_5; clear HB; have HO_5 := n0_; have HB := n1_; have BK189 := n2_; have GW189 := n3_; have GE189 := n4_; clear n0_ n1_ n2_ n3_ n4_; clear hb hbox hg; have hcz9_0 : w8.cell? ⟨gb189, 0, none⟩ = some (.int .i64 0) := (blk_cell BK189.out 0).trans rfl; have hcz9_1 : w8.cell? ⟨gb189, 1, none⟩ = some (.int .i64 0) := (blk_cell BK189.out 1).trans rfl; have hcz9_2 : w8.cell? ⟨gb189, 2, none⟩ = some (.int .i64 0) := (blk_cell BK189.out 2).trans rfl; have hcz9_3 : w8.cell? ⟨gb189, 3, none⟩ = some (.int .i64 0) := (blk_cell BK189.out 3).trans rfl; have hfz9_0 := blk_frozen BK189.out 0; have hfz9_1 := blk_frozen BK189.out 1; have hfz9_2 := blk_frozen BK189.out 2; have hfz9_3 := blk_frozen BK189.out 3))
            go_loopg [8, 20] k1 (fun kq v8 v20 w' => ∃ (x8_2 : Bool) (x20_2 : Int), v8 = .bool x8_2 ∧ v20 = .int .i64 x20_2 ∧ Aside0 (backseatref16_Some.l1 kq l1 x5_1 x8_2 l0 (l0.length : Int) x14_1 l1 (l1.length : Int) x20_2 ((rd_T48 l0 x14_1).f0) ((rd_T48 l0 x14_1).f1) ((rd_T48 l0 x14_1).f2) ((rd_T48 l0 x14_1).f3) = some r) ∧ Aside0 (kq ≤ k1) ∧ Aside0 (Kd.R k48 48 w' w.heap.size (fun k_ => k_ ≠ gb189) u5 x5_1) ∧ Aside0 (w'.heap[gb189]? = some (.cells #[.int .i64 ((rd_T48 l0 x14_1).f0), .int .i64 ((rd_T48 l0 x14_1).f1), .int .i64 ((rd_T48 l0 x14_1).f2), .int .i64 ((rd_T48 l0 x14_1).f3)] 48 (0, 0))) ∧ Aside0 (Below w.heap.size w w'))
            case atStart => exact ⟨(false), (0), (by first | rfl | (simp; done) | (simp [*]; done)), (by first | rfl | (simp; done) | (simp [*]; done)), H', ⟨Nat.le_refl _⟩, ⟨by (with_reducible repeat (first | apply Kd.R_alloc | apply Kd.R_drewN | apply Kd.R_drew)); exact Kd.R_mono (Kd.R_far (p := ⟨gb189, 3, none⟩) (Kd.R_far (p := ⟨gb189, 2, none⟩) (Kd.R_far (p := ⟨gb189, 1, none⟩) (Kd.R_far (p := ⟨gb189, 0, none⟩) (Kd.R_mono HO_5.out (fun k_ hk => (⟨hk, hk.2⟩ : _ ∧ k_ ≠ gb189))) (fun _ hk => hk.2) (.int .i64 ((rd_T48 l0 x14_1).f0))) (fun _ hk => hk.2) (.int .i64 ((rd_T48 l0 x14_1).f1))) (fun _ hk => hk.2) (.int .i64 ((rd_T48 l0 x14_1).f2))) (fun _ hk => hk.2) (.int .i64 ((rd_T48 l0 x14_1).f3))) (fun _ hk => hk.1.2)⟩, ⟨by (with_reducible repeat (first | refine blk_drewN ?_ _ | refine blk_drew ?_ | refine blk_alloc ?_ _)); refine blk_put (cs := #[.int .i64 ((rd_T48 l0 x14_1).f0), .int .i64 ((rd_T48 l0 x14_1).f1), .int .i64 ((rd_T48 l0 x14_1).f2), .int .i64 0]) ?_ 3 _ rfl; (with_reducible repeat (first | refine blk_drewN ?_ _ | refine blk_drew ?_ | refine blk_alloc ?_ _)); refine blk_put (cs := #[.int .i64 ((rd_T48 l0 x14_1).f0), .int .i64 ((rd_T48 l0 x14_1).f1), .int .i64 0, .int .i64 0]) ?_ 2 _ rfl; (with_reducible repeat (first | refine blk_drewN ?_ _ | refine blk_drew ?_ | refine blk_alloc ?_ _)); refine blk_put (cs := #[.int .i64 ((rd_T48 l0 x14_1).f0), .int .i64 0, .int .i64 0, .int .i64 0]) ?_ 1 _ rfl; (with_reducible repeat (first | refine blk_drewN ?_ _ | refine blk_drew ?_ | refine blk_alloc ?_ _)); refine blk_put (cs := #[.int .i64 0, .int .i64 0, .int .i64 0, .int .i64 0]) ?_ 0 _ rfl; (with_reducible repeat (first | refine blk_drewN ?_ _ | refine blk_drew ?_ | refine blk_alloc ?_ _)); exact BK189.out⟩, ⟨by repeat (first | (with_reducible first | exact HB.out | apply below_alloc | apply pw_below_drewN | apply below_drew1 | refine below_set ?_ GE189.out) | exact HB.out)⟩⟩
            case round =>
              clear H'
              try clear c1
              try clear p1
              try clear q1
              try clear hx1
              try clear c2
              try clear p2
              try clear c5
              try clear c5b0
              try clear c6
              try clear c6b0
              try clear c7
              try clear c7b0
              try clear hcz9_0
              try clear hcz9_1
              try clear hcz9_2
              try clear hcz9_3
              try clear hfz9_0
              try clear hfz9_1
              try clear hfz9_2
              try clear hfz9_3
              try clear hx188_0
              try clear hx188_1
              try clear hx188_2
              try clear hx188_3
              try clear p188
              try clear p2
              try clear q188
              obtain ⟨x8_2, x20_2, rfl, rfl, HA, HK2, HO_5, BK189, HB⟩ := hrel
              cases gk with
              | zero => exact absurd HA.out (by simp [backseatref16_Some.l1])
              | succ k2 =>
                have H := HA.out
                clear HA
                simp only [backseatref16_Some.l1] at H
                by_cases c10 : x20_2 < (l1.length : Int)
                · rw [if_pos c10] at H
                  have c10b0 : decide (x20_2 < (l1.length : Int)) = true := decide_eq_true c10
                  clear c10
                  by_cases c11 : 0 ≤ x20_2
                  · rw [if_pos c11] at H
                    have c11b0 : decide (0 ≤ x20_2) = true := decide_eq_true c11
                    clear c11
                    by_cases c12 : x20_2 < (l1.length : Int)
                    · rw [if_pos c12] at H
                      have c12b0 : decide (x20_2 < (l1.length : Int)) = true := decide_eq_true c12
                      clear c12
                      by_cases c13 : x8_2 = true
                      · subst c13
                        have H1 : (backseatref16_Some.l1 k2 l1 x5_1 true l0 (l0.length : Int) x14_1 l1 (l1.length : Int) (wrap64 (x20_2 + 1)) ((rd_T48 l0 x14_1).f0) ((rd_T48 l0 x14_1).f1) ((rd_T48 l0 x14_1).f2) ((rd_T48 l0 x14_1).f3)) = some r := by rw [if_pos rfl] at H; exact H
                        clear H
                        have H := H1
                        clear H1
                        have H' := Aside0.mk H
                        clear H
                        have p190 : 0 ≤ (x20_2 : Int) := of_decide_eq_true (by first | (with_reducible assumption) | assumption)
                        have q190 : x20_2 < (l1.length : Int) := of_decide_eq_true (by first | (with_reducible assumption) | assumption)
                        obtain ⟨ad190, e190, hx190_0⟩ := Kd.at_int HR1.out x20_2 p190 q190
                        cases e190
                        replace hx190_0 := (HB.out.cell (World.block_lt_of_cell? w _ hx190_0)).trans hx190_0
                        replace p190 := eq_true p190
                        replace q190 := eq_true q190
                        go_wp2
                        go_roundg k2
                        case measure => have := HK1.out; have := HK2.out; omega
                        case rel => exact ⟨(true), (wrap64 (x20_2 + 1)), (by first | rfl | (simp; done) | (simp [*]; done)), (by first | rfl | (simp; done) | (simp [*]; done)), H', ⟨by have := HK1.out; have := HK2.out; omega⟩, ⟨by (with_reducible repeat (first | apply Kd.R_alloc | apply Kd.R_drewN | apply Kd.R_drew)); exact HO_5.out⟩, ⟨by (with_reducible repeat (first | refine blk_drewN ?_ _ | refine blk_drew ?_ | refine blk_alloc ?_ _)); exact BK189.out⟩, ⟨by repeat (first | (with_reducible first | exact HB.out | apply below_alloc | apply pw_below_drewN | apply below_drew1 | refine below_set ?_ GE189.out) | exact HB.out)⟩⟩
                      · replace c13 := Bool.eq_false_iff.mpr c13
                        subst c13
                        have H1 : (backseatref16_Some.l1 k2 l1 x5_1 ((rd l1 x20_2) == ((rd_T48 l0 x14_1).f0)) l0 (l0.length : Int) x14_1 l1 (l1.length : Int) (wrap64 (x20_2 + 1)) ((rd_T48 l0 x14_1).f0) ((rd_T48 l0 x14_1).f1) ((rd_T48 l0 x14_1).f2) ((rd_T48 l0 x14_1).f3)) = some r := by rw [if_neg (show ¬ (false = true) by decide)] at H; exact H
                        clear H
                        have H := H1
                        clear H1
                        have H' := Aside0.mk H
                        clear H
                        have p190 : 0 ≤ (x20_2 : Int) := of_decide_eq_true (by first | (with_reducible assumption) | assumption)
                        have q190 : x20_2 < (l1.length : Int) := of_decide_eq_true (by first | (with_reducible assumption) | assumption)
                        obtain ⟨ad190, e190, hx190_0⟩ := Kd.at_int HR1.out x20_2 p190 q190
                        cases e190
                        replace hx190_0 := (HB.out.cell (World.block_lt_of_cell? w _ hx190_0)).trans hx190_0
                        replace p190 := eq_true p190
                        replace q190 := eq_true q190
                        have hcz14_0 : wr.cell? ⟨gb189, 0, none⟩ = some (.int .i64 ((rd_T48 l0 x14_1).f0)) := (blk_cell BK189.out 0).trans rfl
                        have hcz14_1 : wr.cell? ⟨gb189, 1, none⟩ = some (.int .i64 ((rd_T48 l0 x14_1).f1)) := (blk_cell BK189.out 1).trans rfl
                        have hcz14_2 : wr.cell? ⟨gb189, 2, none⟩ = some (.int .i64 ((rd_T48 l0 x14_1).f2)) := (blk_cell BK189.out 2).trans rfl
                        have hcz14_3 : wr.cell? ⟨gb189, 3, none⟩ = some (.int .i64 ((rd_T48 l0 x14_1).f3)) := (blk_cell BK189.out 3).trans rfl
                        have hfz14_0 := blk_frozen BK189.out 0
                        have hfz14_1 := blk_frozen BK189.out 1
                        have hfz14_2 := blk_frozen BK189.out 2
                        have hfz14_3 := blk_frozen BK189.out 3
                        go_wp2
                        go_roundg k2
                        case measure => have := HK1.out; have := HK2.out; omega
                        case rel => exact ⟨(((rd l1 x20_2) == ((rd_T48 l0 x14_1).f0))), (wrap64 (x20_2 + 1)), (by first | rfl | (simp; done) | (simp [*]; done)), (by first | rfl | (simp; done) | (simp [*]; done)), H', ⟨by have := HK1.out; have := HK2.out; omega⟩, ⟨by (with_reducible repeat (first | apply Kd.R_alloc | apply Kd.R_drewN | apply Kd.R_drew)); exact HO_5.out⟩, ⟨by (with_reducible repeat (first | refine blk_drewN ?_ _ | refine blk_drew ?_ | refine blk_alloc ?_ _)); exact BK189.out⟩, ⟨by repeat (first | (with_reducible first | exact HB.out | apply below_alloc | apply pw_below_drewN | apply below_drew1 | refine below_set ?_ GE189.out) | exact HB.out)⟩⟩
                    · rw [if_neg c12] at H
                      exact absurd H (by simp)
                  · rw [if_neg c11] at H
                    exact absurd H (by simp)
                · rw [if_neg c10] at H
                  have c10b0 : decide (x20_2 < (l1.length : Int)) = false := decide_eq_false c10
                  clear c10
                  by_cases c15 : x8_2 = true
                  · subst c15
                    have H1 : (if x5_1.length < 4398046511104 then (backseatref16_Some.l0 k2 l1 (x5_1 ++ [(⟨((rd_T48 l0 x14_1).f0), ((rd_T48 l0 x14_1).f1), ((rd_T48 l0 x14_1).f2), ((rd_T48 l0 x14_1).f3)⟩ : S48)]) l0 (l0.length : Int) (wrap64 (x14_1 + 1))) else (none)) = some r := by rw [if_pos rfl] at H; exact H
                    clear H
                    have H := H1
                    clear H1
                    by_cases c16 : x5_1.length < 4398046511104
                    · rw [if_pos c16] at H
                      have LMc16 := Aside0.mk c16
                      clear c16
                      obtain ⟨y191, hy191⟩ : ∃ y_ : List (S48), y_ = (x5_1 ++ [(⟨((rd_T48 l0 x14_1).f0), ((rd_T48 l0 x14_1).f1), ((rd_T48 l0 x14_1).f2), ((rd_T48 l0 x14_1).f3)⟩ : S48)]) := ⟨_, rfl⟩
                      replace H : (backseatref16_Some.l0 k2 l1 y191 l0 (l0.length : Int) (wrap64 (x14_1 + 1))) = some r := by first | (rw [hy191]; with_reducible exact H) | (have H2_ := (Option.bind_some _ _).symm.trans H; rw [hy191]; with_reducible exact H2_) | (have H2_ := (Option.bind_some _ _).symm.trans H; with_reducible exact H2_) | with_reducible exact H | (rw [hy191]; exact H) | exact H
                      have Ny191 := Aside0.mk hy191
                      clear hy191
                      have H' := Aside0.mk H
                      clear H
                      have hcz17_0 : wr.cell? ⟨gb189, 0, none⟩ = some (.int .i64 ((rd_T48 l0 x14_1).f0)) := (blk_cell BK189.out 0).trans rfl
                      have hcz17_1 : wr.cell? ⟨gb189, 1, none⟩ = some (.int .i64 ((rd_T48 l0 x14_1).f1)) := (blk_cell BK189.out 1).trans rfl
                      have hcz17_2 : wr.cell? ⟨gb189, 2, none⟩ = some (.int .i64 ((rd_T48 l0 x14_1).f2)) := (blk_cell BK189.out 2).trans rfl
                      have hcz17_3 : wr.cell? ⟨gb189, 3, none⟩ = some (.int .i64 ((rd_T48 l0 x14_1).f3)) := (blk_cell BK189.out 3).trans rfl
                      have hfz17_0 := blk_frozen BK189.out 0
                      have hfz17_1 := blk_frozen BK189.out 1
                      have hfz17_2 := blk_frozen BK189.out 2
                      have hfz17_3 := blk_frozen BK189.out 3
                      go_wp2_with (first | ((with_reducible refine gate_builtin (b := .append) (xs := #[.tmp 33, .tmp 35]) rfl ?_); at_builtin; refine Kd.R_append k48 (w0 := w) w.heap.size rfl (.tmp 33) (.tmp 35) 45 48 (.agg #[(.int .i64 0), (.int .i64 0), (.int .i64 0), (.int .i64 0)]) 32 rfl Try.underlying45 info48 rfl (by decide) (by omega) u5 x5_1 (⟨((rd_T48 l0 x14_1).f0), ((rd_T48 l0 x14_1).f1), ((rd_T48 l0 x14_1).f2), ((rd_T48 l0 x14_1).f3)⟩ : S48) [.int .i64 ((rd_T48 l0 x14_1).f0), .int .i64 ((rd_T48 l0 x14_1).f1), .int .i64 ((rd_T48 l0 x14_1).f2), .int .i64 ((rd_T48 l0 x14_1).f3)] (fun k_ => k_ ≠ gb189) (fun _ => False) rfl rfl ?aP (fun _ hk => hk.elim) ?aF ?aO ?aB ?aS ?aL ?_; (case aP => exact k48_mkM _ _ _ (⟨((rd_T48 l0 x14_1).f0), ((rd_T48 l0 x14_1).f1), ((rd_T48 l0 x14_1).f2), ((rd_T48 l0 x14_1).f3)⟩ : S48)); (case aB => exact (by repeat (first | (with_reducible first | exact HB.out | apply below_alloc | apply pw_below_drewN | apply below_drew1 | refine below_set ?_ GE189.out) | exact HB.out))); (case aF => exact (fun k_ hk => Kd.freshB (g := gb189) (o := .cells #[.int .i64 ((rd_T48 l0 x14_1).f0), .int .i64 ((rd_T48 l0 x14_1).f1), .int .i64 ((rd_T48 l0 x14_1).f2), .int .i64 ((rd_T48 l0 x14_1).f3)] 48 (0, 0)) (by (with_reducible repeat (first | refine blk_drewN ?_ _ | refine blk_drew ?_ | refine blk_alloc ?_ _)); exact BK189.out) k_ hk)); (case aO => exact (by (with_reducible repeat (first | apply Kd.R_alloc | apply Kd.R_drewN | apply Kd.R_drew)); exact HO_5.out)); (case aS => exact (below_size (by repeat (first | (with_reducible first | exact HB.out | apply below_alloc | apply pw_below_drewN | apply below_drew1 | refine below_set ?_ GE189.out) | exact HB.out)))); (case aL => have := LMc16.out; omega); intro v192 w18 ho hb hg hat; rw [← Ny191.out] at ho; have n0_ := Aside0.mk (blk_grown (g := gb189) (o := .cells #[.int .i64 ((rd_T48 l0 x14_1).f0), .int .i64 ((rd_T48 l0 x14_1).f1), .int .i64 ((rd_T48 l0 x14_1).f2), .int .i64 ((rd_T48 l0 x14_1).f3)] 48 (0, 0)) (by (with_reducible repeat (first | refine blk_drewN ?_ _ | refine blk_drew ?_ | refine blk_alloc ?_ _)); exact BK189.out) hg (Kd.R_away HO_5.out (fun _ hk => hk))); have n1_ := Aside0.mk (hb); have n2_ := Aside0.mk (ho); clear BK189; clear HB; clear HO_5; have BK189 := n0_; have HB := n1_; have HO193 := n2_; clear n0_ n1_ n2_; clear ho hb hg hat))
                      go_roundg k2
                      case measure => have := HK1.out; have := HK2.out; omega
                      case rel => exact ⟨(y191), (wrap64 (x14_1 + 1)), (by first | rfl | (simp; done) | (simp [*]; done)), H', ⟨by have := HK1.out; have := HK2.out; omega⟩, ⟨by (with_reducible repeat (first | apply Kd.R_alloc | apply Kd.R_drewN | apply Kd.R_drew)); exact Kd.R_mono HO193.out (fun _ hk => trivial)⟩, ⟨by repeat (first | (with_reducible first | exact HB.out | apply below_alloc | apply pw_below_drewN | apply below_drew1 | refine below_set ?_ GE189.out) | exact HB.out)⟩⟩
                    · rw [if_neg c16] at H
                      exact absurd H (by simp)
                  · replace c15 := Bool.eq_false_iff.mpr c15
                    subst c15
                    have H1 : (backseatref16_Some.l0 k2 l1 x5_1 l0 (l0.length : Int) (wrap64 (x14_1 + 1))) = some r := by rw [if_neg (show ¬ (false = true) by decide)] at H; exact H
                    clear H
                    have H := H1
                    clear H1
                    have H' := Aside0.mk H
                    clear H
                    go_wp2
                    go_roundg k2
                    case measure => have := HK1.out; have := HK2.out; omega
                    case rel => exact ⟨(x5_1), (wrap64 (x14_1 + 1)), (by first | rfl | (simp; done) | (simp [*]; done)), H', ⟨by have := HK1.out; have := HK2.out; omega⟩, ⟨by (with_reducible repeat (first | apply Kd.R_alloc | apply Kd.R_drewN | apply Kd.R_drew)); exact Kd.R_mono HO_5.out (fun _ hk => trivial)⟩, ⟨by repeat (first | (with_reducible first | exact HB.out | apply below_alloc | apply pw_below_drewN | apply below_drew1 | refine below_set ?_ GE189.out) | exact HB.out)⟩⟩
          · rw [if_neg c7] at H
            exact absurd H (by simp)
        · rw [if_neg c6] at H
          exact absurd H (by simp)
      · rw [if_neg c5] at H
        have c5b0 : decide (x14_1 < (l0.length : Int)) = false := decide_eq_false c5
        clear c5
        obtain rfl := Option.some.inj H
        go_wp2
        go_ret
        exact ⟨_, by first | rfl | (simp [errW_none, errW_some] <;> rfl) | (simp [*, errW_none, errW_some] <;> rfl), by (with_reducible repeat (first | apply Kd.R_alloc | apply Kd.R_drewN | apply Kd.R_drew)); exact HO_5.out, by repeat (first | (with_reducible first | exact HB.out | apply below_alloc | apply pw_below_drewN | apply below_drew1) | exact HB.out)⟩
end Go.Proofs.Ytplngfammfdemaa.P
