-- A copy of the text YtplngfammfdemaaQx15 with what this claim does not reach left out (prune.py, a program of this project).
import Derived.Test.YtplngfammfdemaaZtGMul
import Derived.Test.YtplngfammfdemaaZtQx14
import Derived.Test.YtplngfammfdemaaZtGHow
import Derived.Test.YtplngfammfdemaaZtGTree
import Derived.Laws.EntriesVeiled
import Derived.Test.YtplngfammfdemaaZtGLayFn
namespace Go.Proofs.Ytplngfammfdemaa.Q
open Go.RowKit Go.Proofs.Ytplngfammfdemaa Go.Proofs.YtplngfammfdemaaW.PrintWords Go.Proofs.YtplngfammfdemaaW.PrintLast Go.Proofs.YtplngfammfdemaaW.PrintMore
attribute [local go_sem] max2_int min2_int max_two min_two max_three min_three max_four min_four   -- for this text's walks alone
set_option linter.unusedVariables false
set_option linter.unusedSimpArgs false
mutual
def preset_Lay.j0 : Nat → List Int → Int → Int → Int → Bool → Option (Int × Int × Int × (List (S31)) × Int)
  | 0, _, _, _, _, _ => none
  | k + 1, x0, x1, x2, x3, x31 => if x31 = true then (some (0, 0, 0, ([] : List (S31)), 1)) else (preset_Lay.l0 k x0 x1 x2 x3 x0 (x0.length : Int) 0)
def preset_Lay.l0 : Nat → List Int → Int → Int → Int → List Int → Int → Int → Option (Int × Int × Int × (List (S31)) × Int)
  | 0, _, _, _, _, _, _, _ => none
  | k + 1, x0, x1, x2, x3, x33, x34, x35 => if x35 < x34 then (if 0 ≤ x35 then (if x35 < (x33.length : Int) then ((preset_in.f (rd x33 x35) 1 999).bind fun t317 => (if t317 = true then (if x35 ≤ (x0.length : Int) then ((slices_Contains_int_int.f k (x0.take (x35 : Int).toNat) (rd x33 x35)).bind fun t319 => (if t319 = true then (some (0, 0, 0, ([] : List (S31)), 1)) else (preset_Lay.l0 k x0 x1 x2 x3 x33 x34 (wrap64 (x35 + 1))))) else (none)) else (some (0, 0, 0, ([] : List (S31)), 1)))) else (none)) else (none)) else ((preset_layHow.f k (wrap64 (x1 - 1)) x2 x3 x0).bind fun bt308 => (if bt308.2.2.2.2 = true then (some (bt308.1, bt308.2.1, bt308.2.2.1, bt308.2.2.2.1, 0)) else (some (0, 0, 0, ([] : List (S31)), 9))))
end
def preset_Lay.f (k : Nat) (l0 : List Int) (a1 : Int) (a2 : Int) (a3 : Int) : Option (Int × Int × Int × (List (S31)) × Int) := (preset_in.f (l0.length : Int) 1 8).bind fun t305 => (if t305 = true then ((preset_in.f a1 1 5).bind fun t306 => (if t306 = true then ((tree_Right.f k 0 1 0 ([] : List (S31)) a2 a3).bind fun t307 => (preset_Lay.j0 k l0 a1 a2 a3 (!t307))) else (preset_Lay.j0 k l0 a1 a2 a3 true))) else (preset_Lay.j0 k l0 a1 a2 a3 true))
theorem preset_Lay.mono_l : ∀ k, (∀ y0 y1 y2 y3 y4, LeO (preset_Lay.j0 k y0 y1 y2 y3 y4) (preset_Lay.j0 (k + 1) y0 y1 y2 y3 y4)) ∧ (∀ y0 y1 y2 y3 y4 y5 y6, LeO (preset_Lay.l0 k y0 y1 y2 y3 y4 y5 y6) (preset_Lay.l0 (k + 1) y0 y1 y2 y3 y4 y5 y6))
  | 0 => ⟨fun _ _ _ _ _ r h => by simp [preset_Lay.j0] at h, fun _ _ _ _ _ _ _ r h => by simp [preset_Lay.l0] at h⟩
  | k + 1 => by
    obtain ⟨ih0, ih1⟩ := preset_Lay.mono_l k
    refine ⟨?_, ?_⟩
    · intro y0 y1 y2 y3 y4
      unfold preset_Lay.j0
      repeat' first
      | (with_reducible exact ih0 _ _ _ _ _)
      | (with_reducible exact ih1 _ _ _ _ _ _ _)
      | (with_reducible exact preset_layHow.mono _ _ _ _ _)
      | (with_reducible exact slices_Contains_int_int.mono _ _ _)
      | (with_reducible exact tree_Right.mono _ _ _ _ _ _ _)
      | (with_reducible exact LeO.refl _)
      | (with_reducible exact LeO.none _)
      | (with_reducible refine LeO.ite ?_ ?_)
      | (with_reducible refine LeO.bind ?_ (fun _ => ?_))
      | exact ih0 _ _ _ _ _
      | exact ih1 _ _ _ _ _ _ _
      | exact preset_layHow.mono _ _ _ _ _
      | exact slices_Contains_int_int.mono _ _ _
      | exact tree_Right.mono _ _ _ _ _ _ _
      | exact LeO.none _
      | refine LeO.ite ?_ ?_
      | refine LeO.bind ?_ (fun _ => ?_)
    · intro y0 y1 y2 y3 y4 y5 y6
      unfold preset_Lay.l0
      repeat' first
      | (with_reducible exact ih0 _ _ _ _ _)
      | (with_reducible exact ih1 _ _ _ _ _ _ _)
      | (with_reducible exact preset_layHow.mono _ _ _ _ _)
      | (with_reducible exact slices_Contains_int_int.mono _ _ _)
      | (with_reducible exact tree_Right.mono _ _ _ _ _ _ _)
      | (with_reducible exact LeO.refl _)
      | (with_reducible exact LeO.none _)
      | (with_reducible refine LeO.ite ?_ ?_)
      | (with_reducible refine LeO.bind ?_ (fun _ => ?_))
      | exact ih0 _ _ _ _ _
      | exact ih1 _ _ _ _ _ _ _
      | exact preset_layHow.mono _ _ _ _ _
      | exact slices_Contains_int_int.mono _ _ _
      | exact tree_Right.mono _ _ _ _ _ _ _
      | exact LeO.none _
      | refine LeO.ite ?_ ?_
      | refine LeO.bind ?_ (fun _ => ?_)
theorem preset_Lay.mono : ∀ a0 a1 a2 a3 k, LeO (preset_Lay.f k a0 a1 a2 a3) (preset_Lay.f (k + 1) a0 a1 a2 a3) := by
  intro a0 a1 a2 a3 k
  obtain ⟨ih0, ih1⟩ := preset_Lay.mono_l k
  unfold preset_Lay.f
  repeat' first
      | (with_reducible exact ih0 _ _ _ _ _)
      | (with_reducible exact ih1 _ _ _ _ _ _ _)
      | (with_reducible exact preset_layHow.mono _ _ _ _ _)
      | (with_reducible exact slices_Contains_int_int.mono _ _ _)
      | (with_reducible exact tree_Right.mono _ _ _ _ _ _ _)
      | (with_reducible exact LeO.refl _)
      | (with_reducible exact LeO.none _)
      | (with_reducible refine LeO.ite ?_ ?_)
      | (with_reducible refine LeO.bind ?_ (fun _ => ?_))
      | exact ih0 _ _ _ _ _
      | exact ih1 _ _ _ _ _ _ _
      | exact preset_layHow.mono _ _ _ _ _
      | exact slices_Contains_int_int.mono _ _ _
      | exact tree_Right.mono _ _ _ _ _ _ _
      | exact LeO.none _
      | refine LeO.ite ?_ ?_
      | refine LeO.bind ?_ (fun _ => ?_)
set_option maxHeartbeats 8000000 in
set_option maxRecDepth 100000 in
theorem preset_Lay.calls (k : Nat) (A0 : Option Addr) (c0 : Nat) (l0 : List Int) (a1 : Int) (a2 : Int) (a3 : Int) (r1 : Int) (r2 : Int) (r3 : Int) (r4 : List (S31)) (r5 : Int) (w : World) (hr0 : Kd.C (Kd.int .i64) w A0 l0.length l0) (hc0 : l0.length ≤ c0) (h : preset_Lay.f k l0 a1 a2 a3 = some (r1, r2, r3, r4, r5)) :
    Calls Try.prog 14 #[.slice A0 l0.length c0, .int .i64 a1, .int .i64 a2, .int .i64 a3] w fun e w' => ∃ v3_ : Value, e = .returned (.tuple #[.agg #[.int .i64 r1, .int .i64 r2, .int .i64 r3, v3_], .int .i64 r5]) ∧ Kd.N k31 31 w' w.heap.size (fun k_ => (w.heap.size ≤ k_)) v3_ r4 ∧ Below w.heap.size w w' := by
  have hu31 := Try.underlying31
  have hu44 := Try.underlying84
  have hu83 := Try.underlying83
  have HR0 := Aside0.mk hr0
  have HC0 := Aside0.mk hc0
  clear hr0 hc0
  have HB := Aside0.mk (Below.refl w.heap.size w)
  have H : ((preset_in.f (l0.length : Int) 1 8).bind fun t305 => (if t305 = true then ((preset_in.f a1 1 5).bind fun t306 => (if t306 = true then ((tree_Right.f k 0 1 0 ([] : List (S31)) a2 a3).bind fun t307 => (preset_Lay.j0 k l0 a1 a2 a3 (!t307))) else (preset_Lay.j0 k l0 a1 a2 a3 true))) else (preset_Lay.j0 k l0 a1 a2 a3 true))) = some (r1, r2, r3, r4, r5) := h
  clear h
  have HC5 := Aside0.mk H
  clear H
  go_enter Try.func14, Try.ntmps14
  go_upto_region 2 with (first | ((with_reducible refine gate_dst (N := 8) rfl ?_); refine box_event ?hg (N := 8) ?hd (cs := #[.int .i64 0, .int .i64 0, .int .i64 0, .slice none 0 0]) (t := 31) ?hr ?_; (case hd => rfl); (case hg => rfl); (case hr => first | (go_simp; done) | (go_simp; rfl)); intro gb303 hg w6 hbox hb; have n0_ := Aside0.mk (below_step (by repeat (first | (with_reducible first | exact HB.out | apply below_alloc | apply pw_below_drewN | apply below_drew1) | exact HB.out)) hb); have n1_ := Aside0.mk (hbox); have n2_ := Aside0.mk ((by rw [hg]; exact (below_size (by repeat (first | (with_reducible first | exact HB.out | apply below_alloc | apply pw_below_drewN | apply below_drew1) | exact HB.out))) : w.heap.size ≤ gb303)); have n3_ := Aside0.mk ((by rw [hg]; exact (below_size (by repeat (first | (with_reducible first | exact HB.out | apply below_alloc | apply pw_below_drewN | apply below_drew1) | exact HB.out))) : w.heap.size ≤ gb303)); clear HB; have HB := n0_; have BK303 := n1_; have GW303 := n2_; have GE303 := n3_; clear n0_ n1_ n2_ n3_; clear hb hbox hg) | ((with_reducible refine gate_dst (N := 10) rfl ?_); refine box_event ?hg (N := 10) ?hd (cs := #[.nilFunc, .nilFunc, .nilFunc, .nilFunc, .nilFunc]) (t := 84) ?hr ?_; (case hd => rfl); (case hg => rfl); (case hr => first | (go_simp; done) | (go_simp; rfl)); intro gb304 hg w7 hbox hb; have n0_ := Aside0.mk (blk_below (g := gb303) (o := .cells #[.int .i64 0, .int .i64 0, .int .i64 0, .slice none 0 0] 31 (0, 0)) (by (with_reducible repeat (first | refine blk_drewN ?_ _ | refine blk_drew ?_ | refine blk_alloc ?_ _)); exact BK303.out) hb); have n1_ := Aside0.mk (below_step (by repeat (first | (with_reducible first | exact HB.out | apply below_alloc | apply pw_below_drewN | apply below_drew1 | refine below_set ?_ GE303.out) | exact HB.out)) hb); have n2_ := Aside0.mk (hbox); have n3_ := Aside0.mk ((by rw [hg]; exact (below_size (by repeat (first | (with_reducible first | exact HB.out | apply below_alloc | apply pw_below_drewN | apply below_drew1 | refine below_set ?_ GE303.out) | exact HB.out))) : w.heap.size ≤ gb304)); have n4_ := Aside0.mk ((by rw [hg]; exact (below_size (by repeat (first | (with_reducible first | exact HB.out | apply below_alloc | apply pw_below_drewN | apply below_drew1 | refine below_set ?_ GE303.out) | exact HB.out))) : w.heap.size ≤ gb304)); have n5_ := Aside0.mk ((by rw [hg]; exact Nat.ne_of_lt (blk_lt (g := gb303) (o := .cells #[.int .i64 0, .int .i64 0, .int .i64 0, .slice none 0 0] 31 (0, 0)) (by (with_reducible repeat (first | refine blk_drewN ?_ _ | refine blk_drew ?_ | refine blk_alloc ?_ _)); exact BK303.out)) : gb303 ≠ gb304)); have n6_ := Aside0.mk ((by rw [hg]; exact Nat.ne_of_gt (blk_lt (g := gb303) (o := .cells #[.int .i64 0, .int .i64 0, .int .i64 0, .slice none 0 0] 31 (0, 0)) (by (with_reducible repeat (first | refine blk_drewN ?_ _ | refine blk_drew ?_ | refine blk_alloc ?_ _)); exact BK303.out)) : gb304 ≠ gb303)); clear BK303; clear HB; have BK303 := n0_; have HB := n1_; have BK304 := n2_; have GW304 := n3_; have GE304 := n4_; have NB303_304 := n5_; have NB304_303 := n6_; clear n0_ n1_ n2_ n3_ n4_ n5_ n6_; clear hb hbox hg; have hnb8 := NB304_303.out; have hnc8 := NB303_304.out; have hcz9_0 : w7.cell? ⟨gb304, 0, none⟩ = some (.nilFunc) := (blk_cell BK304.out 0).trans rfl; have hcz9_1 : w7.cell? ⟨gb304, 1, none⟩ = some (.nilFunc) := (blk_cell BK304.out 1).trans rfl; have hcz9_2 : w7.cell? ⟨gb304, 2, none⟩ = some (.nilFunc) := (blk_cell BK304.out 2).trans rfl; have hcz9_3 : w7.cell? ⟨gb304, 3, none⟩ = some (.nilFunc) := (blk_cell BK304.out 3).trans rfl; have hcz9_4 : w7.cell? ⟨gb304, 4, none⟩ = some (.nilFunc) := (blk_cell BK304.out 4).trans rfl; have hfz9_0 := blk_frozen BK304.out 0; have hfz9_1 := blk_frozen BK304.out 1; have hfz9_2 := blk_frozen BK304.out 2; have hfz9_3 := blk_frozen BK304.out 3; have hfz9_4 := blk_frozen BK304.out 4))
  (try simp only [Act.put, List.setIfInBounds_toArray, List.set_cons_zero, List.set_cons_succ])
  go_cut [31] (fun v31 wc => ∃ (kq : Nat) (x31_4 : Bool), v31 = .bool x31_4 ∧ Aside0 (preset_Lay.j0 kq l0 a1 a2 a3 x31_4 = some (r1, r2, r3, r4, r5)) ∧ Aside0 (kq ≤ k) ∧ Aside0 (wc.heap[gb303]? = some (.cells #[.int .i64 0, .int .i64 0, .int .i64 0, (.slice none 0 0)] 31 (0, 0))) ∧ Aside0 (wc.heap[gb304]? = some (.cells #[.func (.func 46) #[] #[], .func (.func 47) #[] #[], .func (.func 48) #[] #[], .func (.func 49) #[] #[], .func (.func 50) #[] #[]] 84 (0, 0))) ∧ Aside0 (Below w.heap.size w wc))
  case first =>
    have H := HC5.out
    clear HC5
    replace H := Option.bind_eq_some_iff.mp H
    obtain ⟨t305, A100, H⟩ := H
    replace H : (if t305 = true then ((preset_in.f a1 1 5).bind fun t306 => (if t306 = true then ((tree_Right.f k 0 1 0 ([] : List (S31)) a2 a3).bind fun t307 => (preset_Lay.j0 k l0 a1 a2 a3 (!t307))) else (preset_Lay.j0 k l0 a1 a2 a3 true))) else (preset_Lay.j0 k l0 a1 a2 a3 true)) = some (r1, r2, r3, r4, r5) := H
    have A10 := Aside0.mk A100
    clear A100
    by_cases c11 : t305 = true
    · subst c11
      have H1 : ((preset_in.f a1 1 5).bind fun t306 => (if t306 = true then ((tree_Right.f k 0 1 0 ([] : List (S31)) a2 a3).bind fun t307 => (preset_Lay.j0 k l0 a1 a2 a3 (!t307))) else (preset_Lay.j0 k l0 a1 a2 a3 true))) = some (r1, r2, r3, r4, r5) := by rw [if_pos rfl] at H; exact H
      clear H
      have H := H1
      clear H1
      replace H := Option.bind_eq_some_iff.mp H
      obtain ⟨t306, A120, H⟩ := H
      replace H : (if t306 = true then ((tree_Right.f k 0 1 0 ([] : List (S31)) a2 a3).bind fun t307 => (preset_Lay.j0 k l0 a1 a2 a3 (!t307))) else (preset_Lay.j0 k l0 a1 a2 a3 true)) = some (r1, r2, r3, r4, r5) := H
      have A12 := Aside0.mk A120
      clear A120
      by_cases c13 : t306 = true
      · subst c13
        have H1 : ((tree_Right.f k 0 1 0 ([] : List (S31)) a2 a3).bind fun t307 => (preset_Lay.j0 k l0 a1 a2 a3 (!t307))) = some (r1, r2, r3, r4, r5) := by rw [if_pos rfl] at H; exact H
        clear H
        have H := H1
        clear H1
        replace H := Option.bind_eq_some_iff.mp H
        obtain ⟨t307, A140, H⟩ := H
        replace H : (preset_Lay.j0 k l0 a1 a2 a3 (!t307)) = some (r1, r2, r3, r4, r5) := H
        have A14 := Aside0.mk A140
        clear A140
        have H' := Aside0.mk H
        clear H
        go_wp2_with (first | ((with_reducible refine gate_callee (f := 44) rfl ?_); refine goesL_ (some 18) rfl rfl Try.func44 (by kernel_rfl) rfl #[.int .i64 (l0.length : Int), .int .i64 1, .int .i64 8] rfl (by (try simp only [List.map_toArray, List.map_cons, List.map_nil]); first | done | rfl | (simp only [List.length_drop, List.length_take]; rfl)) ?_; (with_reducible refine (preset_in.calls (l0.length : Int) 1 8 true _ A10.out).mono ?_); rintro e w' ⟨rfl, ⟨nd, rfl⟩⟩; refine ⟨_, rfl, ?_⟩) | (go_at_call 44; (with_reducible refine (preset_in.calls a1 1 5 true _ A12.out).mono ?_); rintro e w' ⟨rfl, ⟨nd, rfl⟩⟩) | (go_at_call 19; (refine (tree_Right.calls k 0 1 0 _ _ ([] : List (S31)) a2 a3 t307 _ ?side1 ?side2 A14.out).mono ?_); (case side1 => exact Kd.C_nil _ _); (case side2 => exact Nat.le_refl _); rintro e w15 ⟨rfl, hb⟩; have n0_ := Aside0.mk (blk_below (g := gb303) (o := .cells #[.int .i64 0, .int .i64 0, .int .i64 0, .slice none 0 0] 31 (0, 0)) (by (with_reducible repeat (first | refine blk_drewN ?_ _ | refine blk_drew ?_ | refine blk_alloc ?_ _)); refine blk_far ?_ NB303_304.out _; (with_reducible repeat (first | refine blk_drewN ?_ _ | refine blk_drew ?_ | refine blk_alloc ?_ _)); refine blk_far ?_ NB303_304.out _; (with_reducible repeat (first | refine blk_drewN ?_ _ | refine blk_drew ?_ | refine blk_alloc ?_ _)); refine blk_far ?_ NB303_304.out _; (with_reducible repeat (first | refine blk_drewN ?_ _ | refine blk_drew ?_ | refine blk_alloc ?_ _)); refine blk_far ?_ NB303_304.out _; (with_reducible repeat (first | refine blk_drewN ?_ _ | refine blk_drew ?_ | refine blk_alloc ?_ _)); refine blk_far ?_ NB303_304.out _; (with_reducible repeat (first | refine blk_drewN ?_ _ | refine blk_drew ?_ | refine blk_alloc ?_ _)); exact BK303.out) hb); have n1_ := Aside0.mk (blk_below (g := gb304) (o := .cells #[.func (.func 46) #[] #[], .func (.func 47) #[] #[], .func (.func 48) #[] #[], .func (.func 49) #[] #[], .func (.func 50) #[] #[]] 84 (0, 0)) (by (with_reducible repeat (first | refine blk_drewN ?_ _ | refine blk_drew ?_ | refine blk_alloc ?_ _)); refine blk_put (cs := #[.func (.func 46) #[] #[], .func (.func 47) #[] #[], .func (.func 48) #[] #[], .func (.func 49) #[] #[], .nilFunc]) ?_ 4 _ rfl; (with_reducible repeat (first | refine blk_drewN ?_ _ | refine blk_drew ?_ | refine blk_alloc ?_ _)); refine blk_put (cs := #[.func (.func 46) #[] #[], .func (.func 47) #[] #[], .func (.func 48) #[] #[], .nilFunc, .nilFunc]) ?_ 3 _ rfl; (with_reducible repeat (first | refine blk_drewN ?_ _ | refine blk_drew ?_ | refine blk_alloc ?_ _)); refine blk_put (cs := #[.func (.func 46) #[] #[], .func (.func 47) #[] #[], .nilFunc, .nilFunc, .nilFunc]) ?_ 2 _ rfl; (with_reducible repeat (first | refine blk_drewN ?_ _ | refine blk_drew ?_ | refine blk_alloc ?_ _)); refine blk_put (cs := #[.func (.func 46) #[] #[], .nilFunc, .nilFunc, .nilFunc, .nilFunc]) ?_ 1 _ rfl; (with_reducible repeat (first | refine blk_drewN ?_ _ | refine blk_drew ?_ | refine blk_alloc ?_ _)); refine blk_put (cs := #[.nilFunc, .nilFunc, .nilFunc, .nilFunc, .nilFunc]) ?_ 0 _ rfl; (with_reducible repeat (first | refine blk_drewN ?_ _ | refine blk_drew ?_ | refine blk_alloc ?_ _)); exact BK304.out) hb); have n2_ := Aside0.mk (below_step (by repeat (first | (with_reducible first | exact HB.out | apply below_alloc | apply pw_below_drewN | apply below_drew1 | refine below_set ?_ GE303.out | refine below_set ?_ GE304.out) | exact HB.out)) hb); clear BK303; clear BK304; clear HB; have BK303 := n0_; have BK304 := n1_; have HB := n2_; clear n0_ n1_ n2_; (try clear hb); (try clear hb2); (try clear hk); (try clear hi)))
        go_meet
        case rel => exact ⟨_, (!t307), (by first | rfl | (simp; done) | (simp [*]; done)), H', ⟨by first | omega | exact Nat.le_refl _⟩, ⟨by (with_reducible repeat (first | refine blk_drewN ?_ _ | refine blk_drew ?_ | refine blk_alloc ?_ _)); exact BK303.out⟩, ⟨by (with_reducible repeat (first | refine blk_drewN ?_ _ | refine blk_drew ?_ | refine blk_alloc ?_ _)); exact BK304.out⟩, ⟨by repeat (first | (with_reducible first | exact HB.out | apply below_alloc | apply pw_below_drewN | apply below_drew1 | refine below_set ?_ GE303.out | refine below_set ?_ GE304.out) | exact HB.out)⟩⟩
      · replace c13 := Bool.eq_false_iff.mpr c13
        subst c13
        have H1 : (preset_Lay.j0 k l0 a1 a2 a3 true) = some (r1, r2, r3, r4, r5) := by rw [if_neg (show ¬ (false = true) by decide)] at H; exact H
        clear H
        have H := H1
        clear H1
        have H' := Aside0.mk H
        clear H
        go_wp2_with (first | ((with_reducible refine gate_callee (f := 44) rfl ?_); refine goesL_ (some 18) rfl rfl Try.func44 (by kernel_rfl) rfl #[.int .i64 (l0.length : Int), .int .i64 1, .int .i64 8] rfl (by (try simp only [List.map_toArray, List.map_cons, List.map_nil]); first | done | rfl | (simp only [List.length_drop, List.length_take]; rfl)) ?_; (with_reducible refine (preset_in.calls (l0.length : Int) 1 8 true _ A10.out).mono ?_); rintro e w' ⟨rfl, ⟨nd, rfl⟩⟩; refine ⟨_, rfl, ?_⟩) | (go_at_call 44; (with_reducible refine (preset_in.calls a1 1 5 false _ A12.out).mono ?_); rintro e w' ⟨rfl, ⟨nd, rfl⟩⟩))
        go_meet
        case rel => exact ⟨_, (true), (by first | rfl | (simp; done) | (simp [*]; done)), H', ⟨by first | omega | exact Nat.le_refl _⟩, ⟨by (with_reducible repeat (first | refine blk_drewN ?_ _ | refine blk_drew ?_ | refine blk_alloc ?_ _)); refine blk_far ?_ NB303_304.out _; (with_reducible repeat (first | refine blk_drewN ?_ _ | refine blk_drew ?_ | refine blk_alloc ?_ _)); refine blk_far ?_ NB303_304.out _; (with_reducible repeat (first | refine blk_drewN ?_ _ | refine blk_drew ?_ | refine blk_alloc ?_ _)); refine blk_far ?_ NB303_304.out _; (with_reducible repeat (first | refine blk_drewN ?_ _ | refine blk_drew ?_ | refine blk_alloc ?_ _)); refine blk_far ?_ NB303_304.out _; (with_reducible repeat (first | refine blk_drewN ?_ _ | refine blk_drew ?_ | refine blk_alloc ?_ _)); refine blk_far ?_ NB303_304.out _; (with_reducible repeat (first | refine blk_drewN ?_ _ | refine blk_drew ?_ | refine blk_alloc ?_ _)); exact BK303.out⟩, ⟨by (with_reducible repeat (first | refine blk_drewN ?_ _ | refine blk_drew ?_ | refine blk_alloc ?_ _)); refine blk_put (cs := #[.func (.func 46) #[] #[], .func (.func 47) #[] #[], .func (.func 48) #[] #[], .func (.func 49) #[] #[], .nilFunc]) ?_ 4 _ rfl; (with_reducible repeat (first | refine blk_drewN ?_ _ | refine blk_drew ?_ | refine blk_alloc ?_ _)); refine blk_put (cs := #[.func (.func 46) #[] #[], .func (.func 47) #[] #[], .func (.func 48) #[] #[], .nilFunc, .nilFunc]) ?_ 3 _ rfl; (with_reducible repeat (first | refine blk_drewN ?_ _ | refine blk_drew ?_ | refine blk_alloc ?_ _)); refine blk_put (cs := #[.func (.func 46) #[] #[], .func (.func 47) #[] #[], .nilFunc, .nilFunc, .nilFunc]) ?_ 2 _ rfl; (with_reducible repeat (first | refine blk_drewN ?_ _ | refine blk_drew ?_ | refine blk_alloc ?_ _)); refine blk_put (cs := #[.func (.func 46) #[] #[], .nilFunc, .nilFunc, .nilFunc, .nilFunc]) ?_ 1 _ rfl; (with_reducible repeat (first | refine blk_drewN ?_ _ | refine blk_drew ?_ | refine blk_alloc ?_ _)); refine blk_put (cs := #[.nilFunc, .nilFunc, .nilFunc, .nilFunc, .nilFunc]) ?_ 0 _ rfl; (with_reducible repeat (first | refine blk_drewN ?_ _ | refine blk_drew ?_ | refine blk_alloc ?_ _)); exact BK304.out⟩, ⟨by repeat (first | (with_reducible first | exact HB.out | apply below_alloc | apply pw_below_drewN | apply below_drew1 | refine below_set ?_ GE303.out | refine below_set ?_ GE304.out) | exact HB.out)⟩⟩
    · replace c11 := Bool.eq_false_iff.mpr c11
      subst c11
      have H1 : (preset_Lay.j0 k l0 a1 a2 a3 true) = some (r1, r2, r3, r4, r5) := by rw [if_neg (show ¬ (false = true) by decide)] at H; exact H
      clear H
      have H := H1
      clear H1
      have H' := Aside0.mk H
      clear H
      go_wp2_with (first | ((with_reducible refine gate_callee (f := 44) rfl ?_); refine goesL_ (some 18) rfl rfl Try.func44 (by kernel_rfl) rfl #[.int .i64 (l0.length : Int), .int .i64 1, .int .i64 8] rfl (by (try simp only [List.map_toArray, List.map_cons, List.map_nil]); first | done | rfl | (simp only [List.length_drop, List.length_take]; rfl)) ?_; (with_reducible refine (preset_in.calls (l0.length : Int) 1 8 false _ A10.out).mono ?_); rintro e w' ⟨rfl, ⟨nd, rfl⟩⟩; refine ⟨_, rfl, ?_⟩))
      go_meet
      case rel => exact ⟨_, (true), (by first | rfl | (simp; done) | (simp [*]; done)), H', ⟨by first | omega | exact Nat.le_refl _⟩, ⟨by (with_reducible repeat (first | refine blk_drewN ?_ _ | refine blk_drew ?_ | refine blk_alloc ?_ _)); refine blk_far ?_ NB303_304.out _; (with_reducible repeat (first | refine blk_drewN ?_ _ | refine blk_drew ?_ | refine blk_alloc ?_ _)); refine blk_far ?_ NB303_304.out _; (with_reducible repeat (first | refine blk_drewN ?_ _ | refine blk_drew ?_ | refine blk_alloc ?_ _)); refine blk_far ?_ NB303_304.out _; (with_reducible repeat (first | refine blk_drewN ?_ _ | refine blk_drew ?_ | refine blk_alloc ?_ _)); refine blk_far ?_ NB303_304.out _; (with_reducible repeat (first | refine blk_drewN ?_ _ | refine blk_drew ?_ | refine blk_alloc ?_ _)); refine blk_far ?_ NB303_304.out _; (with_reducible repeat (first | refine blk_drewN ?_ _ | refine blk_drew ?_ | refine blk_alloc ?_ _)); exact BK303.out⟩, ⟨by (with_reducible repeat (first | refine blk_drewN ?_ _ | refine blk_drew ?_ | refine blk_alloc ?_ _)); refine blk_put (cs := #[.func (.func 46) #[] #[], .func (.func 47) #[] #[], .func (.func 48) #[] #[], .func (.func 49) #[] #[], .nilFunc]) ?_ 4 _ rfl; (with_reducible repeat (first | refine blk_drewN ?_ _ | refine blk_drew ?_ | refine blk_alloc ?_ _)); refine blk_put (cs := #[.func (.func 46) #[] #[], .func (.func 47) #[] #[], .func (.func 48) #[] #[], .nilFunc, .nilFunc]) ?_ 3 _ rfl; (with_reducible repeat (first | refine blk_drewN ?_ _ | refine blk_drew ?_ | refine blk_alloc ?_ _)); refine blk_put (cs := #[.func (.func 46) #[] #[], .func (.func 47) #[] #[], .nilFunc, .nilFunc, .nilFunc]) ?_ 2 _ rfl; (with_reducible repeat (first | refine blk_drewN ?_ _ | refine blk_drew ?_ | refine blk_alloc ?_ _)); refine blk_put (cs := #[.func (.func 46) #[] #[], .nilFunc, .nilFunc, .nilFunc, .nilFunc]) ?_ 1 _ rfl; (with_reducible repeat (first | refine blk_drewN ?_ _ | refine blk_drew ?_ | refine blk_alloc ?_ _)); refine blk_put (cs := #[.nilFunc, .nilFunc, .nilFunc, .nilFunc, .nilFunc]) ?_ 0 _ rfl; (with_reducible repeat (first | refine blk_drewN ?_ _ | refine blk_drew ?_ | refine blk_alloc ?_ _)); exact BK304.out⟩, ⟨by repeat (first | (with_reducible first | exact HB.out | apply below_alloc | apply pw_below_drewN | apply below_drew1 | refine below_set ?_ GE303.out | refine below_set ?_ GE304.out) | exact HB.out)⟩⟩
  case rest =>
    clear HC5
    try clear c1
    try clear p2
    try clear c4
    try clear c8
    try clear c11
    try clear c13
    try clear c14
    try clear hcz9_0
    try clear hcz9_1
    try clear hcz9_2
    try clear hcz9_3
    try clear hcz9_4
    try clear hfz9_0
    try clear hfz9_1
    try clear hfz9_2
    try clear hfz9_3
    try clear hfz9_4
    obtain ⟨kq, x31_4, rfl, HA, HJ4, BK303, BK304, HB⟩ := hcut
    cases kq with
    | zero => exact absurd HA.out (by simp [preset_Lay.j0])
    | succ kj4 =>
      have H := HA.out
      clear HA
      simp only [preset_Lay.j0] at H
      by_cases c16 : x31_4 = true
      · subst c16
        have H1 : (some (0, 0, 0, ([] : List (S31)), 1)) = some (r1, r2, r3, r4, r5) := by rw [if_pos rfl] at H; exact H
        clear H
        have H := H1
        clear H1
        simp only [Option.some.injEq, Prod.mk.injEq] at H
        obtain ⟨rfl, rfl, rfl, rfl, rfl⟩ := H
        have hnb17 := NB303_304.out
        have hnc17 := NB304_303.out
        have hcz18_0 : wc.cell? ⟨gb303, 0, none⟩ = some (.int .i64 0) := (blk_cell BK303.out 0).trans rfl
        have hcz18_1 : wc.cell? ⟨gb303, 1, none⟩ = some (.int .i64 0) := (blk_cell BK303.out 1).trans rfl
        have hcz18_2 : wc.cell? ⟨gb303, 2, none⟩ = some (.int .i64 0) := (blk_cell BK303.out 2).trans rfl
        have hcz18_3 : wc.cell? ⟨gb303, 3, none⟩ = some (.slice none 0 0) := (blk_cell BK303.out 3).trans rfl
        have hfz18_0 := blk_frozen BK303.out 0
        have hfz18_1 := blk_frozen BK303.out 1
        have hfz18_2 := blk_frozen BK303.out 2
        have hfz18_3 := blk_frozen BK303.out 3
        go_wp2
        refine bodyPost_ret (results_ct rfl _ _ gb303 31 #[.int .i64 0, .int .i64 0, .int .i64 0, .slice none 0 0] (0, 0) _ rfl (by (with_reducible repeat (first | refine blk_drewN ?_ _ | refine blk_drew ?_ | refine blk_alloc ?_ _)); refine blk_put (cs := #[.int .i64 0, .int .i64 0, .int .i64 0, .slice none 0 0]) ?_ 3 _ rfl; (with_reducible repeat (first | refine blk_drewN ?_ _ | refine blk_drew ?_ | refine blk_alloc ?_ _)); refine blk_put (cs := #[.int .i64 0, .int .i64 0, .int .i64 0, .slice none 0 0]) ?_ 2 _ rfl; (with_reducible repeat (first | refine blk_drewN ?_ _ | refine blk_drew ?_ | refine blk_alloc ?_ _)); refine blk_put (cs := #[.int .i64 0, .int .i64 0, .int .i64 0, .slice none 0 0]) ?_ 1 _ rfl; (with_reducible repeat (first | refine blk_drewN ?_ _ | refine blk_drew ?_ | refine blk_alloc ?_ _)); refine blk_put (cs := #[.int .i64 0, .int .i64 0, .int .i64 0, .slice none 0 0]) ?_ 0 _ rfl; (with_reducible repeat (first | refine blk_drewN ?_ _ | refine blk_drew ?_ | refine blk_alloc ?_ _)); exact BK303.out) Try.underlying31 rfl (by kernel_rfl)) rfl ?_
        exact ⟨_, by first | rfl | (simp [errW_none, errW_some] <;> rfl) | (simp [*, errW_none, errW_some] <;> rfl), by first | exact Kd.R_nil _ _ _ _ _ | exact Kd.N_nil _ _ _ _ _ | exact Kd.V_nil _ _ _ _ _ | exact Kd.Q_nil _ _ _ _ _ | exact Kd.S_nil _ _ _ _ _, by repeat (first | (with_reducible first | exact HB.out | apply below_alloc | apply pw_below_drewN | apply below_drew1 | refine below_set ?_ GE303.out | refine below_set ?_ GE304.out) | exact HB.out)⟩
      · replace c16 := Bool.eq_false_iff.mpr c16
        subst c16
        have H1 : (preset_Lay.l0 kj4 l0 a1 a2 a3 l0 (l0.length : Int) 0) = some (r1, r2, r3, r4, r5) := by rw [if_neg (show ¬ (false = true) by decide)] at H; exact H
        clear H
        have H := H1
        clear H1
        have H' := Aside0.mk H
        clear H
        go_wp2
        go_loopg [35] kj4 (fun kq v35 w' => ∃ (x35_2 : Int) (x304000_2 : Int) (x304001_2 : Int) (x304002_2 : Int), v35 = .int .i64 x35_2 ∧ Aside0 (preset_Lay.l0 kq l0 a1 a2 a3 l0 (l0.length : Int) x35_2 = some (r1, r2, r3, r4, r5)) ∧ Aside0 (kq ≤ kj4) ∧ Aside0 (w'.heap[gb303]? = some (.cells #[.int .i64 x304000_2, .int .i64 x304001_2, .int .i64 x304002_2, (.slice none 0 0)] 31 (0, 0))) ∧ Aside0 (w'.heap[gb304]? = some (.cells #[.func (.func 46) #[] #[], .func (.func 47) #[] #[], .func (.func 48) #[] #[], .func (.func 49) #[] #[], .func (.func 50) #[] #[]] 84 (0, 0))) ∧ Aside0 (Below w.heap.size w w'))
        case atStart => exact ⟨(0), (0), (0), (0), (by first | rfl | (simp; done) | (simp [*]; done)), H', ⟨Nat.le_refl _⟩, ⟨by (with_reducible repeat (first | refine blk_drewN ?_ _ | refine blk_drew ?_ | refine blk_alloc ?_ _)); exact BK303.out⟩, ⟨by (with_reducible repeat (first | refine blk_drewN ?_ _ | refine blk_drew ?_ | refine blk_alloc ?_ _)); exact BK304.out⟩, ⟨by repeat (first | (with_reducible first | exact HB.out | apply below_alloc | apply pw_below_drewN | apply below_drew1 | refine below_set ?_ GE303.out | refine below_set ?_ GE304.out) | exact HB.out)⟩⟩
        case round =>
          clear H'
          try clear c1
          try clear p2
          try clear c4
          try clear c8
          try clear c11
          try clear c13
          try clear c14
          try clear c16
          try clear c17
          try clear hcz18_0
          try clear hcz18_1
          try clear hcz18_2
          try clear hcz18_3
          try clear hcz9_0
          try clear hcz9_1
          try clear hcz9_2
          try clear hcz9_3
          try clear hcz9_4
          try clear hfz18_0
          try clear hfz18_1
          try clear hfz18_2
          try clear hfz18_3
          try clear hfz9_0
          try clear hfz9_1
          try clear hfz9_2
          try clear hfz9_3
          try clear hfz9_4
          try clear p2
          obtain ⟨x35_2, x304000_2, x304001_2, x304002_2, rfl, HA, HK2, BK303, BK304, HB⟩ := hrel
          cases gk with
          | zero => exact absurd HA.out (by simp [preset_Lay.l0])
          | succ k2 =>
            have H := HA.out
            clear HA
            simp only [preset_Lay.l0] at H
            by_cases c19 : x35_2 < (l0.length : Int)
            · rw [if_pos c19] at H
              have c19b0 : decide (x35_2 < (l0.length : Int)) = true := decide_eq_true c19
              clear c19
              by_cases c20 : 0 ≤ x35_2
              · rw [if_pos c20] at H
                have c20b0 : decide (0 ≤ x35_2) = true := decide_eq_true c20
                clear c20
                by_cases c21 : x35_2 < (l0.length : Int)
                · rw [if_pos c21] at H
                  have c21b0 : decide (x35_2 < (l0.length : Int)) = true := decide_eq_true c21
                  clear c21
                  replace H := Option.bind_eq_some_iff.mp H
                  obtain ⟨t317, A220, H⟩ := H
                  replace H : (if t317 = true then (if x35_2 ≤ (l0.length : Int) then ((slices_Contains_int_int.f k2 (l0.take (x35_2 : Int).toNat) (rd l0 x35_2)).bind fun t319 => (if t319 = true then (some (0, 0, 0, ([] : List (S31)), 1)) else (preset_Lay.l0 k2 l0 a1 a2 a3 l0 (l0.length : Int) (wrap64 (x35_2 + 1))))) else (none)) else (some (0, 0, 0, ([] : List (S31)), 1))) = some (r1, r2, r3, r4, r5) := H
                  have A22 := Aside0.mk A220
                  clear A220
                  by_cases c23 : t317 = true
                  · subst c23
                    have H1 : (if x35_2 ≤ (l0.length : Int) then ((slices_Contains_int_int.f k2 (l0.take (x35_2 : Int).toNat) (rd l0 x35_2)).bind fun t319 => (if t319 = true then (some (0, 0, 0, ([] : List (S31)), 1)) else (preset_Lay.l0 k2 l0 a1 a2 a3 l0 (l0.length : Int) (wrap64 (x35_2 + 1))))) else (none)) = some (r1, r2, r3, r4, r5) := by rw [if_pos rfl] at H; exact H
                    clear H
                    have H := H1
                    clear H1
                    have c24b0 := eq_true (of_decide_eq_true (by first | (with_reducible assumption) | assumption) : 0 ≤ x35_2)
                    by_cases c25 : x35_2 ≤ (l0.length : Int)
                    · rw [if_pos c25] at H
                      have c25b0 := eq_true c25
                      have c25b1 : decide (x35_2 ≤ (l0.length : Int)) = true := decide_eq_true c25
                      clear c25
                      replace H := Option.bind_eq_some_iff.mp H
                      obtain ⟨t319, A260, H⟩ := H
                      replace H : (if t319 = true then (some (0, 0, 0, ([] : List (S31)), 1)) else (preset_Lay.l0 k2 l0 a1 a2 a3 l0 (l0.length : Int) (wrap64 (x35_2 + 1)))) = some (r1, r2, r3, r4, r5) := H
                      have A26 := Aside0.mk A260
                      clear A260
                      by_cases c27 : t319 = true
                      · subst c27
                        have H1 : (some (0, 0, 0, ([] : List (S31)), 1)) = some (r1, r2, r3, r4, r5) := by rw [if_pos rfl] at H; exact H
                        clear H
                        have H := H1
                        clear H1
                        simp only [Option.some.injEq, Prod.mk.injEq] at H
                        obtain ⟨rfl, rfl, rfl, rfl, rfl⟩ := H
                        have p316 : 0 ≤ (x35_2 : Int) := of_decide_eq_true (by first | (with_reducible assumption) | assumption)
                        have q316 : x35_2 < (l0.length : Int) := of_decide_eq_true (by first | (with_reducible assumption) | assumption)
                        obtain ⟨ad316, e316, hx316_0⟩ := Kd.at_int HR0.out x35_2 p316 q316
                        cases e316
                        replace hx316_0 := (HB.out.cell (World.block_lt_of_cell? w _ hx316_0)).trans hx316_0
                        replace p316 := eq_true p316
                        replace q316 := eq_true q316
                        go_wp2_with (first | ((with_reducible refine gate_callee (f := 44) rfl ?_); refine goesL_ (some 41) rfl rfl Try.func44 (by kernel_rfl) rfl #[.int .i64 (rd l0 x35_2), .int .i64 1, .int .i64 999] rfl (by (try simp only [List.map_toArray, List.map_cons, List.map_nil]); first | done | rfl | (simp only [List.length_drop, List.length_take]; rfl)) ?_; (with_reducible refine (preset_in.calls (rd l0 x35_2) 1 999 true _ A22.out).mono ?_); rintro e w' ⟨rfl, ⟨nd, rfl⟩⟩; refine ⟨_, rfl, ?_⟩; (try (rw [drewN_self wr]; generalize hq_ : World.drewN wr _ = wr; have n0_ : Aside0 (wr.heap[gb303]? = some (.cells #[.int .i64 x304000_2, .int .i64 x304001_2, .int .i64 x304002_2, .slice none 0 0] 31 (0, 0))) := ⟨by rw [← hq_]; exact (by (with_reducible repeat (first | refine blk_drewN ?_ _ | refine blk_drew ?_ | refine blk_alloc ?_ _)); exact BK303.out)⟩; have n1_ : Aside0 (wr.heap[gb304]? = some (.cells #[.func (.func 46) #[] #[], .func (.func 47) #[] #[], .func (.func 48) #[] #[], .func (.func 49) #[] #[], .func (.func 50) #[] #[]] 84 (0, 0))) := ⟨by rw [← hq_]; exact (by (with_reducible repeat (first | refine blk_drewN ?_ _ | refine blk_drew ?_ | refine blk_alloc ?_ _)); exact BK304.out)⟩; have n2_ : Aside0 (Below w.heap.size w wr) := ⟨by rw [← hq_]; exact (by repeat (first | (with_reducible first | exact HB.out | apply below_alloc | apply pw_below_drewN | apply below_drew1 | refine below_set ?_ GE303.out | refine below_set ?_ GE304.out) | exact HB.out))⟩; clear BK303 BK304 HB hq_; have BK303 := n0_; have BK304 := n1_; have HB := n2_; clear n0_ n1_ n2_; have hczu_BK303_0 : wr.cell? ⟨gb303, 0, none⟩ = some (.int .i64 x304000_2) := (blk_cell BK303.out 0).trans rfl; have hfzu_BK303_0 := blk_frozen BK303.out 0; have hczu_BK303_1 : wr.cell? ⟨gb303, 1, none⟩ = some (.int .i64 x304001_2) := (blk_cell BK303.out 1).trans rfl; have hfzu_BK303_1 := blk_frozen BK303.out 1; have hczu_BK303_2 : wr.cell? ⟨gb303, 2, none⟩ = some (.int .i64 x304002_2) := (blk_cell BK303.out 2).trans rfl; have hfzu_BK303_2 := blk_frozen BK303.out 2; have hczu_BK303_3 : wr.cell? ⟨gb303, 3, none⟩ = some (.slice none 0 0) := (blk_cell BK303.out 3).trans rfl; have hfzu_BK303_3 := blk_frozen BK303.out 3; have hczu_BK304_0 : wr.cell? ⟨gb304, 0, none⟩ = some (.func (.func 46) #[] #[]) := (blk_cell BK304.out 0).trans rfl; have hfzu_BK304_0 := blk_frozen BK304.out 0; have hczu_BK304_1 : wr.cell? ⟨gb304, 1, none⟩ = some (.func (.func 47) #[] #[]) := (blk_cell BK304.out 1).trans rfl; have hfzu_BK304_1 := blk_frozen BK304.out 1; have hczu_BK304_2 : wr.cell? ⟨gb304, 2, none⟩ = some (.func (.func 48) #[] #[]) := (blk_cell BK304.out 2).trans rfl; have hfzu_BK304_2 := blk_frozen BK304.out 2; have hczu_BK304_3 : wr.cell? ⟨gb304, 3, none⟩ = some (.func (.func 49) #[] #[]) := (blk_cell BK304.out 3).trans rfl; have hfzu_BK304_3 := blk_frozen BK304.out 3; have hczu_BK304_4 : wr.cell? ⟨gb304, 4, none⟩ = some (.func (.func 50) #[] #[]) := (blk_cell BK304.out 4).trans rfl; have hfzu_BK304_4 := blk_frozen BK304.out 4)); obtain ⟨i028, hi028, _, hsz28, _⟩ := info_parts info3; obtain ⟨hcut28, hA28, hC28⟩ := print_take_of (P := Try.prog) (Value.int .i64) 0 22 3 .i64 Try.underlying22 hi028 hsz28 (some ad316) c0 l0 x35_2 (of_decide_eq_true (by first | (with_reducible assumption) | assumption)) (of_decide_eq_true (by first | (with_reducible assumption) | assumption)) HC0.out; have HR318 := Aside0.mk (Kd.C_of_reads (h1 := fun _ => rfl) (hA28 _ (Kd.reads_of_C HR0.out))); have HC318 := Aside0.mk hC28; clear hA28 hC28 hi028 hsz28) | (go_at_call 51; have hq_ : (l0.take (x35_2 : Int).toNat).length = (x35_2 : Int).toNat := (by have h1_ : x35_2 ≤ (l0.length : Int) := of_decide_eq_true (by first | (with_reducible assumption) | assumption); rw [List.length_take]; omega); have hc_ := fun (W_ : World) (hW_ : Below w.heap.size w W_) => slices_Contains_int_int.calls k2 _ _ (l0.take (x35_2 : Int).toNat) (rd l0 x35_2) true W_ (Kd.C_below HR318.out hW_) HC318.out A26.out; simp only [hq_] at hc_; clear hq_; refine (hc_ _ HB.out).mono ?_; clear hc_; rintro e w' ⟨rfl, ⟨nd, rfl⟩⟩; (try (rw [drewN_self wr]; generalize hq_ : World.drewN wr _ = wr; have n0_ : Aside0 (wr.heap[gb303]? = some (.cells #[.int .i64 x304000_2, .int .i64 x304001_2, .int .i64 x304002_2, .slice none 0 0] 31 (0, 0))) := ⟨by rw [← hq_]; exact (by (with_reducible repeat (first | refine blk_drewN ?_ _ | refine blk_drew ?_ | refine blk_alloc ?_ _)); exact BK303.out)⟩; have n1_ : Aside0 (wr.heap[gb304]? = some (.cells #[.func (.func 46) #[] #[], .func (.func 47) #[] #[], .func (.func 48) #[] #[], .func (.func 49) #[] #[], .func (.func 50) #[] #[]] 84 (0, 0))) := ⟨by rw [← hq_]; exact (by (with_reducible repeat (first | refine blk_drewN ?_ _ | refine blk_drew ?_ | refine blk_alloc ?_ _)); exact BK304.out)⟩; have n2_ : Aside0 (Below w.heap.size w wr) := ⟨by rw [← hq_]; exact (by repeat (first | (with_reducible first | exact HB.out | apply below_alloc | apply pw_below_drewN | apply below_drew1 | refine below_set ?_ GE303.out | refine below_set ?_ GE304.out) | exact HB.out))⟩; clear BK303 BK304 HB hq_; have BK303 := n0_; have BK304 := n1_; have HB := n2_; clear n0_ n1_ n2_; have hczu_BK303_0 : wr.cell? ⟨gb303, 0, none⟩ = some (.int .i64 x304000_2) := (blk_cell BK303.out 0).trans rfl; have hfzu_BK303_0 := blk_frozen BK303.out 0; have hczu_BK303_1 : wr.cell? ⟨gb303, 1, none⟩ = some (.int .i64 x304001_2) := (blk_cell BK303.out 1).trans rfl; have hfzu_BK303_1 := blk_frozen BK303.out 1; have hczu_BK303_2 : wr.cell? ⟨gb303, 2, none⟩ = some (.int .i64 x304002_2) := (blk_cell BK303.out 2).trans rfl; have hfzu_BK303_2 := blk_frozen BK303.out 2; have hczu_BK303_3 : wr.cell? ⟨gb303, 3, none⟩ = some (.slice none 0 0) := (blk_cell BK303.out 3).trans rfl; have hfzu_BK303_3 := blk_frozen BK303.out 3; have hczu_BK304_0 : wr.cell? ⟨gb304, 0, none⟩ = some (.func (.func 46) #[] #[]) := (blk_cell BK304.out 0).trans rfl; have hfzu_BK304_0 := blk_frozen BK304.out 0; have hczu_BK304_1 : wr.cell? ⟨gb304, 1, none⟩ = some (.func (.func 47) #[] #[]) := (blk_cell BK304.out 1).trans rfl; have hfzu_BK304_1 := blk_frozen BK304.out 1; have hczu_BK304_2 : wr.cell? ⟨gb304, 2, none⟩ = some (.func (.func 48) #[] #[]) := (blk_cell BK304.out 2).trans rfl; have hfzu_BK304_2 := blk_frozen BK304.out 2; have hczu_BK304_3 : wr.cell? ⟨gb304, 3, none⟩ = some (.func (.func 49) #[] #[]) := (blk_cell BK304.out 3).trans rfl; have hfzu_BK304_3 := blk_frozen BK304.out 3; have hczu_BK304_4 : wr.cell? ⟨gb304, 4, none⟩ = some (.func (.func 50) #[] #[]) := (blk_cell BK304.out 4).trans rfl; have hfzu_BK304_4 := blk_frozen BK304.out 4)); have hnb29 := NB303_304.out; have hnc29 := NB304_303.out; have hcz30_0 : wr.cell? ⟨gb303, 0, none⟩ = some (.int .i64 x304000_2) := (blk_cell BK303.out 0).trans rfl; have hcz30_1 : wr.cell? ⟨gb303, 1, none⟩ = some (.int .i64 x304001_2) := (blk_cell BK303.out 1).trans rfl; have hcz30_2 : wr.cell? ⟨gb303, 2, none⟩ = some (.int .i64 x304002_2) := (blk_cell BK303.out 2).trans rfl; have hcz30_3 : wr.cell? ⟨gb303, 3, none⟩ = some (.slice none 0 0) := (blk_cell BK303.out 3).trans rfl; have hfz30_0 := blk_frozen BK303.out 0; have hfz30_1 := blk_frozen BK303.out 1; have hfz30_2 := blk_frozen BK303.out 2; have hfz30_3 := blk_frozen BK303.out 3))
                        refine bodyPost_ret (results_ct rfl _ _ gb303 31 #[.int .i64 0, .int .i64 0, .int .i64 0, .slice none 0 0] (0, 0) _ rfl (by (with_reducible repeat (first | refine blk_drewN ?_ _ | refine blk_drew ?_ | refine blk_alloc ?_ _)); refine blk_put (cs := #[.int .i64 0, .int .i64 0, .int .i64 0, .slice none 0 0]) ?_ 3 _ rfl; (with_reducible repeat (first | refine blk_drewN ?_ _ | refine blk_drew ?_ | refine blk_alloc ?_ _)); refine blk_put (cs := #[.int .i64 0, .int .i64 0, .int .i64 x304002_2, .slice none 0 0]) ?_ 2 _ rfl; (with_reducible repeat (first | refine blk_drewN ?_ _ | refine blk_drew ?_ | refine blk_alloc ?_ _)); refine blk_put (cs := #[.int .i64 0, .int .i64 x304001_2, .int .i64 x304002_2, .slice none 0 0]) ?_ 1 _ rfl; (with_reducible repeat (first | refine blk_drewN ?_ _ | refine blk_drew ?_ | refine blk_alloc ?_ _)); refine blk_put (cs := #[.int .i64 x304000_2, .int .i64 x304001_2, .int .i64 x304002_2, .slice none 0 0]) ?_ 0 _ rfl; (with_reducible repeat (first | refine blk_drewN ?_ _ | refine blk_drew ?_ | refine blk_alloc ?_ _)); exact BK303.out) Try.underlying31 rfl (by kernel_rfl)) rfl ?_
                        exact ⟨_, by first | rfl | (simp [errW_none, errW_some] <;> rfl) | (simp [*, errW_none, errW_some] <;> rfl), by first | exact Kd.R_nil _ _ _ _ _ | exact Kd.N_nil _ _ _ _ _ | exact Kd.V_nil _ _ _ _ _ | exact Kd.Q_nil _ _ _ _ _ | exact Kd.S_nil _ _ _ _ _, by repeat (first | (with_reducible first | exact HB.out | apply below_alloc | apply pw_below_drewN | apply below_drew1 | refine below_set ?_ GE303.out | refine below_set ?_ GE304.out) | exact HB.out)⟩
                      · replace c27 := Bool.eq_false_iff.mpr c27
                        subst c27
                        have H1 : (preset_Lay.l0 k2 l0 a1 a2 a3 l0 (l0.length : Int) (wrap64 (x35_2 + 1))) = some (r1, r2, r3, r4, r5) := by rw [if_neg (show ¬ (false = true) by decide)] at H; exact H
                        clear H
                        have H := H1
                        clear H1
                        have H' := Aside0.mk H
                        clear H
                        have p316 : 0 ≤ (x35_2 : Int) := of_decide_eq_true (by first | (with_reducible assumption) | assumption)
                        have q316 : x35_2 < (l0.length : Int) := of_decide_eq_true (by first | (with_reducible assumption) | assumption)
                        obtain ⟨ad316, e316, hx316_0⟩ := Kd.at_int HR0.out x35_2 p316 q316
                        cases e316
                        replace hx316_0 := (HB.out.cell (World.block_lt_of_cell? w _ hx316_0)).trans hx316_0
                        replace p316 := eq_true p316
                        replace q316 := eq_true q316
                        go_wp2_with (first | ((with_reducible refine gate_callee (f := 44) rfl ?_); refine goesL_ (some 41) rfl rfl Try.func44 (by kernel_rfl) rfl #[.int .i64 (rd l0 x35_2), .int .i64 1, .int .i64 999] rfl (by (try simp only [List.map_toArray, List.map_cons, List.map_nil]); first | done | rfl | (simp only [List.length_drop, List.length_take]; rfl)) ?_; (with_reducible refine (preset_in.calls (rd l0 x35_2) 1 999 true _ A22.out).mono ?_); rintro e w' ⟨rfl, ⟨nd, rfl⟩⟩; refine ⟨_, rfl, ?_⟩; obtain ⟨i031, hi031, _, hsz31, _⟩ := info_parts info3; obtain ⟨hcut31, hA31, hC31⟩ := print_take_of (P := Try.prog) (Value.int .i64) 0 22 3 .i64 Try.underlying22 hi031 hsz31 (some ad316) c0 l0 x35_2 (of_decide_eq_true (by first | (with_reducible assumption) | assumption)) (of_decide_eq_true (by first | (with_reducible assumption) | assumption)) HC0.out; have HR318 := Aside0.mk (Kd.C_of_reads (h1 := fun _ => rfl) (hA31 _ (Kd.reads_of_C HR0.out))); have HC318 := Aside0.mk hC31; clear hA31 hC31 hi031 hsz31) | (go_at_call 51; have hq_ : (l0.take (x35_2 : Int).toNat).length = (x35_2 : Int).toNat := (by have h1_ : x35_2 ≤ (l0.length : Int) := of_decide_eq_true (by first | (with_reducible assumption) | assumption); rw [List.length_take]; omega); have hc_ := fun (W_ : World) (hW_ : Below w.heap.size w W_) => slices_Contains_int_int.calls k2 _ _ (l0.take (x35_2 : Int).toNat) (rd l0 x35_2) false W_ (Kd.C_below HR318.out hW_) HC318.out A26.out; simp only [hq_] at hc_; clear hq_; refine (hc_ _ (by repeat (first | (with_reducible first | exact HB.out | apply below_alloc | apply pw_below_drewN | apply below_drew1 | refine below_set ?_ GE303.out | refine below_set ?_ GE304.out) | exact HB.out))).mono ?_; clear hc_; rintro e w' ⟨rfl, ⟨nd, rfl⟩⟩))
                        go_roundg k2
                        case measure => have := HJ4.out; have := HK2.out; omega
                        case rel => exact ⟨(wrap64 (x35_2 + 1)), (x304000_2), (x304001_2), (x304002_2), (by first | rfl | (simp; done) | (simp [*]; done)), H', ⟨by have := HJ4.out; have := HK2.out; omega⟩, ⟨by (with_reducible repeat (first | refine blk_drewN ?_ _ | refine blk_drew ?_ | refine blk_alloc ?_ _)); exact BK303.out⟩, ⟨by (with_reducible repeat (first | refine blk_drewN ?_ _ | refine blk_drew ?_ | refine blk_alloc ?_ _)); exact BK304.out⟩, ⟨by repeat (first | (with_reducible first | exact HB.out | apply below_alloc | apply pw_below_drewN | apply below_drew1 | refine below_set ?_ GE303.out | refine below_set ?_ GE304.out) | exact HB.out)⟩⟩
                    · rw [if_neg c25] at H
                      exact absurd H (by simp)
                  · replace c23 := Bool.eq_false_iff.mpr c23
                    subst c23
                    have H1 : (some (0, 0, 0, ([] : List (S31)), 1)) = some (r1, r2, r3, r4, r5) := by rw [if_neg (show ¬ (false = true) by decide)] at H; exact H
                    clear H
                    have H := H1
                    clear H1
                    simp only [Option.some.injEq, Prod.mk.injEq] at H
                    obtain ⟨rfl, rfl, rfl, rfl, rfl⟩ := H
                    have p316 : 0 ≤ (x35_2 : Int) := of_decide_eq_true (by first | (with_reducible assumption) | assumption)
                    have q316 : x35_2 < (l0.length : Int) := of_decide_eq_true (by first | (with_reducible assumption) | assumption)
                    obtain ⟨ad316, e316, hx316_0⟩ := Kd.at_int HR0.out x35_2 p316 q316
                    cases e316
                    replace hx316_0 := (HB.out.cell (World.block_lt_of_cell? w _ hx316_0)).trans hx316_0
                    replace p316 := eq_true p316
                    replace q316 := eq_true q316
                    go_wp2_with (first | ((with_reducible refine gate_callee (f := 44) rfl ?_); refine goesL_ (some 41) rfl rfl Try.func44 (by kernel_rfl) rfl #[.int .i64 (rd l0 x35_2), .int .i64 1, .int .i64 999] rfl (by (try simp only [List.map_toArray, List.map_cons, List.map_nil]); first | done | rfl | (simp only [List.length_drop, List.length_take]; rfl)) ?_; (with_reducible refine (preset_in.calls (rd l0 x35_2) 1 999 false _ A22.out).mono ?_); rintro e w' ⟨rfl, ⟨nd, rfl⟩⟩; refine ⟨_, rfl, ?_⟩; (try (rw [drewN_self wr]; generalize hq_ : World.drewN wr _ = wr; have n0_ : Aside0 (wr.heap[gb303]? = some (.cells #[.int .i64 x304000_2, .int .i64 x304001_2, .int .i64 x304002_2, .slice none 0 0] 31 (0, 0))) := ⟨by rw [← hq_]; exact (by (with_reducible repeat (first | refine blk_drewN ?_ _ | refine blk_drew ?_ | refine blk_alloc ?_ _)); exact BK303.out)⟩; have n1_ : Aside0 (wr.heap[gb304]? = some (.cells #[.func (.func 46) #[] #[], .func (.func 47) #[] #[], .func (.func 48) #[] #[], .func (.func 49) #[] #[], .func (.func 50) #[] #[]] 84 (0, 0))) := ⟨by rw [← hq_]; exact (by (with_reducible repeat (first | refine blk_drewN ?_ _ | refine blk_drew ?_ | refine blk_alloc ?_ _)); exact BK304.out)⟩; have n2_ : Aside0 (Below w.heap.size w wr) := ⟨by rw [← hq_]; exact (by repeat (first | (with_reducible first | exact HB.out | apply below_alloc | apply pw_below_drewN | apply below_drew1 | refine below_set ?_ GE303.out | refine below_set ?_ GE304.out) | exact HB.out))⟩; clear BK303 BK304 HB hq_; have BK303 := n0_; have BK304 := n1_; have HB := n2_; clear n0_ n1_ n2_; have hczu_BK303_0 : wr.cell? ⟨gb303, 0, none⟩ = some (.int .i64 x304000_2) := (blk_cell BK303.out 0).trans rfl; have hfzu_BK303_0 := blk_frozen BK303.out 0; have hczu_BK303_1 : wr.cell? ⟨gb303, 1, none⟩ = some (.int .i64 x304001_2) := (blk_cell BK303.out 1).trans rfl; have hfzu_BK303_1 := blk_frozen BK303.out 1; have hczu_BK303_2 : wr.cell? ⟨gb303, 2, none⟩ = some (.int .i64 x304002_2) := (blk_cell BK303.out 2).trans rfl; have hfzu_BK303_2 := blk_frozen BK303.out 2; have hczu_BK303_3 : wr.cell? ⟨gb303, 3, none⟩ = some (.slice none 0 0) := (blk_cell BK303.out 3).trans rfl; have hfzu_BK303_3 := blk_frozen BK303.out 3; have hczu_BK304_0 : wr.cell? ⟨gb304, 0, none⟩ = some (.func (.func 46) #[] #[]) := (blk_cell BK304.out 0).trans rfl; have hfzu_BK304_0 := blk_frozen BK304.out 0; have hczu_BK304_1 : wr.cell? ⟨gb304, 1, none⟩ = some (.func (.func 47) #[] #[]) := (blk_cell BK304.out 1).trans rfl; have hfzu_BK304_1 := blk_frozen BK304.out 1; have hczu_BK304_2 : wr.cell? ⟨gb304, 2, none⟩ = some (.func (.func 48) #[] #[]) := (blk_cell BK304.out 2).trans rfl; have hfzu_BK304_2 := blk_frozen BK304.out 2; have hczu_BK304_3 : wr.cell? ⟨gb304, 3, none⟩ = some (.func (.func 49) #[] #[]) := (blk_cell BK304.out 3).trans rfl; have hfzu_BK304_3 := blk_frozen BK304.out 3; have hczu_BK304_4 : wr.cell? ⟨gb304, 4, none⟩ = some (.func (.func 50) #[] #[]) := (blk_cell BK304.out 4).trans rfl; have hfzu_BK304_4 := blk_frozen BK304.out 4)); have hnb32 := NB303_304.out; have hnc32 := NB304_303.out; have hcz33_0 : wr.cell? ⟨gb303, 0, none⟩ = some (.int .i64 x304000_2) := (blk_cell BK303.out 0).trans rfl; have hcz33_1 : wr.cell? ⟨gb303, 1, none⟩ = some (.int .i64 x304001_2) := (blk_cell BK303.out 1).trans rfl; have hcz33_2 : wr.cell? ⟨gb303, 2, none⟩ = some (.int .i64 x304002_2) := (blk_cell BK303.out 2).trans rfl; have hcz33_3 : wr.cell? ⟨gb303, 3, none⟩ = some (.slice none 0 0) := (blk_cell BK303.out 3).trans rfl; have hfz33_0 := blk_frozen BK303.out 0; have hfz33_1 := blk_frozen BK303.out 1; have hfz33_2 := blk_frozen BK303.out 2; have hfz33_3 := blk_frozen BK303.out 3))
                    refine bodyPost_ret (results_ct rfl _ _ gb303 31 #[.int .i64 0, .int .i64 0, .int .i64 0, .slice none 0 0] (0, 0) _ rfl (by (with_reducible repeat (first | refine blk_drewN ?_ _ | refine blk_drew ?_ | refine blk_alloc ?_ _)); refine blk_put (cs := #[.int .i64 0, .int .i64 0, .int .i64 0, .slice none 0 0]) ?_ 3 _ rfl; (with_reducible repeat (first | refine blk_drewN ?_ _ | refine blk_drew ?_ | refine blk_alloc ?_ _)); refine blk_put (cs := #[.int .i64 0, .int .i64 0, .int .i64 x304002_2, .slice none 0 0]) ?_ 2 _ rfl; (with_reducible repeat (first | refine blk_drewN ?_ _ | refine blk_drew ?_ | refine blk_alloc ?_ _)); refine blk_put (cs := #[.int .i64 0, .int .i64 x304001_2, .int .i64 x304002_2, .slice none 0 0]) ?_ 1 _ rfl; (with_reducible repeat (first | refine blk_drewN ?_ _ | refine blk_drew ?_ | refine blk_alloc ?_ _)); refine blk_put (cs := #[.int .i64 x304000_2, .int .i64 x304001_2, .int .i64 x304002_2, .slice none 0 0]) ?_ 0 _ rfl; (with_reducible repeat (first | refine blk_drewN ?_ _ | refine blk_drew ?_ | refine blk_alloc ?_ _)); exact BK303.out) Try.underlying31 rfl (by kernel_rfl)) rfl ?_
                    exact ⟨_, by first | rfl | (simp [errW_none, errW_some] <;> rfl) | (simp [*, errW_none, errW_some] <;> rfl), by first | exact Kd.R_nil _ _ _ _ _ | exact Kd.N_nil _ _ _ _ _ | exact Kd.V_nil _ _ _ _ _ | exact Kd.Q_nil _ _ _ _ _ | exact Kd.S_nil _ _ _ _ _, by repeat (first | (with_reducible first | exact HB.out | apply below_alloc | apply pw_below_drewN | apply below_drew1 | refine below_set ?_ GE303.out | refine below_set ?_ GE304.out) | exact HB.out)⟩
                · rw [if_neg c21] at H
                  exact absurd H (by simp)
              · rw [if_neg c20] at H
                exact absurd H (by simp)
            · rw [if_neg c19] at H
              have c19b0 : decide (x35_2 < (l0.length : Int)) = false := decide_eq_false c19
              clear c19
              replace H := Option.bind_eq_some_iff.mp H
              obtain ⟨⟨t308, t309, t310, t311, t314⟩, A340, H⟩ := H
              replace H : (if t314 = true then (some (t308, t309, t310, t311, 0)) else (some (0, 0, 0, ([] : List (S31)), 9))) = some (r1, r2, r3, r4, r5) := H
              have A34 := Aside0.mk A340
              clear A340
              by_cases c35 : t314 = true
              · subst c35
                have H1 : (some (t308, t309, t310, t311, 0)) = some (r1, r2, r3, r4, r5) := by rw [if_pos rfl] at H; exact H
                clear H
                have H := H1
                clear H1
                simp only [Option.some.injEq, Prod.mk.injEq] at H
                obtain ⟨rfl, rfl, rfl, rfl, rfl⟩ := H
                have hnb36 := NB304_303.out
                have hnc36 := NB303_304.out
                have hcz37_0 : wr.cell? ⟨gb304, 0, none⟩ = some (.func (.func 46) #[] #[]) := (blk_cell BK304.out 0).trans rfl
                have hcz37_1 : wr.cell? ⟨gb304, 1, none⟩ = some (.func (.func 47) #[] #[]) := (blk_cell BK304.out 1).trans rfl
                have hcz37_2 : wr.cell? ⟨gb304, 2, none⟩ = some (.func (.func 48) #[] #[]) := (blk_cell BK304.out 2).trans rfl
                have hcz37_3 : wr.cell? ⟨gb304, 3, none⟩ = some (.func (.func 49) #[] #[]) := (blk_cell BK304.out 3).trans rfl
                have hcz37_4 : wr.cell? ⟨gb304, 4, none⟩ = some (.func (.func 50) #[] #[]) := (blk_cell BK304.out 4).trans rfl
                have hfz37_0 := blk_frozen BK304.out 0
                have hfz37_1 := blk_frozen BK304.out 1
                have hfz37_2 := blk_frozen BK304.out 2
                have hfz37_3 := blk_frozen BK304.out 3
                have hfz37_4 := blk_frozen BK304.out 4
                obtain ⟨ji, hji5, hji⟩ := layHow_idx A34.out
                have HJA := Aside0.mk (hji ▸ A34.out)
                have HJI := Aside0.mk hji5
                have hjc := layHow_cell BK304.out hji5
                have hji0 : ((0 : Int) ≤ (ji : Int)) = True := eq_true (by omega)
                have hji1 : ((ji : Int) < 5) = True := eq_true (by omega)
                have hji2 : (ji < 5) = True := eq_true hji5
                clear hji5
                go_wp2_with (first | ((with_reducible refine gate_dst (N := 61) rfl ?_); refine goesP_ (some 61) rfl rfl (layFn_at HJI.out) (layFn_name HJI.out) (layFn_body HJI.out) #[.agg #[.int .i64 a2, .int .i64 a3], .slice A0 l0.length c0] rfl rfl (by (try simp only [List.map_toArray, List.map_cons, List.map_nil]); first | done | rfl | (simp only [List.length_drop, List.length_take]; rfl)) ?_; (with_reducible refine (preset_layHow.callsN k2 ji a2 a3 _ _ l0 t308 t309 t310 t311 true _ ?side1 ?side2 HJA.out).mono ?_); (case side1 => repeat (first | exact (Kd.C_below HR0.out HB.out) | (with_reducible refine Kd.C_alloc ?_ _) | (with_reducible refine Kd.C_drewN ?_ _) | (with_reducible refine Kd.C_drew ?_))); (case side2 => exact HC0.out); rintro e w38 ⟨v312, rfl, ho0, hb⟩; refine ⟨_, rfl, ?_⟩; have n0_ := Aside0.mk (Kd.N_lower (Kd.N_mono (ok' := fun k_ => (w.heap.size ≤ k_) ∧ k_ ≠ gb303 ∧ k_ ≠ gb304) ho0 (fun k_ hk_ => ⟨(Nat.le_trans (below_size (by repeat (first | (with_reducible first | exact HB.out | apply below_alloc | apply pw_below_drewN | apply below_drew1 | refine below_set ?_ GE303.out | refine below_set ?_ GE304.out) | exact HB.out))) hk_), (Kd.freshB (g := gb303) (o := .cells #[.int .i64 x304000_2, .int .i64 x304001_2, .int .i64 x304002_2, .slice none 0 0] 31 (0, 0)) (by (with_reducible repeat (first | refine blk_drewN ?_ _ | refine blk_drew ?_ | refine blk_alloc ?_ _)); exact BK303.out) k_ hk_), (Kd.freshB (g := gb304) (o := .cells #[.func (.func 46) #[] #[], .func (.func 47) #[] #[], .func (.func 48) #[] #[], .func (.func 49) #[] #[], .func (.func 50) #[] #[]] 84 (0, 0)) (by (with_reducible repeat (first | refine blk_drewN ?_ _ | refine blk_drew ?_ | refine blk_alloc ?_ _)); exact BK304.out) k_ hk_)⟩)) (below_size (by repeat (first | (with_reducible first | exact HB.out | apply below_alloc | apply pw_below_drewN | apply below_drew1 | refine below_set ?_ GE303.out | refine below_set ?_ GE304.out) | exact HB.out)))); have n1_ := Aside0.mk (blk_below (g := gb303) (o := .cells #[.int .i64 x304000_2, .int .i64 x304001_2, .int .i64 x304002_2, .slice none 0 0] 31 (0, 0)) (by (with_reducible repeat (first | refine blk_drewN ?_ _ | refine blk_drew ?_ | refine blk_alloc ?_ _)); exact BK303.out) hb); have n2_ := Aside0.mk (blk_below (g := gb304) (o := .cells #[.func (.func 46) #[] #[], .func (.func 47) #[] #[], .func (.func 48) #[] #[], .func (.func 49) #[] #[], .func (.func 50) #[] #[]] 84 (0, 0)) (by (with_reducible repeat (first | refine blk_drewN ?_ _ | refine blk_drew ?_ | refine blk_alloc ?_ _)); exact BK304.out) hb); have n3_ := Aside0.mk (below_step (by repeat (first | (with_reducible first | exact HB.out | apply below_alloc | apply pw_below_drewN | apply below_drew1 | refine below_set ?_ GE303.out | refine below_set ?_ GE304.out) | exact HB.out)) hb); clear BK303; clear BK304; clear HB; have HO313 := n0_; have BK303 := n1_; have BK304 := n2_; have HB := n3_; clear n0_ n1_ n2_ n3_; (try clear hb); (try clear hb2); (try clear hk); (try clear hi); (try clear ho0)) | ((with_reducible refine gate_dst (N := 13) rfl ?_); refine box_event ?hg (N := 13) ?hd (cs := #[.int .i64 0, .int .i64 0, .int .i64 0, .slice none 0 0]) (t := 31) ?hr ?_; (case hd => rfl); (case hg => rfl); (case hr => first | (go_simp; done) | (go_simp; rfl)); intro gb315 hg w39 hbox hb; have n0_ := Aside0.mk (Kd.N_below (Kd.N_elderB (by (with_reducible repeat (first | apply Kd.N_alloc | apply Kd.N_drewN | apply Kd.N_drew)); exact HO313.out) gb315 (Nat.le_of_eq hg.symm)) hb); have n1_ := Aside0.mk (blk_below (g := gb303) (o := .cells #[.int .i64 x304000_2, .int .i64 x304001_2, .int .i64 x304002_2, .slice none 0 0] 31 (0, 0)) (by (with_reducible repeat (first | refine blk_drewN ?_ _ | refine blk_drew ?_ | refine blk_alloc ?_ _)); exact BK303.out) hb); have n2_ := Aside0.mk (blk_below (g := gb304) (o := .cells #[.func (.func 46) #[] #[], .func (.func 47) #[] #[], .func (.func 48) #[] #[], .func (.func 49) #[] #[], .func (.func 50) #[] #[]] 84 (0, 0)) (by (with_reducible repeat (first | refine blk_drewN ?_ _ | refine blk_drew ?_ | refine blk_alloc ?_ _)); exact BK304.out) hb); have n3_ := Aside0.mk (below_step (by repeat (first | (with_reducible first | exact HB.out | apply below_alloc | apply pw_below_drewN | apply below_drew1 | refine below_set ?_ GE303.out | refine below_set ?_ GE304.out) | exact HB.out)) hb); have n4_ := Aside0.mk (hbox); have n5_ := Aside0.mk ((by rw [hg]; exact (below_size (by repeat (first | (with_reducible first | exact HB.out | apply below_alloc | apply pw_below_drewN | apply below_drew1 | refine below_set ?_ GE303.out | refine below_set ?_ GE304.out) | exact HB.out))) : w.heap.size ≤ gb315)); have n6_ := Aside0.mk ((by rw [hg]; exact (below_size (by repeat (first | (with_reducible first | exact HB.out | apply below_alloc | apply pw_below_drewN | apply below_drew1 | refine below_set ?_ GE303.out | refine below_set ?_ GE304.out) | exact HB.out))) : w.heap.size ≤ gb315)); have n7_ := Aside0.mk ((by rw [hg]; exact Nat.ne_of_lt (blk_lt (g := gb303) (o := .cells #[.int .i64 x304000_2, .int .i64 x304001_2, .int .i64 x304002_2, .slice none 0 0] 31 (0, 0)) (by (with_reducible repeat (first | refine blk_drewN ?_ _ | refine blk_drew ?_ | refine blk_alloc ?_ _)); exact BK303.out)) : gb303 ≠ gb315)); have n8_ := Aside0.mk ((by rw [hg]; exact Nat.ne_of_gt (blk_lt (g := gb303) (o := .cells #[.int .i64 x304000_2, .int .i64 x304001_2, .int .i64 x304002_2, .slice none 0 0] 31 (0, 0)) (by (with_reducible repeat (first | refine blk_drewN ?_ _ | refine blk_drew ?_ | refine blk_alloc ?_ _)); exact BK303.out)) : gb315 ≠ gb303)); have n9_ := Aside0.mk ((by rw [hg]; exact Nat.ne_of_lt (blk_lt (g := gb304) (o := .cells #[.func (.func 46) #[] #[], .func (.func 47) #[] #[], .func (.func 48) #[] #[], .func (.func 49) #[] #[], .func (.func 50) #[] #[]] 84 (0, 0)) (by (with_reducible repeat (first | refine blk_drewN ?_ _ | refine blk_drew ?_ | refine blk_alloc ?_ _)); exact BK304.out)) : gb304 ≠ gb315)); have n10_ := Aside0.mk ((by rw [hg]; exact Nat.ne_of_gt (blk_lt (g := gb304) (o := .cells #[.func (.func 46) #[] #[], .func (.func 47) #[] #[], .func (.func 48) #[] #[], .func (.func 49) #[] #[], .func (.func 50) #[] #[]] 84 (0, 0)) (by (with_reducible repeat (first | refine blk_drewN ?_ _ | refine blk_drew ?_ | refine blk_alloc ?_ _)); exact BK304.out)) : gb315 ≠ gb304)); clear HO313; clear BK303; clear BK304; clear HB; have HO313 := n0_; have BK303 := n1_; have BK304 := n2_; have HB := n3_; have BK315 := n4_; have GW315 := n5_; have GE315 := n6_; have NB303_315 := n7_; have NB315_303 := n8_; have NB304_315 := n9_; have NB315_304 := n10_; clear n0_ n1_ n2_ n3_ n4_ n5_ n6_ n7_ n8_ n9_ n10_; clear hb hbox hg; have hnb40 := NB315_303.out; have hnc40 := NB303_315.out; have hnb41 := NB315_304.out; have hnc41 := NB304_315.out; have hcz42_0 : w39.cell? ⟨gb315, 0, none⟩ = some (.int .i64 0) := (blk_cell BK315.out 0).trans rfl; have hcz42_1 : w39.cell? ⟨gb315, 1, none⟩ = some (.int .i64 0) := (blk_cell BK315.out 1).trans rfl; have hcz42_2 : w39.cell? ⟨gb315, 2, none⟩ = some (.int .i64 0) := (blk_cell BK315.out 2).trans rfl; have hcz42_3 : w39.cell? ⟨gb315, 3, none⟩ = some (.slice none 0 0) := (blk_cell BK315.out 3).trans rfl; have hfz42_0 := blk_frozen BK315.out 0; have hfz42_1 := blk_frozen BK315.out 1; have hfz42_2 := blk_frozen BK315.out 2; have hfz42_3 := blk_frozen BK315.out 3; obtain ⟨Ao43, co43, eo43⟩ := Kd.N_slice HO313.out; subst eo43; have hcz44_0 : w39.cell? ⟨gb303, 0, none⟩ = some (.int .i64 x304000_2) := (blk_cell BK303.out 0).trans rfl; have hcz44_1 : w39.cell? ⟨gb303, 1, none⟩ = some (.int .i64 x304001_2) := (blk_cell BK303.out 1).trans rfl; have hcz44_2 : w39.cell? ⟨gb303, 2, none⟩ = some (.int .i64 x304002_2) := (blk_cell BK303.out 2).trans rfl; have hcz44_3 : w39.cell? ⟨gb303, 3, none⟩ = some (.slice none 0 0) := (blk_cell BK303.out 3).trans rfl; have hfz44_0 := blk_frozen BK303.out 0; have hfz44_1 := blk_frozen BK303.out 1; have hfz44_2 := blk_frozen BK303.out 2; have hfz44_3 := blk_frozen BK303.out 3))
                refine bodyPost_ret (results_ct rfl _ _ gb303 31 #[.int .i64 t308, .int .i64 t309, .int .i64 t310, .slice Ao43 t311.length co43] (0, 0) _ rfl (by (with_reducible repeat (first | refine blk_drewN ?_ _ | refine blk_drew ?_ | refine blk_alloc ?_ _)); refine blk_put (cs := #[.int .i64 t308, .int .i64 t309, .int .i64 t310, .slice none 0 0]) ?_ 3 _ rfl; (with_reducible repeat (first | refine blk_drewN ?_ _ | refine blk_drew ?_ | refine blk_alloc ?_ _)); refine blk_put (cs := #[.int .i64 t308, .int .i64 t309, .int .i64 x304002_2, .slice none 0 0]) ?_ 2 _ rfl; (with_reducible repeat (first | refine blk_drewN ?_ _ | refine blk_drew ?_ | refine blk_alloc ?_ _)); refine blk_put (cs := #[.int .i64 t308, .int .i64 x304001_2, .int .i64 x304002_2, .slice none 0 0]) ?_ 1 _ rfl; (with_reducible repeat (first | refine blk_drewN ?_ _ | refine blk_drew ?_ | refine blk_alloc ?_ _)); refine blk_put (cs := #[.int .i64 x304000_2, .int .i64 x304001_2, .int .i64 x304002_2, .slice none 0 0]) ?_ 0 _ rfl; (with_reducible repeat (first | refine blk_drewN ?_ _ | refine blk_drew ?_ | refine blk_alloc ?_ _)); refine blk_far ?_ NB303_315.out _; (with_reducible repeat (first | refine blk_drewN ?_ _ | refine blk_drew ?_ | refine blk_alloc ?_ _)); refine blk_far ?_ NB303_315.out _; (with_reducible repeat (first | refine blk_drewN ?_ _ | refine blk_drew ?_ | refine blk_alloc ?_ _)); refine blk_far ?_ NB303_315.out _; (with_reducible repeat (first | refine blk_drewN ?_ _ | refine blk_drew ?_ | refine blk_alloc ?_ _)); refine blk_far ?_ NB303_315.out _; (with_reducible repeat (first | refine blk_drewN ?_ _ | refine blk_drew ?_ | refine blk_alloc ?_ _)); exact BK303.out) Try.underlying31 rfl (by kernel_rfl)) rfl ?_
                exact ⟨_, by first | rfl | (simp [errW_none, errW_some] <;> rfl) | (simp [*, errW_none, errW_some] <;> rfl), by (with_reducible repeat (first | apply Kd.N_alloc | apply Kd.N_drewN | apply Kd.N_drew)); exact Kd.N_mono (Kd.N_far (p := ⟨gb303, 3, none⟩) (Kd.N_far (p := ⟨gb303, 2, none⟩) (Kd.N_far (p := ⟨gb303, 1, none⟩) (Kd.N_far (p := ⟨gb303, 0, none⟩) (Kd.N_far (p := ⟨gb315, 3, none⟩) (Kd.N_far (p := ⟨gb315, 2, none⟩) (Kd.N_far (p := ⟨gb315, 1, none⟩) (Kd.N_far (p := ⟨gb315, 0, none⟩) (Kd.N_mono (Kd.N_mono HO313.out (fun k_ hk => (⟨hk, hk.2⟩ : _ ∧ k_ ≠ gb315))) (fun k_ hk => (⟨hk, hk.1.1.2.1⟩ : _ ∧ k_ ≠ gb303))) (fun _ hk => hk.1.2) (.int .i64 t308)) (fun _ hk => hk.1.2) (.int .i64 t309)) (fun _ hk => hk.1.2) (.int .i64 t310)) (fun _ hk => hk.1.2) (.slice Ao43 t311.length co43)) (fun _ hk => hk.2) (.int .i64 t308)) (fun _ hk => hk.2) (.int .i64 t309)) (fun _ hk => hk.2) (.int .i64 t310)) (fun _ hk => hk.2) (.slice Ao43 t311.length co43)) (fun _ hk => hk.1.1.1.1), by repeat (first | (with_reducible first | exact HB.out | apply below_alloc | apply pw_below_drewN | apply below_drew1 | refine below_set ?_ GE303.out | refine below_set ?_ GE304.out | refine below_set ?_ GE315.out) | exact HB.out)⟩
              · replace c35 := Bool.eq_false_iff.mpr c35
                subst c35
                have H1 : (some (0, 0, 0, ([] : List (S31)), 9)) = some (r1, r2, r3, r4, r5) := by rw [if_neg (show ¬ (false = true) by decide)] at H; exact H
                clear H
                have H := H1
                clear H1
                simp only [Option.some.injEq, Prod.mk.injEq] at H
                obtain ⟨rfl, rfl, rfl, rfl, rfl⟩ := H
                have hnb45 := NB304_303.out
                have hnc45 := NB303_304.out
                have hcz46_0 : wr.cell? ⟨gb304, 0, none⟩ = some (.func (.func 46) #[] #[]) := (blk_cell BK304.out 0).trans rfl
                have hcz46_1 : wr.cell? ⟨gb304, 1, none⟩ = some (.func (.func 47) #[] #[]) := (blk_cell BK304.out 1).trans rfl
                have hcz46_2 : wr.cell? ⟨gb304, 2, none⟩ = some (.func (.func 48) #[] #[]) := (blk_cell BK304.out 2).trans rfl
                have hcz46_3 : wr.cell? ⟨gb304, 3, none⟩ = some (.func (.func 49) #[] #[]) := (blk_cell BK304.out 3).trans rfl
                have hcz46_4 : wr.cell? ⟨gb304, 4, none⟩ = some (.func (.func 50) #[] #[]) := (blk_cell BK304.out 4).trans rfl
                have hfz46_0 := blk_frozen BK304.out 0
                have hfz46_1 := blk_frozen BK304.out 1
                have hfz46_2 := blk_frozen BK304.out 2
                have hfz46_3 := blk_frozen BK304.out 3
                have hfz46_4 := blk_frozen BK304.out 4
                obtain ⟨ji, hji5, hji⟩ := layHow_idx A34.out
                have HJA := Aside0.mk (hji ▸ A34.out)
                have HJI := Aside0.mk hji5
                have hjc := layHow_cell BK304.out hji5
                have hji0 : ((0 : Int) ≤ (ji : Int)) = True := eq_true (by omega)
                have hji1 : ((ji : Int) < 5) = True := eq_true (by omega)
                have hji2 : (ji < 5) = True := eq_true hji5
                clear hji5
                go_wp2_with (first | ((with_reducible refine gate_dst (N := 61) rfl ?_); refine goesP_ (some 61) rfl rfl (layFn_at HJI.out) (layFn_name HJI.out) (layFn_body HJI.out) #[.agg #[.int .i64 a2, .int .i64 a3], .slice A0 l0.length c0] rfl rfl (by (try simp only [List.map_toArray, List.map_cons, List.map_nil]); first | done | rfl | (simp only [List.length_drop, List.length_take]; rfl)) ?_; (with_reducible refine (preset_layHow.callsN k2 ji a2 a3 _ _ l0 t308 t309 t310 t311 false _ ?side1 ?side2 HJA.out).mono ?_); (case side1 => repeat (first | exact (Kd.C_below HR0.out HB.out) | (with_reducible refine Kd.C_alloc ?_ _) | (with_reducible refine Kd.C_drewN ?_ _) | (with_reducible refine Kd.C_drew ?_))); (case side2 => exact HC0.out); rintro e w47 ⟨v312, rfl, ho0, hb⟩; refine ⟨_, rfl, ?_⟩; have n0_ := Aside0.mk (Kd.N_lower (Kd.N_mono (ok' := fun k_ => (w.heap.size ≤ k_) ∧ k_ ≠ gb303 ∧ k_ ≠ gb304) ho0 (fun k_ hk_ => ⟨(Nat.le_trans (below_size (by repeat (first | (with_reducible first | exact HB.out | apply below_alloc | apply pw_below_drewN | apply below_drew1 | refine below_set ?_ GE303.out | refine below_set ?_ GE304.out) | exact HB.out))) hk_), (Kd.freshB (g := gb303) (o := .cells #[.int .i64 x304000_2, .int .i64 x304001_2, .int .i64 x304002_2, .slice none 0 0] 31 (0, 0)) (by (with_reducible repeat (first | refine blk_drewN ?_ _ | refine blk_drew ?_ | refine blk_alloc ?_ _)); exact BK303.out) k_ hk_), (Kd.freshB (g := gb304) (o := .cells #[.func (.func 46) #[] #[], .func (.func 47) #[] #[], .func (.func 48) #[] #[], .func (.func 49) #[] #[], .func (.func 50) #[] #[]] 84 (0, 0)) (by (with_reducible repeat (first | refine blk_drewN ?_ _ | refine blk_drew ?_ | refine blk_alloc ?_ _)); exact BK304.out) k_ hk_)⟩)) (below_size (by repeat (first | (with_reducible first | exact HB.out | apply below_alloc | apply pw_below_drewN | apply below_drew1 | refine below_set ?_ GE303.out | refine below_set ?_ GE304.out) | exact HB.out)))); have n1_ := Aside0.mk (blk_below (g := gb303) (o := .cells #[.int .i64 x304000_2, .int .i64 x304001_2, .int .i64 x304002_2, .slice none 0 0] 31 (0, 0)) (by (with_reducible repeat (first | refine blk_drewN ?_ _ | refine blk_drew ?_ | refine blk_alloc ?_ _)); exact BK303.out) hb); have n2_ := Aside0.mk (blk_below (g := gb304) (o := .cells #[.func (.func 46) #[] #[], .func (.func 47) #[] #[], .func (.func 48) #[] #[], .func (.func 49) #[] #[], .func (.func 50) #[] #[]] 84 (0, 0)) (by (with_reducible repeat (first | refine blk_drewN ?_ _ | refine blk_drew ?_ | refine blk_alloc ?_ _)); exact BK304.out) hb); have n3_ := Aside0.mk (below_step (by repeat (first | (with_reducible first | exact HB.out | apply below_alloc | apply pw_below_drewN | apply below_drew1 | refine below_set ?_ GE303.out | refine below_set ?_ GE304.out) | exact HB.out)) hb); clear BK303; clear BK304; clear HB; have HO313 := n0_; have BK303 := n1_; have BK304 := n2_; have HB := n3_; clear n0_ n1_ n2_ n3_; (try clear hb); (try clear hb2); (try clear hk); (try clear hi); (try clear ho0)) | ((with_reducible refine gate_dst (N := 13) rfl ?_); refine box_event ?hg (N := 13) ?hd (cs := #[.int .i64 0, .int .i64 0, .int .i64 0, .slice none 0 0]) (t := 31) ?hr ?_; (case hd => rfl); (case hg => rfl); (case hr => first | (go_simp; done) | (go_simp; rfl)); intro gb315 hg w48 hbox hb; have n0_ := Aside0.mk (Kd.N_below (Kd.N_elderB (by (with_reducible repeat (first | apply Kd.N_alloc | apply Kd.N_drewN | apply Kd.N_drew)); exact HO313.out) gb315 (Nat.le_of_eq hg.symm)) hb); have n1_ := Aside0.mk (blk_below (g := gb303) (o := .cells #[.int .i64 x304000_2, .int .i64 x304001_2, .int .i64 x304002_2, .slice none 0 0] 31 (0, 0)) (by (with_reducible repeat (first | refine blk_drewN ?_ _ | refine blk_drew ?_ | refine blk_alloc ?_ _)); exact BK303.out) hb); have n2_ := Aside0.mk (blk_below (g := gb304) (o := .cells #[.func (.func 46) #[] #[], .func (.func 47) #[] #[], .func (.func 48) #[] #[], .func (.func 49) #[] #[], .func (.func 50) #[] #[]] 84 (0, 0)) (by (with_reducible repeat (first | refine blk_drewN ?_ _ | refine blk_drew ?_ | refine blk_alloc ?_ _)); exact BK304.out) hb); have n3_ := Aside0.mk (below_step (by repeat (first | (with_reducible first | exact HB.out | apply below_alloc | apply pw_below_drewN | apply below_drew1 | refine below_set ?_ GE303.out | refine below_set ?_ GE304.out) | exact HB.out)) hb); have n4_ := Aside0.mk (hbox); have n5_ := Aside0.mk ((by rw [hg]; exact (below_size (by repeat (first | (with_reducible first | exact HB.out | apply below_alloc | apply pw_below_drewN | apply below_drew1 | refine below_set ?_ GE303.out | refine below_set ?_ GE304.out) | exact HB.out))) : w.heap.size ≤ gb315)); have n6_ := Aside0.mk ((by rw [hg]; exact (below_size (by repeat (first | (with_reducible first | exact HB.out | apply below_alloc | apply pw_below_drewN | apply below_drew1 | refine below_set ?_ GE303.out | refine below_set ?_ GE304.out) | exact HB.out))) : w.heap.size ≤ gb315)); have n7_ := Aside0.mk ((by rw [hg]; exact Nat.ne_of_lt (blk_lt (g := gb303) (o := .cells #[.int .i64 x304000_2, .int .i64 x304001_2, .int .i64 x304002_2, .slice none 0 0] 31 (0, 0)) (by (with_reducible repeat (first | refine blk_drewN ?_ _ | refine blk_drew ?_ | refine blk_alloc ?_ _)); exact BK303.out)) : gb303 ≠ gb315)); have n8_ := Aside0.mk ((by rw [hg]; exact Nat.ne_of_gt (blk_lt (g := gb303) (o := .cells #[.int .i64 x304000_2, .int .i64 x304001_2, .int .i64 x304002_2, .slice none 0 0] 31 (0, 0)) (by (with_reducible repeat (first | refine blk_drewN ?_ _ | refine blk_drew ?_ | refine blk_alloc ?_ _)); exact BK303.out)) : gb315 ≠ gb303)); have n9_ := Aside0.mk ((by rw [hg]; exact Nat.ne_of_lt (blk_lt (g := gb304) (o := .cells #[.func (.func 46) #[] #[], .func (.func 47) #[] #[], .func (.func 48) #[] #[], .func (.func 49) #[] #[], .func (.func 50) #[] #[]] 84 (0, 0)) (by (with_reducible repeat (first | refine blk_drewN ?_ _ | refine blk_drew ?_ | refine blk_alloc ?_ _)); exact BK304.out)) : gb304 ≠ gb315)); have n10_ := Aside0.mk ((by rw [hg]; exact Nat.ne_of_gt (blk_lt (g := gb304) (o := .cells #[.func (.func 46) #[] #[], .func (.func 47) #[] #[], .func (.func 48) #[] #[], .func (.func 49) #[] #[], .func (.func 50) #[] #[]] 84 (0, 0)) (by (with_reducible repeat (first | refine blk_drewN ?_ _ | refine blk_drew ?_ | refine blk_alloc ?_ _)); exact BK304.out)) : gb315 ≠ gb304)); clear HO313; clear BK303; clear BK304; clear HB; have HO313 := n0_; have BK303 := n1_; have BK304 := n2_; have HB := n3_; have BK315 := n4_; have GW315 := n5_; have GE315 := n6_; have NB303_315 := n7_; have NB315_303 := n8_; have NB304_315 := n9_; have NB315_304 := n10_; clear n0_ n1_ n2_ n3_ n4_ n5_ n6_ n7_ n8_ n9_ n10_; clear hb hbox hg; have hnb49 := NB315_303.out; have hnc49 := NB303_315.out; have hnb50 := NB315_304.out; have hnc50 := NB304_315.out; have hcz51_0 : w48.cell? ⟨gb315, 0, none⟩ = some (.int .i64 0) := (blk_cell BK315.out 0).trans rfl; have hcz51_1 : w48.cell? ⟨gb315, 1, none⟩ = some (.int .i64 0) := (blk_cell BK315.out 1).trans rfl; have hcz51_2 : w48.cell? ⟨gb315, 2, none⟩ = some (.int .i64 0) := (blk_cell BK315.out 2).trans rfl; have hcz51_3 : w48.cell? ⟨gb315, 3, none⟩ = some (.slice none 0 0) := (blk_cell BK315.out 3).trans rfl; have hfz51_0 := blk_frozen BK315.out 0; have hfz51_1 := blk_frozen BK315.out 1; have hfz51_2 := blk_frozen BK315.out 2; have hfz51_3 := blk_frozen BK315.out 3; obtain ⟨Ao52, co52, eo52⟩ := Kd.N_slice HO313.out; subst eo52; have hcz53_0 : w48.cell? ⟨gb303, 0, none⟩ = some (.int .i64 x304000_2) := (blk_cell BK303.out 0).trans rfl; have hcz53_1 : w48.cell? ⟨gb303, 1, none⟩ = some (.int .i64 x304001_2) := (blk_cell BK303.out 1).trans rfl; have hcz53_2 : w48.cell? ⟨gb303, 2, none⟩ = some (.int .i64 x304002_2) := (blk_cell BK303.out 2).trans rfl; have hcz53_3 : w48.cell? ⟨gb303, 3, none⟩ = some (.slice none 0 0) := (blk_cell BK303.out 3).trans rfl; have hfz53_0 := blk_frozen BK303.out 0; have hfz53_1 := blk_frozen BK303.out 1; have hfz53_2 := blk_frozen BK303.out 2; have hfz53_3 := blk_frozen BK303.out 3))
                refine bodyPost_ret (results_ct rfl _ _ gb303 31 #[.int .i64 0, .int .i64 0, .int .i64 0, .slice none 0 0] (0, 0) _ rfl (by (with_reducible repeat (first | refine blk_drewN ?_ _ | refine blk_drew ?_ | refine blk_alloc ?_ _)); refine blk_put (cs := #[.int .i64 0, .int .i64 0, .int .i64 0, .slice none 0 0]) ?_ 3 _ rfl; (with_reducible repeat (first | refine blk_drewN ?_ _ | refine blk_drew ?_ | refine blk_alloc ?_ _)); refine blk_put (cs := #[.int .i64 0, .int .i64 0, .int .i64 x304002_2, .slice none 0 0]) ?_ 2 _ rfl; (with_reducible repeat (first | refine blk_drewN ?_ _ | refine blk_drew ?_ | refine blk_alloc ?_ _)); refine blk_put (cs := #[.int .i64 0, .int .i64 x304001_2, .int .i64 x304002_2, .slice none 0 0]) ?_ 1 _ rfl; (with_reducible repeat (first | refine blk_drewN ?_ _ | refine blk_drew ?_ | refine blk_alloc ?_ _)); refine blk_put (cs := #[.int .i64 x304000_2, .int .i64 x304001_2, .int .i64 x304002_2, .slice none 0 0]) ?_ 0 _ rfl; (with_reducible repeat (first | refine blk_drewN ?_ _ | refine blk_drew ?_ | refine blk_alloc ?_ _)); refine blk_far ?_ NB303_315.out _; (with_reducible repeat (first | refine blk_drewN ?_ _ | refine blk_drew ?_ | refine blk_alloc ?_ _)); refine blk_far ?_ NB303_315.out _; (with_reducible repeat (first | refine blk_drewN ?_ _ | refine blk_drew ?_ | refine blk_alloc ?_ _)); refine blk_far ?_ NB303_315.out _; (with_reducible repeat (first | refine blk_drewN ?_ _ | refine blk_drew ?_ | refine blk_alloc ?_ _)); refine blk_far ?_ NB303_315.out _; (with_reducible repeat (first | refine blk_drewN ?_ _ | refine blk_drew ?_ | refine blk_alloc ?_ _)); exact BK303.out) Try.underlying31 rfl (by kernel_rfl)) rfl ?_
                exact ⟨_, by first | rfl | (simp [errW_none, errW_some] <;> rfl) | (simp [*, errW_none, errW_some] <;> rfl), by first | exact Kd.R_nil _ _ _ _ _ | exact Kd.N_nil _ _ _ _ _ | exact Kd.V_nil _ _ _ _ _ | exact Kd.Q_nil _ _ _ _ _ | exact Kd.S_nil _ _ _ _ _, by repeat (first | (with_reducible first | exact HB.out | apply below_alloc | apply pw_below_drewN | apply below_drew1 | refine below_set ?_ GE303.out | refine below_set ?_ GE304.out | refine below_set ?_ GE315.out) | exact HB.out)⟩
end Go.Proofs.Ytplngfammfdemaa.Q
