-- Copies of the texts YtplngfammfdemaaQx2, YtplngfammfdemaaQx3 with what this claim does not reach left out (prune.py, a program of this project).
import Derived.Test.YtplngfammfdemaaZyGCont
import Derived.Test.YtplngfammfdemaaZyGShort
section
namespace Go.Proofs.Ytplngfammfdemaa.Q
open Go.RowKit Go.Proofs.Ytplngfammfdemaa Go.Proofs.YtplngfammfdemaaW.PrintWords Go.Proofs.YtplngfammfdemaaW.PrintLast Go.Proofs.YtplngfammfdemaaW.PrintMore
attribute [local go_sem] max2_int min2_int max_two min_two max_three min_three max_four min_four   -- for this text's walks alone
set_option linter.unusedVariables false
set_option linter.unusedSimpArgs false
mutual
def tree_made.j0 : Nat → Int → Int → Int → Bool → Int → Int → Int → List (S31) → Option (Bool)
 | 0, _, _, _, _, _, _, _, _ => none
 | k + 1, x1, x2, x3, x44, x103000, x103001, x103002, x103003 => if x44 = true then (some false) else (tree_made.l0 k x1 x2 x3 (wrap64 ((x103003.length : Int) - 1)) x103003 (x103003.length : Int) 0 x103000 x103001 x103002 x103003)
def tree_made.l0 : Nat → Int → Int → Int → Int → List (S31) → Int → Int → Int → Int → Int → List (S31) → Option (Bool)
 | 0, _, _, _, _, _, _, _, _, _, _, _ => none
 | k + 1, x1, x2, x3, x9, x50, x51, x52, x103000, x103001, x103002, x103003 => if x52 < x51 then (if 0 ≤ x52 then (if x52 < (x50.length : Int) then ((tree_sized.f x103000 ((rd_T31 x50 x52).f0) ((rd_T31 x50 x52).f1) ((rd_T31 x50 x52).f2) ((rd_T31 x50 x52).f3) x1 x2).bind fun bt108 => (if ((rd_T31 x50 x52).f0) = x103000 then (some false) else ((tree_in.f ((rd_T31 x50 x52).f2) 1 80).bind fun t110 => (if t110 = true then ((tree_made.f k ((rd_T31 x50 x52).f0) ((rd_T31 x50 x52).f1) ((rd_T31 x50 x52).f2) ((rd_T31 x50 x52).f3) bt108.1 bt108.2 (wrap64 (x3 + 1))).bind fun t111 => (if t111 = true then (tree_made.l0 k x1 x2 x3 (wrap64 (x9 + ((rd_T31 x50 x52).f2))) x50 x51 (wrap64 (x52 + 1)) x103000 x103001 x103002 x103003) else (some false))) else (some false))))) else (none)) else (none)) else ((tree_along.f x103000 x1 x2).bind fun t105 => (some (x9 == t105)))
def tree_made.f : Nat → Int → Int → Int → List (S31) → Int → Int → Int → Option (Bool)
 | 0, _, _, _, _, _, _, _ => none
 | k + 1, a0_0, a0_1, a0_2, l0_3, a1, a2, a3 => if a0_0 = 0 then (if (l0_3.length : Int) = 0 then ((tree_in.f a0_1 1 999).bind fun t103 => (some t103)) else (some false)) else ((tree_in.f a0_0 1 2).bind fun t104 => (if t104 = true then (if a0_1 = 0 then (if (l0_3.length : Int) < 2 then (tree_made.j0 k a1 a2 a3 true a0_0 a0_1 a0_2 l0_3) else (tree_made.j0 k a1 a2 a3 (decide (a3 > 8)) a0_0 a0_1 a0_2 l0_3)) else (tree_made.j0 k a1 a2 a3 true a0_0 a0_1 a0_2 l0_3)) else (tree_made.j0 k a1 a2 a3 true a0_0 a0_1 a0_2 l0_3)))
end
theorem tree_made.mono_l : ∀ k, (∀ y0 y1 y2 y3 y4 y5 y6, LeO (tree_made.f k y0 y1 y2 y3 y4 y5 y6) (tree_made.f (k + 1) y0 y1 y2 y3 y4 y5 y6)) ∧ (∀ y0 y1 y2 y3 y4 y5 y6 y7, LeO (tree_made.j0 k y0 y1 y2 y3 y4 y5 y6 y7) (tree_made.j0 (k + 1) y0 y1 y2 y3 y4 y5 y6 y7)) ∧ (∀ y0 y1 y2 y3 y4 y5 y6 y7 y8 y9 y10, LeO (tree_made.l0 k y0 y1 y2 y3 y4 y5 y6 y7 y8 y9 y10) (tree_made.l0 (k + 1) y0 y1 y2 y3 y4 y5 y6 y7 y8 y9 y10))
 | 0 => ⟨fun _ _ _ _ _ _ _ r h => by simp [tree_made.f] at h, fun _ _ _ _ _ _ _ _ r h => by simp [tree_made.j0] at h, fun _ _ _ _ _ _ _ _ _ _ _ r h => by simp [tree_made.l0] at h⟩
 | k + 1 => by
  obtain ⟨ih0, ih1, ih2⟩ := tree_made.mono_l k
  refine ⟨?_, ?_, ?_⟩
  ·intro y0 y1 y2 y3 y4 y5 y6
   unfold tree_made.f
   repeat' first
   | (with_reducible exact ih0 _ _ _ _ _ _ _)
   | (with_reducible exact ih1 _ _ _ _ _ _ _ _)
   | (with_reducible exact ih2 _ _ _ _ _ _ _ _ _ _ _)
   | (with_reducible exact LeO.refl _)
   | (with_reducible exact LeO.none _)
   | (with_reducible refine LeO.ite ?_ ?_)
   | (with_reducible refine LeO.bind ?_ (fun _ => ?_))
   | exact ih0 _ _ _ _ _ _ _
   | exact ih1 _ _ _ _ _ _ _ _
   | exact ih2 _ _ _ _ _ _ _ _ _ _ _
   | exact LeO.none _
   | refine LeO.ite ?_ ?_
   | refine LeO.bind ?_ (fun _ => ?_)
  ·intro y0 y1 y2 y3 y4 y5 y6 y7
   unfold tree_made.j0
   repeat' first
   | (with_reducible exact ih0 _ _ _ _ _ _ _)
   | (with_reducible exact ih1 _ _ _ _ _ _ _ _)
   | (with_reducible exact ih2 _ _ _ _ _ _ _ _ _ _ _)
   | (with_reducible exact LeO.refl _)
   | (with_reducible exact LeO.none _)
   | (with_reducible refine LeO.ite ?_ ?_)
   | (with_reducible refine LeO.bind ?_ (fun _ => ?_))
   | exact ih0 _ _ _ _ _ _ _
   | exact ih1 _ _ _ _ _ _ _ _
   | exact ih2 _ _ _ _ _ _ _ _ _ _ _
   | exact LeO.none _
   | refine LeO.ite ?_ ?_
   | refine LeO.bind ?_ (fun _ => ?_)
  ·intro y0 y1 y2 y3 y4 y5 y6 y7 y8 y9 y10
   unfold tree_made.l0
   repeat' first
   | (with_reducible exact ih0 _ _ _ _ _ _ _)
   | (with_reducible exact ih1 _ _ _ _ _ _ _ _)
   | (with_reducible exact ih2 _ _ _ _ _ _ _ _ _ _ _)
   | (with_reducible exact LeO.refl _)
   | (with_reducible exact LeO.none _)
   | (with_reducible refine LeO.ite ?_ ?_)
   | (with_reducible refine LeO.bind ?_ (fun _ => ?_))
   | exact ih0 _ _ _ _ _ _ _
   | exact ih1 _ _ _ _ _ _ _ _
   | exact ih2 _ _ _ _ _ _ _ _ _ _ _
   | exact LeO.none _
   | refine LeO.ite ?_ ?_
   | refine LeO.bind ?_ (fun _ => ?_)
theorem tree_made.mono : ∀ a0 a1 a2 a3 a4 a5 a6 k, LeO (tree_made.f k a0 a1 a2 a3 a4 a5 a6) (tree_made.f (k + 1) a0 a1 a2 a3 a4 a5 a6) := by
 intro a0 a1 a2 a3 a4 a5 a6 k
 obtain ⟨ih0, ih1, ih2⟩ := tree_made.mono_l k
 exact ih0 a0 a1 a2 a3 a4 a5 a6
set_option maxHeartbeats 8000000 in
set_option maxRecDepth 100000 in
theorem tree_made.calls (k : Nat) : ∀ (a0_0 : Int) (a0_1 : Int) (a0_2 : Int) (A0_3 : Option Addr) (c0_3 : Nat) (l0_3 : List (S31)) (a1 : Int) (a2 : Int) (a3 : Int) (r : Bool) (w : World) (hr0_3 : Kd.C k31 w A0_3 l0_3.length l0_3) (hc0_3 : l0_3.length ≤ c0_3) (h : tree_made.f k a0_0 a0_1 a0_2 l0_3 a1 a2 a3 = some r),
 Calls Try.prog 59 #[.agg #[.int .i64 a0_0, .int .i64 a0_1, .int .i64 a0_2, .slice A0_3 l0_3.length c0_3], .int .i64 a1, .int .i64 a2, .int .i64 a3] w fun e w' => e = .returned (.bool r) ∧ Below w.heap.size w w' := by
 induction k using Nat.strongRecOn with
 | _ k ih =>
 intro a0_0 a0_1 a0_2 A0_3 c0_3 l0_3 a1 a2 a3 r w hr0_3 hc0_3 h
 cases k with
 | zero => exact absurd h (by simp [tree_made.f])
 | succ k =>
 simp only [tree_made.f] at h
 have hu31 := Try.underlying31
 have HR0_3 := zM hr0_3
 have HC0_3 := zM hc0_3
 clear hr0_3 hc0_3
 have HB := zM (Below.refl w.heap.size w)
 have H : (if a0_0 = 0 then (if (l0_3.length : Int) = 0 then ((tree_in.f a0_1 1 999).bind fun t103 => (some t103)) else (some false)) else ((tree_in.f a0_0 1 2).bind fun t104 => (if t104 = true then (if a0_1 = 0 then (if (l0_3.length : Int) < 2 then (tree_made.j0 k a1 a2 a3 true a0_0 a0_1 a0_2 l0_3) else (tree_made.j0 k a1 a2 a3 (decide (a3 > 8)) a0_0 a0_1 a0_2 l0_3)) else (tree_made.j0 k a1 a2 a3 true a0_0 a0_1 a0_2 l0_3)) else (tree_made.j0 k a1 a2 a3 true a0_0 a0_1 a0_2 l0_3)))) = some r := h
 clear h
 by_cases c5 : a0_0 = 0
 ·rw [if_pos c5] at H
  have c5b0 : (a0_0 == 0) = true := beq_iff_eq.mpr c5
  have c5b1 : (a0_0 != 0) = false := bne_eq_false_iff_eq.mpr c5
  clear c5
  by_cases c6 : (l0_3.length : Int) = 0
  ·rw [if_pos c6] at H
   have c6b0 : ((l0_3.length : Int) == 0) = true := beq_iff_eq.mpr c6
   have c6b1 : ((l0_3.length : Int) != 0) = false := bne_eq_false_iff_eq.mpr c6
   clear c6
   replace H := Option.bind_eq_some_iff.mp H
   obtain ⟨t103, A70, H⟩ := H
   replace H : (some t103) = some r := H
   have A7 := zM A70
   clear A70
   obtain rfl := Option.some.inj H
   go_enter Try.func59, Try.ntmps59
   go_wp2_with (first | ((with_reducible refine gate_dst (N := 4) rfl ?_); (try (refine gate_guard (by rfl) ?_; dsimp only)); refine box_event ?hg (N := 4) ?hd (cs := #[.int .i64 a0_0, .int .i64 a0_1, .int .i64 a0_2, .slice A0_3 l0_3.length c0_3]) (t := 31) ?hr ?_; (case hd => rfl); (case hg => rfl); (case hr => first | (go_simp; done) | (go_simp; rfl)); intro gb102 hg w8 hbox hb; have BK102 := zM (hbox); have GW102 := zM ((by rw [hg]; exact (below_size (by first | exact HB.out | exact zN HB.out _ | exact zD HB.out)) : w.heap.size ≤ gb102)); have GE102 := GW102; replace HB := zM (below_step (by first | exact HB.out | exact zN HB.out _ | exact zD HB.out) hb); clear hb hbox hg; obtain ⟨hcz9_0, hcz9_1, hcz9_2, hcz9_3, hfz9_0, hfz9_1, hfz9_2, hfz9_3⟩ := cz4 BK102.out) | (go_at_call 82; (with_reducible refine (tree_in.calls a0_1 1 999 t103 _ A7.out).mono ?_); rintro e w' ⟨rfl, ⟨nd, rfl⟩⟩))
   go_ret
   exact ⟨by first | rfl | (simp [errW_none, errW_some] <;> rfl) | (simp [*, errW_none, errW_some] <;> rfl), by repeat first | refine zS ?_ GE102.out | exact HB.out | apply zA | apply zN | apply zD⟩
  ·rw [if_neg c6] at H
   have c6b0 : ((l0_3.length : Int) == 0) = false := beq_eq_false_iff_ne.mpr c6
   have c6b1 : ((l0_3.length : Int) != 0) = true := bne_iff_ne.mpr c6
   have c6b2 : ¬ (l0_3 = []) := fun h_ => c6 (by rw [h_]; rfl)
   obtain rfl := Option.some.inj H
   go_enter Try.func59, Try.ntmps59
   go_wp2_with (first | ((with_reducible refine gate_dst (N := 4) rfl ?_); (try (refine gate_guard (by rfl) ?_; dsimp only)); refine box_event ?hg (N := 4) ?hd (cs := #[.int .i64 a0_0, .int .i64 a0_1, .int .i64 a0_2, .slice A0_3 l0_3.length c0_3]) (t := 31) ?hr ?_; (case hd => rfl); (case hg => rfl); (case hr => first | (go_simp; done) | (go_simp; rfl)); intro gb102 hg w10 hbox hb; have BK102 := zM (hbox); have GW102 := zM ((by rw [hg]; exact (below_size (by first | exact HB.out | exact zN HB.out _ | exact zD HB.out)) : w.heap.size ≤ gb102)); have GE102 := GW102; replace HB := zM (below_step (by first | exact HB.out | exact zN HB.out _ | exact zD HB.out) hb); clear hb hbox hg; obtain ⟨hcz11_0, hcz11_1, hcz11_2, hcz11_3, hfz11_0, hfz11_1, hfz11_2, hfz11_3⟩ := cz4 BK102.out))
   go_ret
   exact ⟨by first | rfl | (simp [errW_none, errW_some] <;> rfl) | (simp [*, errW_none, errW_some] <;> rfl), by repeat first | refine zS ?_ GE102.out | exact HB.out | apply zA | apply zN | apply zD⟩
 ·rw [if_neg c5] at H
  have c5b0 : (a0_0 == 0) = false := beq_eq_false_iff_ne.mpr c5
  have c5b1 : (a0_0 != 0) = true := bne_iff_ne.mpr c5
  have HC12 := zM H
  clear H
  go_enter Try.func59, Try.ntmps59
  go_upto_region 3 with (first | ((with_reducible refine gate_dst (N := 4) rfl ?_); (try (refine gate_guard (by rfl) ?_; dsimp only)); refine box_event ?hg (N := 4) ?hd (cs := #[.int .i64 a0_0, .int .i64 a0_1, .int .i64 a0_2, .slice A0_3 l0_3.length c0_3]) (t := 31) ?hr ?_; (case hd => rfl); (case hg => rfl); (case hr => first | (go_simp; done) | (go_simp; rfl)); intro gb102 hg w13 hbox hb; have BK102 := zM (hbox); have GW102 := zM ((by rw [hg]; exact (below_size (by first | exact HB.out | exact zN HB.out _ | exact zD HB.out)) : w.heap.size ≤ gb102)); have GE102 := GW102; replace HB := zM (below_step (by first | exact HB.out | exact zN HB.out _ | exact zD HB.out) hb); clear hb hbox hg; obtain ⟨hcz14_0, hcz14_1, hcz14_2, hcz14_3, hfz14_0, hfz14_1, hfz14_2, hfz14_3⟩ := cz4 BK102.out))
  (try simp only [Act.put, List.setIfInBounds_toArray, List.set_cons_zero, List.set_cons_succ])
  go_cut [44] (fun v44 wc => ∃ (kq : Nat) (x44_11 : Bool), v44 = .bool x44_11 ∧ Aside0 (tree_made.j0 kq a1 a2 a3 x44_11 a0_0 a0_1 a0_2 l0_3 = some r) ∧ Aside0 (kq ≤ k) ∧ Aside0 (wc.heap[gb102]? = some (.cells #[.int .i64 a0_0, .int .i64 a0_1, .int .i64 a0_2, (.slice A0_3 l0_3.length c0_3)] 31 (0, 0))) ∧ Aside0 (Below w.heap.size w wc))
  case first =>
   have H := HC12.out
   clear HC12
   replace H := Option.bind_eq_some_iff.mp H
   obtain ⟨t104, A150, H⟩ := H
   replace H : (if t104 = true then (if a0_1 = 0 then (if (l0_3.length : Int) < 2 then (tree_made.j0 k a1 a2 a3 true a0_0 a0_1 a0_2 l0_3) else (tree_made.j0 k a1 a2 a3 (decide (a3 > 8)) a0_0 a0_1 a0_2 l0_3)) else (tree_made.j0 k a1 a2 a3 true a0_0 a0_1 a0_2 l0_3)) else (tree_made.j0 k a1 a2 a3 true a0_0 a0_1 a0_2 l0_3)) = some r := H
   have A15 := zM A150
   clear A150
   by_cases c16 : t104 = true
   ·subst c16
    have H1 : (if a0_1 = 0 then (if (l0_3.length : Int) < 2 then (tree_made.j0 k a1 a2 a3 true a0_0 a0_1 a0_2 l0_3) else (tree_made.j0 k a1 a2 a3 (decide (a3 > 8)) a0_0 a0_1 a0_2 l0_3)) else (tree_made.j0 k a1 a2 a3 true a0_0 a0_1 a0_2 l0_3)) = some r := by rw [if_pos rfl] at H; exact H
    clear H
    have H := H1
    clear H1
    by_cases c17 : a0_1 = 0
    ·rw [if_pos c17] at H
     have c17b0 : (a0_1 == 0) = true := beq_iff_eq.mpr c17
     have c17b1 : (a0_1 != 0) = false := bne_eq_false_iff_eq.mpr c17
     clear c17
     (first | rw [c17b0] | (simp only [i64_w, i32_w]; rw [c17b0]) | skip)
     by_cases c18 : (l0_3.length : Int) < 2
     ·rw [if_pos c18] at H
      have c18b0 : decide ((l0_3.length : Int) < 2) = true := decide_eq_true c18
      have c18b1 : decide (l0_3.length < 2) = true := decide_eq_true (by omega)
      clear c18
      have H' := zM H
      clear H
      have hcz19_0 : w13.cell? ⟨gb102, 0, none⟩ = some (.int .i64 a0_0) := (blk_cell BK102.out 0).trans rfl
      have hcz19_1 : w13.cell? ⟨gb102, 1, none⟩ = some (.int .i64 a0_1) := (blk_cell BK102.out 1).trans rfl
      have hcz19_2 : w13.cell? ⟨gb102, 2, none⟩ = some (.int .i64 a0_2) := (blk_cell BK102.out 2).trans rfl
      have hcz19_3 : w13.cell? ⟨gb102, 3, none⟩ = some (.slice A0_3 l0_3.length c0_3) := (blk_cell BK102.out 3).trans rfl
      have hfz19_0 := blk_frozen BK102.out 0
      have hfz19_1 := blk_frozen BK102.out 1
      have hfz19_2 := blk_frozen BK102.out 2
      have hfz19_3 := blk_frozen BK102.out 3
      go_wp2_with (first | ((with_reducible refine gate_callee (f := 82) rfl ?_); refine ga (some 28) rfl rfl Try.func82 (by kernel_rfl) rfl #[.int .i64 a0_0, .int .i64 1, .int .i64 2] rfl ?_; (with_reducible refine (tree_in.calls a0_0 1 2 true _ A15.out).mono ?_); rintro e w' ⟨rfl, ⟨nd, rfl⟩⟩; refine ⟨_, rfl, ?_⟩))
      go_meet
      case rel => exact ⟨_, (true), (by first | rfl | (simp; done) | (simp [*]; done)), H', ⟨by first | omega | exact Nat.le_refl _⟩, ⟨by (with_reducible repeat (first | refine blk_drewN ?_ _ | refine blk_drew ?_ | refine blk_alloc ?_ _)); exact BK102.out⟩, ⟨by repeat first | refine zS ?_ GE102.out | exact HB.out | apply zA | apply zN | apply zD⟩⟩
     ·rw [if_neg c18] at H
      have c18b0 : decide ((l0_3.length : Int) < 2) = false := decide_eq_false c18
      have c18b1 : decide (l0_3.length < 2) = false := decide_eq_false (by omega)
      clear c18
      have H' := zM H
      clear H
      have hcz20_0 : w13.cell? ⟨gb102, 0, none⟩ = some (.int .i64 a0_0) := (blk_cell BK102.out 0).trans rfl
      have hcz20_1 : w13.cell? ⟨gb102, 1, none⟩ = some (.int .i64 a0_1) := (blk_cell BK102.out 1).trans rfl
      have hcz20_2 : w13.cell? ⟨gb102, 2, none⟩ = some (.int .i64 a0_2) := (blk_cell BK102.out 2).trans rfl
      have hcz20_3 : w13.cell? ⟨gb102, 3, none⟩ = some (.slice A0_3 l0_3.length c0_3) := (blk_cell BK102.out 3).trans rfl
      have hfz20_0 := blk_frozen BK102.out 0
      have hfz20_1 := blk_frozen BK102.out 1
      have hfz20_2 := blk_frozen BK102.out 2
      have hfz20_3 := blk_frozen BK102.out 3
      go_wp2_with (first | ((with_reducible refine gate_callee (f := 82) rfl ?_); refine ga (some 28) rfl rfl Try.func82 (by kernel_rfl) rfl #[.int .i64 a0_0, .int .i64 1, .int .i64 2] rfl ?_; (with_reducible refine (tree_in.calls a0_0 1 2 true _ A15.out).mono ?_); rintro e w' ⟨rfl, ⟨nd, rfl⟩⟩; refine ⟨_, rfl, ?_⟩))
      go_meet
      case rel => exact ⟨_, (decide (a3 > 8)), (by first | rfl | (simp; done) | (simp [*]; done)), H', ⟨by first | omega | exact Nat.le_refl _⟩, ⟨by (with_reducible repeat (first | refine blk_drewN ?_ _ | refine blk_drew ?_ | refine blk_alloc ?_ _)); exact BK102.out⟩, ⟨by repeat first | refine zS ?_ GE102.out | exact HB.out | apply zA | apply zN | apply zD⟩⟩
    ·rw [if_neg c17] at H
     have c17b0 : (a0_1 == 0) = false := beq_eq_false_iff_ne.mpr c17
     have c17b1 : (a0_1 != 0) = true := bne_iff_ne.mpr c17
     (first | rw [c17b0] | (simp only [i64_w, i32_w]; rw [c17b0]) | skip)
     have H' := zM H
     clear H
     have hcz21_0 : w13.cell? ⟨gb102, 0, none⟩ = some (.int .i64 a0_0) := (blk_cell BK102.out 0).trans rfl
     have hcz21_1 : w13.cell? ⟨gb102, 1, none⟩ = some (.int .i64 a0_1) := (blk_cell BK102.out 1).trans rfl
     have hcz21_2 : w13.cell? ⟨gb102, 2, none⟩ = some (.int .i64 a0_2) := (blk_cell BK102.out 2).trans rfl
     have hcz21_3 : w13.cell? ⟨gb102, 3, none⟩ = some (.slice A0_3 l0_3.length c0_3) := (blk_cell BK102.out 3).trans rfl
     have hfz21_0 := blk_frozen BK102.out 0
     have hfz21_1 := blk_frozen BK102.out 1
     have hfz21_2 := blk_frozen BK102.out 2
     have hfz21_3 := blk_frozen BK102.out 3
     go_wp2_with (first | ((with_reducible refine gate_callee (f := 82) rfl ?_); refine ga (some 28) rfl rfl Try.func82 (by kernel_rfl) rfl #[.int .i64 a0_0, .int .i64 1, .int .i64 2] rfl ?_; (with_reducible refine (tree_in.calls a0_0 1 2 true _ A15.out).mono ?_); rintro e w' ⟨rfl, ⟨nd, rfl⟩⟩; refine ⟨_, rfl, ?_⟩))
     go_meet
     case rel => exact ⟨_, (true), (by first | rfl | (simp; done) | (simp [*]; done)), H', ⟨by first | omega | exact Nat.le_refl _⟩, ⟨by (with_reducible repeat (first | refine blk_drewN ?_ _ | refine blk_drew ?_ | refine blk_alloc ?_ _)); exact BK102.out⟩, ⟨by repeat first | refine zS ?_ GE102.out | exact HB.out | apply zA | apply zN | apply zD⟩⟩
   ·replace c16 := Bool.eq_false_iff.mpr c16
    subst c16
    have H1 : (tree_made.j0 k a1 a2 a3 true a0_0 a0_1 a0_2 l0_3) = some r := by rw [if_neg (show ¬ (false = true) by decide)] at H; exact H
    clear H
    have H := H1
    clear H1
    have H' := zM H
    clear H
    have hcz22_0 : w13.cell? ⟨gb102, 0, none⟩ = some (.int .i64 a0_0) := (blk_cell BK102.out 0).trans rfl
    have hcz22_1 : w13.cell? ⟨gb102, 1, none⟩ = some (.int .i64 a0_1) := (blk_cell BK102.out 1).trans rfl
    have hcz22_2 : w13.cell? ⟨gb102, 2, none⟩ = some (.int .i64 a0_2) := (blk_cell BK102.out 2).trans rfl
    have hcz22_3 : w13.cell? ⟨gb102, 3, none⟩ = some (.slice A0_3 l0_3.length c0_3) := (blk_cell BK102.out 3).trans rfl
    have hfz22_0 := blk_frozen BK102.out 0
    have hfz22_1 := blk_frozen BK102.out 1
    have hfz22_2 := blk_frozen BK102.out 2
    have hfz22_3 := blk_frozen BK102.out 3
    go_wp2_with (first | ((with_reducible refine gate_callee (f := 82) rfl ?_); refine ga (some 28) rfl rfl Try.func82 (by kernel_rfl) rfl #[.int .i64 a0_0, .int .i64 1, .int .i64 2] rfl ?_; (with_reducible refine (tree_in.calls a0_0 1 2 false _ A15.out).mono ?_); rintro e w' ⟨rfl, ⟨nd, rfl⟩⟩; refine ⟨_, rfl, ?_⟩))
    go_meet
    case rel => exact ⟨_, (true), (by first | rfl | (simp; done) | (simp [*]; done)), H', ⟨by first | omega | exact Nat.le_refl _⟩, ⟨by (with_reducible repeat (first | refine blk_drewN ?_ _ | refine blk_drew ?_ | refine blk_alloc ?_ _)); exact BK102.out⟩, ⟨by repeat first | refine zS ?_ GE102.out | exact HB.out | apply zA | apply zN | apply zD⟩⟩
  case rest =>
   clear HC12
   (try clear c1); (try clear p2); (try clear c5); (try clear c5b0); (try clear c5b1); (try clear c6); (try clear c6b0); (try clear c6b1); (try clear c6b2); (try clear c8); (try clear c16); (try clear c17); (try clear c17b0); (try clear c17b1); (try clear c18); (try clear c18b0); (try clear c18b1); (try clear hcz11_0); (try clear hcz11_1); (try clear hcz11_2); (try clear hcz11_3); (try clear hcz14_0); (try clear hcz14_1); (try clear hcz14_2); (try clear hcz14_3); (try clear hcz19_0); (try clear hcz19_1); (try clear hcz19_2); (try clear hcz19_3); (try clear hcz20_0); (try clear hcz20_1); (try clear hcz20_2); (try clear hcz20_3); (try clear hcz21_0); (try clear hcz21_1); (try clear hcz21_2); (try clear hcz21_3); (try clear hcz22_0); (try clear hcz22_1); (try clear hcz22_2); (try clear hcz22_3); (try clear hcz9_0); (try clear hcz9_1); (try clear hcz9_2); (try clear hcz9_3); (try clear hfz11_0); (try clear hfz11_1); (try clear hfz11_2); (try clear hfz11_3); (try clear hfz14_0); (try clear hfz14_1); (try clear hfz14_2); (try clear hfz14_3); (try clear hfz19_0); (try clear hfz19_1); (try clear hfz19_2); (try clear hfz19_3); (try clear hfz20_0); (try clear hfz20_1); (try clear hfz20_2); (try clear hfz20_3); (try clear hfz21_0); (try clear hfz21_1); (try clear hfz21_2); (try clear hfz21_3); (try clear hfz22_0); (try clear hfz22_1); (try clear hfz22_2); (try clear hfz22_3); (try clear hfz9_0); (try clear hfz9_1); (try clear hfz9_2); (try clear hfz9_3)
   obtain ⟨kq, x44_11, rfl, HA, HJ11, BK102, HB⟩ := hcut
   cases kq with
   | zero => exact absurd HA.out (by simp [tree_made.j0])
   | succ kj11 =>
    have H := HA.out
    clear HA
    simp only [tree_made.j0] at H
    by_cases c23 : x44_11 = true
    ·subst c23
     have H1 : (some false) = some r := by rw [if_pos rfl] at H; exact H
     clear H
     have H := H1
     clear H1
     obtain rfl := Option.some.inj H
     go_wp2
     go_ret
     exact ⟨by first | rfl | (simp [errW_none, errW_some] <;> rfl) | (simp [*, errW_none, errW_some] <;> rfl), by repeat first | refine zS ?_ GE102.out | exact HB.out | apply zA | apply zN | apply zD⟩
    ·replace c23 := Bool.eq_false_iff.mpr c23
     subst c23
     have H1 : (tree_made.l0 kj11 a1 a2 a3 (wrap64 ((l0_3.length : Int) - 1)) l0_3 (l0_3.length : Int) 0 a0_0 a0_1 a0_2 l0_3) = some r := by rw [if_neg (show ¬ (false = true) by decide)] at H; exact H
     clear H
     have H := H1
     clear H1
     have H' := zM H
     clear H
     have hcz24_0 : wc.cell? ⟨gb102, 0, none⟩ = some (.int .i64 a0_0) := (blk_cell BK102.out 0).trans rfl
     have hcz24_1 : wc.cell? ⟨gb102, 1, none⟩ = some (.int .i64 a0_1) := (blk_cell BK102.out 1).trans rfl
     have hcz24_2 : wc.cell? ⟨gb102, 2, none⟩ = some (.int .i64 a0_2) := (blk_cell BK102.out 2).trans rfl
     have hcz24_3 : wc.cell? ⟨gb102, 3, none⟩ = some (.slice A0_3 l0_3.length c0_3) := (blk_cell BK102.out 3).trans rfl
     have hfz24_0 := blk_frozen BK102.out 0
     have hfz24_1 := blk_frozen BK102.out 1
     have hfz24_2 := blk_frozen BK102.out 2
     have hfz24_3 := blk_frozen BK102.out 3
     go_wp2
     go_loopg [9, 52] kj11 (fun kq v9 v52 w' => ∃ (x9_2 : Int) (x52_2 : Int), v9 = .int .i64 x9_2 ∧ v52 = .int .i64 x52_2 ∧ Aside0 (tree_made.l0 kq a1 a2 a3 x9_2 l0_3 (l0_3.length : Int) x52_2 a0_0 a0_1 a0_2 l0_3 = some r) ∧ Aside0 (kq ≤ kj11) ∧ Aside0 (w'.heap[gb102]? = some (.cells #[.int .i64 a0_0, .int .i64 a0_1, .int .i64 a0_2, (.slice A0_3 l0_3.length c0_3)] 31 (0, 0))) ∧ Aside0 (Below w.heap.size w w'))
     case atStart => exact ⟨(wrap64 ((l0_3.length : Int) - 1)), (0), (by first | rfl | (simp; done) | (simp [*]; done)), (by first | rfl | (simp; done) | (simp [*]; done)), H', ⟨Nat.le_refl _⟩, ⟨by (with_reducible repeat (first | refine blk_drewN ?_ _ | refine blk_drew ?_ | refine blk_alloc ?_ _)); exact BK102.out⟩, ⟨by repeat first | refine zS ?_ GE102.out | exact HB.out | apply zA | apply zN | apply zD⟩⟩
     case round =>
      clear H'
      (try clear c1); (try clear c2); (try clear p2); (try clear c5); (try clear c5b0); (try clear c5b1); (try clear c6); (try clear c6b0); (try clear c6b1); (try clear c6b2); (try clear p6); (try clear c8); (try clear c16); (try clear c17); (try clear c17b0); (try clear c17b1); (try clear c18); (try clear c18b0); (try clear c18b1); (try clear c23); (try clear hcz11_0); (try clear hcz11_1); (try clear hcz11_2); (try clear hcz11_3); (try clear hcz14_0); (try clear hcz14_1); (try clear hcz14_2); (try clear hcz14_3); (try clear hcz19_0); (try clear hcz19_1); (try clear hcz19_2); (try clear hcz19_3); (try clear hcz20_0); (try clear hcz20_1); (try clear hcz20_2); (try clear hcz20_3); (try clear hcz21_0); (try clear hcz21_1); (try clear hcz21_2); (try clear hcz21_3); (try clear hcz22_0); (try clear hcz22_1); (try clear hcz22_2); (try clear hcz22_3); (try clear hcz24_0); (try clear hcz24_1); (try clear hcz24_2); (try clear hcz24_3); (try clear hcz9_0); (try clear hcz9_1); (try clear hcz9_2); (try clear hcz9_3); (try clear hfz11_0); (try clear hfz11_1); (try clear hfz11_2); (try clear hfz11_3); (try clear hfz14_0); (try clear hfz14_1); (try clear hfz14_2); (try clear hfz14_3); (try clear hfz19_0); (try clear hfz19_1); (try clear hfz19_2); (try clear hfz19_3); (try clear hfz20_0); (try clear hfz20_1); (try clear hfz20_2); (try clear hfz20_3); (try clear hfz21_0); (try clear hfz21_1); (try clear hfz21_2); (try clear hfz21_3); (try clear hfz22_0); (try clear hfz22_1); (try clear hfz22_2); (try clear hfz22_3); (try clear hfz24_0); (try clear hfz24_1); (try clear hfz24_2); (try clear hfz24_3); (try clear hfz9_0); (try clear hfz9_1); (try clear hfz9_2); (try clear hfz9_3); (try clear p2)
      obtain ⟨x9_2, x52_2, rfl, rfl, HA, HK2, BK102, HB⟩ := hrel
      cases gk with
      | zero => exact absurd HA.out (by simp [tree_made.l0])
      | succ k2 =>
       have H := HA.out
       clear HA
       simp only [tree_made.l0] at H
       by_cases c25 : x52_2 < (l0_3.length : Int)
       ·rw [if_pos c25] at H
        have c25b0 : decide (x52_2 < (l0_3.length : Int)) = true := decide_eq_true c25
        clear c25
        by_cases c26 : 0 ≤ x52_2
        ·rw [if_pos c26] at H
         have c26b0 : decide (0 ≤ x52_2) = true := decide_eq_true c26
         clear c26
         by_cases c27 : x52_2 < (l0_3.length : Int)
         ·rw [if_pos c27] at H
          have c27b0 : decide (x52_2 < (l0_3.length : Int)) = true := decide_eq_true c27
          clear c27
          replace H := Option.bind_eq_some_iff.mp H
          obtain ⟨⟨t108, t109⟩, A280, H⟩ := H
          replace H : (if ((rd_T31 l0_3 x52_2).f0) = a0_0 then (some false) else ((tree_in.f ((rd_T31 l0_3 x52_2).f2) 1 80).bind fun t110 => (if t110 = true then ((tree_made.f k2 ((rd_T31 l0_3 x52_2).f0) ((rd_T31 l0_3 x52_2).f1) ((rd_T31 l0_3 x52_2).f2) ((rd_T31 l0_3 x52_2).f3) t108 t109 (wrap64 (a3 + 1))).bind fun t111 => (if t111 = true then (tree_made.l0 k2 a1 a2 a3 (wrap64 (x9_2 + ((rd_T31 l0_3 x52_2).f2))) l0_3 (l0_3.length : Int) (wrap64 (x52_2 + 1)) a0_0 a0_1 a0_2 l0_3) else (some false))) else (some false)))) = some r := H
          have A28 := zM A280
          clear A280
          by_cases c29 : ((rd_T31 l0_3 x52_2).f0) = a0_0
          ·rw [if_pos c29] at H
           have c29b0 : (((rd_T31 l0_3 x52_2).f0) == a0_0) = true := beq_iff_eq.mpr c29
           have c29b1 : (((rd_T31 l0_3 x52_2).f0) != a0_0) = false := bne_eq_false_iff_eq.mpr c29
           clear c29
           obtain rfl := Option.some.inj H
           have p106 : 0 ≤ (x52_2 : Int) := of_decide_eq_true (by first | (with_reducible assumption) | assumption)
           have q106 : x52_2 < (l0_3.length : Int) := of_decide_eq_true (by first | (with_reducible assumption) | assumption)
           obtain ⟨ad106, A106_3, c106_3, e106, hx106_0, hx106_1, hx106_2, hx106_3, hl106_3, hi106_3⟩ := at_T31 HR0_3.out x52_2 p106 q106
           cases e106
           replace hx106_0 := (HB.out.cell (zL w _ hx106_0)).trans hx106_0
           replace hx106_1 := (HB.out.cell (zL w _ hx106_1)).trans hx106_1
           replace hx106_2 := (HB.out.cell (zL w _ hx106_2)).trans hx106_2
           replace hx106_3 := (HB.out.cell (zL w _ hx106_3)).trans hx106_3
           have HR106_3 := zM hi106_3
           have HC106_3 := zM hl106_3
           clear hi106_3 hl106_3
           replace p106 := eq_true p106
           replace q106 := eq_true q106
           go_wp2_with (first | ((with_reducible refine gate_dst (N := 11) rfl ?_); (try (refine gate_guard (by rfl) ?_; dsimp only)); refine box_event ?hg (N := 11) ?hd (cs := #[.int .i64 0, .int .i64 0, .int .i64 0, .slice none 0 0]) (t := 31) ?hr ?_; (case hd => rfl); (case hg => rfl); (case hr => first | (go_simp; done) | (go_simp; rfl)); intro gb107 hg w30 hbox hb; have BK107 := zM (hbox); have GW107 := zM ((by rw [hg]; exact (below_size (by repeat first | refine zS ?_ GE102.out | exact HB.out | apply zA | apply zN | apply zD)) : w.heap.size ≤ gb107)); have GE107 := GW107; have NB102_107 := zM ((by rw [hg]; exact lt1 BK102.out : gb102 ≠ gb107)); have NB107_102 := zM ((by rw [hg]; exact gt1 BK102.out : gb107 ≠ gb102)); replace BK102 := zM (bb hb BK102.out); replace HB := zM (below_step (by repeat first | refine zS ?_ GE102.out | exact HB.out | apply zA | apply zN | apply zD) hb); clear hb hbox hg; have hnb31 := NB107_102.out; have hnc31 := NB102_107.out; obtain ⟨hcz32_0, hcz32_1, hcz32_2, hcz32_3, hfz32_0, hfz32_1, hfz32_2, hfz32_3⟩ := cz4 BK107.out; obtain ⟨hcz33_0, hcz33_1, hcz33_2, hcz33_3, hfz33_0, hfz33_1, hfz33_2, hfz33_3⟩ := cz4 BK102.out) | ((with_reducible refine gate_callee (f := 96) rfl ?_); refine ga (some 62) rfl rfl Try.func96 (by kernel_rfl) rfl #[.int .i64 a0_0, .agg #[.int .i64 ((rd_T31 l0_3 x52_2).f0), .int .i64 ((rd_T31 l0_3 x52_2).f1), .int .i64 ((rd_T31 l0_3 x52_2).f2), .slice A106_3 ((rd_T31 l0_3 x52_2).f3).length c106_3], .int .i64 a1, .int .i64 a2] rfl ?_; (with_reducible refine (tree_sized.calls a0_0 ((rd_T31 l0_3 x52_2).f0) ((rd_T31 l0_3 x52_2).f1) ((rd_T31 l0_3 x52_2).f2) _ _ ((rd_T31 l0_3 x52_2).f3) a1 a2 t108 t109 _ ?side1 ?side2 A28.out).mono ?_); (case side1 => exact Kd.C_below HR106_3.out (by repeat first | refine zS ?_ GE102.out | refine zS ?_ GE107.out | exact HB.out | apply zA | apply zN | apply zD)); (case side2 => exact HC106_3.out); rintro e w34 ⟨rfl, hb⟩; refine ⟨_, rfl, ?_⟩; replace BK102 := zM (bb hb (far4 NB102_107.out BK102.out)); replace BK107 := zM (bb hb (put4 BK107.out)); replace HB := zM (below_step (by repeat first | refine zS ?_ GE102.out | refine zS ?_ GE107.out | exact HB.out | apply zA | apply zN | apply zD) hb); (try clear hb); (try clear hb2); (try clear hk); (try clear hi); obtain ⟨hcz35_0, hcz35_1, hcz35_2, hcz35_3, hfz35_0, hfz35_1, hfz35_2, hfz35_3⟩ := cz4 BK107.out; obtain ⟨hcz36_0, hcz36_1, hcz36_2, hcz36_3, hfz36_0, hfz36_1, hfz36_2, hfz36_3⟩ := cz4 BK102.out))
           go_ret
           exact ⟨by first | rfl | (simp [errW_none, errW_some] <;> rfl) | (simp [*, errW_none, errW_some] <;> rfl), by repeat first | refine zS ?_ GE102.out | refine zS ?_ GE107.out | exact HB.out | apply zA | apply zN | apply zD⟩
          ·rw [if_neg c29] at H
           have c29b0 : (((rd_T31 l0_3 x52_2).f0) == a0_0) = false := beq_eq_false_iff_ne.mpr c29
           have c29b1 : (((rd_T31 l0_3 x52_2).f0) != a0_0) = true := bne_iff_ne.mpr c29
           replace H := Option.bind_eq_some_iff.mp H
           obtain ⟨t110, A370, H⟩ := H
           replace H : (if t110 = true then ((tree_made.f k2 ((rd_T31 l0_3 x52_2).f0) ((rd_T31 l0_3 x52_2).f1) ((rd_T31 l0_3 x52_2).f2) ((rd_T31 l0_3 x52_2).f3) t108 t109 (wrap64 (a3 + 1))).bind fun t111 => (if t111 = true then (tree_made.l0 k2 a1 a2 a3 (wrap64 (x9_2 + ((rd_T31 l0_3 x52_2).f2))) l0_3 (l0_3.length : Int) (wrap64 (x52_2 + 1)) a0_0 a0_1 a0_2 l0_3) else (some false))) else (some false)) = some r := H
           have A37 := zM A370
           clear A370
           by_cases c38 : t110 = true
           ·subst c38
            have H1 : ((tree_made.f k2 ((rd_T31 l0_3 x52_2).f0) ((rd_T31 l0_3 x52_2).f1) ((rd_T31 l0_3 x52_2).f2) ((rd_T31 l0_3 x52_2).f3) t108 t109 (wrap64 (a3 + 1))).bind fun t111 => (if t111 = true then (tree_made.l0 k2 a1 a2 a3 (wrap64 (x9_2 + ((rd_T31 l0_3 x52_2).f2))) l0_3 (l0_3.length : Int) (wrap64 (x52_2 + 1)) a0_0 a0_1 a0_2 l0_3) else (some false))) = some r := by rw [if_pos rfl] at H; exact H
            clear H
            have H := H1
            clear H1
            replace H := Option.bind_eq_some_iff.mp H
            obtain ⟨t111, A390, H⟩ := H
            replace H : (if t111 = true then (tree_made.l0 k2 a1 a2 a3 (wrap64 (x9_2 + ((rd_T31 l0_3 x52_2).f2))) l0_3 (l0_3.length : Int) (wrap64 (x52_2 + 1)) a0_0 a0_1 a0_2 l0_3) else (some false)) = some r := H
            have A39 := zM A390
            clear A390
            by_cases c40 : t111 = true
            ·subst c40
             have H1 : (tree_made.l0 k2 a1 a2 a3 (wrap64 (x9_2 + ((rd_T31 l0_3 x52_2).f2))) l0_3 (l0_3.length : Int) (wrap64 (x52_2 + 1)) a0_0 a0_1 a0_2 l0_3) = some r := by rw [if_pos rfl] at H; exact H
             clear H
             have H := H1
             clear H1
             have H' := zM H
             clear H
             have p106 : 0 ≤ (x52_2 : Int) := of_decide_eq_true (by first | (with_reducible assumption) | assumption)
             have q106 : x52_2 < (l0_3.length : Int) := of_decide_eq_true (by first | (with_reducible assumption) | assumption)
             obtain ⟨ad106, A106_3, c106_3, e106, hx106_0, hx106_1, hx106_2, hx106_3, hl106_3, hi106_3⟩ := at_T31 HR0_3.out x52_2 p106 q106
             cases e106
             replace hx106_0 := (HB.out.cell (zL w _ hx106_0)).trans hx106_0
             replace hx106_1 := (HB.out.cell (zL w _ hx106_1)).trans hx106_1
             replace hx106_2 := (HB.out.cell (zL w _ hx106_2)).trans hx106_2
             replace hx106_3 := (HB.out.cell (zL w _ hx106_3)).trans hx106_3
             have HR106_3 := zM hi106_3
             have HC106_3 := zM hl106_3
             clear hi106_3 hl106_3
             replace p106 := eq_true p106
             replace q106 := eq_true q106
             go_wp2_with (first | ((with_reducible refine gate_dst (N := 11) rfl ?_); (try (refine gate_guard (by rfl) ?_; dsimp only)); refine box_event ?hg (N := 11) ?hd (cs := #[.int .i64 0, .int .i64 0, .int .i64 0, .slice none 0 0]) (t := 31) ?hr ?_; (case hd => rfl); (case hg => rfl); (case hr => first | (go_simp; done) | (go_simp; rfl)); intro gb107 hg w41 hbox hb; have BK107 := zM (hbox); have GW107 := zM ((by rw [hg]; exact (below_size (by repeat first | refine zS ?_ GE102.out | exact HB.out | apply zA | apply zN | apply zD)) : w.heap.size ≤ gb107)); have GE107 := GW107; have NB102_107 := zM ((by rw [hg]; exact lt1 BK102.out : gb102 ≠ gb107)); have NB107_102 := zM ((by rw [hg]; exact gt1 BK102.out : gb107 ≠ gb102)); replace BK102 := zM (bb hb BK102.out); replace HB := zM (below_step (by repeat first | refine zS ?_ GE102.out | exact HB.out | apply zA | apply zN | apply zD) hb); clear hb hbox hg; have hnb42 := NB107_102.out; have hnc42 := NB102_107.out; obtain ⟨hcz43_0, hcz43_1, hcz43_2, hcz43_3, hfz43_0, hfz43_1, hfz43_2, hfz43_3⟩ := cz4 BK107.out; obtain ⟨hcz44_0, hcz44_1, hcz44_2, hcz44_3, hfz44_0, hfz44_1, hfz44_2, hfz44_3⟩ := cz4 BK102.out) | ((with_reducible refine gate_callee (f := 96) rfl ?_); refine ga (some 62) rfl rfl Try.func96 (by kernel_rfl) rfl #[.int .i64 a0_0, .agg #[.int .i64 ((rd_T31 l0_3 x52_2).f0), .int .i64 ((rd_T31 l0_3 x52_2).f1), .int .i64 ((rd_T31 l0_3 x52_2).f2), .slice A106_3 ((rd_T31 l0_3 x52_2).f3).length c106_3], .int .i64 a1, .int .i64 a2] rfl ?_; (with_reducible refine (tree_sized.calls a0_0 ((rd_T31 l0_3 x52_2).f0) ((rd_T31 l0_3 x52_2).f1) ((rd_T31 l0_3 x52_2).f2) _ _ ((rd_T31 l0_3 x52_2).f3) a1 a2 t108 t109 _ ?side1 ?side2 A28.out).mono ?_); (case side1 => exact Kd.C_below HR106_3.out (by repeat first | refine zS ?_ GE102.out | refine zS ?_ GE107.out | exact HB.out | apply zA | apply zN | apply zD)); (case side2 => exact HC106_3.out); rintro e w45 ⟨rfl, hb⟩; refine ⟨_, rfl, ?_⟩; replace BK102 := zM (bb hb (far4 NB102_107.out BK102.out)); replace BK107 := zM (bb hb (put4 BK107.out)); replace HB := zM (below_step (by repeat first | refine zS ?_ GE102.out | refine zS ?_ GE107.out | exact HB.out | apply zA | apply zN | apply zD) hb); (try clear hb); (try clear hb2); (try clear hk); (try clear hi); obtain ⟨hcz46_0, hcz46_1, hcz46_2, hcz46_3, hfz46_0, hfz46_1, hfz46_2, hfz46_3⟩ := cz4 BK107.out; obtain ⟨hcz47_0, hcz47_1, hcz47_2, hcz47_3, hfz47_0, hfz47_1, hfz47_2, hfz47_3⟩ := cz4 BK102.out) | (go_at_call 82; (with_reducible refine (tree_in.calls ((rd_T31 l0_3 x52_2).f2) 1 80 true _ A37.out).mono ?_); rintro e w' ⟨rfl, ⟨nd, rfl⟩⟩) | (go_at_call 59; (with_reducible refine (ih k2 (by have := HJ11.out; have := HK2.out; omega) ((rd_T31 l0_3 x52_2).f0) ((rd_T31 l0_3 x52_2).f1) ((rd_T31 l0_3 x52_2).f2) _ _ ((rd_T31 l0_3 x52_2).f3) t108 t109 (wrap64 (a3 + 1)) true _ ?side1 ?side2 A39.out).mono ?_); (case side1 => repeat (first | exact (Kd.C_below HR106_3.out (by repeat first | refine zS ?_ GE102.out | refine zS ?_ GE107.out | exact HB.out | apply zA | apply zN | apply zD)) | (with_reducible refine Kd.C_alloc ?_ _) | (with_reducible refine Kd.C_drewN ?_ _) | (with_reducible refine Kd.C_drew ?_))); (case side2 => exact HC106_3.out); rintro e w48 ⟨rfl, hb⟩; replace BK102 := zM (bb hb BK102.out); replace BK107 := zM (bb hb BK107.out); replace HB := zM (below_step (by repeat first | refine zS ?_ GE102.out | refine zS ?_ GE107.out | exact HB.out | apply zA | apply zN | apply zD) hb); (try clear hb); (try clear hb2); (try clear hk); (try clear hi); obtain ⟨hcz49_0, hcz49_1, hcz49_2, hcz49_3, hfz49_0, hfz49_1, hfz49_2, hfz49_3⟩ := cz4 BK107.out))
             go_roundg k2
             case measure => have := HJ11.out; have := HK2.out; omega
             case rel => exact ⟨(wrap64 (x9_2 + ((rd_T31 l0_3 x52_2).f2))), (wrap64 (x52_2 + 1)), (by first | rfl | (simp; done) | (simp [*]; done)), (by first | rfl | (simp; done) | (simp [*]; done)), H', ⟨by have := HJ11.out; have := HK2.out; omega⟩, ⟨by (with_reducible repeat (first | refine blk_drewN ?_ _ | refine blk_drew ?_ | refine blk_alloc ?_ _)); exact BK102.out⟩, ⟨by repeat first | refine zS ?_ GE102.out | refine zS ?_ GE107.out | exact HB.out | apply zA | apply zN | apply zD⟩⟩
            ·replace c40 := Bool.eq_false_iff.mpr c40
             subst c40
             have H1 : (some false) = some r := by rw [if_neg (show ¬ (false = true) by decide)] at H; exact H
             clear H
             have H := H1
             clear H1
             obtain rfl := Option.some.inj H
             have p106 : 0 ≤ (x52_2 : Int) := of_decide_eq_true (by first | (with_reducible assumption) | assumption)
             have q106 : x52_2 < (l0_3.length : Int) := of_decide_eq_true (by first | (with_reducible assumption) | assumption)
             obtain ⟨ad106, A106_3, c106_3, e106, hx106_0, hx106_1, hx106_2, hx106_3, hl106_3, hi106_3⟩ := at_T31 HR0_3.out x52_2 p106 q106
             cases e106
             replace hx106_0 := (HB.out.cell (zL w _ hx106_0)).trans hx106_0
             replace hx106_1 := (HB.out.cell (zL w _ hx106_1)).trans hx106_1
             replace hx106_2 := (HB.out.cell (zL w _ hx106_2)).trans hx106_2
             replace hx106_3 := (HB.out.cell (zL w _ hx106_3)).trans hx106_3
             have HR106_3 := zM hi106_3
             have HC106_3 := zM hl106_3
             clear hi106_3 hl106_3
             replace p106 := eq_true p106
             replace q106 := eq_true q106
             go_wp2_with (first | ((with_reducible refine gate_dst (N := 11) rfl ?_); (try (refine gate_guard (by rfl) ?_; dsimp only)); refine box_event ?hg (N := 11) ?hd (cs := #[.int .i64 0, .int .i64 0, .int .i64 0, .slice none 0 0]) (t := 31) ?hr ?_; (case hd => rfl); (case hg => rfl); (case hr => first | (go_simp; done) | (go_simp; rfl)); intro gb107 hg w50 hbox hb; have BK107 := zM (hbox); have GW107 := zM ((by rw [hg]; exact (below_size (by repeat first | refine zS ?_ GE102.out | exact HB.out | apply zA | apply zN | apply zD)) : w.heap.size ≤ gb107)); have GE107 := GW107; have NB102_107 := zM ((by rw [hg]; exact lt1 BK102.out : gb102 ≠ gb107)); have NB107_102 := zM ((by rw [hg]; exact gt1 BK102.out : gb107 ≠ gb102)); replace BK102 := zM (bb hb BK102.out); replace HB := zM (below_step (by repeat first | refine zS ?_ GE102.out | exact HB.out | apply zA | apply zN | apply zD) hb); clear hb hbox hg; have hnb51 := NB107_102.out; have hnc51 := NB102_107.out; obtain ⟨hcz52_0, hcz52_1, hcz52_2, hcz52_3, hfz52_0, hfz52_1, hfz52_2, hfz52_3⟩ := cz4 BK107.out; obtain ⟨hcz53_0, hcz53_1, hcz53_2, hcz53_3, hfz53_0, hfz53_1, hfz53_2, hfz53_3⟩ := cz4 BK102.out) | ((with_reducible refine gate_callee (f := 96) rfl ?_); refine ga (some 62) rfl rfl Try.func96 (by kernel_rfl) rfl #[.int .i64 a0_0, .agg #[.int .i64 ((rd_T31 l0_3 x52_2).f0), .int .i64 ((rd_T31 l0_3 x52_2).f1), .int .i64 ((rd_T31 l0_3 x52_2).f2), .slice A106_3 ((rd_T31 l0_3 x52_2).f3).length c106_3], .int .i64 a1, .int .i64 a2] rfl ?_; (with_reducible refine (tree_sized.calls a0_0 ((rd_T31 l0_3 x52_2).f0) ((rd_T31 l0_3 x52_2).f1) ((rd_T31 l0_3 x52_2).f2) _ _ ((rd_T31 l0_3 x52_2).f3) a1 a2 t108 t109 _ ?side1 ?side2 A28.out).mono ?_); (case side1 => exact Kd.C_below HR106_3.out (by repeat first | refine zS ?_ GE102.out | refine zS ?_ GE107.out | exact HB.out | apply zA | apply zN | apply zD)); (case side2 => exact HC106_3.out); rintro e w54 ⟨rfl, hb⟩; refine ⟨_, rfl, ?_⟩; replace BK102 := zM (bb hb (far4 NB102_107.out BK102.out)); replace BK107 := zM (bb hb (put4 BK107.out)); replace HB := zM (below_step (by repeat first | refine zS ?_ GE102.out | refine zS ?_ GE107.out | exact HB.out | apply zA | apply zN | apply zD) hb); (try clear hb); (try clear hb2); (try clear hk); (try clear hi); obtain ⟨hcz55_0, hcz55_1, hcz55_2, hcz55_3, hfz55_0, hfz55_1, hfz55_2, hfz55_3⟩ := cz4 BK107.out; obtain ⟨hcz56_0, hcz56_1, hcz56_2, hcz56_3, hfz56_0, hfz56_1, hfz56_2, hfz56_3⟩ := cz4 BK102.out) | (go_at_call 82; (with_reducible refine (tree_in.calls ((rd_T31 l0_3 x52_2).f2) 1 80 true _ A37.out).mono ?_); rintro e w' ⟨rfl, ⟨nd, rfl⟩⟩) | (go_at_call 59; (with_reducible refine (ih k2 (by have := HJ11.out; have := HK2.out; omega) ((rd_T31 l0_3 x52_2).f0) ((rd_T31 l0_3 x52_2).f1) ((rd_T31 l0_3 x52_2).f2) _ _ ((rd_T31 l0_3 x52_2).f3) t108 t109 (wrap64 (a3 + 1)) false _ ?side1 ?side2 A39.out).mono ?_); (case side1 => repeat (first | exact (Kd.C_below HR106_3.out (by repeat first | refine zS ?_ GE102.out | refine zS ?_ GE107.out | exact HB.out | apply zA | apply zN | apply zD)) | (with_reducible refine Kd.C_alloc ?_ _) | (with_reducible refine Kd.C_drewN ?_ _) | (with_reducible refine Kd.C_drew ?_))); (case side2 => exact HC106_3.out); rintro e w57 ⟨rfl, hb⟩; replace BK102 := zM (bb hb BK102.out); replace BK107 := zM (bb hb BK107.out); replace HB := zM (below_step (by repeat first | refine zS ?_ GE102.out | refine zS ?_ GE107.out | exact HB.out | apply zA | apply zN | apply zD) hb); (try clear hb); (try clear hb2); (try clear hk); (try clear hi)))
             go_ret
             exact ⟨by first | rfl | (simp [errW_none, errW_some] <;> rfl) | (simp [*, errW_none, errW_some] <;> rfl), by repeat first | refine zS ?_ GE102.out | refine zS ?_ GE107.out | exact HB.out | apply zA | apply zN | apply zD⟩
           ·replace c38 := Bool.eq_false_iff.mpr c38
            subst c38
            have H1 : (some false) = some r := by rw [if_neg (show ¬ (false = true) by decide)] at H; exact H
            clear H
            have H := H1
            clear H1
            obtain rfl := Option.some.inj H
            have p106 : 0 ≤ (x52_2 : Int) := of_decide_eq_true (by first | (with_reducible assumption) | assumption)
            have q106 : x52_2 < (l0_3.length : Int) := of_decide_eq_true (by first | (with_reducible assumption) | assumption)
            obtain ⟨ad106, A106_3, c106_3, e106, hx106_0, hx106_1, hx106_2, hx106_3, hl106_3, hi106_3⟩ := at_T31 HR0_3.out x52_2 p106 q106
            cases e106
            replace hx106_0 := (HB.out.cell (zL w _ hx106_0)).trans hx106_0
            replace hx106_1 := (HB.out.cell (zL w _ hx106_1)).trans hx106_1
            replace hx106_2 := (HB.out.cell (zL w _ hx106_2)).trans hx106_2
            replace hx106_3 := (HB.out.cell (zL w _ hx106_3)).trans hx106_3
            have HR106_3 := zM hi106_3
            have HC106_3 := zM hl106_3
            clear hi106_3 hl106_3
            replace p106 := eq_true p106
            replace q106 := eq_true q106
            go_wp2_with (first | ((with_reducible refine gate_dst (N := 11) rfl ?_); (try (refine gate_guard (by rfl) ?_; dsimp only)); refine box_event ?hg (N := 11) ?hd (cs := #[.int .i64 0, .int .i64 0, .int .i64 0, .slice none 0 0]) (t := 31) ?hr ?_; (case hd => rfl); (case hg => rfl); (case hr => first | (go_simp; done) | (go_simp; rfl)); intro gb107 hg w58 hbox hb; have BK107 := zM (hbox); have GW107 := zM ((by rw [hg]; exact (below_size (by repeat first | refine zS ?_ GE102.out | exact HB.out | apply zA | apply zN | apply zD)) : w.heap.size ≤ gb107)); have GE107 := GW107; have NB102_107 := zM ((by rw [hg]; exact lt1 BK102.out : gb102 ≠ gb107)); have NB107_102 := zM ((by rw [hg]; exact gt1 BK102.out : gb107 ≠ gb102)); replace BK102 := zM (bb hb BK102.out); replace HB := zM (below_step (by repeat first | refine zS ?_ GE102.out | exact HB.out | apply zA | apply zN | apply zD) hb); clear hb hbox hg; have hnb59 := NB107_102.out; have hnc59 := NB102_107.out; obtain ⟨hcz60_0, hcz60_1, hcz60_2, hcz60_3, hfz60_0, hfz60_1, hfz60_2, hfz60_3⟩ := cz4 BK107.out; obtain ⟨hcz61_0, hcz61_1, hcz61_2, hcz61_3, hfz61_0, hfz61_1, hfz61_2, hfz61_3⟩ := cz4 BK102.out) | ((with_reducible refine gate_callee (f := 96) rfl ?_); refine ga (some 62) rfl rfl Try.func96 (by kernel_rfl) rfl #[.int .i64 a0_0, .agg #[.int .i64 ((rd_T31 l0_3 x52_2).f0), .int .i64 ((rd_T31 l0_3 x52_2).f1), .int .i64 ((rd_T31 l0_3 x52_2).f2), .slice A106_3 ((rd_T31 l0_3 x52_2).f3).length c106_3], .int .i64 a1, .int .i64 a2] rfl ?_; (with_reducible refine (tree_sized.calls a0_0 ((rd_T31 l0_3 x52_2).f0) ((rd_T31 l0_3 x52_2).f1) ((rd_T31 l0_3 x52_2).f2) _ _ ((rd_T31 l0_3 x52_2).f3) a1 a2 t108 t109 _ ?side1 ?side2 A28.out).mono ?_); (case side1 => exact Kd.C_below HR106_3.out (by repeat first | refine zS ?_ GE102.out | refine zS ?_ GE107.out | exact HB.out | apply zA | apply zN | apply zD)); (case side2 => exact HC106_3.out); rintro e w62 ⟨rfl, hb⟩; refine ⟨_, rfl, ?_⟩; replace BK102 := zM (bb hb (far4 NB102_107.out BK102.out)); replace BK107 := zM (bb hb (put4 BK107.out)); replace HB := zM (below_step (by repeat first | refine zS ?_ GE102.out | refine zS ?_ GE107.out | exact HB.out | apply zA | apply zN | apply zD) hb); (try clear hb); (try clear hb2); (try clear hk); (try clear hi); obtain ⟨hcz63_0, hcz63_1, hcz63_2, hcz63_3, hfz63_0, hfz63_1, hfz63_2, hfz63_3⟩ := cz4 BK107.out; obtain ⟨hcz64_0, hcz64_1, hcz64_2, hcz64_3, hfz64_0, hfz64_1, hfz64_2, hfz64_3⟩ := cz4 BK102.out) | (go_at_call 82; (with_reducible refine (tree_in.calls ((rd_T31 l0_3 x52_2).f2) 1 80 false _ A37.out).mono ?_); rintro e w' ⟨rfl, ⟨nd, rfl⟩⟩))
            go_ret
            exact ⟨by first | rfl | (simp [errW_none, errW_some] <;> rfl) | (simp [*, errW_none, errW_some] <;> rfl), by repeat first | refine zS ?_ GE102.out | refine zS ?_ GE107.out | exact HB.out | apply zA | apply zN | apply zD⟩
         ·rw [if_neg c27] at H
          exact absurd H (by simp)
        ·rw [if_neg c26] at H
         exact absurd H (by simp)
       ·rw [if_neg c25] at H
        have c25b0 : decide (x52_2 < (l0_3.length : Int)) = false := decide_eq_false c25
        clear c25
        replace H := Option.bind_eq_some_iff.mp H
        obtain ⟨t105, A650, H⟩ := H
        replace H : (some (x9_2 == t105)) = some r := H
        have A65 := zM A650
        clear A650
        obtain rfl := Option.some.inj H
        have hcz66_0 : wr.cell? ⟨gb102, 0, none⟩ = some (.int .i64 a0_0) := (blk_cell BK102.out 0).trans rfl
        have hcz66_1 : wr.cell? ⟨gb102, 1, none⟩ = some (.int .i64 a0_1) := (blk_cell BK102.out 1).trans rfl
        have hcz66_2 : wr.cell? ⟨gb102, 2, none⟩ = some (.int .i64 a0_2) := (blk_cell BK102.out 2).trans rfl
        have hcz66_3 : wr.cell? ⟨gb102, 3, none⟩ = some (.slice A0_3 l0_3.length c0_3) := (blk_cell BK102.out 3).trans rfl
        have hfz66_0 := blk_frozen BK102.out 0
        have hfz66_1 := blk_frozen BK102.out 1
        have hfz66_2 := blk_frozen BK102.out 2
        have hfz66_3 := blk_frozen BK102.out 3
        go_wp2_with (first | ((with_reducible refine gate_callee (f := 85) rfl ?_); refine ga (some 95) rfl rfl Try.func85 (by kernel_rfl) rfl #[.int .i64 a0_0, .int .i64 a1, .int .i64 a2] rfl ?_; (with_reducible refine (tree_along.calls a0_0 a1 a2 t105 _ A65.out).mono ?_); rintro e w' ⟨rfl, ⟨nd, rfl⟩⟩; refine ⟨_, rfl, ?_⟩))
        go_ret
        exact ⟨by first | rfl | (simp [errW_none, errW_some] <;> rfl) | (simp [*, errW_none, errW_some] <;> rfl), by repeat first | refine zS ?_ GE102.out | exact HB.out | apply zA | apply zN | apply zD⟩
end Go.Proofs.Ytplngfammfdemaa.Q
end
section
namespace Go.Proofs.Ytplngfammfdemaa.Q
open Go.RowKit Go.Proofs.Ytplngfammfdemaa Go.Proofs.YtplngfammfdemaaW.PrintWords Go.Proofs.YtplngfammfdemaaW.PrintLast Go.Proofs.YtplngfammfdemaaW.PrintMore
attribute [local go_sem] max2_int min2_int max_two min_two max_three min_three max_four min_four   -- for this text's walks alone
set_option linter.unusedVariables false
set_option linter.unusedSimpArgs false
def tree_size.f (a0 : Int) (a1 : Int) : Option (Bool) := (tree_in.f a0 1 80).bind fun t112 => (if t112 = true then ((tree_in.f a1 1 50).bind fun t113 => (some t113)) else (some false))
set_option maxHeartbeats 8000000 in
set_option maxRecDepth 100000 in
theorem tree_size.calls (a0 : Int) (a1 : Int) (r : Bool) (w : World) (h : tree_size.f a0 a1 = some r) :
 Calls Try.prog 58 #[.int .i64 a0, .int .i64 a1] w fun e w' => e = .returned (.bool r) ∧ Drawn0 w w' := by
 have H : ((tree_in.f a0 1 80).bind fun t112 => (if t112 = true then ((tree_in.f a1 1 50).bind fun t113 => (some t113)) else (some false))) = some r := h
 clear h
 replace H := Option.bind_eq_some_iff.mp H
 obtain ⟨t112, A30, H⟩ := H
 replace H : (if t112 = true then ((tree_in.f a1 1 50).bind fun t113 => (some t113)) else (some false)) = some r := H
 have A3 := zM A30
 clear A30
 by_cases c4 : t112 = true
 ·subst c4
  have H1 : ((tree_in.f a1 1 50).bind fun t113 => (some t113)) = some r := by rw [if_pos rfl] at H; exact H
  clear H
  have H := H1
  clear H1
  replace H := Option.bind_eq_some_iff.mp H
  obtain ⟨t113, A50, H⟩ := H
  replace H : (some t113) = some r := H
  have A5 := zM A50
  clear A50
  obtain rfl := Option.some.inj H
  go_enter Try.func58, Try.ntmps58
  go_wp2_with (first | ((with_reducible refine gate_callee (f := 82) rfl ?_); refine ga (some 6) rfl rfl Try.func82 (by kernel_rfl) rfl #[.int .i64 a0, .int .i64 1, .int .i64 80] rfl ?_; (with_reducible refine (tree_in.calls a0 1 80 true _ A3.out).mono ?_); rintro e w' ⟨rfl, ⟨nd, rfl⟩⟩; refine ⟨_, rfl, ?_⟩) | (go_at_call 82; (with_reducible refine (tree_in.calls a1 1 50 t113 _ A5.out).mono ?_); rintro e w' ⟨rfl, ⟨nd, rfl⟩⟩))
  go_ret
  exact ⟨by first | rfl | (simp; done) | (simp [*]; done), by repeat (first | exact Drawn0.refl _ | apply Drawn0.step)⟩
 ·replace c4 := Bool.eq_false_iff.mpr c4
  subst c4
  have H1 : (some false) = some r := by rw [if_neg (show ¬ (false = true) by decide)] at H; exact H
  clear H
  have H := H1
  clear H1
  obtain rfl := Option.some.inj H
  go_enter Try.func58, Try.ntmps58
  go_wp2_with (first | ((with_reducible refine gate_callee (f := 82) rfl ?_); refine ga (some 6) rfl rfl Try.func82 (by kernel_rfl) rfl #[.int .i64 a0, .int .i64 1, .int .i64 80] rfl ?_; (with_reducible refine (tree_in.calls a0 1 80 false _ A3.out).mono ?_); rintro e w' ⟨rfl, ⟨nd, rfl⟩⟩; refine ⟨_, rfl, ?_⟩))
  go_ret
  exact ⟨by first | rfl | (simp; done) | (simp [*]; done), by repeat (first | exact Drawn0.refl _ | apply Drawn0.step)⟩
end Go.Proofs.Ytplngfammfdemaa.Q
namespace Go.Proofs.Ytplngfammfdemaa
theorem info3 : ∃ i, Try.prog.info? 3 = some i ∧ i.zero = some (.int .i64 0) ∧ i.size = 1 ∧ i.bytes = 8 := by
 obtain ⟨i, hi, h1, h2, h3⟩ := info_parts (show (Try.prog.info? 3).map (fun i => (i.zero, i.size, i.bytes)) = some (some (.int .i64 0), 1, 8) by kernel_rfl)
 exact ⟨i, hi, h1, h2, h3⟩
end Go.Proofs.Ytplngfammfdemaa
end
