-- Copies of the texts YtplngfammfdemaaQx16, YtplngfammfdemaaQx19 with what this claim does not reach left out (prune.py, a program of this project).
import Derived.Test.YtplngfammfdemaaZlGMul
import Derived.Test.YtplngfammfdemaaZlQx4
import Derived.Test.YtplngfammfdemaaZlQx15
section
namespace Go.Proofs.Ytplngfammfdemaa.Q
open Go.RowKit Go.Proofs.Ytplngfammfdemaa Go.Proofs.YtplngfammfdemaaW.PrintWords Go.Proofs.YtplngfammfdemaaW.PrintLast Go.Proofs.YtplngfammfdemaaW.PrintMore
attribute [local go_sem] max2_int min2_int max_two min_two max_three min_three max_four min_four   -- for this text's walks alone
set_option linter.unusedVariables false
set_option linter.unusedSimpArgs false
def backseatlaw12_alive.f (k : Nat)  : Option (Bool) := (preset_Even.f k 10 3).bind fun bt320 => ((preset_Lay.f k (([1, 2, 3] : List Int)) 1 10 5).bind fun bt327 => (if bt320.2 = 0 then (if bt327.2.2.2.2 = 0 then (if (bt320.1.length : Int) = 3 then (if 0 < (bt320.1.length : Int) then (if (rd bt320.1 0) = 3 then (if 2 < (bt320.1.length : Int) then (if (rd bt320.1 2) = 2 then (some ((bt327.2.2.2.1.length : Int) == 3)) else (some false)) else (none)) else (some false)) else (none)) else (some false)) else (some false)) else (some false)))
theorem backseatlaw12_alive.mono : ∀ k, LeO (backseatlaw12_alive.f k ) (backseatlaw12_alive.f (k + 1) ) := by
 intro  k
 unfold backseatlaw12_alive.f
 repeat' first
  | (with_reducible exact preset_Even.mono _ _ _)
  | (with_reducible exact preset_Lay.mono _ _ _ _ _)
  | (with_reducible exact LeO.refl _)
  | (with_reducible exact LeO.none _)
  | (with_reducible refine LeO.ite ?_ ?_)
  | (with_reducible refine LeO.bind ?_ (fun _ => ?_))
  | exact preset_Even.mono _ _ _
  | exact preset_Lay.mono _ _ _ _ _
  | exact LeO.none _
  | refine LeO.ite ?_ ?_
  | refine LeO.bind ?_ (fun _ => ?_)
set_option maxHeartbeats 8000000 in
set_option maxRecDepth 100000 in
theorem backseatlaw12_alive.calls (k : Nat)  (r : Bool) (w : World) (h : backseatlaw12_alive.f k  = some r) :
 Calls Try.prog 12 #[] w fun e w' => e = .returned (.bool r) ∧ Below w.heap.size w w' := by
 have hu31 := Try.underlying31
 have HB := zM (Below.refl w.heap.size w)
 have H : ((preset_Even.f k 10 3).bind fun bt320 => ((preset_Lay.f k (([1, 2, 3] : List Int)) 1 10 5).bind fun bt327 => (if bt320.2 = 0 then (if bt327.2.2.2.2 = 0 then (if (bt320.1.length : Int) = 3 then (if 0 < (bt320.1.length : Int) then (if (rd bt320.1 0) = 3 then (if 2 < (bt320.1.length : Int) then (if (rd bt320.1 2) = 2 then (some ((bt327.2.2.2.1.length : Int) == 3)) else (some false)) else (none)) else (some false)) else (none)) else (some false)) else (some false)) else (some false)))) = some r := h
 clear h
 replace H := Option.bind_eq_some_iff.mp H
 obtain ⟨⟨t320, t321⟩, A10, H⟩ := H
 replace H : ((preset_Lay.f k (([1, 2, 3] : List Int)) 1 10 5).bind fun bt327 => (if t321 = 0 then (if bt327.2.2.2.2 = 0 then (if (t320.length : Int) = 3 then (if 0 < (t320.length : Int) then (if (rd t320 0) = 3 then (if 2 < (t320.length : Int) then (if (rd t320 2) = 2 then (some ((bt327.2.2.2.1.length : Int) == 3)) else (some false)) else (none)) else (some false)) else (none)) else (some false)) else (some false)) else (some false))) = some r := H
 have A1 := zM A10
 clear A10
 obtain ⟨y324, hy324⟩ : ∃ y_ : List Int, y_ = (([1, 2, 3] : List Int)) := ⟨_, rfl⟩
 replace H : ((preset_Lay.f k y324 1 10 5).bind fun bt327 => (if t321 = 0 then (if bt327.2.2.2.2 = 0 then (if (t320.length : Int) = 3 then (if 0 < (t320.length : Int) then (if (rd t320 0) = 3 then (if 2 < (t320.length : Int) then (if (rd t320 2) = 2 then (some ((bt327.2.2.2.1.length : Int) == 3)) else (some false)) else (none)) else (some false)) else (none)) else (some false)) else (some false)) else (some false))) = some r := by first | (rw [hy324]; with_reducible exact H) | (have H2_ := (Option.bind_some _ _).symm.trans H; rw [hy324]; with_reducible exact H2_) | (have H2_ := (Option.bind_some _ _).symm.trans H; with_reducible exact H2_) | with_reducible exact H | (rw [hy324]; exact H) | exact H
 have Ny324 := zM hy324
 clear hy324
 replace H := Option.bind_eq_some_iff.mp H
 obtain ⟨⟨t327, t328, t329, t330, t333⟩, A20, H⟩ := H
 replace H : (if t321 = 0 then (if t333 = 0 then (if (t320.length : Int) = 3 then (if 0 < (t320.length : Int) then (if (rd t320 0) = 3 then (if 2 < (t320.length : Int) then (if (rd t320 2) = 2 then (some ((t330.length : Int) == 3)) else (some false)) else (none)) else (some false)) else (none)) else (some false)) else (some false)) else (some false)) = some r := H
 have A2 := zM A20
 clear A20
 by_cases c3 : t321 = 0
 ·rw [if_pos c3] at H
  have c3b0 : (t321 == 0) = true := beq_iff_eq.mpr c3
  have c3b1 : (t321 != 0) = false := bne_eq_false_iff_eq.mpr c3
  clear c3
  by_cases c4 : t333 = 0
  ·rw [if_pos c4] at H
   have c4b0 : (t333 == 0) = true := beq_iff_eq.mpr c4
   have c4b1 : (t333 != 0) = false := bne_eq_false_iff_eq.mpr c4
   clear c4
   by_cases c5 : (t320.length : Int) = 3
   ·rw [if_pos c5] at H
    have c5b0 : ((t320.length : Int) == 3) = true := beq_iff_eq.mpr c5
    have c5b1 : ((t320.length : Int) != 3) = false := bne_eq_false_iff_eq.mpr c5
    clear c5
    by_cases c6 : 0 < (t320.length : Int)
    ·rw [if_pos c6] at H
     have c6b0 : decide (0 < (t320.length : Int)) = true := decide_eq_true c6
     have c6b1 : decide (0 < t320.length) = true := decide_eq_true (by omega)
     clear c6
     by_cases c7 : (rd t320 0) = 3
     ·rw [if_pos c7] at H
      have c7b0 : ((rd t320 0) == 3) = true := beq_iff_eq.mpr c7
      have c7b1 : ((rd t320 0) != 3) = false := bne_eq_false_iff_eq.mpr c7
      clear c7
      by_cases c8 : 2 < (t320.length : Int)
      ·rw [if_pos c8] at H
       have c8b0 : decide (2 < (t320.length : Int)) = true := decide_eq_true c8
       have c8b1 : decide (2 < t320.length) = true := decide_eq_true (by omega)
       clear c8
       by_cases c9 : (rd t320 2) = 2
       ·rw [if_pos c9] at H
        have c9b0 : ((rd t320 2) == 2) = true := beq_iff_eq.mpr c9
        have c9b1 : ((rd t320 2) != 2) = false := bne_eq_false_iff_eq.mpr c9
        clear c9
        obtain rfl := Option.some.inj H
        go_enter Try.func12, Try.ntmps12
        go_wp2_with (first | ((with_reducible refine gate_callee (f := 11) rfl ?_); refine ga (some 6) rfl rfl Try.func11 (by kernel_rfl) rfl #[.int .i64 10, .int .i64 3] rfl ?_; (with_reducible refine (preset_Even.calls k 10 3 t320 t321 _ A1.out).mono ?_); rintro e w10 ⟨v322, rfl, ho0, hb⟩; refine ⟨_, rfl, ?_⟩; have HO323 := zM (Kd.R_lower ho0 (below_size (by first | exact HB.out | exact zN HB.out _ | exact zD HB.out))); replace HB := zM (below_step (by first | exact HB.out | exact zN HB.out _ | exact zD HB.out) hb); (try clear hb); (try clear hb2); (try clear hk); (try clear hi); (try clear ho0)) | ((with_reducible refine gate_dst (N := 10) rfl ?_); (try (refine gate_guard (by rfl) ?_; dsimp only)); refine Kd.R_lit (Kd.int .i64) _ 3 ?hg (N := 10) ?hd (xs := ([1, 2, 3] : List Int)) (inner := [.int .i64 1, .int .i64 2, .int .i64 3]) (ok := fun _ => True) (okp := fun _ => True) ?hr ?hp (fun _ hk => hk) trivial (Below.refl _ _) (Nat.le_refl _) (by simp) ?_; (case hd => rfl); (case hg => rfl); (case hr => first | (go_simp; done) | (go_simp; rfl)); (case hp => exact (Reps.one (show Kd.M (Kd.int .i64) _ _ _ 1 [.int .i64 1] from rfl) (Reps.one (show Kd.M (Kd.int .i64) _ _ _ 2 [.int .i64 2] from rfl) (Reps.one (show Kd.M (Kd.int .i64) _ _ _ 3 [.int .i64 3] from rfl) (Reps.none _ _))))); intro v325 w11 ho12 hb hg_ hnew_; clear hg_ hnew_; (first | rw [← Ny324.out] at ho12 | (simp only [Int.reduceToNat] at ho12; rw [← Ny324.out] at ho12)); have HO326 := zM (Kd.R_lower (Kd.R_new' ho12 (Kd.R_lt (by (with_reducible repeat (first | apply Kd.R_alloc | apply Kd.R_drewN | apply Kd.R_drew)); exact HO323.out))) (below_size (by first | exact HB.out | exact zN HB.out _ | exact zD HB.out))); replace HO323 := zM (Kd.R_elder' (by (with_reducible repeat (first | apply Kd.R_alloc | apply Kd.R_drewN | apply Kd.R_drew)); exact HO323.out) (Kd.R_base ho12) hb); replace HB := zM (below_step (by first | exact HB.out | exact zN HB.out _ | exact zD HB.out) hb); clear hb ho12; obtain ⟨Ao13, co13, eo13⟩ := Kd.R_slice HO326.out; subst eo13) | ((with_reducible refine gate_callee (f := 14) rfl ?_); refine ga (some 11) rfl rfl Try.func14 (by kernel_rfl) rfl #[.slice Ao13 y324.length co13, .int .i64 1, .int .i64 10, .int .i64 5] rfl ?_; (with_reducible refine (preset_Lay.calls k _ _ y324 1 10 5 t327 t328 t329 t330 t333 _ ?side1 ?side2 A2.out).mono ?_); (case side1 => repeat (first | exact (Kd.R_reads' HO326.out).2.2 | (with_reducible refine Kd.C_alloc ?_ _) | (with_reducible refine Kd.C_drewN ?_ _) | (with_reducible refine Kd.C_drew ?_))); (case side2 => exact (Kd.R_reads' HO326.out).2.1); rintro e w14 ⟨v331, rfl, ho0, hb⟩; refine ⟨_, rfl, ?_⟩; have HO332 := zM (Kd.N_lower (Kd.N_mono (ok' := fun k_ => some k_ ≠ (v322 : Value).ownBlock ∧ some k_ ≠ (.slice Ao13 y324.length co13 : Value).ownBlock) ho0 (fun k_ hk_ => ⟨(Kd.fresh' (Kd.R_lt (by (with_reducible repeat (first | apply Kd.R_alloc | apply Kd.R_drewN | apply Kd.R_drew)); exact HO323.out)) k_ hk_), (Kd.fresh' (Kd.R_lt (by (with_reducible repeat (first | apply Kd.R_alloc | apply Kd.R_drewN | apply Kd.R_drew)); exact HO326.out)) k_ hk_)⟩)) (below_size (by first | exact HB.out | exact zN HB.out _ | exact zD HB.out))); replace HO323 := zM (Kd.R_below (by (with_reducible repeat (first | apply Kd.R_alloc | apply Kd.R_drewN | apply Kd.R_drew)); exact HO323.out) hb); replace HO326 := zM (Kd.R_below (by (with_reducible repeat (first | apply Kd.R_alloc | apply Kd.R_drewN | apply Kd.R_drew)); exact HO326.out) hb); replace HB := zM (below_step (by first | exact HB.out | exact zN HB.out _ | exact zD HB.out) hb); (try clear hb); (try clear hb2); (try clear hk); (try clear hi); (try clear ho0)) | ((with_reducible refine gate_dst (N := 3) rfl ?_); (try (refine gate_guard (by rfl) ?_; dsimp only)); refine box_event ?hg (N := 3) ?hd (cs := #[.int .i64 0, .int .i64 0, .int .i64 0, .slice none 0 0]) (t := 31) ?hr ?_; (case hd => rfl); (case hg => rfl); (case hr => first | (go_simp; done) | (go_simp; rfl)); intro gb334 hg w15 hbox hb; have BK334 := zM (hbox); have GW334 := zM ((by rw [hg]; exact (below_size (by first | exact HB.out | exact zN HB.out _ | exact zD HB.out)) : w.heap.size ≤ gb334)); have GE334 := GW334; replace HO323 := zM (Kd.R_below (by (with_reducible repeat (first | apply Kd.R_alloc | apply Kd.R_drewN | apply Kd.R_drew)); exact HO323.out) hb); replace HO326 := zM (Kd.R_below (by (with_reducible repeat (first | apply Kd.R_alloc | apply Kd.R_drewN | apply Kd.R_drew)); exact HO326.out) hb); replace HO332 := zM (Kd.N_below (Kd.N_elderB (by (with_reducible repeat (first | apply Kd.N_alloc | apply Kd.N_drewN | apply Kd.N_drew)); exact HO332.out) gb334 (Nat.le_of_eq hg.symm)) hb); replace HB := zM (below_step (by first | exact HB.out | exact zN HB.out _ | exact zD HB.out) hb); clear hb hbox hg; obtain ⟨hcz16_0, hcz16_1, hcz16_2, hcz16_3, hfz16_0, hfz16_1, hfz16_2, hfz16_3⟩ := cz4 BK334.out; obtain ⟨Ao17, co17, eo17⟩ := Kd.N_slice HO332.out; subst eo17; obtain ⟨Ao18, co18, eo18⟩ := Kd.R_slice HO323.out; subst eo18; have p335 : 0 ≤ (0 : Int) := (by omega); have q335 : 0 < (t320.length : Int) := of_decide_eq_true (by first | (with_reducible assumption) | assumption); obtain ⟨ad335, e335, hx335_0⟩ := Kd.at_int (Kd.R_reads' HO323.out).2.2 0 p335 q335; cases e335; have qi335 : (0 < t320.length) = True := eq_true (by omega); (try rw [show ((0 : Int)).toNat = 0 from rfl] at hx335_0); (try rw [Addr.add_zero'] at hx335_0); have hn335_0 : ad335.block ≠ gb334 := Kd.own_blk (Kd.R_ne HO323.out BK334.out (by decide)); have hn335_1 : ad335.block ≠ gb334 := Kd.own_blk (Kd.R_ne HO323.out BK334.out (by decide)); have hn335_2 : ad335.block ≠ gb334 := Kd.own_blk (Kd.R_ne HO323.out BK334.out (by decide)); have hn335_3 : ad335.block ≠ gb334 := Kd.own_blk (Kd.R_ne HO323.out BK334.out (by decide)); replace hx335_0 := (cell_far (p := ⟨gb334, 0, none⟩) (by first | (rw [add_block]; exact hn335_0) | (show (Addr.add _ _).block ≠ _; rw [add_block]; exact hn335_0) | exact hn335_0) (.int .i64 t327)).trans hx335_0; replace hx335_0 := (cell_far (p := ⟨gb334, 1, none⟩) (by first | (rw [add_block]; exact hn335_1) | (show (Addr.add _ _).block ≠ _; rw [add_block]; exact hn335_1) | exact hn335_1) (.int .i64 t328)).trans hx335_0; replace hx335_0 := (cell_far (p := ⟨gb334, 2, none⟩) (by first | (rw [add_block]; exact hn335_2) | (show (Addr.add _ _).block ≠ _; rw [add_block]; exact hn335_2) | exact hn335_2) (.int .i64 t329)).trans hx335_0; replace hx335_0 := (cell_far (p := ⟨gb334, 3, none⟩) (by first | (rw [add_block]; exact hn335_3) | (show (Addr.add _ _).block ≠ _; rw [add_block]; exact hn335_3) | exact hn335_3) (.slice Ao17 t330.length co17)).trans hx335_0; clear hn335_0; clear hn335_1; clear hn335_2; clear hn335_3; replace p335 := eq_true p335; replace q335 := eq_true q335; have p336 : 0 ≤ (2 : Int) := (by omega); have q336 : 2 < (t320.length : Int) := of_decide_eq_true (by first | (with_reducible assumption) | assumption); obtain ⟨ad336, e336, hx336_0⟩ := Kd.at_int (Kd.R_reads' HO323.out).2.2 2 p336 q336; obtain rfl : ad335 = ad336 := (by injection e336); (try simp only [show (2 : Int).toNat = 2 from rfl, Nat.reduceMul, Nat.reduceEqDiff, Go.Addr.add, ↓reduceIte] at hx336_0); have qi336 : (2 < t320.length) = True := eq_true (by omega); (try rw [show ((2 : Int)).toNat = 2 from rfl] at hx336_0); have hn336_0 : ad335.block ≠ gb334 := Kd.own_blk (Kd.R_ne HO323.out BK334.out (by decide)); have hn336_1 : ad335.block ≠ gb334 := Kd.own_blk (Kd.R_ne HO323.out BK334.out (by decide)); have hn336_2 : ad335.block ≠ gb334 := Kd.own_blk (Kd.R_ne HO323.out BK334.out (by decide)); have hn336_3 : ad335.block ≠ gb334 := Kd.own_blk (Kd.R_ne HO323.out BK334.out (by decide)); replace hx336_0 := (cell_far (p := ⟨gb334, 0, none⟩) (by first | (rw [add_block]; exact hn336_0) | (show (Addr.add _ _).block ≠ _; rw [add_block]; exact hn336_0) | exact hn336_0) (.int .i64 t327)).trans hx336_0; replace hx336_0 := (cell_far (p := ⟨gb334, 1, none⟩) (by first | (rw [add_block]; exact hn336_1) | (show (Addr.add _ _).block ≠ _; rw [add_block]; exact hn336_1) | exact hn336_1) (.int .i64 t328)).trans hx336_0; replace hx336_0 := (cell_far (p := ⟨gb334, 2, none⟩) (by first | (rw [add_block]; exact hn336_2) | (show (Addr.add _ _).block ≠ _; rw [add_block]; exact hn336_2) | exact hn336_2) (.int .i64 t329)).trans hx336_0; replace hx336_0 := (cell_far (p := ⟨gb334, 3, none⟩) (by first | (rw [add_block]; exact hn336_3) | (show (Addr.add _ _).block ≠ _; rw [add_block]; exact hn336_3) | exact hn336_3) (.slice Ao17 t330.length co17)).trans hx336_0; clear hn336_0; clear hn336_1; clear hn336_2; clear hn336_3; replace p336 := eq_true p336; replace q336 := eq_true q336))
        go_ret
        exact ⟨by first | rfl | (simp [errW_none, errW_some] <;> rfl) | (simp [*, errW_none, errW_some] <;> rfl), by repeat first | refine zS ?_ GE334.out | exact HB.out | apply zA | apply zN | apply zD⟩
       ·rw [if_neg c9] at H
        have c9b0 : ((rd t320 2) == 2) = false := beq_eq_false_iff_ne.mpr c9
        have c9b1 : ((rd t320 2) != 2) = true := bne_iff_ne.mpr c9
        obtain rfl := Option.some.inj H
        go_enter Try.func12, Try.ntmps12
        go_wp2_with (first | ((with_reducible refine gate_callee (f := 11) rfl ?_); refine ga (some 6) rfl rfl Try.func11 (by kernel_rfl) rfl #[.int .i64 10, .int .i64 3] rfl ?_; (with_reducible refine (preset_Even.calls k 10 3 t320 t321 _ A1.out).mono ?_); rintro e w19 ⟨v322, rfl, ho0, hb⟩; refine ⟨_, rfl, ?_⟩; have HO323 := zM (Kd.R_lower ho0 (below_size (by first | exact HB.out | exact zN HB.out _ | exact zD HB.out))); replace HB := zM (below_step (by first | exact HB.out | exact zN HB.out _ | exact zD HB.out) hb); (try clear hb); (try clear hb2); (try clear hk); (try clear hi); (try clear ho0)) | ((with_reducible refine gate_dst (N := 10) rfl ?_); (try (refine gate_guard (by rfl) ?_; dsimp only)); refine Kd.R_lit (Kd.int .i64) _ 3 ?hg (N := 10) ?hd (xs := ([1, 2, 3] : List Int)) (inner := [.int .i64 1, .int .i64 2, .int .i64 3]) (ok := fun _ => True) (okp := fun _ => True) ?hr ?hp (fun _ hk => hk) trivial (Below.refl _ _) (Nat.le_refl _) (by simp) ?_; (case hd => rfl); (case hg => rfl); (case hr => first | (go_simp; done) | (go_simp; rfl)); (case hp => exact (Reps.one (show Kd.M (Kd.int .i64) _ _ _ 1 [.int .i64 1] from rfl) (Reps.one (show Kd.M (Kd.int .i64) _ _ _ 2 [.int .i64 2] from rfl) (Reps.one (show Kd.M (Kd.int .i64) _ _ _ 3 [.int .i64 3] from rfl) (Reps.none _ _))))); intro v325 w20 ho21 hb hg_ hnew_; clear hg_ hnew_; (first | rw [← Ny324.out] at ho21 | (simp only [Int.reduceToNat] at ho21; rw [← Ny324.out] at ho21)); have HO326 := zM (Kd.R_lower (Kd.R_new' ho21 (Kd.R_lt (by (with_reducible repeat (first | apply Kd.R_alloc | apply Kd.R_drewN | apply Kd.R_drew)); exact HO323.out))) (below_size (by first | exact HB.out | exact zN HB.out _ | exact zD HB.out))); replace HO323 := zM (Kd.R_elder' (by (with_reducible repeat (first | apply Kd.R_alloc | apply Kd.R_drewN | apply Kd.R_drew)); exact HO323.out) (Kd.R_base ho21) hb); replace HB := zM (below_step (by first | exact HB.out | exact zN HB.out _ | exact zD HB.out) hb); clear hb ho21; obtain ⟨Ao22, co22, eo22⟩ := Kd.R_slice HO326.out; subst eo22) | ((with_reducible refine gate_callee (f := 14) rfl ?_); refine ga (some 11) rfl rfl Try.func14 (by kernel_rfl) rfl #[.slice Ao22 y324.length co22, .int .i64 1, .int .i64 10, .int .i64 5] rfl ?_; (with_reducible refine (preset_Lay.calls k _ _ y324 1 10 5 t327 t328 t329 t330 t333 _ ?side1 ?side2 A2.out).mono ?_); (case side1 => repeat (first | exact (Kd.R_reads' HO326.out).2.2 | (with_reducible refine Kd.C_alloc ?_ _) | (with_reducible refine Kd.C_drewN ?_ _) | (with_reducible refine Kd.C_drew ?_))); (case side2 => exact (Kd.R_reads' HO326.out).2.1); rintro e w23 ⟨v331, rfl, ho0, hb⟩; refine ⟨_, rfl, ?_⟩; have HO332 := zM (Kd.N_lower (Kd.N_mono (ok' := fun k_ => some k_ ≠ (v322 : Value).ownBlock ∧ some k_ ≠ (.slice Ao22 y324.length co22 : Value).ownBlock) ho0 (fun k_ hk_ => ⟨(Kd.fresh' (Kd.R_lt (by (with_reducible repeat (first | apply Kd.R_alloc | apply Kd.R_drewN | apply Kd.R_drew)); exact HO323.out)) k_ hk_), (Kd.fresh' (Kd.R_lt (by (with_reducible repeat (first | apply Kd.R_alloc | apply Kd.R_drewN | apply Kd.R_drew)); exact HO326.out)) k_ hk_)⟩)) (below_size (by first | exact HB.out | exact zN HB.out _ | exact zD HB.out))); replace HO323 := zM (Kd.R_below (by (with_reducible repeat (first | apply Kd.R_alloc | apply Kd.R_drewN | apply Kd.R_drew)); exact HO323.out) hb); replace HO326 := zM (Kd.R_below (by (with_reducible repeat (first | apply Kd.R_alloc | apply Kd.R_drewN | apply Kd.R_drew)); exact HO326.out) hb); replace HB := zM (below_step (by first | exact HB.out | exact zN HB.out _ | exact zD HB.out) hb); (try clear hb); (try clear hb2); (try clear hk); (try clear hi); (try clear ho0)) | ((with_reducible refine gate_dst (N := 3) rfl ?_); (try (refine gate_guard (by rfl) ?_; dsimp only)); refine box_event ?hg (N := 3) ?hd (cs := #[.int .i64 0, .int .i64 0, .int .i64 0, .slice none 0 0]) (t := 31) ?hr ?_; (case hd => rfl); (case hg => rfl); (case hr => first | (go_simp; done) | (go_simp; rfl)); intro gb334 hg w24 hbox hb; have BK334 := zM (hbox); have GW334 := zM ((by rw [hg]; exact (below_size (by first | exact HB.out | exact zN HB.out _ | exact zD HB.out)) : w.heap.size ≤ gb334)); have GE334 := GW334; replace HO323 := zM (Kd.R_below (by (with_reducible repeat (first | apply Kd.R_alloc | apply Kd.R_drewN | apply Kd.R_drew)); exact HO323.out) hb); replace HO326 := zM (Kd.R_below (by (with_reducible repeat (first | apply Kd.R_alloc | apply Kd.R_drewN | apply Kd.R_drew)); exact HO326.out) hb); replace HO332 := zM (Kd.N_below (Kd.N_elderB (by (with_reducible repeat (first | apply Kd.N_alloc | apply Kd.N_drewN | apply Kd.N_drew)); exact HO332.out) gb334 (Nat.le_of_eq hg.symm)) hb); replace HB := zM (below_step (by first | exact HB.out | exact zN HB.out _ | exact zD HB.out) hb); clear hb hbox hg; obtain ⟨hcz25_0, hcz25_1, hcz25_2, hcz25_3, hfz25_0, hfz25_1, hfz25_2, hfz25_3⟩ := cz4 BK334.out; obtain ⟨Ao26, co26, eo26⟩ := Kd.N_slice HO332.out; subst eo26; obtain ⟨Ao27, co27, eo27⟩ := Kd.R_slice HO323.out; subst eo27; have p335 : 0 ≤ (0 : Int) := (by omega); have q335 : 0 < (t320.length : Int) := of_decide_eq_true (by first | (with_reducible assumption) | assumption); obtain ⟨ad335, e335, hx335_0⟩ := Kd.at_int (Kd.R_reads' HO323.out).2.2 0 p335 q335; cases e335; have qi335 : (0 < t320.length) = True := eq_true (by omega); (try rw [show ((0 : Int)).toNat = 0 from rfl] at hx335_0); (try rw [Addr.add_zero'] at hx335_0); have hn335_0 : ad335.block ≠ gb334 := Kd.own_blk (Kd.R_ne HO323.out BK334.out (by decide)); have hn335_1 : ad335.block ≠ gb334 := Kd.own_blk (Kd.R_ne HO323.out BK334.out (by decide)); have hn335_2 : ad335.block ≠ gb334 := Kd.own_blk (Kd.R_ne HO323.out BK334.out (by decide)); have hn335_3 : ad335.block ≠ gb334 := Kd.own_blk (Kd.R_ne HO323.out BK334.out (by decide)); replace hx335_0 := (cell_far (p := ⟨gb334, 0, none⟩) (by first | (rw [add_block]; exact hn335_0) | (show (Addr.add _ _).block ≠ _; rw [add_block]; exact hn335_0) | exact hn335_0) (.int .i64 t327)).trans hx335_0; replace hx335_0 := (cell_far (p := ⟨gb334, 1, none⟩) (by first | (rw [add_block]; exact hn335_1) | (show (Addr.add _ _).block ≠ _; rw [add_block]; exact hn335_1) | exact hn335_1) (.int .i64 t328)).trans hx335_0; replace hx335_0 := (cell_far (p := ⟨gb334, 2, none⟩) (by first | (rw [add_block]; exact hn335_2) | (show (Addr.add _ _).block ≠ _; rw [add_block]; exact hn335_2) | exact hn335_2) (.int .i64 t329)).trans hx335_0; replace hx335_0 := (cell_far (p := ⟨gb334, 3, none⟩) (by first | (rw [add_block]; exact hn335_3) | (show (Addr.add _ _).block ≠ _; rw [add_block]; exact hn335_3) | exact hn335_3) (.slice Ao26 t330.length co26)).trans hx335_0; clear hn335_0; clear hn335_1; clear hn335_2; clear hn335_3; replace p335 := eq_true p335; replace q335 := eq_true q335; have p336 : 0 ≤ (2 : Int) := (by omega); have q336 : 2 < (t320.length : Int) := of_decide_eq_true (by first | (with_reducible assumption) | assumption); obtain ⟨ad336, e336, hx336_0⟩ := Kd.at_int (Kd.R_reads' HO323.out).2.2 2 p336 q336; obtain rfl : ad335 = ad336 := (by injection e336); (try simp only [show (2 : Int).toNat = 2 from rfl, Nat.reduceMul, Nat.reduceEqDiff, Go.Addr.add, ↓reduceIte] at hx336_0); have qi336 : (2 < t320.length) = True := eq_true (by omega); (try rw [show ((2 : Int)).toNat = 2 from rfl] at hx336_0); have hn336_0 : ad335.block ≠ gb334 := Kd.own_blk (Kd.R_ne HO323.out BK334.out (by decide)); have hn336_1 : ad335.block ≠ gb334 := Kd.own_blk (Kd.R_ne HO323.out BK334.out (by decide)); have hn336_2 : ad335.block ≠ gb334 := Kd.own_blk (Kd.R_ne HO323.out BK334.out (by decide)); have hn336_3 : ad335.block ≠ gb334 := Kd.own_blk (Kd.R_ne HO323.out BK334.out (by decide)); replace hx336_0 := (cell_far (p := ⟨gb334, 0, none⟩) (by first | (rw [add_block]; exact hn336_0) | (show (Addr.add _ _).block ≠ _; rw [add_block]; exact hn336_0) | exact hn336_0) (.int .i64 t327)).trans hx336_0; replace hx336_0 := (cell_far (p := ⟨gb334, 1, none⟩) (by first | (rw [add_block]; exact hn336_1) | (show (Addr.add _ _).block ≠ _; rw [add_block]; exact hn336_1) | exact hn336_1) (.int .i64 t328)).trans hx336_0; replace hx336_0 := (cell_far (p := ⟨gb334, 2, none⟩) (by first | (rw [add_block]; exact hn336_2) | (show (Addr.add _ _).block ≠ _; rw [add_block]; exact hn336_2) | exact hn336_2) (.int .i64 t329)).trans hx336_0; replace hx336_0 := (cell_far (p := ⟨gb334, 3, none⟩) (by first | (rw [add_block]; exact hn336_3) | (show (Addr.add _ _).block ≠ _; rw [add_block]; exact hn336_3) | exact hn336_3) (.slice Ao26 t330.length co26)).trans hx336_0; clear hn336_0; clear hn336_1; clear hn336_2; clear hn336_3; replace p336 := eq_true p336; replace q336 := eq_true q336))
        go_ret
        exact ⟨by first | rfl | (simp [errW_none, errW_some] <;> rfl) | (simp [*, errW_none, errW_some] <;> rfl), by repeat first | refine zS ?_ GE334.out | exact HB.out | apply zA | apply zN | apply zD⟩
      ·rw [if_neg c8] at H
       exact absurd H (by simp)
     ·rw [if_neg c7] at H
      have c7b0 : ((rd t320 0) == 3) = false := beq_eq_false_iff_ne.mpr c7
      have c7b1 : ((rd t320 0) != 3) = true := bne_iff_ne.mpr c7
      obtain rfl := Option.some.inj H
      go_enter Try.func12, Try.ntmps12
      go_wp2_with (first | ((with_reducible refine gate_callee (f := 11) rfl ?_); refine ga (some 6) rfl rfl Try.func11 (by kernel_rfl) rfl #[.int .i64 10, .int .i64 3] rfl ?_; (with_reducible refine (preset_Even.calls k 10 3 t320 t321 _ A1.out).mono ?_); rintro e w28 ⟨v322, rfl, ho0, hb⟩; refine ⟨_, rfl, ?_⟩; have HO323 := zM (Kd.R_lower ho0 (below_size (by first | exact HB.out | exact zN HB.out _ | exact zD HB.out))); replace HB := zM (below_step (by first | exact HB.out | exact zN HB.out _ | exact zD HB.out) hb); (try clear hb); (try clear hb2); (try clear hk); (try clear hi); (try clear ho0)) | ((with_reducible refine gate_dst (N := 10) rfl ?_); (try (refine gate_guard (by rfl) ?_; dsimp only)); refine Kd.R_lit (Kd.int .i64) _ 3 ?hg (N := 10) ?hd (xs := ([1, 2, 3] : List Int)) (inner := [.int .i64 1, .int .i64 2, .int .i64 3]) (ok := fun _ => True) (okp := fun _ => True) ?hr ?hp (fun _ hk => hk) trivial (Below.refl _ _) (Nat.le_refl _) (by simp) ?_; (case hd => rfl); (case hg => rfl); (case hr => first | (go_simp; done) | (go_simp; rfl)); (case hp => exact (Reps.one (show Kd.M (Kd.int .i64) _ _ _ 1 [.int .i64 1] from rfl) (Reps.one (show Kd.M (Kd.int .i64) _ _ _ 2 [.int .i64 2] from rfl) (Reps.one (show Kd.M (Kd.int .i64) _ _ _ 3 [.int .i64 3] from rfl) (Reps.none _ _))))); intro v325 w29 ho30 hb hg_ hnew_; clear hg_ hnew_; (first | rw [← Ny324.out] at ho30 | (simp only [Int.reduceToNat] at ho30; rw [← Ny324.out] at ho30)); have HO326 := zM (Kd.R_lower (Kd.R_new' ho30 (Kd.R_lt (by (with_reducible repeat (first | apply Kd.R_alloc | apply Kd.R_drewN | apply Kd.R_drew)); exact HO323.out))) (below_size (by first | exact HB.out | exact zN HB.out _ | exact zD HB.out))); replace HO323 := zM (Kd.R_elder' (by (with_reducible repeat (first | apply Kd.R_alloc | apply Kd.R_drewN | apply Kd.R_drew)); exact HO323.out) (Kd.R_base ho30) hb); replace HB := zM (below_step (by first | exact HB.out | exact zN HB.out _ | exact zD HB.out) hb); clear hb ho30; obtain ⟨Ao31, co31, eo31⟩ := Kd.R_slice HO326.out; subst eo31) | ((with_reducible refine gate_callee (f := 14) rfl ?_); refine ga (some 11) rfl rfl Try.func14 (by kernel_rfl) rfl #[.slice Ao31 y324.length co31, .int .i64 1, .int .i64 10, .int .i64 5] rfl ?_; (with_reducible refine (preset_Lay.calls k _ _ y324 1 10 5 t327 t328 t329 t330 t333 _ ?side1 ?side2 A2.out).mono ?_); (case side1 => repeat (first | exact (Kd.R_reads' HO326.out).2.2 | (with_reducible refine Kd.C_alloc ?_ _) | (with_reducible refine Kd.C_drewN ?_ _) | (with_reducible refine Kd.C_drew ?_))); (case side2 => exact (Kd.R_reads' HO326.out).2.1); rintro e w32 ⟨v331, rfl, ho0, hb⟩; refine ⟨_, rfl, ?_⟩; have HO332 := zM (Kd.N_lower (Kd.N_mono (ok' := fun k_ => some k_ ≠ (v322 : Value).ownBlock ∧ some k_ ≠ (.slice Ao31 y324.length co31 : Value).ownBlock) ho0 (fun k_ hk_ => ⟨(Kd.fresh' (Kd.R_lt (by (with_reducible repeat (first | apply Kd.R_alloc | apply Kd.R_drewN | apply Kd.R_drew)); exact HO323.out)) k_ hk_), (Kd.fresh' (Kd.R_lt (by (with_reducible repeat (first | apply Kd.R_alloc | apply Kd.R_drewN | apply Kd.R_drew)); exact HO326.out)) k_ hk_)⟩)) (below_size (by first | exact HB.out | exact zN HB.out _ | exact zD HB.out))); replace HO323 := zM (Kd.R_below (by (with_reducible repeat (first | apply Kd.R_alloc | apply Kd.R_drewN | apply Kd.R_drew)); exact HO323.out) hb); replace HO326 := zM (Kd.R_below (by (with_reducible repeat (first | apply Kd.R_alloc | apply Kd.R_drewN | apply Kd.R_drew)); exact HO326.out) hb); replace HB := zM (below_step (by first | exact HB.out | exact zN HB.out _ | exact zD HB.out) hb); (try clear hb); (try clear hb2); (try clear hk); (try clear hi); (try clear ho0)) | ((with_reducible refine gate_dst (N := 3) rfl ?_); (try (refine gate_guard (by rfl) ?_; dsimp only)); refine box_event ?hg (N := 3) ?hd (cs := #[.int .i64 0, .int .i64 0, .int .i64 0, .slice none 0 0]) (t := 31) ?hr ?_; (case hd => rfl); (case hg => rfl); (case hr => first | (go_simp; done) | (go_simp; rfl)); intro gb334 hg w33 hbox hb; have BK334 := zM (hbox); have GW334 := zM ((by rw [hg]; exact (below_size (by first | exact HB.out | exact zN HB.out _ | exact zD HB.out)) : w.heap.size ≤ gb334)); have GE334 := GW334; replace HO323 := zM (Kd.R_below (by (with_reducible repeat (first | apply Kd.R_alloc | apply Kd.R_drewN | apply Kd.R_drew)); exact HO323.out) hb); replace HO326 := zM (Kd.R_below (by (with_reducible repeat (first | apply Kd.R_alloc | apply Kd.R_drewN | apply Kd.R_drew)); exact HO326.out) hb); replace HO332 := zM (Kd.N_below (Kd.N_elderB (by (with_reducible repeat (first | apply Kd.N_alloc | apply Kd.N_drewN | apply Kd.N_drew)); exact HO332.out) gb334 (Nat.le_of_eq hg.symm)) hb); replace HB := zM (below_step (by first | exact HB.out | exact zN HB.out _ | exact zD HB.out) hb); clear hb hbox hg; obtain ⟨hcz34_0, hcz34_1, hcz34_2, hcz34_3, hfz34_0, hfz34_1, hfz34_2, hfz34_3⟩ := cz4 BK334.out; obtain ⟨Ao35, co35, eo35⟩ := Kd.N_slice HO332.out; subst eo35; obtain ⟨Ao36, co36, eo36⟩ := Kd.R_slice HO323.out; subst eo36; have p335 : 0 ≤ (0 : Int) := (by omega); have q335 : 0 < (t320.length : Int) := of_decide_eq_true (by first | (with_reducible assumption) | assumption); obtain ⟨ad335, e335, hx335_0⟩ := Kd.at_int (Kd.R_reads' HO323.out).2.2 0 p335 q335; cases e335; have qi335 : (0 < t320.length) = True := eq_true (by omega); (try rw [show ((0 : Int)).toNat = 0 from rfl] at hx335_0); (try rw [Addr.add_zero'] at hx335_0); have hn335_0 : ad335.block ≠ gb334 := Kd.own_blk (Kd.R_ne HO323.out BK334.out (by decide)); have hn335_1 : ad335.block ≠ gb334 := Kd.own_blk (Kd.R_ne HO323.out BK334.out (by decide)); have hn335_2 : ad335.block ≠ gb334 := Kd.own_blk (Kd.R_ne HO323.out BK334.out (by decide)); have hn335_3 : ad335.block ≠ gb334 := Kd.own_blk (Kd.R_ne HO323.out BK334.out (by decide)); replace hx335_0 := (cell_far (p := ⟨gb334, 0, none⟩) (by first | (rw [add_block]; exact hn335_0) | (show (Addr.add _ _).block ≠ _; rw [add_block]; exact hn335_0) | exact hn335_0) (.int .i64 t327)).trans hx335_0; replace hx335_0 := (cell_far (p := ⟨gb334, 1, none⟩) (by first | (rw [add_block]; exact hn335_1) | (show (Addr.add _ _).block ≠ _; rw [add_block]; exact hn335_1) | exact hn335_1) (.int .i64 t328)).trans hx335_0; replace hx335_0 := (cell_far (p := ⟨gb334, 2, none⟩) (by first | (rw [add_block]; exact hn335_2) | (show (Addr.add _ _).block ≠ _; rw [add_block]; exact hn335_2) | exact hn335_2) (.int .i64 t329)).trans hx335_0; replace hx335_0 := (cell_far (p := ⟨gb334, 3, none⟩) (by first | (rw [add_block]; exact hn335_3) | (show (Addr.add _ _).block ≠ _; rw [add_block]; exact hn335_3) | exact hn335_3) (.slice Ao35 t330.length co35)).trans hx335_0; clear hn335_0; clear hn335_1; clear hn335_2; clear hn335_3; replace p335 := eq_true p335; replace q335 := eq_true q335))
      go_ret
      exact ⟨by first | rfl | (simp [errW_none, errW_some] <;> rfl) | (simp [*, errW_none, errW_some] <;> rfl), by repeat first | refine zS ?_ GE334.out | exact HB.out | apply zA | apply zN | apply zD⟩
    ·rw [if_neg c6] at H
     exact absurd H (by simp)
   ·rw [if_neg c5] at H
    have c5b0 : ((t320.length : Int) == 3) = false := beq_eq_false_iff_ne.mpr c5
    have c5b1 : ((t320.length : Int) != 3) = true := bne_iff_ne.mpr c5
    obtain rfl := Option.some.inj H
    go_enter Try.func12, Try.ntmps12
    go_wp2_with (first | ((with_reducible refine gate_callee (f := 11) rfl ?_); refine ga (some 6) rfl rfl Try.func11 (by kernel_rfl) rfl #[.int .i64 10, .int .i64 3] rfl ?_; (with_reducible refine (preset_Even.calls k 10 3 t320 t321 _ A1.out).mono ?_); rintro e w37 ⟨v322, rfl, ho0, hb⟩; refine ⟨_, rfl, ?_⟩; have HO323 := zM (Kd.R_lower ho0 (below_size (by first | exact HB.out | exact zN HB.out _ | exact zD HB.out))); replace HB := zM (below_step (by first | exact HB.out | exact zN HB.out _ | exact zD HB.out) hb); (try clear hb); (try clear hb2); (try clear hk); (try clear hi); (try clear ho0)) | ((with_reducible refine gate_dst (N := 10) rfl ?_); (try (refine gate_guard (by rfl) ?_; dsimp only)); refine Kd.R_lit (Kd.int .i64) _ 3 ?hg (N := 10) ?hd (xs := ([1, 2, 3] : List Int)) (inner := [.int .i64 1, .int .i64 2, .int .i64 3]) (ok := fun _ => True) (okp := fun _ => True) ?hr ?hp (fun _ hk => hk) trivial (Below.refl _ _) (Nat.le_refl _) (by simp) ?_; (case hd => rfl); (case hg => rfl); (case hr => first | (go_simp; done) | (go_simp; rfl)); (case hp => exact (Reps.one (show Kd.M (Kd.int .i64) _ _ _ 1 [.int .i64 1] from rfl) (Reps.one (show Kd.M (Kd.int .i64) _ _ _ 2 [.int .i64 2] from rfl) (Reps.one (show Kd.M (Kd.int .i64) _ _ _ 3 [.int .i64 3] from rfl) (Reps.none _ _))))); intro v325 w38 ho39 hb hg_ hnew_; clear hg_ hnew_; (first | rw [← Ny324.out] at ho39 | (simp only [Int.reduceToNat] at ho39; rw [← Ny324.out] at ho39)); have HO326 := zM (Kd.R_lower (Kd.R_new' ho39 (Kd.R_lt (by (with_reducible repeat (first | apply Kd.R_alloc | apply Kd.R_drewN | apply Kd.R_drew)); exact HO323.out))) (below_size (by first | exact HB.out | exact zN HB.out _ | exact zD HB.out))); replace HO323 := zM (Kd.R_elder' (by (with_reducible repeat (first | apply Kd.R_alloc | apply Kd.R_drewN | apply Kd.R_drew)); exact HO323.out) (Kd.R_base ho39) hb); replace HB := zM (below_step (by first | exact HB.out | exact zN HB.out _ | exact zD HB.out) hb); clear hb ho39; obtain ⟨Ao40, co40, eo40⟩ := Kd.R_slice HO326.out; subst eo40) | ((with_reducible refine gate_callee (f := 14) rfl ?_); refine ga (some 11) rfl rfl Try.func14 (by kernel_rfl) rfl #[.slice Ao40 y324.length co40, .int .i64 1, .int .i64 10, .int .i64 5] rfl ?_; (with_reducible refine (preset_Lay.calls k _ _ y324 1 10 5 t327 t328 t329 t330 t333 _ ?side1 ?side2 A2.out).mono ?_); (case side1 => repeat (first | exact (Kd.R_reads' HO326.out).2.2 | (with_reducible refine Kd.C_alloc ?_ _) | (with_reducible refine Kd.C_drewN ?_ _) | (with_reducible refine Kd.C_drew ?_))); (case side2 => exact (Kd.R_reads' HO326.out).2.1); rintro e w41 ⟨v331, rfl, ho0, hb⟩; refine ⟨_, rfl, ?_⟩; have HO332 := zM (Kd.N_lower (Kd.N_mono (ok' := fun k_ => some k_ ≠ (v322 : Value).ownBlock ∧ some k_ ≠ (.slice Ao40 y324.length co40 : Value).ownBlock) ho0 (fun k_ hk_ => ⟨(Kd.fresh' (Kd.R_lt (by (with_reducible repeat (first | apply Kd.R_alloc | apply Kd.R_drewN | apply Kd.R_drew)); exact HO323.out)) k_ hk_), (Kd.fresh' (Kd.R_lt (by (with_reducible repeat (first | apply Kd.R_alloc | apply Kd.R_drewN | apply Kd.R_drew)); exact HO326.out)) k_ hk_)⟩)) (below_size (by first | exact HB.out | exact zN HB.out _ | exact zD HB.out))); replace HO323 := zM (Kd.R_below (by (with_reducible repeat (first | apply Kd.R_alloc | apply Kd.R_drewN | apply Kd.R_drew)); exact HO323.out) hb); replace HO326 := zM (Kd.R_below (by (with_reducible repeat (first | apply Kd.R_alloc | apply Kd.R_drewN | apply Kd.R_drew)); exact HO326.out) hb); replace HB := zM (below_step (by first | exact HB.out | exact zN HB.out _ | exact zD HB.out) hb); (try clear hb); (try clear hb2); (try clear hk); (try clear hi); (try clear ho0)) | ((with_reducible refine gate_dst (N := 3) rfl ?_); (try (refine gate_guard (by rfl) ?_; dsimp only)); refine box_event ?hg (N := 3) ?hd (cs := #[.int .i64 0, .int .i64 0, .int .i64 0, .slice none 0 0]) (t := 31) ?hr ?_; (case hd => rfl); (case hg => rfl); (case hr => first | (go_simp; done) | (go_simp; rfl)); intro gb334 hg w42 hbox hb; have BK334 := zM (hbox); have GW334 := zM ((by rw [hg]; exact (below_size (by first | exact HB.out | exact zN HB.out _ | exact zD HB.out)) : w.heap.size ≤ gb334)); have GE334 := GW334; replace HO323 := zM (Kd.R_below (by (with_reducible repeat (first | apply Kd.R_alloc | apply Kd.R_drewN | apply Kd.R_drew)); exact HO323.out) hb); replace HO326 := zM (Kd.R_below (by (with_reducible repeat (first | apply Kd.R_alloc | apply Kd.R_drewN | apply Kd.R_drew)); exact HO326.out) hb); replace HO332 := zM (Kd.N_below (Kd.N_elderB (by (with_reducible repeat (first | apply Kd.N_alloc | apply Kd.N_drewN | apply Kd.N_drew)); exact HO332.out) gb334 (Nat.le_of_eq hg.symm)) hb); replace HB := zM (below_step (by first | exact HB.out | exact zN HB.out _ | exact zD HB.out) hb); clear hb hbox hg; obtain ⟨hcz43_0, hcz43_1, hcz43_2, hcz43_3, hfz43_0, hfz43_1, hfz43_2, hfz43_3⟩ := cz4 BK334.out; obtain ⟨Ao44, co44, eo44⟩ := Kd.N_slice HO332.out; subst eo44; obtain ⟨Ao45, co45, eo45⟩ := Kd.R_slice HO323.out; subst eo45))
    go_ret
    exact ⟨by first | rfl | (simp [errW_none, errW_some] <;> rfl) | (simp [*, errW_none, errW_some] <;> rfl), by repeat first | refine zS ?_ GE334.out | exact HB.out | apply zA | apply zN | apply zD⟩
  ·rw [if_neg c4] at H
   have c4b0 : (t333 == 0) = false := beq_eq_false_iff_ne.mpr c4
   have c4b1 : (t333 != 0) = true := bne_iff_ne.mpr c4
   obtain rfl := Option.some.inj H
   go_enter Try.func12, Try.ntmps12
   go_wp2_with (first | ((with_reducible refine gate_callee (f := 11) rfl ?_); refine ga (some 6) rfl rfl Try.func11 (by kernel_rfl) rfl #[.int .i64 10, .int .i64 3] rfl ?_; (with_reducible refine (preset_Even.calls k 10 3 t320 t321 _ A1.out).mono ?_); rintro e w46 ⟨v322, rfl, ho0, hb⟩; refine ⟨_, rfl, ?_⟩; have HO323 := zM (Kd.R_lower ho0 (below_size (by first | exact HB.out | exact zN HB.out _ | exact zD HB.out))); replace HB := zM (below_step (by first | exact HB.out | exact zN HB.out _ | exact zD HB.out) hb); (try clear hb); (try clear hb2); (try clear hk); (try clear hi); (try clear ho0)) | ((with_reducible refine gate_dst (N := 10) rfl ?_); (try (refine gate_guard (by rfl) ?_; dsimp only)); refine Kd.R_lit (Kd.int .i64) _ 3 ?hg (N := 10) ?hd (xs := ([1, 2, 3] : List Int)) (inner := [.int .i64 1, .int .i64 2, .int .i64 3]) (ok := fun _ => True) (okp := fun _ => True) ?hr ?hp (fun _ hk => hk) trivial (Below.refl _ _) (Nat.le_refl _) (by simp) ?_; (case hd => rfl); (case hg => rfl); (case hr => first | (go_simp; done) | (go_simp; rfl)); (case hp => exact (Reps.one (show Kd.M (Kd.int .i64) _ _ _ 1 [.int .i64 1] from rfl) (Reps.one (show Kd.M (Kd.int .i64) _ _ _ 2 [.int .i64 2] from rfl) (Reps.one (show Kd.M (Kd.int .i64) _ _ _ 3 [.int .i64 3] from rfl) (Reps.none _ _))))); intro v325 w47 ho48 hb hg_ hnew_; clear hg_ hnew_; (first | rw [← Ny324.out] at ho48 | (simp only [Int.reduceToNat] at ho48; rw [← Ny324.out] at ho48)); have HO326 := zM (Kd.R_lower (Kd.R_new' ho48 (Kd.R_lt (by (with_reducible repeat (first | apply Kd.R_alloc | apply Kd.R_drewN | apply Kd.R_drew)); exact HO323.out))) (below_size (by first | exact HB.out | exact zN HB.out _ | exact zD HB.out))); replace HO323 := zM (Kd.R_elder' (by (with_reducible repeat (first | apply Kd.R_alloc | apply Kd.R_drewN | apply Kd.R_drew)); exact HO323.out) (Kd.R_base ho48) hb); replace HB := zM (below_step (by first | exact HB.out | exact zN HB.out _ | exact zD HB.out) hb); clear hb ho48; obtain ⟨Ao49, co49, eo49⟩ := Kd.R_slice HO326.out; subst eo49) | ((with_reducible refine gate_callee (f := 14) rfl ?_); refine ga (some 11) rfl rfl Try.func14 (by kernel_rfl) rfl #[.slice Ao49 y324.length co49, .int .i64 1, .int .i64 10, .int .i64 5] rfl ?_; (with_reducible refine (preset_Lay.calls k _ _ y324 1 10 5 t327 t328 t329 t330 t333 _ ?side1 ?side2 A2.out).mono ?_); (case side1 => repeat (first | exact (Kd.R_reads' HO326.out).2.2 | (with_reducible refine Kd.C_alloc ?_ _) | (with_reducible refine Kd.C_drewN ?_ _) | (with_reducible refine Kd.C_drew ?_))); (case side2 => exact (Kd.R_reads' HO326.out).2.1); rintro e w50 ⟨v331, rfl, ho0, hb⟩; refine ⟨_, rfl, ?_⟩; have HO332 := zM (Kd.N_lower (Kd.N_mono (ok' := fun k_ => some k_ ≠ (v322 : Value).ownBlock ∧ some k_ ≠ (.slice Ao49 y324.length co49 : Value).ownBlock) ho0 (fun k_ hk_ => ⟨(Kd.fresh' (Kd.R_lt (by (with_reducible repeat (first | apply Kd.R_alloc | apply Kd.R_drewN | apply Kd.R_drew)); exact HO323.out)) k_ hk_), (Kd.fresh' (Kd.R_lt (by (with_reducible repeat (first | apply Kd.R_alloc | apply Kd.R_drewN | apply Kd.R_drew)); exact HO326.out)) k_ hk_)⟩)) (below_size (by first | exact HB.out | exact zN HB.out _ | exact zD HB.out))); replace HO323 := zM (Kd.R_below (by (with_reducible repeat (first | apply Kd.R_alloc | apply Kd.R_drewN | apply Kd.R_drew)); exact HO323.out) hb); replace HO326 := zM (Kd.R_below (by (with_reducible repeat (first | apply Kd.R_alloc | apply Kd.R_drewN | apply Kd.R_drew)); exact HO326.out) hb); replace HB := zM (below_step (by first | exact HB.out | exact zN HB.out _ | exact zD HB.out) hb); (try clear hb); (try clear hb2); (try clear hk); (try clear hi); (try clear ho0)) | ((with_reducible refine gate_dst (N := 3) rfl ?_); (try (refine gate_guard (by rfl) ?_; dsimp only)); refine box_event ?hg (N := 3) ?hd (cs := #[.int .i64 0, .int .i64 0, .int .i64 0, .slice none 0 0]) (t := 31) ?hr ?_; (case hd => rfl); (case hg => rfl); (case hr => first | (go_simp; done) | (go_simp; rfl)); intro gb334 hg w51 hbox hb; have BK334 := zM (hbox); have GW334 := zM ((by rw [hg]; exact (below_size (by first | exact HB.out | exact zN HB.out _ | exact zD HB.out)) : w.heap.size ≤ gb334)); have GE334 := GW334; replace HO323 := zM (Kd.R_below (by (with_reducible repeat (first | apply Kd.R_alloc | apply Kd.R_drewN | apply Kd.R_drew)); exact HO323.out) hb); replace HO326 := zM (Kd.R_below (by (with_reducible repeat (first | apply Kd.R_alloc | apply Kd.R_drewN | apply Kd.R_drew)); exact HO326.out) hb); replace HO332 := zM (Kd.N_below (Kd.N_elderB (by (with_reducible repeat (first | apply Kd.N_alloc | apply Kd.N_drewN | apply Kd.N_drew)); exact HO332.out) gb334 (Nat.le_of_eq hg.symm)) hb); replace HB := zM (below_step (by first | exact HB.out | exact zN HB.out _ | exact zD HB.out) hb); clear hb hbox hg; obtain ⟨hcz52_0, hcz52_1, hcz52_2, hcz52_3, hfz52_0, hfz52_1, hfz52_2, hfz52_3⟩ := cz4 BK334.out; obtain ⟨Ao53, co53, eo53⟩ := Kd.N_slice HO332.out; subst eo53))
   go_ret
   exact ⟨by first | rfl | (simp [errW_none, errW_some] <;> rfl) | (simp [*, errW_none, errW_some] <;> rfl), by repeat first | refine zS ?_ GE334.out | exact HB.out | apply zA | apply zN | apply zD⟩
 ·rw [if_neg c3] at H
  have c3b0 : (t321 == 0) = false := beq_eq_false_iff_ne.mpr c3
  have c3b1 : (t321 != 0) = true := bne_iff_ne.mpr c3
  obtain rfl := Option.some.inj H
  go_enter Try.func12, Try.ntmps12
  go_wp2_with (first | ((with_reducible refine gate_callee (f := 11) rfl ?_); refine ga (some 6) rfl rfl Try.func11 (by kernel_rfl) rfl #[.int .i64 10, .int .i64 3] rfl ?_; (with_reducible refine (preset_Even.calls k 10 3 t320 t321 _ A1.out).mono ?_); rintro e w54 ⟨v322, rfl, ho0, hb⟩; refine ⟨_, rfl, ?_⟩; have HO323 := zM (Kd.R_lower ho0 (below_size (by first | exact HB.out | exact zN HB.out _ | exact zD HB.out))); replace HB := zM (below_step (by first | exact HB.out | exact zN HB.out _ | exact zD HB.out) hb); (try clear hb); (try clear hb2); (try clear hk); (try clear hi); (try clear ho0)) | ((with_reducible refine gate_dst (N := 10) rfl ?_); (try (refine gate_guard (by rfl) ?_; dsimp only)); refine Kd.R_lit (Kd.int .i64) _ 3 ?hg (N := 10) ?hd (xs := ([1, 2, 3] : List Int)) (inner := [.int .i64 1, .int .i64 2, .int .i64 3]) (ok := fun _ => True) (okp := fun _ => True) ?hr ?hp (fun _ hk => hk) trivial (Below.refl _ _) (Nat.le_refl _) (by simp) ?_; (case hd => rfl); (case hg => rfl); (case hr => first | (go_simp; done) | (go_simp; rfl)); (case hp => exact (Reps.one (show Kd.M (Kd.int .i64) _ _ _ 1 [.int .i64 1] from rfl) (Reps.one (show Kd.M (Kd.int .i64) _ _ _ 2 [.int .i64 2] from rfl) (Reps.one (show Kd.M (Kd.int .i64) _ _ _ 3 [.int .i64 3] from rfl) (Reps.none _ _))))); intro v325 w55 ho56 hb hg_ hnew_; clear hg_ hnew_; (first | rw [← Ny324.out] at ho56 | (simp only [Int.reduceToNat] at ho56; rw [← Ny324.out] at ho56)); have HO326 := zM (Kd.R_lower (Kd.R_new' ho56 (Kd.R_lt (by (with_reducible repeat (first | apply Kd.R_alloc | apply Kd.R_drewN | apply Kd.R_drew)); exact HO323.out))) (below_size (by first | exact HB.out | exact zN HB.out _ | exact zD HB.out))); replace HO323 := zM (Kd.R_elder' (by (with_reducible repeat (first | apply Kd.R_alloc | apply Kd.R_drewN | apply Kd.R_drew)); exact HO323.out) (Kd.R_base ho56) hb); replace HB := zM (below_step (by first | exact HB.out | exact zN HB.out _ | exact zD HB.out) hb); clear hb ho56; obtain ⟨Ao57, co57, eo57⟩ := Kd.R_slice HO326.out; subst eo57) | ((with_reducible refine gate_callee (f := 14) rfl ?_); refine ga (some 11) rfl rfl Try.func14 (by kernel_rfl) rfl #[.slice Ao57 y324.length co57, .int .i64 1, .int .i64 10, .int .i64 5] rfl ?_; (with_reducible refine (preset_Lay.calls k _ _ y324 1 10 5 t327 t328 t329 t330 t333 _ ?side1 ?side2 A2.out).mono ?_); (case side1 => repeat (first | exact (Kd.R_reads' HO326.out).2.2 | (with_reducible refine Kd.C_alloc ?_ _) | (with_reducible refine Kd.C_drewN ?_ _) | (with_reducible refine Kd.C_drew ?_))); (case side2 => exact (Kd.R_reads' HO326.out).2.1); rintro e w58 ⟨v331, rfl, ho0, hb⟩; refine ⟨_, rfl, ?_⟩; have HO332 := zM (Kd.N_lower (Kd.N_mono (ok' := fun k_ => some k_ ≠ (v322 : Value).ownBlock ∧ some k_ ≠ (.slice Ao57 y324.length co57 : Value).ownBlock) ho0 (fun k_ hk_ => ⟨(Kd.fresh' (Kd.R_lt (by (with_reducible repeat (first | apply Kd.R_alloc | apply Kd.R_drewN | apply Kd.R_drew)); exact HO323.out)) k_ hk_), (Kd.fresh' (Kd.R_lt (by (with_reducible repeat (first | apply Kd.R_alloc | apply Kd.R_drewN | apply Kd.R_drew)); exact HO326.out)) k_ hk_)⟩)) (below_size (by first | exact HB.out | exact zN HB.out _ | exact zD HB.out))); replace HO323 := zM (Kd.R_below (by (with_reducible repeat (first | apply Kd.R_alloc | apply Kd.R_drewN | apply Kd.R_drew)); exact HO323.out) hb); replace HO326 := zM (Kd.R_below (by (with_reducible repeat (first | apply Kd.R_alloc | apply Kd.R_drewN | apply Kd.R_drew)); exact HO326.out) hb); replace HB := zM (below_step (by first | exact HB.out | exact zN HB.out _ | exact zD HB.out) hb); (try clear hb); (try clear hb2); (try clear hk); (try clear hi); (try clear ho0)) | ((with_reducible refine gate_dst (N := 3) rfl ?_); (try (refine gate_guard (by rfl) ?_; dsimp only)); refine box_event ?hg (N := 3) ?hd (cs := #[.int .i64 0, .int .i64 0, .int .i64 0, .slice none 0 0]) (t := 31) ?hr ?_; (case hd => rfl); (case hg => rfl); (case hr => first | (go_simp; done) | (go_simp; rfl)); intro gb334 hg w59 hbox hb; have BK334 := zM (hbox); have GW334 := zM ((by rw [hg]; exact (below_size (by first | exact HB.out | exact zN HB.out _ | exact zD HB.out)) : w.heap.size ≤ gb334)); have GE334 := GW334; replace HO323 := zM (Kd.R_below (by (with_reducible repeat (first | apply Kd.R_alloc | apply Kd.R_drewN | apply Kd.R_drew)); exact HO323.out) hb); replace HO326 := zM (Kd.R_below (by (with_reducible repeat (first | apply Kd.R_alloc | apply Kd.R_drewN | apply Kd.R_drew)); exact HO326.out) hb); replace HO332 := zM (Kd.N_below (Kd.N_elderB (by (with_reducible repeat (first | apply Kd.N_alloc | apply Kd.N_drewN | apply Kd.N_drew)); exact HO332.out) gb334 (Nat.le_of_eq hg.symm)) hb); replace HB := zM (below_step (by first | exact HB.out | exact zN HB.out _ | exact zD HB.out) hb); clear hb hbox hg; obtain ⟨hcz60_0, hcz60_1, hcz60_2, hcz60_3, hfz60_0, hfz60_1, hfz60_2, hfz60_3⟩ := cz4 BK334.out; obtain ⟨Ao61, co61, eo61⟩ := Kd.N_slice HO332.out; subst eo61))
  go_ret
  exact ⟨by first | rfl | (simp [errW_none, errW_some] <;> rfl) | (simp [*, errW_none, errW_some] <;> rfl), by repeat first | refine zS ?_ GE334.out | exact HB.out | apply zA | apply zN | apply zD⟩
end Go.Proofs.Ytplngfammfdemaa.Q
end
section
namespace Go.Proofs.Ytplngfammfdemaa.Q
open Go.RowKit Go.Proofs.Ytplngfammfdemaa Go.Proofs.YtplngfammfdemaaW.PrintWords Go.Proofs.YtplngfammfdemaaW.PrintLast Go.Proofs.YtplngfammfdemaaW.PrintMore
attribute [local go_sem] max2_int min2_int max_two min_two max_three min_three max_four min_four   -- for this text's walks alone
set_option linter.unusedVariables false
set_option linter.unusedSimpArgs false
def backseatref11_At.l0 : Nat → Int → List Int → Int → Int → Option (Int)
  | 0, _, _, _, _ => none
  | k + 1, x1, x7, x8, x9 => if x9 < x8 then (if 0 ≤ x9 then (if x9 < (x7.length : Int) then (if (rd x7 x9) = x1 then (some x9) else (backseatref11_At.l0 k x1 x7 x8 (wrap64 (x9 + 1)))) else (none)) else (none)) else (some (-1))
def backseatref11_At.f (k : Nat) (l0 : List Int) (a1 : Int) : Option (Int) := backseatref11_At.l0 k a1 l0 (l0.length : Int) 0
theorem backseatref11_At.mono_l : ∀ k, (∀ y0 y1 y2 y3, LeO (backseatref11_At.l0 k y0 y1 y2 y3) (backseatref11_At.l0 (k + 1) y0 y1 y2 y3))
  | 0 => fun _ _ _ _ r h => by simp [backseatref11_At.l0] at h
  | k + 1 => by
    have ih0 := backseatref11_At.mono_l k
    · intro y0 y1 y2 y3
      unfold backseatref11_At.l0
      repeat' first
      | (with_reducible exact ih0 _ _ _ _)
      | (with_reducible exact LeO.refl _)
      | (with_reducible exact LeO.none _)
      | (with_reducible refine LeO.ite ?_ ?_)
      | (with_reducible refine LeO.bind ?_ (fun _ => ?_))
      | exact ih0 _ _ _ _
      | exact LeO.none _
      | refine LeO.ite ?_ ?_
      | refine LeO.bind ?_ (fun _ => ?_)
theorem backseatref11_At.mono : ∀ a0 a1 k, LeO (backseatref11_At.f k a0 a1) (backseatref11_At.f (k + 1) a0 a1) := by
  intro a0 a1 k
  have ih0 := backseatref11_At.mono_l k
  unfold backseatref11_At.f
  repeat' first
      | (with_reducible exact ih0 _ _ _ _)
      | (with_reducible exact LeO.refl _)
      | (with_reducible exact LeO.none _)
      | (with_reducible refine LeO.ite ?_ ?_)
      | (with_reducible refine LeO.bind ?_ (fun _ => ?_))
      | exact ih0 _ _ _ _
      | exact LeO.none _
      | refine LeO.ite ?_ ?_
      | refine LeO.bind ?_ (fun _ => ?_)
set_option maxHeartbeats 8000000 in
set_option maxRecDepth 100000 in
theorem backseatref11_At.calls (k : Nat) (A0 : Option Addr) (c0 : Nat) (l0 : List Int) (a1 : Int) (r : Int) (w : World) (hr0 : Kd.C (Kd.int .i64) w A0 l0.length l0) (hc0 : l0.length ≤ c0) (h : backseatref11_At.f k l0 a1 = some r) :
    Calls Try.prog 52 #[.slice A0 l0.length c0, .int .i64 a1] w fun e w' => e = .returned (.int .i64 r) ∧ Drawn0 w w' := by
  have HR0 := Aside0.mk hr0
  have HC0 := Aside0.mk hc0
  clear hr0 hc0
  have H : (backseatref11_At.l0 k a1 l0 (l0.length : Int) 0) = some r := h
  clear h
  have H' := Aside0.mk H
  clear H
  go_enter Try.func52, Try.ntmps52
  go_wp2
  go_loopg [9] k (fun kq v9 w' => ∃ (x9_1 : Int), v9 = .int .i64 x9_1 ∧ Aside0 (backseatref11_At.l0 kq a1 l0 (l0.length : Int) x9_1 = some r) ∧ Aside0 (kq ≤ k) ∧ Drawn0 w w')
  case atStart => exact ⟨(0), (by first | rfl | (simp; done) | (simp [*]; done)), H', ⟨Nat.le_refl _⟩, by repeat (first | exact Drawn0.refl _ | apply Drawn0.step)⟩
  case round =>
    clear H'
    try clear p2
    obtain ⟨x9_1, rfl, HA, HK1, ⟨m1, rfl⟩⟩ := hrel
    cases gk with
    | zero => exact absurd HA.out (by simp [backseatref11_At.l0])
    | succ k1 =>
      have H := HA.out
      clear HA
      simp only [backseatref11_At.l0] at H
      by_cases c3 : x9_1 < (l0.length : Int)
      · rw [if_pos c3] at H
        have c3b0 : decide (x9_1 < (l0.length : Int)) = true := decide_eq_true c3
        clear c3
        by_cases c4 : 0 ≤ x9_1
        · rw [if_pos c4] at H
          have c4b0 : decide (0 ≤ x9_1) = true := decide_eq_true c4
          clear c4
          by_cases c5 : x9_1 < (l0.length : Int)
          · rw [if_pos c5] at H
            have c5b0 : decide (x9_1 < (l0.length : Int)) = true := decide_eq_true c5
            clear c5
            by_cases c6 : (rd l0 x9_1) = a1
            · rw [if_pos c6] at H
              have c6b0 : ((rd l0 x9_1) == a1) = true := beq_iff_eq.mpr c6
              have c6b1 : ((rd l0 x9_1) != a1) = false := bne_eq_false_iff_eq.mpr c6
              clear c6
              obtain rfl := Option.some.inj H
              have p360 : 0 ≤ (x9_1 : Int) := of_decide_eq_true (by first | (with_reducible assumption) | assumption)
              have q360 : x9_1 < (l0.length : Int) := of_decide_eq_true (by first | (with_reducible assumption) | assumption)
              obtain ⟨ad360, e360, hx360_0⟩ := Kd.at_int HR0.out x9_1 p360 q360
              cases e360
              replace p360 := eq_true p360
              replace q360 := eq_true q360
              go_wp2
              go_ret
              exact ⟨by first | rfl | (simp; done) | (simp [*]; done), by repeat (first | exact Drawn0.refl _ | apply Drawn0.step)⟩
            · rw [if_neg c6] at H
              have c6b0 : ((rd l0 x9_1) == a1) = false := beq_eq_false_iff_ne.mpr c6
              have c6b1 : ((rd l0 x9_1) != a1) = true := bne_iff_ne.mpr c6
              have H' := Aside0.mk H
              clear H
              have p360 : 0 ≤ (x9_1 : Int) := of_decide_eq_true (by first | (with_reducible assumption) | assumption)
              have q360 : x9_1 < (l0.length : Int) := of_decide_eq_true (by first | (with_reducible assumption) | assumption)
              obtain ⟨ad360, e360, hx360_0⟩ := Kd.at_int HR0.out x9_1 p360 q360
              cases e360
              replace p360 := eq_true p360
              replace q360 := eq_true q360
              go_wp2
              go_roundg k1
              case measure => have := HK1.out; omega
              case rel => exact ⟨(wrap64 (x9_1 + 1)), (by first | rfl | (simp; done) | (simp [*]; done)), H', ⟨by have := HK1.out; omega⟩, by repeat (first | exact Drawn0.refl _ | apply Drawn0.step)⟩
          · rw [if_neg c5] at H
            exact absurd H (by simp)
        · rw [if_neg c4] at H
          exact absurd H (by simp)
      · rw [if_neg c3] at H
        have c3b0 : decide (x9_1 < (l0.length : Int)) = false := decide_eq_false c3
        clear c3
        obtain rfl := Option.some.inj H
        go_wp2
        go_ret
        exact ⟨by first | rfl | (simp; done) | (simp [*]; done), by repeat (first | exact Drawn0.refl _ | apply Drawn0.step)⟩
def backseatref11_in.f (a0 : Int) (a1 : Int) (a2 : Int) : Option (Bool) := if a0 ≥ a1 then (some (decide (a0 ≤ a2))) else (some false)
set_option maxHeartbeats 8000000 in
set_option maxRecDepth 100000 in
theorem backseatref11_in.calls (a0 : Int) (a1 : Int) (a2 : Int) (r : Bool) (w : World) (h : backseatref11_in.f a0 a1 a2 = some r) :
    Calls Try.prog 95 #[.int .i64 a0, .int .i64 a1, .int .i64 a2] w fun e w' => e = .returned (.bool r) ∧ Drawn0 w w' := by
  have H : (if a0 ≥ a1 then (some (decide (a0 ≤ a2))) else (some false)) = some r := h
  clear h
  by_cases c4 : a0 ≥ a1
  · rw [if_pos c4] at H
    have c4b0 : decide (a1 ≤ a0) = true := decide_eq_true c4
    clear c4
    obtain rfl := Option.some.inj H
    go_enter Try.func95, Try.ntmps95
    go_wp2
    go_ret
    exact ⟨by first | rfl | (simp; done) | (simp [*]; done), by repeat (first | exact Drawn0.refl _ | apply Drawn0.step)⟩
  · rw [if_neg c4] at H
    have c4b0 : decide (a1 ≤ a0) = false := decide_eq_false c4
    clear c4
    obtain rfl := Option.some.inj H
    go_enter Try.func95, Try.ntmps95
    go_wp2
    go_ret
    exact ⟨by first | rfl | (simp; done) | (simp [*]; done), by repeat (first | exact Drawn0.refl _ | apply Drawn0.step)⟩
def backseatref11_Size.f (a0 : Int) (a1 : Int) : Option (Bool) := (backseatref11_in.f a0 1 80).bind fun t361 => (if t361 = true then ((backseatref11_in.f a1 1 50).bind fun t362 => (some t362)) else (some false))
set_option maxHeartbeats 8000000 in
set_option maxRecDepth 100000 in
theorem backseatref11_Size.calls (a0 : Int) (a1 : Int) (r : Bool) (w : World) (h : backseatref11_Size.f a0 a1 = some r) :
    Calls Try.prog 53 #[.int .i64 a0, .int .i64 a1] w fun e w' => e = .returned (.bool r) ∧ Drawn0 w w' := by
  have H : ((backseatref11_in.f a0 1 80).bind fun t361 => (if t361 = true then ((backseatref11_in.f a1 1 50).bind fun t362 => (some t362)) else (some false))) = some r := h
  clear h
  replace H := Option.bind_eq_some_iff.mp H
  obtain ⟨t361, A30, H⟩ := H
  replace H : (if t361 = true then ((backseatref11_in.f a1 1 50).bind fun t362 => (some t362)) else (some false)) = some r := H
  have A3 := Aside0.mk A30
  clear A30
  by_cases c4 : t361 = true
  · subst c4
    have H1 : ((backseatref11_in.f a1 1 50).bind fun t362 => (some t362)) = some r := by rw [if_pos rfl] at H; exact H
    clear H
    have H := H1
    clear H1
    replace H := Option.bind_eq_some_iff.mp H
    obtain ⟨t362, A50, H⟩ := H
    replace H : (some t362) = some r := H
    have A5 := Aside0.mk A50
    clear A50
    obtain rfl := Option.some.inj H
    go_enter Try.func53, Try.ntmps53
    go_wp2_with (first | ((with_reducible refine gate_callee (f := 95) rfl ?_); refine goesL_ (some 6) rfl rfl Try.func95 (by kernel_rfl) rfl #[.int .i64 a0, .int .i64 1, .int .i64 80] rfl (by (try simp only [List.map_toArray, List.map_cons, List.map_nil]); first | done | rfl | (simp only [List.length_drop, List.length_take]; rfl)) ?_; (with_reducible refine (backseatref11_in.calls a0 1 80 true _ A3.out).mono ?_); rintro e w' ⟨rfl, ⟨nd, rfl⟩⟩; refine ⟨_, rfl, ?_⟩) | (go_at_call 95; (with_reducible refine (backseatref11_in.calls a1 1 50 t362 _ A5.out).mono ?_); rintro e w' ⟨rfl, ⟨nd, rfl⟩⟩))
    go_ret
    exact ⟨by first | rfl | (simp; done) | (simp [*]; done), by repeat (first | exact Drawn0.refl _ | apply Drawn0.step)⟩
  · replace c4 := Bool.eq_false_iff.mpr c4
    subst c4
    have H1 : (some false) = some r := by rw [if_neg (show ¬ (false = true) by decide)] at H; exact H
    clear H
    have H := H1
    clear H1
    obtain rfl := Option.some.inj H
    go_enter Try.func53, Try.ntmps53
    go_wp2_with (first | ((with_reducible refine gate_callee (f := 95) rfl ?_); refine goesL_ (some 6) rfl rfl Try.func95 (by kernel_rfl) rfl #[.int .i64 a0, .int .i64 1, .int .i64 80] rfl (by (try simp only [List.map_toArray, List.map_cons, List.map_nil]); first | done | rfl | (simp only [List.length_drop, List.length_take]; rfl)) ?_; (with_reducible refine (backseatref11_in.calls a0 1 80 false _ A3.out).mono ?_); rintro e w' ⟨rfl, ⟨nd, rfl⟩⟩; refine ⟨_, rfl, ?_⟩))
    go_ret
    exact ⟨by first | rfl | (simp; done) | (simp [*]; done), by repeat (first | exact Drawn0.refl _ | apply Drawn0.step)⟩
end Go.Proofs.Ytplngfammfdemaa.Q
end
