-- A copy of the text YtplngfammfdemaaQx18 with what this claim does not reach left out (prune.py, a program of this project).
import Derived.Test.YtplngfammfdemaaZpQx0
import Derived.Test.YtplngfammfdemaaZpQx3
import Derived.Test.YtplngfammfdemaaZpQx16
import Derived.Test.YtplngfammfdemaaZpQx17
namespace Go.Proofs.Ytplngfammfdemaa.Q
open Go.RowKit Go.Proofs.Ytplngfammfdemaa Go.Proofs.YtplngfammfdemaaW.PrintWords Go.Proofs.YtplngfammfdemaaW.PrintLast Go.Proofs.YtplngfammfdemaaW.PrintMore
attribute [local go_sem] max2_int min2_int max_two min_two max_three min_three max_four min_four   -- for this text's walks alone
set_option linter.unusedVariables false
set_option linter.unusedSimpArgs false
mutual
def backseatlaw12_PresetEven.j0 : Nat → Int → Int → List Int → Int → Bool → Option (Bool)
  | 0, _, _, _, _, _ => none
  | k + 1, x0, x1, x5, x6, x30 => if x30 = true then ((backseatlaw12_alive.f k).bind fun t350 => (if t350 = true then (if x6 = 1 then (some ((x5.length : Int) == 0)) else (some false)) else (some false))) else ((backseatref12_Even.f k x0 x1).bind fun t351 => (if (t351.length : Int) = 0 then ((backseatlaw12_alive.f k).bind fun t354 => (if t354 = true then (if x6 = 9 then (some ((x5.length : Int) == 0)) else (some false)) else (some false))) else (if x6 = 0 then (if (x5.length : Int) = x1 then ((backseatlaw12_alive.f k).bind fun t355 => (backseatlaw12_PresetEven.j1 k x0 x1 x5 t351 (!t355))) else (backseatlaw12_PresetEven.j1 k x0 x1 x5 t351 true)) else (backseatlaw12_PresetEven.j1 k x0 x1 x5 t351 true))))
def backseatlaw12_PresetEven.j1 : Nat → Int → Int → List Int → List Int → Bool → Option (Bool)
  | 0, _, _, _, _, _ => none
  | k + 1, x0, x1, x5, x7, x68 => if x68 = true then (some false) else (backseatlaw12_PresetEven.l0 k x0 x1 x5 x7 (wrap64 (x1 - 1)) x5 (x5.length : Int) 0)
def backseatlaw12_PresetEven.l0 : Nat → Int → Int → List Int → List Int → Int → List Int → Int → Int → Option (Bool)
  | 0, _, _, _, _, _, _, _, _ => none
  | k + 1, x0, x1, x5, x7, x8, x71, x72, x73 => if x73 < x72 then (if 0 ≤ x73 then (if x73 < (x71.length : Int) then (if x73 < (x7.length : Int) then (if (rd x71 x73) = (rd x7 x73) then (if 0 ≤ (wrap64 (x1 - 1)) then (if (wrap64 (x1 - 1)) < (x5.length : Int) then (if (rd x71 x73) < (rd x5 (wrap64 (x1 - 1))) then (some false) else (if (rd x71 x73) > (wrap64 ((rd x5 (wrap64 (x1 - 1))) + 1)) then (some false) else (backseatlaw12_PresetEven.l0 k x0 x1 x5 x7 (wrap64 (x8 + (rd x71 x73))) x71 x72 (wrap64 (x73 + 1))))) else (none)) else (none)) else (some false)) else (none)) else (none)) else (none)) else (some (x8 == x0))
end
def backseatlaw12_PresetEven.f (k : Nat) (a0 : Int) (a1 : Int) : Option (Bool) := (preset_Even.f k a0 a1).bind fun bt346 => (if a0 < 1 then (backseatlaw12_PresetEven.j0 k a0 a1 bt346.1 bt346.2 true) else (if a0 > 80 then (backseatlaw12_PresetEven.j0 k a0 a1 bt346.1 bt346.2 true) else (if a1 < 1 then (backseatlaw12_PresetEven.j0 k a0 a1 bt346.1 bt346.2 true) else (backseatlaw12_PresetEven.j0 k a0 a1 bt346.1 bt346.2 (decide (a1 > 8))))))
theorem backseatlaw12_PresetEven.mono_l : ∀ k, (∀ y0 y1 y2 y3 y4, LeO (backseatlaw12_PresetEven.j0 k y0 y1 y2 y3 y4) (backseatlaw12_PresetEven.j0 (k + 1) y0 y1 y2 y3 y4)) ∧ (∀ y0 y1 y2 y3 y4, LeO (backseatlaw12_PresetEven.j1 k y0 y1 y2 y3 y4) (backseatlaw12_PresetEven.j1 (k + 1) y0 y1 y2 y3 y4)) ∧ (∀ y0 y1 y2 y3 y4 y5 y6 y7, LeO (backseatlaw12_PresetEven.l0 k y0 y1 y2 y3 y4 y5 y6 y7) (backseatlaw12_PresetEven.l0 (k + 1) y0 y1 y2 y3 y4 y5 y6 y7))
  | 0 => ⟨fun _ _ _ _ _ r h => by simp [backseatlaw12_PresetEven.j0] at h, fun _ _ _ _ _ r h => by simp [backseatlaw12_PresetEven.j1] at h, fun _ _ _ _ _ _ _ _ r h => by simp [backseatlaw12_PresetEven.l0] at h⟩
  | k + 1 => by
    obtain ⟨ih0, ih1, ih2⟩ := backseatlaw12_PresetEven.mono_l k
    refine ⟨?_, ?_, ?_⟩
    · intro y0 y1 y2 y3 y4
      unfold backseatlaw12_PresetEven.j0
      repeat' first
      | (with_reducible exact ih0 _ _ _ _ _)
      | (with_reducible exact ih1 _ _ _ _ _)
      | (with_reducible exact ih2 _ _ _ _ _ _ _ _)
      | (with_reducible exact backseatlaw12_alive.mono _)
      | (with_reducible exact backseatref12_Even.mono _ _ _)
      | (with_reducible exact preset_Even.mono _ _ _)
      | (with_reducible exact LeO.refl _)
      | (with_reducible exact LeO.none _)
      | (with_reducible refine LeO.ite ?_ ?_)
      | (with_reducible refine LeO.bind ?_ (fun _ => ?_))
      | exact ih0 _ _ _ _ _
      | exact ih1 _ _ _ _ _
      | exact ih2 _ _ _ _ _ _ _ _
      | exact backseatlaw12_alive.mono _
      | exact backseatref12_Even.mono _ _ _
      | exact preset_Even.mono _ _ _
      | exact LeO.none _
      | refine LeO.ite ?_ ?_
      | refine LeO.bind ?_ (fun _ => ?_)
    · intro y0 y1 y2 y3 y4
      unfold backseatlaw12_PresetEven.j1
      repeat' first
      | (with_reducible exact ih0 _ _ _ _ _)
      | (with_reducible exact ih1 _ _ _ _ _)
      | (with_reducible exact ih2 _ _ _ _ _ _ _ _)
      | (with_reducible exact backseatlaw12_alive.mono _)
      | (with_reducible exact backseatref12_Even.mono _ _ _)
      | (with_reducible exact preset_Even.mono _ _ _)
      | (with_reducible exact LeO.refl _)
      | (with_reducible exact LeO.none _)
      | (with_reducible refine LeO.ite ?_ ?_)
      | (with_reducible refine LeO.bind ?_ (fun _ => ?_))
      | exact ih0 _ _ _ _ _
      | exact ih1 _ _ _ _ _
      | exact ih2 _ _ _ _ _ _ _ _
      | exact backseatlaw12_alive.mono _
      | exact backseatref12_Even.mono _ _ _
      | exact preset_Even.mono _ _ _
      | exact LeO.none _
      | refine LeO.ite ?_ ?_
      | refine LeO.bind ?_ (fun _ => ?_)
    · intro y0 y1 y2 y3 y4 y5 y6 y7
      unfold backseatlaw12_PresetEven.l0
      repeat' first
      | (with_reducible exact ih0 _ _ _ _ _)
      | (with_reducible exact ih1 _ _ _ _ _)
      | (with_reducible exact ih2 _ _ _ _ _ _ _ _)
      | (with_reducible exact backseatlaw12_alive.mono _)
      | (with_reducible exact backseatref12_Even.mono _ _ _)
      | (with_reducible exact preset_Even.mono _ _ _)
      | (with_reducible exact LeO.refl _)
      | (with_reducible exact LeO.none _)
      | (with_reducible refine LeO.ite ?_ ?_)
      | (with_reducible refine LeO.bind ?_ (fun _ => ?_))
      | exact ih0 _ _ _ _ _
      | exact ih1 _ _ _ _ _
      | exact ih2 _ _ _ _ _ _ _ _
      | exact backseatlaw12_alive.mono _
      | exact backseatref12_Even.mono _ _ _
      | exact preset_Even.mono _ _ _
      | exact LeO.none _
      | refine LeO.ite ?_ ?_
      | refine LeO.bind ?_ (fun _ => ?_)
theorem backseatlaw12_PresetEven.mono : ∀ a0 a1 k, LeO (backseatlaw12_PresetEven.f k a0 a1) (backseatlaw12_PresetEven.f (k + 1) a0 a1) := by
  intro a0 a1 k
  obtain ⟨ih0, ih1, ih2⟩ := backseatlaw12_PresetEven.mono_l k
  unfold backseatlaw12_PresetEven.f
  repeat' first
      | (with_reducible exact ih0 _ _ _ _ _)
      | (with_reducible exact ih1 _ _ _ _ _)
      | (with_reducible exact ih2 _ _ _ _ _ _ _ _)
      | (with_reducible exact backseatlaw12_alive.mono _)
      | (with_reducible exact backseatref12_Even.mono _ _ _)
      | (with_reducible exact preset_Even.mono _ _ _)
      | (with_reducible exact LeO.refl _)
      | (with_reducible exact LeO.none _)
      | (with_reducible refine LeO.ite ?_ ?_)
      | (with_reducible refine LeO.bind ?_ (fun _ => ?_))
      | exact ih0 _ _ _ _ _
      | exact ih1 _ _ _ _ _
      | exact ih2 _ _ _ _ _ _ _ _
      | exact backseatlaw12_alive.mono _
      | exact backseatref12_Even.mono _ _ _
      | exact preset_Even.mono _ _ _
      | exact LeO.none _
      | refine LeO.ite ?_ ?_
      | refine LeO.bind ?_ (fun _ => ?_)
set_option maxHeartbeats 8000000 in
set_option maxRecDepth 100000 in
theorem backseatlaw12_PresetEven.calls (k : Nat) (a0 : Int) (a1 : Int) (r : Bool) (w : World) (h : backseatlaw12_PresetEven.f k a0 a1 = some r) :
    Calls Try.prog 3 #[.int .i64 a0, .int .i64 a1] w fun e w' => e = .returned (.bool r) ∧ Below w.heap.size w w' := by
  have HB := Aside0.mk (Below.refl w.heap.size w)
  have H : ((preset_Even.f k a0 a1).bind fun bt346 => (if a0 < 1 then (backseatlaw12_PresetEven.j0 k a0 a1 bt346.1 bt346.2 true) else (if a0 > 80 then (backseatlaw12_PresetEven.j0 k a0 a1 bt346.1 bt346.2 true) else (if a1 < 1 then (backseatlaw12_PresetEven.j0 k a0 a1 bt346.1 bt346.2 true) else (backseatlaw12_PresetEven.j0 k a0 a1 bt346.1 bt346.2 (decide (a1 > 8))))))) = some r := h
  clear h
  replace H := Option.bind_eq_some_iff.mp H
  obtain ⟨⟨t346, t347⟩, A30, H⟩ := H
  replace H : (if a0 < 1 then (backseatlaw12_PresetEven.j0 k a0 a1 t346 t347 true) else (if a0 > 80 then (backseatlaw12_PresetEven.j0 k a0 a1 t346 t347 true) else (if a1 < 1 then (backseatlaw12_PresetEven.j0 k a0 a1 t346 t347 true) else (backseatlaw12_PresetEven.j0 k a0 a1 t346 t347 (decide (a1 > 8)))))) = some r := H
  have A3 := Aside0.mk A30
  clear A30
  have HC4 := Aside0.mk H
  clear H
  go_enter Try.func3, Try.ntmps3
  go_upto_region 2 with (first | ((with_reducible refine gate_callee (f := 11) rfl ?_); refine goesL_ (some 14) rfl rfl Try.func11 (by kernel_rfl) rfl #[.int .i64 a0, .int .i64 a1] rfl (by (try simp only [List.map_toArray, List.map_cons, List.map_nil]); first | done | rfl | (simp only [List.length_drop, List.length_take]; rfl)) ?_; (with_reducible refine (preset_Even.calls k a0 a1 t346 t347 _ A3.out).mono ?_); rintro e w5 ⟨v348, rfl, ho0, hb⟩; refine ⟨_, rfl, ?_⟩; have n0_ := Aside0.mk (Kd.R_lower ho0 (below_size (by repeat (first | (with_reducible first | exact HB.out | apply below_alloc | apply pw_below_drewN | apply below_drew1) | exact HB.out)))); have n1_ := Aside0.mk (below_step (by repeat (first | (with_reducible first | exact HB.out | apply below_alloc | apply pw_below_drewN | apply below_drew1) | exact HB.out)) hb); clear HB; have HO349 := n0_; have HB := n1_; clear n0_ n1_; (try clear hb); (try clear hb2); (try clear hk); (try clear hi); (try clear ho0)))
  (try simp only [Act.put, List.setIfInBounds_toArray, List.set_cons_zero, List.set_cons_succ])
  go_cut [30] (fun v30 wc => ∃ (kq : Nat) (x30_3 : Bool), v30 = .bool x30_3 ∧ Aside0 (backseatlaw12_PresetEven.j0 kq a0 a1 t346 t347 x30_3 = some r) ∧ Aside0 (kq ≤ k) ∧ Aside0 (Kd.R (Kd.int .i64) 3 wc w.heap.size (fun _ => True) v348 t346) ∧ Aside0 (Below w.heap.size w wc))
  case first =>
    have H := HC4.out
    clear HC4
    by_cases c6 : a0 < 1
    · rw [if_pos c6] at H
      have c6b0 : decide (a0 < 1) = true := decide_eq_true c6
      clear c6
      (first | rw [c6b0] | (simp only [i64_w, i32_w]; rw [c6b0]) | skip)
      have H' := Aside0.mk H
      clear H
      go_wp2
      go_meet
      case rel => exact ⟨_, (true), (by first | rfl | (simp; done) | (simp [*]; done)), H', ⟨by first | omega | exact Nat.le_refl _⟩, ⟨by (with_reducible repeat (first | apply Kd.R_alloc | apply Kd.R_drewN | apply Kd.R_drew)); exact HO349.out⟩, ⟨by repeat (first | (with_reducible first | exact HB.out | apply below_alloc | apply pw_below_drewN | apply below_drew1) | exact HB.out)⟩⟩
    · rw [if_neg c6] at H
      have c6b0 : decide (a0 < 1) = false := decide_eq_false c6
      clear c6
      (first | rw [c6b0] | (simp only [i64_w, i32_w]; rw [c6b0]) | skip)
      by_cases c7 : a0 > 80
      · rw [if_pos c7] at H
        have c7b0 : decide (80 < a0) = true := decide_eq_true c7
        clear c7
        have H' := Aside0.mk H
        clear H
        go_wp2
        go_meet
        case rel => exact ⟨_, (true), (by first | rfl | (simp; done) | (simp [*]; done)), H', ⟨by first | omega | exact Nat.le_refl _⟩, ⟨by (with_reducible repeat (first | apply Kd.R_alloc | apply Kd.R_drewN | apply Kd.R_drew)); exact HO349.out⟩, ⟨by repeat (first | (with_reducible first | exact HB.out | apply below_alloc | apply pw_below_drewN | apply below_drew1) | exact HB.out)⟩⟩
      · rw [if_neg c7] at H
        have c7b0 : decide (80 < a0) = false := decide_eq_false c7
        clear c7
        by_cases c8 : a1 < 1
        · rw [if_pos c8] at H
          have c8b0 : decide (a1 < 1) = true := decide_eq_true c8
          clear c8
          have H' := Aside0.mk H
          clear H
          go_wp2
          go_meet
          case rel => exact ⟨_, (true), (by first | rfl | (simp; done) | (simp [*]; done)), H', ⟨by first | omega | exact Nat.le_refl _⟩, ⟨by (with_reducible repeat (first | apply Kd.R_alloc | apply Kd.R_drewN | apply Kd.R_drew)); exact HO349.out⟩, ⟨by repeat (first | (with_reducible first | exact HB.out | apply below_alloc | apply pw_below_drewN | apply below_drew1) | exact HB.out)⟩⟩
        · rw [if_neg c8] at H
          have c8b0 : decide (a1 < 1) = false := decide_eq_false c8
          clear c8
          have H' := Aside0.mk H
          clear H
          go_wp2
          go_meet
          case rel => exact ⟨_, (decide (a1 > 8)), (by first | rfl | (simp; done) | (simp [*]; done)), H', ⟨by first | omega | exact Nat.le_refl _⟩, ⟨by (with_reducible repeat (first | apply Kd.R_alloc | apply Kd.R_drewN | apply Kd.R_drew)); exact HO349.out⟩, ⟨by repeat (first | (with_reducible first | exact HB.out | apply below_alloc | apply pw_below_drewN | apply below_drew1) | exact HB.out)⟩⟩
  case rest =>
    clear HC4
    try clear c1
    try clear p2
    try clear c3
    try clear c6
    try clear c6b0
    try clear c7
    try clear c7b0
    try clear c8
    try clear c8b0
    obtain ⟨kq, x30_3, rfl, HA, HJ3, HO_5, HB⟩ := hcut
    cases kq with
    | zero => exact absurd HA.out (by simp [backseatlaw12_PresetEven.j0])
    | succ kj3 =>
      have H := HA.out
      clear HA
      simp only [backseatlaw12_PresetEven.j0] at H
      by_cases c9 : x30_3 = true
      · subst c9
        have H1 : ((backseatlaw12_alive.f kj3).bind fun t350 => (if t350 = true then (if t347 = 1 then (some ((t346.length : Int) == 0)) else (some false)) else (some false))) = some r := by rw [if_pos rfl] at H; exact H
        clear H
        have H := H1
        clear H1
        replace H := Option.bind_eq_some_iff.mp H
        obtain ⟨t350, A100, H⟩ := H
        replace H : (if t350 = true then (if t347 = 1 then (some ((t346.length : Int) == 0)) else (some false)) else (some false)) = some r := H
        have A10 := Aside0.mk A100
        clear A100
        by_cases c11 : t350 = true
        · subst c11
          have H1 : (if t347 = 1 then (some ((t346.length : Int) == 0)) else (some false)) = some r := by rw [if_pos rfl] at H; exact H
          clear H
          have H := H1
          clear H1
          by_cases c12 : t347 = 1
          · rw [if_pos c12] at H
            have c12b0 : (t347 == 1) = true := beq_iff_eq.mpr c12
            have c12b1 : (t347 != 1) = false := bne_eq_false_iff_eq.mpr c12
            clear c12
            obtain rfl := Option.some.inj H
            go_wp2_with (first | ((with_reducible refine gate_callee (f := 12) rfl ?_); refine goesL_ (some 31) rfl rfl Try.func12 (by kernel_rfl) rfl #[] rfl (by (try simp only [List.map_toArray, List.map_cons, List.map_nil]); first | done | rfl | (simp only [List.length_drop, List.length_take]; rfl)) ?_; (with_reducible refine (backseatlaw12_alive.calls kj3  true _ A10.out).mono ?_); rintro e w13 ⟨rfl, hb⟩; refine ⟨_, rfl, ?_⟩; have n0_ := Aside0.mk (Kd.R_below (by (with_reducible repeat (first | apply Kd.R_alloc | apply Kd.R_drewN | apply Kd.R_drew)); exact HO_5.out) hb); have n1_ := Aside0.mk (below_step (by repeat (first | (with_reducible first | exact HB.out | apply below_alloc | apply pw_below_drewN | apply below_drew1) | exact HB.out)) hb); clear HO_5; clear HB; have HO_5 := n0_; have HB := n1_; clear n0_ n1_; (try clear hb); (try clear hb2); (try clear hk); (try clear hi); obtain ⟨Ao14, co14, eo14⟩ := Kd.R_slice HO_5.out; subst eo14))
            go_ret
            exact ⟨by first | rfl | (simp [errW_none, errW_some] <;> rfl) | (simp [*, errW_none, errW_some] <;> rfl), by repeat (first | (with_reducible first | exact HB.out | apply below_alloc | apply pw_below_drewN | apply below_drew1) | exact HB.out)⟩
          · rw [if_neg c12] at H
            have c12b0 : (t347 == 1) = false := beq_eq_false_iff_ne.mpr c12
            have c12b1 : (t347 != 1) = true := bne_iff_ne.mpr c12
            obtain rfl := Option.some.inj H
            go_wp2_with (first | ((with_reducible refine gate_callee (f := 12) rfl ?_); refine goesL_ (some 31) rfl rfl Try.func12 (by kernel_rfl) rfl #[] rfl (by (try simp only [List.map_toArray, List.map_cons, List.map_nil]); first | done | rfl | (simp only [List.length_drop, List.length_take]; rfl)) ?_; (with_reducible refine (backseatlaw12_alive.calls kj3  true _ A10.out).mono ?_); rintro e w15 ⟨rfl, hb⟩; refine ⟨_, rfl, ?_⟩; have n0_ := Aside0.mk (Kd.R_below (by (with_reducible repeat (first | apply Kd.R_alloc | apply Kd.R_drewN | apply Kd.R_drew)); exact HO_5.out) hb); have n1_ := Aside0.mk (below_step (by repeat (first | (with_reducible first | exact HB.out | apply below_alloc | apply pw_below_drewN | apply below_drew1) | exact HB.out)) hb); clear HO_5; clear HB; have HO_5 := n0_; have HB := n1_; clear n0_ n1_; (try clear hb); (try clear hb2); (try clear hk); (try clear hi)))
            go_ret
            exact ⟨by first | rfl | (simp [errW_none, errW_some] <;> rfl) | (simp [*, errW_none, errW_some] <;> rfl), by repeat (first | (with_reducible first | exact HB.out | apply below_alloc | apply pw_below_drewN | apply below_drew1) | exact HB.out)⟩
        · replace c11 := Bool.eq_false_iff.mpr c11
          subst c11
          have H1 : (some false) = some r := by rw [if_neg (show ¬ (false = true) by decide)] at H; exact H
          clear H
          have H := H1
          clear H1
          obtain rfl := Option.some.inj H
          go_wp2_with (first | ((with_reducible refine gate_callee (f := 12) rfl ?_); refine goesL_ (some 31) rfl rfl Try.func12 (by kernel_rfl) rfl #[] rfl (by (try simp only [List.map_toArray, List.map_cons, List.map_nil]); first | done | rfl | (simp only [List.length_drop, List.length_take]; rfl)) ?_; (with_reducible refine (backseatlaw12_alive.calls kj3  false _ A10.out).mono ?_); rintro e w16 ⟨rfl, hb⟩; refine ⟨_, rfl, ?_⟩; have n0_ := Aside0.mk (Kd.R_below (by (with_reducible repeat (first | apply Kd.R_alloc | apply Kd.R_drewN | apply Kd.R_drew)); exact HO_5.out) hb); have n1_ := Aside0.mk (below_step (by repeat (first | (with_reducible first | exact HB.out | apply below_alloc | apply pw_below_drewN | apply below_drew1) | exact HB.out)) hb); clear HO_5; clear HB; have HO_5 := n0_; have HB := n1_; clear n0_ n1_; (try clear hb); (try clear hb2); (try clear hk); (try clear hi)))
          go_ret
          exact ⟨by first | rfl | (simp [errW_none, errW_some] <;> rfl) | (simp [*, errW_none, errW_some] <;> rfl), by repeat (first | (with_reducible first | exact HB.out | apply below_alloc | apply pw_below_drewN | apply below_drew1) | exact HB.out)⟩
      · replace c9 := Bool.eq_false_iff.mpr c9
        subst c9
        have H1 : ((backseatref12_Even.f kj3 a0 a1).bind fun t351 => (if (t351.length : Int) = 0 then ((backseatlaw12_alive.f kj3).bind fun t354 => (if t354 = true then (if t347 = 9 then (some ((t346.length : Int) == 0)) else (some false)) else (some false))) else (if t347 = 0 then (if (t346.length : Int) = a1 then ((backseatlaw12_alive.f kj3).bind fun t355 => (backseatlaw12_PresetEven.j1 kj3 a0 a1 t346 t351 (!t355))) else (backseatlaw12_PresetEven.j1 kj3 a0 a1 t346 t351 true)) else (backseatlaw12_PresetEven.j1 kj3 a0 a1 t346 t351 true)))) = some r := by rw [if_neg (show ¬ (false = true) by decide)] at H; exact H
        clear H
        have H := H1
        clear H1
        replace H := Option.bind_eq_some_iff.mp H
        obtain ⟨t351, A170, H⟩ := H
        replace H : (if (t351.length : Int) = 0 then ((backseatlaw12_alive.f kj3).bind fun t354 => (if t354 = true then (if t347 = 9 then (some ((t346.length : Int) == 0)) else (some false)) else (some false))) else (if t347 = 0 then (if (t346.length : Int) = a1 then ((backseatlaw12_alive.f kj3).bind fun t355 => (backseatlaw12_PresetEven.j1 kj3 a0 a1 t346 t351 (!t355))) else (backseatlaw12_PresetEven.j1 kj3 a0 a1 t346 t351 true)) else (backseatlaw12_PresetEven.j1 kj3 a0 a1 t346 t351 true))) = some r := H
        have A17 := Aside0.mk A170
        clear A170
        by_cases c18 : (t351.length : Int) = 0
        · rw [if_pos c18] at H
          have c18b0 : ((t351.length : Int) == 0) = true := beq_iff_eq.mpr c18
          have c18b1 : ((t351.length : Int) != 0) = false := bne_eq_false_iff_eq.mpr c18
          clear c18
          replace H := Option.bind_eq_some_iff.mp H
          obtain ⟨t354, A190, H⟩ := H
          replace H : (if t354 = true then (if t347 = 9 then (some ((t346.length : Int) == 0)) else (some false)) else (some false)) = some r := H
          have A19 := Aside0.mk A190
          clear A190
          by_cases c20 : t354 = true
          · subst c20
            have H1 : (if t347 = 9 then (some ((t346.length : Int) == 0)) else (some false)) = some r := by rw [if_pos rfl] at H; exact H
            clear H
            have H := H1
            clear H1
            by_cases c21 : t347 = 9
            · rw [if_pos c21] at H
              have c21b0 : (t347 == 9) = true := beq_iff_eq.mpr c21
              have c21b1 : (t347 != 9) = false := bne_eq_false_iff_eq.mpr c21
              clear c21
              obtain rfl := Option.some.inj H
              go_wp2_with (first | ((with_reducible refine gate_callee (f := 13) rfl ?_); refine goesL_ (some 43) rfl rfl Try.func13 (by kernel_rfl) rfl #[.int .i64 a0, .int .i64 a1] rfl (by (try simp only [List.map_toArray, List.map_cons, List.map_nil]); first | done | rfl | (simp only [List.length_drop, List.length_take]; rfl)) ?_; (with_reducible refine (backseatref12_Even.calls kj3 a0 a1 t351 _ A17.out).mono ?_); rintro e w22 ⟨v352, rfl, ho0, hb⟩; refine ⟨_, rfl, ?_⟩; have n0_ := Aside0.mk (Kd.R_elder' (by (with_reducible repeat (first | apply Kd.R_alloc | apply Kd.R_drewN | apply Kd.R_drew)); exact HO_5.out) (Kd.R_base ho0) hb); have n1_ := Aside0.mk (Kd.R_lower (Kd.R_new' ho0 (Kd.R_lt (by (with_reducible repeat (first | apply Kd.R_alloc | apply Kd.R_drewN | apply Kd.R_drew)); exact HO_5.out))) (below_size (by repeat (first | (with_reducible first | exact HB.out | apply below_alloc | apply pw_below_drewN | apply below_drew1) | exact HB.out)))); have n2_ := Aside0.mk (below_step (by repeat (first | (with_reducible first | exact HB.out | apply below_alloc | apply pw_below_drewN | apply below_drew1) | exact HB.out)) hb); clear HO_5; clear HB; have HO_5 := n0_; have HO353 := n1_; have HB := n2_; clear n0_ n1_ n2_; (try clear hb); (try clear hb2); (try clear hk); (try clear hi); (try clear ho0); obtain ⟨Ao23, co23, eo23⟩ := Kd.R_slice HO353.out; subst eo23) | ((with_reducible refine gate_callee (f := 12) rfl ?_); refine goesL_ (some 47) rfl rfl Try.func12 (by kernel_rfl) rfl #[] rfl (by (try simp only [List.map_toArray, List.map_cons, List.map_nil]); first | done | rfl | (simp only [List.length_drop, List.length_take]; rfl)) ?_; (with_reducible refine (backseatlaw12_alive.calls kj3  true _ A19.out).mono ?_); rintro e w24 ⟨rfl, hb⟩; refine ⟨_, rfl, ?_⟩; have n0_ := Aside0.mk (Kd.R_below (by (with_reducible repeat (first | apply Kd.R_alloc | apply Kd.R_drewN | apply Kd.R_drew)); exact HO_5.out) hb); have n1_ := Aside0.mk (Kd.R_below (by (with_reducible repeat (first | apply Kd.R_alloc | apply Kd.R_drewN | apply Kd.R_drew)); exact HO353.out) hb); have n2_ := Aside0.mk (below_step (by repeat (first | (with_reducible first | exact HB.out | apply below_alloc | apply pw_below_drewN | apply below_drew1) | exact HB.out)) hb); clear HO_5; clear HO353; clear HB; have HO_5 := n0_; have HO353 := n1_; have HB := n2_; clear n0_ n1_ n2_; (try clear hb); (try clear hb2); (try clear hk); (try clear hi); obtain ⟨Ao25, co25, eo25⟩ := Kd.R_slice HO_5.out; subst eo25))
              go_ret
              exact ⟨by first | rfl | (simp [errW_none, errW_some] <;> rfl) | (simp [*, errW_none, errW_some] <;> rfl), by repeat (first | (with_reducible first | exact HB.out | apply below_alloc | apply pw_below_drewN | apply below_drew1) | exact HB.out)⟩
            · rw [if_neg c21] at H
              have c21b0 : (t347 == 9) = false := beq_eq_false_iff_ne.mpr c21
              have c21b1 : (t347 != 9) = true := bne_iff_ne.mpr c21
              obtain rfl := Option.some.inj H
              go_wp2_with (first | ((with_reducible refine gate_callee (f := 13) rfl ?_); refine goesL_ (some 43) rfl rfl Try.func13 (by kernel_rfl) rfl #[.int .i64 a0, .int .i64 a1] rfl (by (try simp only [List.map_toArray, List.map_cons, List.map_nil]); first | done | rfl | (simp only [List.length_drop, List.length_take]; rfl)) ?_; (with_reducible refine (backseatref12_Even.calls kj3 a0 a1 t351 _ A17.out).mono ?_); rintro e w26 ⟨v352, rfl, ho0, hb⟩; refine ⟨_, rfl, ?_⟩; have n0_ := Aside0.mk (Kd.R_elder' (by (with_reducible repeat (first | apply Kd.R_alloc | apply Kd.R_drewN | apply Kd.R_drew)); exact HO_5.out) (Kd.R_base ho0) hb); have n1_ := Aside0.mk (Kd.R_lower (Kd.R_new' ho0 (Kd.R_lt (by (with_reducible repeat (first | apply Kd.R_alloc | apply Kd.R_drewN | apply Kd.R_drew)); exact HO_5.out))) (below_size (by repeat (first | (with_reducible first | exact HB.out | apply below_alloc | apply pw_below_drewN | apply below_drew1) | exact HB.out)))); have n2_ := Aside0.mk (below_step (by repeat (first | (with_reducible first | exact HB.out | apply below_alloc | apply pw_below_drewN | apply below_drew1) | exact HB.out)) hb); clear HO_5; clear HB; have HO_5 := n0_; have HO353 := n1_; have HB := n2_; clear n0_ n1_ n2_; (try clear hb); (try clear hb2); (try clear hk); (try clear hi); (try clear ho0); obtain ⟨Ao27, co27, eo27⟩ := Kd.R_slice HO353.out; subst eo27) | ((with_reducible refine gate_callee (f := 12) rfl ?_); refine goesL_ (some 47) rfl rfl Try.func12 (by kernel_rfl) rfl #[] rfl (by (try simp only [List.map_toArray, List.map_cons, List.map_nil]); first | done | rfl | (simp only [List.length_drop, List.length_take]; rfl)) ?_; (with_reducible refine (backseatlaw12_alive.calls kj3  true _ A19.out).mono ?_); rintro e w28 ⟨rfl, hb⟩; refine ⟨_, rfl, ?_⟩; have n0_ := Aside0.mk (Kd.R_below (by (with_reducible repeat (first | apply Kd.R_alloc | apply Kd.R_drewN | apply Kd.R_drew)); exact HO_5.out) hb); have n1_ := Aside0.mk (Kd.R_below (by (with_reducible repeat (first | apply Kd.R_alloc | apply Kd.R_drewN | apply Kd.R_drew)); exact HO353.out) hb); have n2_ := Aside0.mk (below_step (by repeat (first | (with_reducible first | exact HB.out | apply below_alloc | apply pw_below_drewN | apply below_drew1) | exact HB.out)) hb); clear HO_5; clear HO353; clear HB; have HO_5 := n0_; have HO353 := n1_; have HB := n2_; clear n0_ n1_ n2_; (try clear hb); (try clear hb2); (try clear hk); (try clear hi)))
              go_ret
              exact ⟨by first | rfl | (simp [errW_none, errW_some] <;> rfl) | (simp [*, errW_none, errW_some] <;> rfl), by repeat (first | (with_reducible first | exact HB.out | apply below_alloc | apply pw_below_drewN | apply below_drew1) | exact HB.out)⟩
          · replace c20 := Bool.eq_false_iff.mpr c20
            subst c20
            have H1 : (some false) = some r := by rw [if_neg (show ¬ (false = true) by decide)] at H; exact H
            clear H
            have H := H1
            clear H1
            obtain rfl := Option.some.inj H
            go_wp2_with (first | ((with_reducible refine gate_callee (f := 13) rfl ?_); refine goesL_ (some 43) rfl rfl Try.func13 (by kernel_rfl) rfl #[.int .i64 a0, .int .i64 a1] rfl (by (try simp only [List.map_toArray, List.map_cons, List.map_nil]); first | done | rfl | (simp only [List.length_drop, List.length_take]; rfl)) ?_; (with_reducible refine (backseatref12_Even.calls kj3 a0 a1 t351 _ A17.out).mono ?_); rintro e w29 ⟨v352, rfl, ho0, hb⟩; refine ⟨_, rfl, ?_⟩; have n0_ := Aside0.mk (Kd.R_elder' (by (with_reducible repeat (first | apply Kd.R_alloc | apply Kd.R_drewN | apply Kd.R_drew)); exact HO_5.out) (Kd.R_base ho0) hb); have n1_ := Aside0.mk (Kd.R_lower (Kd.R_new' ho0 (Kd.R_lt (by (with_reducible repeat (first | apply Kd.R_alloc | apply Kd.R_drewN | apply Kd.R_drew)); exact HO_5.out))) (below_size (by repeat (first | (with_reducible first | exact HB.out | apply below_alloc | apply pw_below_drewN | apply below_drew1) | exact HB.out)))); have n2_ := Aside0.mk (below_step (by repeat (first | (with_reducible first | exact HB.out | apply below_alloc | apply pw_below_drewN | apply below_drew1) | exact HB.out)) hb); clear HO_5; clear HB; have HO_5 := n0_; have HO353 := n1_; have HB := n2_; clear n0_ n1_ n2_; (try clear hb); (try clear hb2); (try clear hk); (try clear hi); (try clear ho0); obtain ⟨Ao30, co30, eo30⟩ := Kd.R_slice HO353.out; subst eo30) | ((with_reducible refine gate_callee (f := 12) rfl ?_); refine goesL_ (some 47) rfl rfl Try.func12 (by kernel_rfl) rfl #[] rfl (by (try simp only [List.map_toArray, List.map_cons, List.map_nil]); first | done | rfl | (simp only [List.length_drop, List.length_take]; rfl)) ?_; (with_reducible refine (backseatlaw12_alive.calls kj3  false _ A19.out).mono ?_); rintro e w31 ⟨rfl, hb⟩; refine ⟨_, rfl, ?_⟩; have n0_ := Aside0.mk (Kd.R_below (by (with_reducible repeat (first | apply Kd.R_alloc | apply Kd.R_drewN | apply Kd.R_drew)); exact HO_5.out) hb); have n1_ := Aside0.mk (Kd.R_below (by (with_reducible repeat (first | apply Kd.R_alloc | apply Kd.R_drewN | apply Kd.R_drew)); exact HO353.out) hb); have n2_ := Aside0.mk (below_step (by repeat (first | (with_reducible first | exact HB.out | apply below_alloc | apply pw_below_drewN | apply below_drew1) | exact HB.out)) hb); clear HO_5; clear HO353; clear HB; have HO_5 := n0_; have HO353 := n1_; have HB := n2_; clear n0_ n1_ n2_; (try clear hb); (try clear hb2); (try clear hk); (try clear hi)))
            go_ret
            exact ⟨by first | rfl | (simp [errW_none, errW_some] <;> rfl) | (simp [*, errW_none, errW_some] <;> rfl), by repeat (first | (with_reducible first | exact HB.out | apply below_alloc | apply pw_below_drewN | apply below_drew1) | exact HB.out)⟩
        · rw [if_neg c18] at H
          have c18b0 : ((t351.length : Int) == 0) = false := beq_eq_false_iff_ne.mpr c18
          have c18b1 : ((t351.length : Int) != 0) = true := bne_iff_ne.mpr c18
          have c18b2 : ¬ (t351 = []) := fun h_ => c18 (by rw [h_]; rfl)
          have HC32 := Aside0.mk H
          clear H
          go_upto_region 7 with (first | ((with_reducible refine gate_callee (f := 13) rfl ?_); refine goesL_ (some 43) rfl rfl Try.func13 (by kernel_rfl) rfl #[.int .i64 a0, .int .i64 a1] rfl (by (try simp only [List.map_toArray, List.map_cons, List.map_nil]); first | done | rfl | (simp only [List.length_drop, List.length_take]; rfl)) ?_; (with_reducible refine (backseatref12_Even.calls kj3 a0 a1 t351 _ A17.out).mono ?_); rintro e w33 ⟨v352, rfl, ho0, hb⟩; refine ⟨_, rfl, ?_⟩; have n0_ := Aside0.mk (Kd.R_elder' (by (with_reducible repeat (first | apply Kd.R_alloc | apply Kd.R_drewN | apply Kd.R_drew)); exact HO_5.out) (Kd.R_base ho0) hb); have n1_ := Aside0.mk (Kd.R_lower (Kd.R_new' ho0 (Kd.R_lt (by (with_reducible repeat (first | apply Kd.R_alloc | apply Kd.R_drewN | apply Kd.R_drew)); exact HO_5.out))) (below_size (by repeat (first | (with_reducible first | exact HB.out | apply below_alloc | apply pw_below_drewN | apply below_drew1) | exact HB.out)))); have n2_ := Aside0.mk (below_step (by repeat (first | (with_reducible first | exact HB.out | apply below_alloc | apply pw_below_drewN | apply below_drew1) | exact HB.out)) hb); clear HO_5; clear HB; have HO_5 := n0_; have HO353 := n1_; have HB := n2_; clear n0_ n1_ n2_; (try clear hb); (try clear hb2); (try clear hk); (try clear hi); (try clear ho0); obtain ⟨Ao34, co34, eo34⟩ := Kd.R_slice HO353.out; subst eo34))
          (try simp only [Act.put, List.setIfInBounds_toArray, List.set_cons_zero, List.set_cons_succ])
          go_cut [68] (fun v68 wc => ∃ (kq : Nat) (x68_31 : Bool), v68 = .bool x68_31 ∧ Aside0 (backseatlaw12_PresetEven.j1 kq a0 a1 t346 t351 x68_31 = some r) ∧ Aside0 (kq ≤ kj3) ∧ Aside0 (Kd.R (Kd.int .i64) 3 wc w.heap.size (fun k_ => some k_ ≠ ((.slice Ao34 t351.length co34) : Value).ownBlock) v348 t346) ∧ Aside0 (Kd.R (Kd.int .i64) 3 wc w.heap.size (fun k_ => some k_ ≠ (v348 : Value).ownBlock) (.slice Ao34 t351.length co34) t351) ∧ Aside0 (Below w.heap.size w wc))
          case first =>
            have H := HC32.out
            clear HC32
            by_cases c35 : t347 = 0
            · rw [if_pos c35] at H
              have c35b0 : (t347 == 0) = true := beq_iff_eq.mpr c35
              have c35b1 : (t347 != 0) = false := bne_eq_false_iff_eq.mpr c35
              clear c35
              (first | rw [c35b0] | (simp only [i64_w, i32_w]; rw [c35b0]) | skip)
              by_cases c36 : (t346.length : Int) = a1
              · rw [if_pos c36] at H
                have c36b0 : ((t346.length : Int) == a1) = true := beq_iff_eq.mpr c36
                have c36b1 : ((t346.length : Int) != a1) = false := bne_eq_false_iff_eq.mpr c36
                clear c36
                replace H := Option.bind_eq_some_iff.mp H
                obtain ⟨t355, A370, H⟩ := H
                replace H : (backseatlaw12_PresetEven.j1 kj3 a0 a1 t346 t351 (!t355)) = some r := H
                have A37 := Aside0.mk A370
                clear A370
                have H' := Aside0.mk H
                clear H
                obtain ⟨Ao38, co38, eo38⟩ := Kd.R_slice HO_5.out
                subst eo38
                go_wp2_with (first | (go_at_call 12; (with_reducible refine (backseatlaw12_alive.calls kj3  t355 _ A37.out).mono ?_); rintro e w39 ⟨rfl, hb⟩; have n0_ := Aside0.mk (Kd.R_below (by (with_reducible repeat (first | apply Kd.R_alloc | apply Kd.R_drewN | apply Kd.R_drew)); exact HO_5.out) hb); have n1_ := Aside0.mk (Kd.R_below (by (with_reducible repeat (first | apply Kd.R_alloc | apply Kd.R_drewN | apply Kd.R_drew)); exact HO353.out) hb); have n2_ := Aside0.mk (below_step (by repeat (first | (with_reducible first | exact HB.out | apply below_alloc | apply pw_below_drewN | apply below_drew1) | exact HB.out)) hb); clear HO_5; clear HO353; clear HB; have HO_5 := n0_; have HO353 := n1_; have HB := n2_; clear n0_ n1_ n2_; (try clear hb); (try clear hb2); (try clear hk); (try clear hi)))
                go_meet
                case rel => exact ⟨_, (!t355), (by first | rfl | (simp; done) | (simp [*]; done)), H', ⟨by have := HJ3.out; first | omega | exact Nat.le_refl _⟩, ⟨by (with_reducible repeat (first | apply Kd.R_alloc | apply Kd.R_drewN | apply Kd.R_drew)); exact Kd.R_mono HO_5.out (fun _ hk => hk.2)⟩, ⟨by (with_reducible repeat (first | apply Kd.R_alloc | apply Kd.R_drewN | apply Kd.R_drew)); exact Kd.R_mono HO353.out (fun _ hk => hk.2)⟩, ⟨by repeat (first | (with_reducible first | exact HB.out | apply below_alloc | apply pw_below_drewN | apply below_drew1) | exact HB.out)⟩⟩
              · rw [if_neg c36] at H
                have c36b0 : ((t346.length : Int) == a1) = false := beq_eq_false_iff_ne.mpr c36
                have c36b1 : ((t346.length : Int) != a1) = true := bne_iff_ne.mpr c36
                have H' := Aside0.mk H
                clear H
                obtain ⟨Ao40, co40, eo40⟩ := Kd.R_slice HO_5.out
                subst eo40
                go_wp2
                go_meet
                case rel => exact ⟨_, (true), (by first | rfl | (simp; done) | (simp [*]; done)), H', ⟨by have := HJ3.out; first | omega | exact Nat.le_refl _⟩, ⟨by (with_reducible repeat (first | apply Kd.R_alloc | apply Kd.R_drewN | apply Kd.R_drew)); exact Kd.R_mono HO_5.out (fun _ hk => hk.2)⟩, ⟨by (with_reducible repeat (first | apply Kd.R_alloc | apply Kd.R_drewN | apply Kd.R_drew)); exact Kd.R_mono HO353.out (fun _ hk => hk.2)⟩, ⟨by repeat (first | (with_reducible first | exact HB.out | apply below_alloc | apply pw_below_drewN | apply below_drew1) | exact HB.out)⟩⟩
            · rw [if_neg c35] at H
              have c35b0 : (t347 == 0) = false := beq_eq_false_iff_ne.mpr c35
              have c35b1 : (t347 != 0) = true := bne_iff_ne.mpr c35
              (first | rw [c35b0] | (simp only [i64_w, i32_w]; rw [c35b0]) | skip)
              have H' := Aside0.mk H
              clear H
              go_wp2
              go_meet
              case rel => exact ⟨_, (true), (by first | rfl | (simp; done) | (simp [*]; done)), H', ⟨by have := HJ3.out; first | omega | exact Nat.le_refl _⟩, ⟨by (with_reducible repeat (first | apply Kd.R_alloc | apply Kd.R_drewN | apply Kd.R_drew)); exact Kd.R_mono HO_5.out (fun _ hk => hk.2)⟩, ⟨by (with_reducible repeat (first | apply Kd.R_alloc | apply Kd.R_drewN | apply Kd.R_drew)); exact Kd.R_mono HO353.out (fun _ hk => hk.2)⟩, ⟨by repeat (first | (with_reducible first | exact HB.out | apply below_alloc | apply pw_below_drewN | apply below_drew1) | exact HB.out)⟩⟩
          case rest =>
            clear HC32
            try clear c1
            try clear c2
            try clear p2
            try clear c3
            try clear c6
            try clear c6b0
            try clear c7
            try clear c7b0
            try clear c8
            try clear c8b0
            try clear c9
            try clear c11
            try clear c12
            try clear c12b0
            try clear c12b1
            try clear c13
            try clear c18
            try clear c18b0
            try clear c18b1
            try clear c18b2
            try clear c20
            try clear c21
            try clear c21b0
            try clear c21b1
            try clear c35
            try clear c35b0
            try clear c35b1
            try clear c36
            try clear c36b0
            try clear c36b1
            try clear p2
            obtain ⟨kq, x68_31, rfl, HA, HJ31, HO_5, HO_7, HB⟩ := hcut
            cases kq with
            | zero => exact absurd HA.out (by simp [backseatlaw12_PresetEven.j1])
            | succ kj31 =>
              have H := HA.out
              clear HA
              simp only [backseatlaw12_PresetEven.j1] at H
              by_cases c41 : x68_31 = true
              · subst c41
                have H1 : (some false) = some r := by rw [if_pos rfl] at H; exact H
                clear H
                have H := H1
                clear H1
                obtain rfl := Option.some.inj H
                go_wp2
                go_ret
                exact ⟨by first | rfl | (simp [errW_none, errW_some] <;> rfl) | (simp [*, errW_none, errW_some] <;> rfl), by repeat (first | (with_reducible first | exact HB.out | apply below_alloc | apply pw_below_drewN | apply below_drew1) | exact HB.out)⟩
              · replace c41 := Bool.eq_false_iff.mpr c41
                subst c41
                have H1 : (backseatlaw12_PresetEven.l0 kj31 a0 a1 t346 t351 (wrap64 (a1 - 1)) t346 (t346.length : Int) 0) = some r := by rw [if_neg (show ¬ (false = true) by decide)] at H; exact H
                clear H
                have H := H1
                clear H1
                have H' := Aside0.mk H
                clear H
                obtain ⟨Ao42, co42, eo42⟩ := Kd.R_slice HO_5.out
                subst eo42
                go_wp2
                go_loopg [8, 73] kj31 (fun kq v8 v73 w' => ∃ (x8_3 : Int) (x73_3 : Int), v8 = .int .i64 x8_3 ∧ v73 = .int .i64 x73_3 ∧ Aside0 (backseatlaw12_PresetEven.l0 kq a0 a1 t346 t351 x8_3 t346 (t346.length : Int) x73_3 = some r) ∧ Aside0 (kq ≤ kj31) ∧ Aside0 (Kd.R (Kd.int .i64) 3 w' w.heap.size (fun k_ => some k_ ≠ ((.slice Ao34 t351.length co34) : Value).ownBlock) (.slice Ao42 t346.length co42) t346) ∧ Aside0 (Kd.R (Kd.int .i64) 3 w' w.heap.size (fun k_ => some k_ ≠ ((.slice Ao42 t346.length co42) : Value).ownBlock ∧ some k_ ≠ ((.slice Ao42 t346.length co42) : Value).ownBlock) (.slice Ao34 t351.length co34) t351) ∧ Aside0 (Kd.R (Kd.int .i64) 3 w' w.heap.size (fun k_ => some k_ ≠ ((.slice Ao34 t351.length co34) : Value).ownBlock) (.slice Ao42 t346.length co42) t346) ∧ Aside0 (Below w.heap.size w w'))
                case atStart => exact ⟨(wrap64 (a1 - 1)), (0), (by first | rfl | (simp; done) | (simp [*]; done)), (by first | rfl | (simp; done) | (simp [*]; done)), H', ⟨Nat.le_refl _⟩, ⟨by (with_reducible repeat (first | apply Kd.R_alloc | apply Kd.R_drewN | apply Kd.R_drew)); exact HO_5.out⟩, ⟨by (with_reducible repeat (first | apply Kd.R_alloc | apply Kd.R_drewN | apply Kd.R_drew)); exact Kd.R_mono HO_7.out (fun _ hk => ⟨hk, hk⟩)⟩, ⟨by (with_reducible repeat (first | apply Kd.R_alloc | apply Kd.R_drewN | apply Kd.R_drew)); exact HO_5.out⟩, ⟨by repeat (first | (with_reducible first | exact HB.out | apply below_alloc | apply pw_below_drewN | apply below_drew1) | exact HB.out)⟩⟩
                case round =>
                  clear H'
                  try clear c1
                  try clear c2
                  try clear p2
                  try clear c3
                  try clear c4
                  try clear c6
                  try clear c6b0
                  try clear p6
                  try clear c7
                  try clear c7b0
                  try clear c8
                  try clear c8b0
                  try clear c9
                  try clear c11
                  try clear c12
                  try clear c12b0
                  try clear c12b1
                  try clear c13
                  try clear c18
                  try clear c18b0
                  try clear c18b1
                  try clear c18b2
                  try clear c20
                  try clear c21
                  try clear c21b0
                  try clear c21b1
                  try clear c35
                  try clear c35b0
                  try clear c35b1
                  try clear c36
                  try clear c36b0
                  try clear c36b1
                  try clear c41
                  try clear p2
                  obtain ⟨x8_3, x73_3, rfl, rfl, HA, HK3, HO_5, HO_7, HO_71, HB⟩ := hrel
                  cases gk with
                  | zero => exact absurd HA.out (by simp [backseatlaw12_PresetEven.l0])
                  | succ k3 =>
                    have H := HA.out
                    clear HA
                    simp only [backseatlaw12_PresetEven.l0] at H
                    by_cases c43 : x73_3 < (t346.length : Int)
                    · rw [if_pos c43] at H
                      have c43b0 : decide (x73_3 < (t346.length : Int)) = true := decide_eq_true c43
                      clear c43
                      by_cases c44 : 0 ≤ x73_3
                      · rw [if_pos c44] at H
                        have c44b0 : decide (0 ≤ x73_3) = true := decide_eq_true c44
                        clear c44
                        by_cases c45 : x73_3 < (t346.length : Int)
                        · rw [if_pos c45] at H
                          have c45b0 : decide (x73_3 < (t346.length : Int)) = true := decide_eq_true c45
                          clear c45
                          by_cases c46 : x73_3 < (t351.length : Int)
                          · rw [if_pos c46] at H
                            have c46b0 : decide (x73_3 < (t351.length : Int)) = true := decide_eq_true c46
                            clear c46
                            by_cases c47 : (rd t346 x73_3) = (rd t351 x73_3)
                            · rw [if_pos c47] at H
                              have c47b0 : ((rd t346 x73_3) == (rd t351 x73_3)) = true := beq_iff_eq.mpr c47
                              have c47b1 : ((rd t346 x73_3) != (rd t351 x73_3)) = false := bne_eq_false_iff_eq.mpr c47
                              clear c47
                              obtain ⟨ji48, hji48⟩ : ∃ j_ : Int, (wrap64 (a1 - 1)) = j_ := ⟨_, rfl⟩
                              replace H : (if 0 ≤ (ji48) then (if (ji48) < (t346.length : Int) then (if (rd t346 x73_3) < (rd t346 (ji48)) then (some false) else (if (rd t346 x73_3) > (wrap64 ((rd t346 (ji48)) + 1)) then (some false) else (backseatlaw12_PresetEven.l0 k3 a0 a1 t346 t351 (wrap64 (x8_3 + (rd t346 x73_3))) t346 (t346.length : Int) (wrap64 (x73_3 + 1))))) else (none)) else (none)) = some r := by first | (rw [hji48] at H; exact H) | (simp only [hji48] at H ⊢; exact H)
                              have hji48w : (IntKind.i64.wrap (a1 - 1)) = ji48 := (i64_w _).trans hji48
                              by_cases c49 : 0 ≤ (ji48)
                              · rw [if_pos c49] at H
                                have c49b0 : decide (0 ≤ (ji48)) = true := decide_eq_true c49
                                clear c49
                                by_cases c50 : (ji48) < (t346.length : Int)
                                · rw [if_pos c50] at H
                                  have c50b0 : decide ((ji48) < (t346.length : Int)) = true := decide_eq_true c50
                                  clear c50
                                  by_cases c51 : (rd t346 x73_3) < (rd t346 (ji48))
                                  · rw [if_pos c51] at H
                                    have c51b0 : decide ((rd t346 x73_3) < (rd t346 (ji48))) = true := decide_eq_true c51
                                    clear c51
                                    obtain rfl := Option.some.inj H
                                    have p356 : 0 ≤ (x73_3 : Int) := of_decide_eq_true (by first | (with_reducible assumption) | assumption)
                                    have q356 : x73_3 < (t346.length : Int) := of_decide_eq_true (by first | (with_reducible assumption) | assumption)
                                    obtain ⟨ad356, e356, hx356_0⟩ := Kd.at_int (Kd.R_reads' HO_71.out).2.2 x73_3 p356 q356
                                    cases e356
                                    replace p356 := eq_true p356
                                    replace q356 := eq_true q356
                                    have p357 : 0 ≤ (x73_3 : Int) := of_decide_eq_true (by first | (with_reducible assumption) | assumption)
                                    have q357 : x73_3 < (t351.length : Int) := of_decide_eq_true (by first | (with_reducible assumption) | assumption)
                                    obtain ⟨ad357, e357, hx357_0⟩ := Kd.at_int (Kd.R_reads' HO_7.out).2.2 x73_3 p357 q357
                                    cases e357
                                    replace p357 := eq_true p357
                                    replace q357 := eq_true q357
                                    have p358 : 0 ≤ ((ji48) : Int) := of_decide_eq_true (by first | (with_reducible assumption) | assumption)
                                    have q358 : (ji48) < (t346.length : Int) := of_decide_eq_true (by first | (with_reducible assumption) | assumption)
                                    obtain ⟨ad358, e358, hx358_0⟩ := Kd.at_int (Kd.R_reads' HO_5.out).2.2 (ji48) p358 q358
                                    obtain rfl : ad356 = ad358 := (by injection e358)
                                    replace p358 := eq_true p358
                                    replace q358 := eq_true q358
                                    go_wp2
                                    go_ret
                                    exact ⟨by first | rfl | (simp [errW_none, errW_some] <;> rfl) | (simp only [← hji48]; first | rfl | (simp [errW_none, errW_some] <;> rfl)) | (simp [*, errW_none, errW_some] <;> rfl), by repeat (first | (with_reducible first | exact HB.out | apply below_alloc | apply pw_below_drewN | apply below_drew1) | exact HB.out)⟩
                                  · rw [if_neg c51] at H
                                    have c51b0 : decide ((rd t346 x73_3) < (rd t346 (ji48))) = false := decide_eq_false c51
                                    clear c51
                                    by_cases c52 : (rd t346 x73_3) > (wrap64 ((rd t346 (ji48)) + 1))
                                    · rw [if_pos c52] at H
                                      have c52b0 : decide ((wrap64 ((rd t346 (ji48)) + 1)) < (rd t346 x73_3)) = true := decide_eq_true c52
                                      clear c52
                                      obtain rfl := Option.some.inj H
                                      have p356 : 0 ≤ (x73_3 : Int) := of_decide_eq_true (by first | (with_reducible assumption) | assumption)
                                      have q356 : x73_3 < (t346.length : Int) := of_decide_eq_true (by first | (with_reducible assumption) | assumption)
                                      obtain ⟨ad356, e356, hx356_0⟩ := Kd.at_int (Kd.R_reads' HO_71.out).2.2 x73_3 p356 q356
                                      cases e356
                                      replace p356 := eq_true p356
                                      replace q356 := eq_true q356
                                      have p357 : 0 ≤ (x73_3 : Int) := of_decide_eq_true (by first | (with_reducible assumption) | assumption)
                                      have q357 : x73_3 < (t351.length : Int) := of_decide_eq_true (by first | (with_reducible assumption) | assumption)
                                      obtain ⟨ad357, e357, hx357_0⟩ := Kd.at_int (Kd.R_reads' HO_7.out).2.2 x73_3 p357 q357
                                      cases e357
                                      replace p357 := eq_true p357
                                      replace q357 := eq_true q357
                                      have p358 : 0 ≤ ((ji48) : Int) := of_decide_eq_true (by first | (with_reducible assumption) | assumption)
                                      have q358 : (ji48) < (t346.length : Int) := of_decide_eq_true (by first | (with_reducible assumption) | assumption)
                                      obtain ⟨ad358, e358, hx358_0⟩ := Kd.at_int (Kd.R_reads' HO_5.out).2.2 (ji48) p358 q358
                                      obtain rfl : ad356 = ad358 := (by injection e358)
                                      replace p358 := eq_true p358
                                      replace q358 := eq_true q358
                                      have p359 : 0 ≤ ((ji48) : Int) := of_decide_eq_true (by first | (with_reducible assumption) | assumption)
                                      have q359 : (ji48) < (t346.length : Int) := of_decide_eq_true (by first | (with_reducible assumption) | assumption)
                                      obtain ⟨ad359, e359, hx359_0⟩ := Kd.at_int (Kd.R_reads' HO_5.out).2.2 (ji48) p359 q359
                                      obtain rfl : ad356 = ad359 := (by injection e359)
                                      replace p359 := eq_true p359
                                      replace q359 := eq_true q359
                                      go_wp2
                                      go_ret
                                      exact ⟨by first | rfl | (simp [errW_none, errW_some] <;> rfl) | (simp only [← hji48]; first | rfl | (simp [errW_none, errW_some] <;> rfl)) | (simp [*, errW_none, errW_some] <;> rfl), by repeat (first | (with_reducible first | exact HB.out | apply below_alloc | apply pw_below_drewN | apply below_drew1) | exact HB.out)⟩
                                    · rw [if_neg c52] at H
                                      have c52b0 : decide ((wrap64 ((rd t346 (ji48)) + 1)) < (rd t346 x73_3)) = false := decide_eq_false c52
                                      clear c52
                                      have H' := Aside0.mk H
                                      clear H
                                      have p356 : 0 ≤ (x73_3 : Int) := of_decide_eq_true (by first | (with_reducible assumption) | assumption)
                                      have q356 : x73_3 < (t346.length : Int) := of_decide_eq_true (by first | (with_reducible assumption) | assumption)
                                      obtain ⟨ad356, e356, hx356_0⟩ := Kd.at_int (Kd.R_reads' HO_71.out).2.2 x73_3 p356 q356
                                      cases e356
                                      replace p356 := eq_true p356
                                      replace q356 := eq_true q356
                                      have p357 : 0 ≤ (x73_3 : Int) := of_decide_eq_true (by first | (with_reducible assumption) | assumption)
                                      have q357 : x73_3 < (t351.length : Int) := of_decide_eq_true (by first | (with_reducible assumption) | assumption)
                                      obtain ⟨ad357, e357, hx357_0⟩ := Kd.at_int (Kd.R_reads' HO_7.out).2.2 x73_3 p357 q357
                                      cases e357
                                      replace p357 := eq_true p357
                                      replace q357 := eq_true q357
                                      have p358 : 0 ≤ ((ji48) : Int) := of_decide_eq_true (by first | (with_reducible assumption) | assumption)
                                      have q358 : (ji48) < (t346.length : Int) := of_decide_eq_true (by first | (with_reducible assumption) | assumption)
                                      obtain ⟨ad358, e358, hx358_0⟩ := Kd.at_int (Kd.R_reads' HO_5.out).2.2 (ji48) p358 q358
                                      obtain rfl : ad356 = ad358 := (by injection e358)
                                      replace p358 := eq_true p358
                                      replace q358 := eq_true q358
                                      have p359 : 0 ≤ ((ji48) : Int) := of_decide_eq_true (by first | (with_reducible assumption) | assumption)
                                      have q359 : (ji48) < (t346.length : Int) := of_decide_eq_true (by first | (with_reducible assumption) | assumption)
                                      obtain ⟨ad359, e359, hx359_0⟩ := Kd.at_int (Kd.R_reads' HO_5.out).2.2 (ji48) p359 q359
                                      obtain rfl : ad356 = ad359 := (by injection e359)
                                      replace p359 := eq_true p359
                                      replace q359 := eq_true q359
                                      go_wp2
                                      subst hji48
                                      go_roundg k3
                                      case measure => have := HJ3.out; have := HJ31.out; have := HK3.out; omega
                                      case rel => exact ⟨(wrap64 (x8_3 + (rd t346 x73_3))), (wrap64 (x73_3 + 1)), (by first | rfl | (simp; done) | (simp [*]; done)), (by first | rfl | (simp; done) | (simp [*]; done)), H', ⟨by have := HJ3.out; have := HJ31.out; have := HK3.out; omega⟩, ⟨by (with_reducible repeat (first | apply Kd.R_alloc | apply Kd.R_drewN | apply Kd.R_drew)); exact HO_5.out⟩, ⟨by (with_reducible repeat (first | apply Kd.R_alloc | apply Kd.R_drewN | apply Kd.R_drew)); exact HO_7.out⟩, ⟨by (with_reducible repeat (first | apply Kd.R_alloc | apply Kd.R_drewN | apply Kd.R_drew)); exact HO_71.out⟩, ⟨by repeat (first | (with_reducible first | exact HB.out | apply below_alloc | apply pw_below_drewN | apply below_drew1) | exact HB.out)⟩⟩
                                · rw [if_neg c50] at H
                                  exact absurd H (by simp)
                              · rw [if_neg c49] at H
                                exact absurd H (by simp)
                            · rw [if_neg c47] at H
                              have c47b0 : ((rd t346 x73_3) == (rd t351 x73_3)) = false := beq_eq_false_iff_ne.mpr c47
                              have c47b1 : ((rd t346 x73_3) != (rd t351 x73_3)) = true := bne_iff_ne.mpr c47
                              obtain rfl := Option.some.inj H
                              have p356 : 0 ≤ (x73_3 : Int) := of_decide_eq_true (by first | (with_reducible assumption) | assumption)
                              have q356 : x73_3 < (t346.length : Int) := of_decide_eq_true (by first | (with_reducible assumption) | assumption)
                              obtain ⟨ad356, e356, hx356_0⟩ := Kd.at_int (Kd.R_reads' HO_71.out).2.2 x73_3 p356 q356
                              cases e356
                              replace p356 := eq_true p356
                              replace q356 := eq_true q356
                              have p357 : 0 ≤ (x73_3 : Int) := of_decide_eq_true (by first | (with_reducible assumption) | assumption)
                              have q357 : x73_3 < (t351.length : Int) := of_decide_eq_true (by first | (with_reducible assumption) | assumption)
                              obtain ⟨ad357, e357, hx357_0⟩ := Kd.at_int (Kd.R_reads' HO_7.out).2.2 x73_3 p357 q357
                              cases e357
                              replace p357 := eq_true p357
                              replace q357 := eq_true q357
                              go_wp2
                              go_ret
                              exact ⟨by first | rfl | (simp [errW_none, errW_some] <;> rfl) | (simp [*, errW_none, errW_some] <;> rfl), by repeat (first | (with_reducible first | exact HB.out | apply below_alloc | apply pw_below_drewN | apply below_drew1) | exact HB.out)⟩
                          · rw [if_neg c46] at H
                            exact absurd H (by simp)
                        · rw [if_neg c45] at H
                          exact absurd H (by simp)
                      · rw [if_neg c44] at H
                        exact absurd H (by simp)
                    · rw [if_neg c43] at H
                      have c43b0 : decide (x73_3 < (t346.length : Int)) = false := decide_eq_false c43
                      clear c43
                      obtain rfl := Option.some.inj H
                      go_wp2
                      go_ret
                      exact ⟨by first | rfl | (simp [errW_none, errW_some] <;> rfl) | (simp [*, errW_none, errW_some] <;> rfl), by repeat (first | (with_reducible first | exact HB.out | apply below_alloc | apply pw_below_drewN | apply below_drew1) | exact HB.out)⟩
/-- THE ONE PURE STATEMENT of backseatlaw12_PresetEven: yours. -/
def backseatlaw12_PresetEven.Pure : Prop := ∀ (a0 : Int) (a1 : Int), (Lit.int .i64 a0).wf = true → (Lit.int .i64 a1).wf = true → ∃ k, backseatlaw12_PresetEven.f k a0 a1 = some true
theorem backseatlaw12_PresetEven.walk (P : backseatlaw12_PresetEven.Pure) (a0 : Int) (a1 : Int) (w : World) (w0 : (Lit.int .i64 a0).wf = true) (w1 : (Lit.int .i64 a1).wf = true) :
    Calls Try.prog 3 #[.int .i64 a0, .int .i64 a1] w fun e w' => e = .returned (.bool true) ∧ Below w.heap.size w w' := by
  obtain ⟨k, h⟩ := P a0 a1 w0 w1
  refine (backseatlaw12_PresetEven.calls k a0 a1 true w h).mono ?_
  rintro e w' ⟨rfl, hd⟩
  exact ⟨rfl, hd⟩
end Go.Proofs.Ytplngfammfdemaa.Q
