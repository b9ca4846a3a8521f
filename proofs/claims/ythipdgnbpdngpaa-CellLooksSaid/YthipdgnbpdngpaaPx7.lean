-- Written by hybrid.py, a program of this project, for the seat Ythipdgnbpdngpaa.
import Derived.Test.YthipdgnbpdngpaaPx0
import Derived.Test.YthipdgnbpdngpaaPx5
namespace Go.Proofs.Ythipdgnbpdngpaa.P
open Go.RowKit Go.Proofs.Ythipdgnbpdngpaa Go.Proofs.YthipdgnbpdngpaaW.PrintWords Go.Proofs.YthipdgnbpdngpaaW.PrintLast Go.Proofs.YthipdgnbpdngpaaW.PrintMore
attribute [local go_sem] max2_int min2_int max_two min_two max_three min_three max_four min_four   -- for this text's walks alone
set_option linter.unusedVariables false
set_option linter.unusedSimpArgs false

/-! ### backseatref04_without: function 20 -/
def backseatref04_without.l0 : Nat → Int → Int → Int → Int → Option (Int)
  | 0, _, _, _, _ => none
  | k + 1, x0, x1, x5, x6 => if x6 < 256 then (if x6 = 0 then (none) else (if (Int.tmod (wrap64 (Int.tdiv x0 x6)) 2) = 1 then (if (Int.tmod (wrap64 (Int.tdiv x1 x6)) 2) = 0 then (backseatref04_without.l0 k x0 x1 (wrap64 (x5 + x6)) (wrap64 (2 * x6))) else (backseatref04_without.l0 k x0 x1 x5 (wrap64 (2 * x6)))) else (backseatref04_without.l0 k x0 x1 x5 (wrap64 (2 * x6))))) else (some x5)
def backseatref04_without.f (k : Nat) (a0 : Int) (a1 : Int) : Option (Int) := backseatref04_without.l0 k a0 a1 0 1
theorem backseatref04_without.mono_l : ∀ k, (∀ y0 y1 y2 y3, LeO (backseatref04_without.l0 k y0 y1 y2 y3) (backseatref04_without.l0 (k + 1) y0 y1 y2 y3))
  | 0 => fun _ _ _ _ r h => by simp [backseatref04_without.l0] at h
  | k + 1 => by
    have ih0 := backseatref04_without.mono_l k
    · intro y0 y1 y2 y3
      unfold backseatref04_without.l0
      repeat' first
      | (with_reducible exact ih0 _ _ _ _)
      | (with_reducible exact LeO.refl _)
      | (with_reducible exact LeO.none _)
      | (with_reducible refine LeO.ite ?_ ?_)
      | (with_reducible refine LeO.bind ?_ (fun _ => ?_))
      | exact ih0 _ _ _ _
      | exact LeO.none _
      | refine LeO.ite ?_ ?_
      | refine LeO.bind ?_ (fun _ => ?_)
theorem backseatref04_without.mono : ∀ a0 a1 k, LeO (backseatref04_without.f k a0 a1) (backseatref04_without.f (k + 1) a0 a1) := by
  intro a0 a1 k
  have ih0 := backseatref04_without.mono_l k
  unfold backseatref04_without.f
  repeat' first
      | (with_reducible exact ih0 _ _ _ _)
      | (with_reducible exact LeO.refl _)
      | (with_reducible exact LeO.none _)
      | (with_reducible refine LeO.ite ?_ ?_)
      | (with_reducible refine LeO.bind ?_ (fun _ => ?_))
      | exact ih0 _ _ _ _
      | exact LeO.none _
      | refine LeO.ite ?_ ?_
      | refine LeO.bind ?_ (fun _ => ?_)
set_option maxHeartbeats 8000000 in
set_option maxRecDepth 100000 in
theorem backseatref04_without.calls (k : Nat) (a0 : Int) (a1 : Int) (r : Int) (w : World) (h : backseatref04_without.f k a0 a1 = some r) :
    Calls Try.prog 20 #[.int .i64 a0, .int .i64 a1] w fun e w' => e = .returned (.int .i64 r) ∧ Drawn0 w w' := by
  have H : (backseatref04_without.l0 k a0 a1 0 1) = some r := h
  clear h
  have H' := Aside0.mk H
  clear H
  go_enter Try.func20, Try.ntmps20
  go_wp2
  go_loopg [5, 6] k (fun kq v5 v6 w' => ∃ (x5_1 : Int) (x6_1 : Int), v5 = .int .i64 x5_1 ∧ v6 = .int .i64 x6_1 ∧ Aside0 (backseatref04_without.l0 kq a0 a1 x5_1 x6_1 = some r) ∧ Aside0 (kq ≤ k) ∧ Drawn0 w w')
  case atStart => exact ⟨(0), (1), (by first | rfl | (simp; done) | (simp [*]; done)), (by first | rfl | (simp; done) | (simp [*]; done)), H', ⟨Nat.le_refl _⟩, by repeat (first | exact Drawn0.refl _ | apply Drawn0.step)⟩
  case round =>
    clear H'
    try clear c2
    try clear p2
    obtain ⟨x5_1, x6_1, rfl, rfl, HA, HK1, ⟨m1, rfl⟩⟩ := hrel
    cases gk with
    | zero => exact absurd HA.out (by simp [backseatref04_without.l0])
    | succ k1 =>
      have H := HA.out
      clear HA
      simp only [backseatref04_without.l0] at H
      by_cases c3 : x6_1 < 256
      · rw [if_pos c3] at H
        have c3b0 : decide (x6_1 < 256) = true := decide_eq_true c3
        clear c3
        by_cases c4 : x6_1 = 0
        · rw [if_pos c4] at H
          exact absurd H (by simp)
        · rw [if_neg c4] at H
          have c4b0 : (x6_1 == 0) = false := beq_eq_false_iff_ne.mpr c4
          have c4b1 : (x6_1 != 0) = true := bne_iff_ne.mpr c4
          by_cases c5 : (Int.tmod (wrap64 (Int.tdiv a0 x6_1)) 2) = 1
          · rw [if_pos c5] at H
            have c5b0 : ((Int.tmod (wrap64 (Int.tdiv a0 x6_1)) 2) == 1) = true := beq_iff_eq.mpr c5
            have c5b1 : ((Int.tmod (wrap64 (Int.tdiv a0 x6_1)) 2) != 1) = false := bne_eq_false_iff_eq.mpr c5
            clear c5
            by_cases c6 : (Int.tmod (wrap64 (Int.tdiv a1 x6_1)) 2) = 0
            · rw [if_pos c6] at H
              have c6b0 : ((Int.tmod (wrap64 (Int.tdiv a1 x6_1)) 2) == 0) = true := beq_iff_eq.mpr c6
              have c6b1 : ((Int.tmod (wrap64 (Int.tdiv a1 x6_1)) 2) != 0) = false := bne_eq_false_iff_eq.mpr c6
              clear c6
              have H' := Aside0.mk H
              clear H
              go_wp2
              go_roundg k1
              case measure => have := HK1.out; omega
              case rel => exact ⟨(wrap64 (x5_1 + x6_1)), (wrap64 (2 * x6_1)), (by first | rfl | (simp; done) | (simp [*]; done)), (by first | rfl | (simp; done) | (simp [*]; done)), H', ⟨by have := HK1.out; omega⟩, by repeat (first | exact Drawn0.refl _ | apply Drawn0.step)⟩
            · rw [if_neg c6] at H
              have c6b0 : ((Int.tmod (wrap64 (Int.tdiv a1 x6_1)) 2) == 0) = false := beq_eq_false_iff_ne.mpr c6
              have c6b1 : ((Int.tmod (wrap64 (Int.tdiv a1 x6_1)) 2) != 0) = true := bne_iff_ne.mpr c6
              have H' := Aside0.mk H
              clear H
              go_wp2
              go_roundg k1
              case measure => have := HK1.out; omega
              case rel => exact ⟨(x5_1), (wrap64 (2 * x6_1)), (by first | rfl | (simp; done) | (simp [*]; done)), (by first | rfl | (simp; done) | (simp [*]; done)), H', ⟨by have := HK1.out; omega⟩, by repeat (first | exact Drawn0.refl _ | apply Drawn0.step)⟩
          · rw [if_neg c5] at H
            have c5b0 : ((Int.tmod (wrap64 (Int.tdiv a0 x6_1)) 2) == 1) = false := beq_eq_false_iff_ne.mpr c5
            have c5b1 : ((Int.tmod (wrap64 (Int.tdiv a0 x6_1)) 2) != 1) = true := bne_iff_ne.mpr c5
            have H' := Aside0.mk H
            clear H
            go_wp2
            go_roundg k1
            case measure => have := HK1.out; omega
            case rel => exact ⟨(x5_1), (wrap64 (2 * x6_1)), (by first | rfl | (simp; done) | (simp [*]; done)), (by first | rfl | (simp; done) | (simp [*]; done)), H', ⟨by have := HK1.out; omega⟩, by repeat (first | exact Drawn0.refl _ | apply Drawn0.step)⟩
      · rw [if_neg c3] at H
        have c3b0 : decide (x6_1 < 256) = false := decide_eq_false c3
        clear c3
        obtain rfl := Option.some.inj H
        go_wp2
        go_ret
        exact ⟨by first | rfl | (simp; done) | (simp [*]; done), by repeat (first | exact Drawn0.refl _ | apply Drawn0.step)⟩

/-! ### backseatref04_cleared: function 21 -/
def backseatref04_cleared.f (a0 : Int) : Option (Int) := (backseatref04_in.f a0 22 29).bind fun t226 => (if t226 = true then ((some (([3, 4, 8, 16, 0, 32, 64, 128] : List Int) : List Int)).bind fun y227 => (if 0 ≤ (wrap64 (a0 - 22)) then (if (wrap64 (a0 - 22)) < (y227.length : Int) then (some (rd y227 (wrap64 (a0 - 22)))) else (none)) else (none))) else (some 0))
set_option maxHeartbeats 8000000 in
set_option maxRecDepth 100000 in
theorem backseatref04_cleared.calls (a0 : Int) (r : Int) (w : World) (h : backseatref04_cleared.f a0 = some r) :
    Calls Try.prog 21 #[.int .i64 a0] w fun e w' => e = .returned (.int .i64 r) ∧ Below w.heap.size w w' := by
  have HB := Aside0.mk (Below.refl w.heap.size w)
  have H : ((backseatref04_in.f a0 22 29).bind fun t226 => (if t226 = true then ((some (([3, 4, 8, 16, 0, 32, 64, 128] : List Int) : List Int)).bind fun y227 => (if 0 ≤ (wrap64 (a0 - 22)) then (if (wrap64 (a0 - 22)) < (y227.length : Int) then (some (rd y227 (wrap64 (a0 - 22)))) else (none)) else (none))) else (some 0))) = some r := h
  clear h
  replace H := Option.bind_eq_some_iff.mp H
  obtain ⟨t226, A20, H⟩ := H
  replace H : (if t226 = true then ((some (([3, 4, 8, 16, 0, 32, 64, 128] : List Int) : List Int)).bind fun y227 => (if 0 ≤ (wrap64 (a0 - 22)) then (if (wrap64 (a0 - 22)) < (y227.length : Int) then (some (rd y227 (wrap64 (a0 - 22)))) else (none)) else (none))) else (some 0)) = some r := H
  have A2 := Aside0.mk A20
  clear A20
  by_cases c3 : t226 = true
  · subst c3
    have H1 : ((some (([3, 4, 8, 16, 0, 32, 64, 128] : List Int) : List Int)).bind fun y227 => (if 0 ≤ (wrap64 (a0 - 22)) then (if (wrap64 (a0 - 22)) < (y227.length : Int) then (some (rd y227 (wrap64 (a0 - 22)))) else (none)) else (none))) = some r := by rw [if_pos rfl] at H; exact H
    clear H
    have H := H1
    clear H1
    obtain ⟨y227, hy227⟩ : ∃ y_ : List Int, y_ = (([3, 4, 8, 16, 0, 32, 64, 128] : List Int)) := ⟨_, rfl⟩
    replace H : (if 0 ≤ (wrap64 (a0 - 22)) then (if (wrap64 (a0 - 22)) < (y227.length : Int) then (some (rd y227 (wrap64 (a0 - 22)))) else (none)) else (none)) = some r := by first | (rw [hy227]; with_reducible exact H) | (have H2_ := (Option.bind_some _ _).symm.trans H; rw [hy227]; with_reducible exact H2_) | (have H2_ := (Option.bind_some _ _).symm.trans H; with_reducible exact H2_) | with_reducible exact H | (rw [hy227]; exact H) | exact H
    have Ny227 := Aside0.mk hy227
    clear hy227
    obtain ⟨ji4, hji4⟩ : ∃ j_ : Int, (wrap64 (a0 - 22)) = j_ := ⟨_, rfl⟩
    replace H : (if 0 ≤ (ji4) then (if (ji4) < (y227.length : Int) then (some (rd y227 (ji4))) else (none)) else (none)) = some r := by first | (rw [hji4] at H; exact H) | (simp only [hji4] at H ⊢; exact H)
    (try rw [hji4] at A2)
    have hji4w : (IntKind.i64.wrap (a0 - 22)) = ji4 := (i64_w _).trans hji4
    by_cases c5 : 0 ≤ (ji4)
    · rw [if_pos c5] at H
      have c5b0 : decide (0 ≤ (ji4)) = true := decide_eq_true c5
      clear c5
      by_cases c6 : (ji4) < (y227.length : Int)
      · rw [if_pos c6] at H
        have c6b0 : decide ((ji4) < (y227.length : Int)) = true := decide_eq_true c6
        clear c6
        obtain rfl := Option.some.inj H
        go_enter Try.func21, Try.ntmps21
        go_wp2_with (first | ((with_reducible refine gate_callee (f := 14) rfl ?_); refine goesL_ (some 4) rfl rfl Try.func14 (by kernel_rfl) rfl #[.int .i64 a0, .int .i64 22, .int .i64 29] rfl (by (try simp only [List.map_toArray, List.map_cons, List.map_nil]); first | done | rfl | (simp only [List.length_drop, List.length_take]; rfl)) ?_; (with_reducible refine (backseatref04_in.calls a0 22 29 true _ A2.out).mono ?_); rintro e w' ⟨rfl, ⟨nd, rfl⟩⟩; refine ⟨_, rfl, ?_⟩) | ((with_reducible refine gate_dst (N := 6) rfl ?_); refine Kd.R_lit (Kd.int .i64) _ 3 ?hg (N := 6) ?hd (xs := ([3, 4, 8, 16, 0, 32, 64, 128] : List Int)) (inner := [.int .i64 3, .int .i64 4, .int .i64 8, .int .i64 16, .int .i64 0, .int .i64 32, .int .i64 64, .int .i64 128]) (ok := fun _ => True) (okp := fun _ => True) ?hr ?hp (fun _ hk => hk) trivial (Below.refl _ _) (Nat.le_refl _) (by simp) ?_; (case hd => rfl); (case hg => rfl); (case hr => first | (go_simp; done) | (go_simp; rfl)); (case hp => exact (Reps.one (show Kd.M (Kd.int .i64) _ _ _ 3 [.int .i64 3] from rfl) (Reps.one (show Kd.M (Kd.int .i64) _ _ _ 4 [.int .i64 4] from rfl) (Reps.one (show Kd.M (Kd.int .i64) _ _ _ 8 [.int .i64 8] from rfl) (Reps.one (show Kd.M (Kd.int .i64) _ _ _ 16 [.int .i64 16] from rfl) (Reps.one (show Kd.M (Kd.int .i64) _ _ _ 0 [.int .i64 0] from rfl) (Reps.one (show Kd.M (Kd.int .i64) _ _ _ 32 [.int .i64 32] from rfl) (Reps.one (show Kd.M (Kd.int .i64) _ _ _ 64 [.int .i64 64] from rfl) (Reps.one (show Kd.M (Kd.int .i64) _ _ _ 128 [.int .i64 128] from rfl) (Reps.none _ _)))))))))); intro v228 w7 ho8 hb hg_ hnew_; clear hg_ hnew_; (first | rw [← Ny227.out] at ho8 | (simp only [Int.reduceToNat] at ho8; rw [← Ny227.out] at ho8)); have n0_ := Aside0.mk (Kd.R_lower ho8 (below_size (by repeat (first | (with_reducible first | exact HB.out | apply below_alloc | apply pw_below_drewN | apply below_drew1) | exact HB.out)))); have n1_ := Aside0.mk (below_step (by repeat (first | (with_reducible first | exact HB.out | apply below_alloc | apply pw_below_drewN | apply below_drew1) | exact HB.out)) hb); clear HB; have HO229 := n0_; have HB := n1_; clear n0_ n1_; clear hb ho8; obtain ⟨Ao9, co9, eo9⟩ := Kd.R_slice HO229.out; subst eo9; have p230 : 0 ≤ ((ji4) : Int) := of_decide_eq_true (by first | (with_reducible assumption) | assumption); have q230 : (ji4) < (y227.length : Int) := of_decide_eq_true (by first | (with_reducible assumption) | assumption); obtain ⟨ad230, e230, hx230_0⟩ := Kd.at_int (Kd.R_reads' HO229.out).2.2 (ji4) p230 q230; cases e230; replace p230 := eq_true p230; replace q230 := eq_true q230))
        go_ret
        exact ⟨by first | rfl | (simp [errW_none, errW_some] <;> rfl) | (simp only [← hji4]; first | rfl | (simp [errW_none, errW_some] <;> rfl)) | (simp [*, errW_none, errW_some] <;> rfl), by repeat (first | (with_reducible first | exact HB.out | apply below_alloc | apply pw_below_drewN | apply below_drew1) | exact HB.out)⟩
      · rw [if_neg c6] at H
        exact absurd H (by simp)
    · rw [if_neg c5] at H
      exact absurd H (by simp)
  · replace c3 := Bool.eq_false_iff.mpr c3
    subst c3
    have H1 : (some 0) = some r := by rw [if_neg (show ¬ (false = true) by decide)] at H; exact H
    clear H
    have H := H1
    clear H1
    obtain rfl := Option.some.inj H
    go_enter Try.func21, Try.ntmps21
    go_wp2_with (first | ((with_reducible refine gate_callee (f := 14) rfl ?_); refine goesL_ (some 4) rfl rfl Try.func14 (by kernel_rfl) rfl #[.int .i64 a0, .int .i64 22, .int .i64 29] rfl (by (try simp only [List.map_toArray, List.map_cons, List.map_nil]); first | done | rfl | (simp only [List.length_drop, List.length_take]; rfl)) ?_; (with_reducible refine (backseatref04_in.calls a0 22 29 false _ A2.out).mono ?_); rintro e w' ⟨rfl, ⟨nd, rfl⟩⟩; refine ⟨_, rfl, ?_⟩))
    go_ret
    exact ⟨by first | rfl | (simp [errW_none, errW_some] <;> rfl) | (simp [*, errW_none, errW_some] <;> rfl), by repeat (first | (with_reducible first | exact HB.out | apply below_alloc | apply pw_below_drewN | apply below_drew1) | exact HB.out)⟩

end Go.Proofs.Ythipdgnbpdngpaa.P
