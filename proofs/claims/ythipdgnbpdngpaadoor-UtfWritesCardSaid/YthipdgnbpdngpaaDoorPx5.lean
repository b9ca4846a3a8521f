-- Written by hybrid.py, a program of this project, for the seat YthipdgnbpdngpaaDoor.
import Derived.Test.YthipdgnbpdngpaaDoorPx0
import Derived.Test.YthipdgnbpdngpaaDoorPx2
import Derived.Test.YthipdgnbpdngpaaDoorPx3
import Derived.Test.YthipdgnbpdngpaaDoorGText
namespace Go.Proofs.YthipdgnbpdngpaaDoor.P
open Go.RowKit Go.Proofs.YthipdgnbpdngpaaDoor Go.Proofs.YthipdgnbpdngpaaDoorW.PrintWords Go.Proofs.YthipdgnbpdngpaaDoorW.PrintLast Go.Proofs.YthipdgnbpdngpaaDoorW.PrintMore
attribute [local go_sem] max2_int min2_int max_two min_two max_three min_three max_four min_four   -- for this text's walks alone
set_option linter.unusedVariables false
set_option linter.unusedSimpArgs false

/-! ### backseatlaw01_UtfBack: function 4 -/
mutual
def backseatlaw01_UtfBack.j2 : Nat → ByteArray → Option (Bool)
  | 0, _ => none
  | k + 1, x1 => (utf_First.f k x1).bind fun bt141 => (if bt141.2.2 = 0 then ((utf_Text.f bt141.1).bind fun bt144 => ((backseatlaw01_alive.f k).bind fun t146 => (if t146 = true then (if bt144.2 = 0 then (if bt141.2.1 ≤ (x1.size : Int) then (if 0 ≤ bt141.2.1 then (some (bt144.1.toList == (x1.extract 0 (bt141.2.1 : Int).toNat).toList)) else (none)) else (some false)) else (some false)) else (some false)))) else ((backseatlaw01_alive.f k).bind fun t147 => (if t147 = true then (if bt141.1 = 0 then (if bt141.2.2 = 2 then (if bt141.2.1 = 0 then (some true) else (if bt141.2.2 = 4 then (if bt141.2.1 ≥ 1 then (if bt141.2.1 ≤ (x1.size : Int) then ((utf_Valid.f x1).bind fun t148 => (some (!t148))) else (some false)) else (some false)) else (some false))) else (if bt141.2.2 = 4 then (if bt141.2.1 ≥ 1 then (if bt141.2.1 ≤ (x1.size : Int) then ((utf_Valid.f x1).bind fun t149 => (some (!t149))) else (some false)) else (some false)) else (some false))) else (some false)) else (some false))))
def backseatlaw01_UtfBack.j0 : Nat → ByteArray → ByteArray → Bool → Option (Bool)
  | 0, _, _, _ => none
  | k + 1, x1, x5, x56 => if x56 = true then (some false) else (backseatlaw01_UtfBack.l0 k x1 x5 (x5.size : Int) 0)
def backseatlaw01_UtfBack.l0 : Nat → ByteArray → ByteArray → Int → Int → Option (Bool)
  | 0, _, _, _, _ => none
  | k + 1, x1, x5, x58, x59 => if x59 < x58 then (if 0 ≤ x59 then (if x59 ≤ (x5.size : Int) then ((utf_First.f k (x5.extract 0 (x59 : Int).toNat)).bind fun bt138 => (if bt138.2.2 = 2 then (if bt138.2.1 = 0 then (backseatlaw01_UtfBack.l0 k x1 x5 x58 (wrap64 (x59 + 1))) else (some false)) else (some false))) else (none)) else (none)) else (backseatlaw01_UtfBack.j2 k x1)
end
def backseatlaw01_UtfBack.f (k : Nat) (a0 : Int) (a1 : ByteArray) : Option (Bool) := if 0 ≤ (mn (a1.size : Int) 100) then (if (mn (a1.size : Int) 100) ≤ (a1.size : Int) then ((utf_Text.f a0).bind fun bt132 => (if bt132.2 = 0 then (if bt132.1.size + (a1.extract 0 ((mn (a1.size : Int) 100) : Int).toNat).size ≤ 9223372036854775807 then ((utf_First.f k (bt132.1 ++ (a1.extract 0 ((mn (a1.size : Int) 100) : Int).toNat))).bind fun bt134 => (if bt134.2.2 = 0 then (if bt134.1 = a0 then (if bt134.2.1 = (bt132.1.size : Int) then ((utf_Valid.f bt132.1).bind fun t137 => (backseatlaw01_UtfBack.j0 k (a1.extract 0 ((mn (a1.size : Int) 100) : Int).toNat) bt132.1 (!t137))) else (backseatlaw01_UtfBack.j0 k (a1.extract 0 ((mn (a1.size : Int) 100) : Int).toNat) bt132.1 true)) else (backseatlaw01_UtfBack.j0 k (a1.extract 0 ((mn (a1.size : Int) 100) : Int).toNat) bt132.1 true)) else (backseatlaw01_UtfBack.j0 k (a1.extract 0 ((mn (a1.size : Int) 100) : Int).toNat) bt132.1 true))) else (none)) else (backseatlaw01_UtfBack.j2 k (a1.extract 0 ((mn (a1.size : Int) 100) : Int).toNat)))) else (none)) else (none)
theorem backseatlaw01_UtfBack.mono_l : ∀ k, (∀ y0, LeO (backseatlaw01_UtfBack.j2 k y0) (backseatlaw01_UtfBack.j2 (k + 1) y0)) ∧ (∀ y0 y1 y2, LeO (backseatlaw01_UtfBack.j0 k y0 y1 y2) (backseatlaw01_UtfBack.j0 (k + 1) y0 y1 y2)) ∧ (∀ y0 y1 y2 y3, LeO (backseatlaw01_UtfBack.l0 k y0 y1 y2 y3) (backseatlaw01_UtfBack.l0 (k + 1) y0 y1 y2 y3))
  | 0 => ⟨fun _ r h => by simp [backseatlaw01_UtfBack.j2] at h, fun _ _ _ r h => by simp [backseatlaw01_UtfBack.j0] at h, fun _ _ _ _ r h => by simp [backseatlaw01_UtfBack.l0] at h⟩
  | k + 1 => by
    obtain ⟨ih0, ih1, ih2⟩ := backseatlaw01_UtfBack.mono_l k
    refine ⟨?_, ?_, ?_⟩
    · intro y0
      unfold backseatlaw01_UtfBack.j2
      repeat' first
      | (with_reducible exact ih0 _)
      | (with_reducible exact ih1 _ _ _)
      | (with_reducible exact ih2 _ _ _ _)
      | (with_reducible exact backseatlaw01_alive.mono _)
      | (with_reducible exact utf_First.mono _ _)
      | (with_reducible exact LeO.refl _)
      | (with_reducible exact LeO.none _)
      | (with_reducible refine LeO.ite ?_ ?_)
      | (with_reducible refine LeO.bind ?_ (fun _ => ?_))
      | exact ih0 _
      | exact ih1 _ _ _
      | exact ih2 _ _ _ _
      | exact backseatlaw01_alive.mono _
      | exact utf_First.mono _ _
      | exact LeO.none _
      | refine LeO.ite ?_ ?_
      | refine LeO.bind ?_ (fun _ => ?_)
    · intro y0 y1 y2
      unfold backseatlaw01_UtfBack.j0
      repeat' first
      | (with_reducible exact ih0 _)
      | (with_reducible exact ih1 _ _ _)
      | (with_reducible exact ih2 _ _ _ _)
      | (with_reducible exact backseatlaw01_alive.mono _)
      | (with_reducible exact utf_First.mono _ _)
      | (with_reducible exact LeO.refl _)
      | (with_reducible exact LeO.none _)
      | (with_reducible refine LeO.ite ?_ ?_)
      | (with_reducible refine LeO.bind ?_ (fun _ => ?_))
      | exact ih0 _
      | exact ih1 _ _ _
      | exact ih2 _ _ _ _
      | exact backseatlaw01_alive.mono _
      | exact utf_First.mono _ _
      | exact LeO.none _
      | refine LeO.ite ?_ ?_
      | refine LeO.bind ?_ (fun _ => ?_)
    · intro y0 y1 y2 y3
      unfold backseatlaw01_UtfBack.l0
      repeat' first
      | (with_reducible exact ih0 _)
      | (with_reducible exact ih1 _ _ _)
      | (with_reducible exact ih2 _ _ _ _)
      | (with_reducible exact backseatlaw01_alive.mono _)
      | (with_reducible exact utf_First.mono _ _)
      | (with_reducible exact LeO.refl _)
      | (with_reducible exact LeO.none _)
      | (with_reducible refine LeO.ite ?_ ?_)
      | (with_reducible refine LeO.bind ?_ (fun _ => ?_))
      | exact ih0 _
      | exact ih1 _ _ _
      | exact ih2 _ _ _ _
      | exact backseatlaw01_alive.mono _
      | exact utf_First.mono _ _
      | exact LeO.none _
      | refine LeO.ite ?_ ?_
      | refine LeO.bind ?_ (fun _ => ?_)
theorem backseatlaw01_UtfBack.mono : ∀ a0 a1 k, LeO (backseatlaw01_UtfBack.f k a0 a1) (backseatlaw01_UtfBack.f (k + 1) a0 a1) := by
  intro a0 a1 k
  obtain ⟨ih0, ih1, ih2⟩ := backseatlaw01_UtfBack.mono_l k
  unfold backseatlaw01_UtfBack.f
  repeat' first
      | (with_reducible exact ih0 _)
      | (with_reducible exact ih1 _ _ _)
      | (with_reducible exact ih2 _ _ _ _)
      | (with_reducible exact backseatlaw01_alive.mono _)
      | (with_reducible exact utf_First.mono _ _)
      | (with_reducible exact LeO.refl _)
      | (with_reducible exact LeO.none _)
      | (with_reducible refine LeO.ite ?_ ?_)
      | (with_reducible refine LeO.bind ?_ (fun _ => ?_))
      | exact ih0 _
      | exact ih1 _ _ _
      | exact ih2 _ _ _ _
      | exact backseatlaw01_alive.mono _
      | exact utf_First.mono _ _
      | exact LeO.none _
      | refine LeO.ite ?_ ?_
      | refine LeO.bind ?_ (fun _ => ?_)
set_option maxHeartbeats 8000000 in
set_option maxRecDepth 100000 in
theorem backseatlaw01_UtfBack.calls (k : Nat) (a0 : Int) (a1 : ByteArray) (r : Bool) (w : World) (h : backseatlaw01_UtfBack.f k a0 a1 = some r) (hT : TabsAt w := by first | with_reducible assumption | exact tabs_here (by with_reducible assumption) (by repeat (with_reducible first | assumption | apply below_alloc | apply pw_below_drewN | apply below_drew1 | (refine Below.setCell ?_ ?_ _) | exact Aside0.out (by assumption)))) :
    Calls Tryd.prog 4 #[.int .i32 a0, .string a1] w fun e w' => e = .returned (.bool r) ∧ Below w.heap.size w w' := by
  have HB := Aside0.mk (Below.refl w.heap.size w)
  have H : (if 0 ≤ (mn (a1.size : Int) 100) then (if (mn (a1.size : Int) 100) ≤ (a1.size : Int) then ((utf_Text.f a0).bind fun bt132 => (if bt132.2 = 0 then (if bt132.1.size + (a1.extract 0 ((mn (a1.size : Int) 100) : Int).toNat).size ≤ 9223372036854775807 then ((utf_First.f k (bt132.1 ++ (a1.extract 0 ((mn (a1.size : Int) 100) : Int).toNat))).bind fun bt134 => (if bt134.2.2 = 0 then (if bt134.1 = a0 then (if bt134.2.1 = (bt132.1.size : Int) then ((utf_Valid.f bt132.1).bind fun t137 => (backseatlaw01_UtfBack.j0 k (a1.extract 0 ((mn (a1.size : Int) 100) : Int).toNat) bt132.1 (!t137))) else (backseatlaw01_UtfBack.j0 k (a1.extract 0 ((mn (a1.size : Int) 100) : Int).toNat) bt132.1 true)) else (backseatlaw01_UtfBack.j0 k (a1.extract 0 ((mn (a1.size : Int) 100) : Int).toNat) bt132.1 true)) else (backseatlaw01_UtfBack.j0 k (a1.extract 0 ((mn (a1.size : Int) 100) : Int).toNat) bt132.1 true))) else (none)) else (backseatlaw01_UtfBack.j2 k (a1.extract 0 ((mn (a1.size : Int) 100) : Int).toNat)))) else (none)) else (none)) = some r := h
  clear h
  obtain ⟨ji3, hji3⟩ : ∃ j_ : Int, (mn (a1.size : Int) 100) = j_ := ⟨_, rfl⟩
  replace H : (if 0 ≤ (ji3) then (if (ji3) ≤ (a1.size : Int) then ((utf_Text.f a0).bind fun bt132 => (if bt132.2 = 0 then (if bt132.1.size + (a1.extract 0 ((ji3) : Int).toNat).size ≤ 9223372036854775807 then ((utf_First.f k (bt132.1 ++ (a1.extract 0 ((ji3) : Int).toNat))).bind fun bt134 => (if bt134.2.2 = 0 then (if bt134.1 = a0 then (if bt134.2.1 = (bt132.1.size : Int) then ((utf_Valid.f bt132.1).bind fun t137 => (backseatlaw01_UtfBack.j0 k (a1.extract 0 ((ji3) : Int).toNat) bt132.1 (!t137))) else (backseatlaw01_UtfBack.j0 k (a1.extract 0 ((ji3) : Int).toNat) bt132.1 true)) else (backseatlaw01_UtfBack.j0 k (a1.extract 0 ((ji3) : Int).toNat) bt132.1 true)) else (backseatlaw01_UtfBack.j0 k (a1.extract 0 ((ji3) : Int).toNat) bt132.1 true))) else (none)) else (backseatlaw01_UtfBack.j2 k (a1.extract 0 ((ji3) : Int).toNat)))) else (none)) else (none)) = some r := by first | (rw [hji3] at H; exact H) | (simp only [hji3] at H ⊢; exact H)
  (try (have hji3h : ji3 ≤ 100 := by (rw [← hji3]; unfold mn; (repeat' split) <;> omega)))
  (try (have hji3g : ji3 ≤ 64 := by omega))
  (try (have hji3l : 0 ≤ ji3 := by (rw [← hji3]; unfold mn; (repeat' split) <;> omega)))
  (try (have hji3m : 0 ≤ ji3 := by omega))
  have hji3_ : (if 100 < (a1.size : Int) then 100 else (a1.size : Int)) = ji3 := hji3
  by_cases c4 : 0 ≤ (ji3)
  · rw [if_pos c4] at H
    have c4b0 := eq_true c4
    have c4b1 : decide (0 ≤ (ji3)) = true := decide_eq_true c4
    clear c4
    by_cases c5 : (ji3) ≤ (a1.size : Int)
    · rw [if_pos c5] at H
      have c5b0 := eq_true c5
      have c5b1 : decide ((ji3) ≤ (a1.size : Int)) = true := decide_eq_true c5
      clear c5
      replace H := Option.bind_eq_some_iff.mp H
      obtain ⟨⟨t132, t133⟩, A60, H⟩ := H
      replace H : (if t133 = 0 then (if t132.size + (a1.extract 0 ((ji3) : Int).toNat).size ≤ 9223372036854775807 then ((utf_First.f k (t132 ++ (a1.extract 0 ((ji3) : Int).toNat))).bind fun bt134 => (if bt134.2.2 = 0 then (if bt134.1 = a0 then (if bt134.2.1 = (t132.size : Int) then ((utf_Valid.f t132).bind fun t137 => (backseatlaw01_UtfBack.j0 k (a1.extract 0 ((ji3) : Int).toNat) t132 (!t137))) else (backseatlaw01_UtfBack.j0 k (a1.extract 0 ((ji3) : Int).toNat) t132 true)) else (backseatlaw01_UtfBack.j0 k (a1.extract 0 ((ji3) : Int).toNat) t132 true)) else (backseatlaw01_UtfBack.j0 k (a1.extract 0 ((ji3) : Int).toNat) t132 true))) else (none)) else (backseatlaw01_UtfBack.j2 k (a1.extract 0 ((ji3) : Int).toNat))) = some r := H
      have A6 := Aside0.mk A60
      clear A60
      have HC7 := Aside0.mk H
      clear H
      go_enter Tryd.func4, Tryd.ntmps4
      go_upto_if 30 with (first | ((with_reducible refine gate_callee (f := 17) rfl ?_); refine goesL_ (some 26) rfl rfl Tryd.func17 (by kernel_rfl) rfl #[.int .i32 a0] rfl (by (try simp only [List.map_toArray, List.map_cons, List.map_nil]); first | done | rfl | (simp only [List.length_drop, List.length_take]; rfl)) ?_; (with_reducible refine (utf_Text.calls a0 t132 t133 _ A6.out).mono ?_); rintro e w' ⟨rfl, ⟨nd, rfl⟩⟩; refine ⟨_, rfl, ?_⟩))
      (try simp only [Act.put, List.setIfInBounds_toArray, List.set_cons_zero, List.set_cons_succ])
      go_cut [] (fun wc => ∃ (kq : Nat), Aside0 (backseatlaw01_UtfBack.j2 kq (a1.extract 0 ((ji3) : Int).toNat) = some r) ∧ Aside0 (kq ≤ k) ∧ Aside0 (Below w.heap.size w wc))
      case first =>
        have H := HC7.out
        clear HC7
        by_cases c8 : t133 = 0
        · rw [if_pos c8] at H
          have c8b0 : (t133 == 0) = true := beq_iff_eq.mpr c8
          have c8b1 : (t133 != 0) = false := bne_eq_false_iff_eq.mpr c8
          clear c8
          (first | rw [c8b0] | (simp only [i64_w, i32_w]; rw [c8b0]) | skip)
          by_cases c9 : t132.size + (a1.extract 0 ((ji3) : Int).toNat).size ≤ 9223372036854775807
          · rw [if_pos c9] at H
            have c9b0 := eq_true c9
            have c9b1 : decide (t132.size + (a1.extract 0 ((ji3) : Int).toNat).size ≤ 9223372036854775807) = true := decide_eq_true c9
            (try (have c9b1x := c9b1; simp at c9b1x))
            try have c9b2 : (9223372036854775807 < t132.size + (a1.extract 0 ((ji3) : Int).toNat).size) = False := eq_false (Nat.not_lt.2 c9)
            replace H := Option.bind_eq_some_iff.mp H
            obtain ⟨⟨t134, t135, t136⟩, A100, H⟩ := H
            replace H : (if t136 = 0 then (if t134 = a0 then (if t135 = (t132.size : Int) then ((utf_Valid.f t132).bind fun t137 => (backseatlaw01_UtfBack.j0 k (a1.extract 0 ((ji3) : Int).toNat) t132 (!t137))) else (backseatlaw01_UtfBack.j0 k (a1.extract 0 ((ji3) : Int).toNat) t132 true)) else (backseatlaw01_UtfBack.j0 k (a1.extract 0 ((ji3) : Int).toNat) t132 true)) else (backseatlaw01_UtfBack.j0 k (a1.extract 0 ((ji3) : Int).toNat) t132 true)) = some r := H
            have A10 := Aside0.mk A100
            clear A100
            have HC11 := Aside0.mk H
            clear H
            go_upto_region 5 with (first | ((with_reducible refine gate_callee (f := 12) rfl ?_); refine goesL_ (some 35) rfl rfl Tryd.func12 (by kernel_rfl) rfl #[.string (t132 ++ (a1.extract 0 ((ji3) : Int).toNat))] rfl (by (try simp only [List.map_toArray, List.map_cons, List.map_nil]); first | done | (simp only [hji3]; rfl) | rfl | (simp only [List.length_drop, List.length_take]; rfl)) ?_; (with_reducible refine (utf_First.calls k (t132 ++ (a1.extract 0 ((ji3) : Int).toNat)) t134 t135 t136 _ A10.out).mono ?_); rintro e w12 ⟨rfl, hb⟩; refine ⟨_, rfl, ?_⟩; have n0_ := Aside0.mk (below_step (by repeat (first | (with_reducible first | exact HB.out | apply below_alloc | apply pw_below_drewN | apply below_drew1) | exact HB.out)) hb); clear HB; have HB := n0_; clear n0_; (try clear hb); (try clear hb2); (try clear hk); (try clear hi)))
            (try simp only [Act.put, List.setIfInBounds_toArray, List.set_cons_zero, List.set_cons_succ])
            go_cut [56] (fun v56 wc => ∃ (kq : Nat) (x56_10 : Bool), v56 = .bool x56_10 ∧ Aside0 (backseatlaw01_UtfBack.j0 kq (a1.extract 0 ((ji3) : Int).toNat) t132 x56_10 = some r) ∧ Aside0 (kq ≤ k) ∧ Aside0 (Below w.heap.size w wc))
            case first =>
              have H := HC11.out
              clear HC11
              by_cases c13 : t136 = 0
              · rw [if_pos c13] at H
                have c13b0 : (t136 == 0) = true := beq_iff_eq.mpr c13
                have c13b1 : (t136 != 0) = false := bne_eq_false_iff_eq.mpr c13
                clear c13
                (first | rw [c13b0] | (simp only [i64_w, i32_w]; rw [c13b0]) | skip)
                by_cases c14 : t134 = a0
                · rw [if_pos c14] at H
                  have c14b0 : (t134 == a0) = true := beq_iff_eq.mpr c14
                  have c14b1 : (t134 != a0) = false := bne_eq_false_iff_eq.mpr c14
                  clear c14
                  by_cases c15 : t135 = (t132.size : Int)
                  · rw [if_pos c15] at H
                    have c15b0 : (t135 == (t132.size : Int)) = true := beq_iff_eq.mpr c15
                    have c15b1 : (t135 != (t132.size : Int)) = false := bne_eq_false_iff_eq.mpr c15
                    clear c15
                    replace H := Option.bind_eq_some_iff.mp H
                    obtain ⟨t137, A160, H⟩ := H
                    replace H : (backseatlaw01_UtfBack.j0 k (a1.extract 0 ((ji3) : Int).toNat) t132 (!t137)) = some r := H
                    have A16 := Aside0.mk A160
                    clear A160
                    have H' := Aside0.mk H
                    clear H
                    go_wp2_with (first | (go_at_call 15; (with_reducible refine (utf_Valid.calls t132 t137 _ A16.out).mono ?_); rintro e w17 ⟨rfl, hb⟩; have n0_ := Aside0.mk (below_step (by repeat (first | (with_reducible first | exact HB.out | apply below_alloc | apply pw_below_drewN | apply below_drew1) | exact HB.out)) hb); clear HB; have HB := n0_; clear n0_; (try clear hb); (try clear hb2); (try clear hk); (try clear hi)))
                    go_meet
                    case rel => exact ⟨_, (!t137), (by first | rfl | (simp; done) | (simp [*]; done)), H', ⟨by first | omega | exact Nat.le_refl _⟩, ⟨by repeat (first | (with_reducible first | exact HB.out | apply below_alloc | apply pw_below_drewN | apply below_drew1) | exact HB.out)⟩⟩
                  · rw [if_neg c15] at H
                    have c15b0 : (t135 == (t132.size : Int)) = false := beq_eq_false_iff_ne.mpr c15
                    have c15b1 : (t135 != (t132.size : Int)) = true := bne_iff_ne.mpr c15
                    have H' := Aside0.mk H
                    clear H
                    go_wp2
                    go_meet
                    case rel => exact ⟨_, (true), (by first | rfl | (simp; done) | (simp [*]; done)), H', ⟨by first | omega | exact Nat.le_refl _⟩, ⟨by repeat (first | (with_reducible first | exact HB.out | apply below_alloc | apply pw_below_drewN | apply below_drew1) | exact HB.out)⟩⟩
                · rw [if_neg c14] at H
                  have c14b0 : (t134 == a0) = false := beq_eq_false_iff_ne.mpr c14
                  have c14b1 : (t134 != a0) = true := bne_iff_ne.mpr c14
                  have H' := Aside0.mk H
                  clear H
                  go_wp2
                  go_meet
                  case rel => exact ⟨_, (true), (by first | rfl | (simp; done) | (simp [*]; done)), H', ⟨by first | omega | exact Nat.le_refl _⟩, ⟨by repeat (first | (with_reducible first | exact HB.out | apply below_alloc | apply pw_below_drewN | apply below_drew1) | exact HB.out)⟩⟩
              · rw [if_neg c13] at H
                have c13b0 : (t136 == 0) = false := beq_eq_false_iff_ne.mpr c13
                have c13b1 : (t136 != 0) = true := bne_iff_ne.mpr c13
                (first | rw [c13b0] | (simp only [i64_w, i32_w]; rw [c13b0]) | skip)
                have H' := Aside0.mk H
                clear H
                go_wp2
                go_meet
                case rel => exact ⟨_, (true), (by first | rfl | (simp; done) | (simp [*]; done)), H', ⟨by first | omega | exact Nat.le_refl _⟩, ⟨by repeat (first | (with_reducible first | exact HB.out | apply below_alloc | apply pw_below_drewN | apply below_drew1) | exact HB.out)⟩⟩
            case rest =>
              clear HC11
              try clear c1
              try clear p2
              try clear c4
              try clear c4b0
              try clear c4b1
              try clear c5
              try clear c5b0
              try clear c5b1
              try clear c8
              try clear c8b0
              try clear c8b1
              try clear c9
              try clear c9b0
              try clear c9b1
              try clear c9b2
              try clear c12
              try clear c13
              try clear c13b0
              try clear c13b1
              try clear c14
              try clear c14b0
              try clear c14b1
              try clear c15
              try clear c15b0
              try clear c15b1
              try clear c17
              obtain ⟨kq, x56_10, rfl, HA, HJ10, HB⟩ := hcut
              cases kq with
              | zero => exact absurd HA.out (by simp [backseatlaw01_UtfBack.j0])
              | succ kj10 =>
                have H := HA.out
                clear HA
                simp only [backseatlaw01_UtfBack.j0] at H
                by_cases c18 : x56_10 = true
                · subst c18
                  have H1 : (some false) = some r := by rw [if_pos rfl] at H; exact H
                  clear H
                  have H := H1
                  clear H1
                  obtain rfl := Option.some.inj H
                  go_wp2
                  go_ret
                  exact ⟨by first | rfl | (simp [errW_none, errW_some] <;> rfl) | (simp only [← hji3]; first | rfl | (simp [errW_none, errW_some] <;> rfl)) | (simp [*, errW_none, errW_some] <;> rfl), by repeat (first | (with_reducible first | exact HB.out | apply below_alloc | apply pw_below_drewN | apply below_drew1) | exact HB.out)⟩
                · replace c18 := Bool.eq_false_iff.mpr c18
                  subst c18
                  have H1 : (backseatlaw01_UtfBack.l0 kj10 (a1.extract 0 ((ji3) : Int).toNat) t132 (t132.size : Int) 0) = some r := by rw [if_neg (show ¬ (false = true) by decide)] at H; exact H
                  clear H
                  have H := H1
                  clear H1
                  have H' := Aside0.mk H
                  clear H
                  go_wp2
                  go_loopg [59] kj10 (fun kq v59 w' => ∃ (x59_2 : Int), v59 = .int .i64 x59_2 ∧ Aside0 (backseatlaw01_UtfBack.l0 kq (a1.extract 0 ((ji3) : Int).toNat) t132 (t132.size : Int) x59_2 = some r) ∧ Aside0 (kq ≤ kj10) ∧ Aside0 (Below w.heap.size w w'))
                  case atStart => exact ⟨(0), (by first | rfl | (simp; done) | (simp [*]; done)), H', ⟨Nat.le_refl _⟩, ⟨by repeat (first | (with_reducible first | exact HB.out | apply below_alloc | apply pw_below_drewN | apply below_drew1) | exact HB.out)⟩⟩
                  case round =>
                    clear H'
                    try clear c1
                    try clear p2
                    try clear c4
                    try clear c4b0
                    try clear c4b1
                    try clear c5
                    try clear c5b0
                    try clear c5b1
                    try clear c8
                    try clear c8b0
                    try clear c8b1
                    try clear c9
                    try clear c9b0
                    try clear c9b1
                    try clear c9b2
                    try clear c12
                    try clear c13
                    try clear c13b0
                    try clear c13b1
                    try clear c14
                    try clear c14b0
                    try clear c14b1
                    try clear c15
                    try clear c15b0
                    try clear c15b1
                    try clear c17
                    try clear c18
                    try clear p2
                    obtain ⟨x59_2, rfl, HA, HK2, HB⟩ := hrel
                    cases gk with
                    | zero => exact absurd HA.out (by simp [backseatlaw01_UtfBack.l0])
                    | succ k2 =>
                      have H := HA.out
                      clear HA
                      simp only [backseatlaw01_UtfBack.l0] at H
                      by_cases c19 : x59_2 < (t132.size : Int)
                      · rw [if_pos c19] at H
                        have c19b0 : decide (x59_2 < (t132.size : Int)) = true := decide_eq_true c19
                        clear c19
                        by_cases c20 : 0 ≤ x59_2
                        · rw [if_pos c20] at H
                          have c20b0 := eq_true c20
                          have c20b1 : decide (0 ≤ x59_2) = true := decide_eq_true c20
                          clear c20
                          by_cases c21 : x59_2 ≤ (t132.size : Int)
                          · rw [if_pos c21] at H
                            have c21b0 := eq_true c21
                            have c21b1 : decide (x59_2 ≤ (t132.size : Int)) = true := decide_eq_true c21
                            clear c21
                            replace H := Option.bind_eq_some_iff.mp H
                            obtain ⟨⟨t138, t139, t140⟩, A220, H⟩ := H
                            replace H : (if t140 = 2 then (if t139 = 0 then (backseatlaw01_UtfBack.l0 k2 (a1.extract 0 ((ji3) : Int).toNat) t132 (t132.size : Int) (wrap64 (x59_2 + 1))) else (some false)) else (some false)) = some r := H
                            have A22 := Aside0.mk A220
                            clear A220
                            by_cases c23 : t140 = 2
                            · rw [if_pos c23] at H
                              have c23b0 : (t140 == 2) = true := beq_iff_eq.mpr c23
                              have c23b1 : (t140 != 2) = false := bne_eq_false_iff_eq.mpr c23
                              clear c23
                              by_cases c24 : t139 = 0
                              · rw [if_pos c24] at H
                                have c24b0 : (t139 == 0) = true := beq_iff_eq.mpr c24
                                have c24b1 : (t139 != 0) = false := bne_eq_false_iff_eq.mpr c24
                                clear c24
                                have H' := Aside0.mk H
                                clear H
                                go_wp2_with (first | ((with_reducible refine gate_callee (f := 12) rfl ?_); refine goesL_ (some 66) rfl rfl Tryd.func12 (by kernel_rfl) rfl #[.string (t132.extract 0 (x59_2 : Int).toNat)] rfl (by (try simp only [List.map_toArray, List.map_cons, List.map_nil]); first | done | rfl | (simp only [List.length_drop, List.length_take]; rfl)) ?_; (with_reducible refine (utf_First.calls k2 (t132.extract 0 (x59_2 : Int).toNat) t138 t139 t140 _ A22.out).mono ?_); rintro e w25 ⟨rfl, hb⟩; refine ⟨_, rfl, ?_⟩; have n0_ := Aside0.mk (below_step (by repeat (first | (with_reducible first | exact HB.out | apply below_alloc | apply pw_below_drewN | apply below_drew1) | exact HB.out)) hb); clear HB; have HB := n0_; clear n0_; (try clear hb); (try clear hb2); (try clear hk); (try clear hi)))
                                go_roundg k2
                                case measure => have := HJ10.out; have := HK2.out; omega
                                case rel => exact ⟨(wrap64 (x59_2 + 1)), (by first | rfl | (simp; done) | (simp [*]; done)), H', ⟨by have := HJ10.out; have := HK2.out; omega⟩, ⟨by repeat (first | (with_reducible first | exact HB.out | apply below_alloc | apply pw_below_drewN | apply below_drew1) | exact HB.out)⟩⟩
                              · rw [if_neg c24] at H
                                have c24b0 : (t139 == 0) = false := beq_eq_false_iff_ne.mpr c24
                                have c24b1 : (t139 != 0) = true := bne_iff_ne.mpr c24
                                obtain rfl := Option.some.inj H
                                go_wp2_with (first | ((with_reducible refine gate_callee (f := 12) rfl ?_); refine goesL_ (some 66) rfl rfl Tryd.func12 (by kernel_rfl) rfl #[.string (t132.extract 0 (x59_2 : Int).toNat)] rfl (by (try simp only [List.map_toArray, List.map_cons, List.map_nil]); first | done | rfl | (simp only [List.length_drop, List.length_take]; rfl)) ?_; (with_reducible refine (utf_First.calls k2 (t132.extract 0 (x59_2 : Int).toNat) t138 t139 t140 _ A22.out).mono ?_); rintro e w26 ⟨rfl, hb⟩; refine ⟨_, rfl, ?_⟩; have n0_ := Aside0.mk (below_step (by repeat (first | (with_reducible first | exact HB.out | apply below_alloc | apply pw_below_drewN | apply below_drew1) | exact HB.out)) hb); clear HB; have HB := n0_; clear n0_; (try clear hb); (try clear hb2); (try clear hk); (try clear hi)))
                                go_ret
                                exact ⟨by first | rfl | (simp [errW_none, errW_some] <;> rfl) | (simp only [← hji3]; first | rfl | (simp [errW_none, errW_some] <;> rfl)) | (simp [*, errW_none, errW_some] <;> rfl), by repeat (first | (with_reducible first | exact HB.out | apply below_alloc | apply pw_below_drewN | apply below_drew1) | exact HB.out)⟩
                            · rw [if_neg c23] at H
                              have c23b0 : (t140 == 2) = false := beq_eq_false_iff_ne.mpr c23
                              have c23b1 : (t140 != 2) = true := bne_iff_ne.mpr c23
                              obtain rfl := Option.some.inj H
                              go_wp2_with (first | ((with_reducible refine gate_callee (f := 12) rfl ?_); refine goesL_ (some 66) rfl rfl Tryd.func12 (by kernel_rfl) rfl #[.string (t132.extract 0 (x59_2 : Int).toNat)] rfl (by (try simp only [List.map_toArray, List.map_cons, List.map_nil]); first | done | rfl | (simp only [List.length_drop, List.length_take]; rfl)) ?_; (with_reducible refine (utf_First.calls k2 (t132.extract 0 (x59_2 : Int).toNat) t138 t139 t140 _ A22.out).mono ?_); rintro e w27 ⟨rfl, hb⟩; refine ⟨_, rfl, ?_⟩; have n0_ := Aside0.mk (below_step (by repeat (first | (with_reducible first | exact HB.out | apply below_alloc | apply pw_below_drewN | apply below_drew1) | exact HB.out)) hb); clear HB; have HB := n0_; clear n0_; (try clear hb); (try clear hb2); (try clear hk); (try clear hi)))
                              go_ret
                              exact ⟨by first | rfl | (simp [errW_none, errW_some] <;> rfl) | (simp only [← hji3]; first | rfl | (simp [errW_none, errW_some] <;> rfl)) | (simp [*, errW_none, errW_some] <;> rfl), by repeat (first | (with_reducible first | exact HB.out | apply below_alloc | apply pw_below_drewN | apply below_drew1) | exact HB.out)⟩
                          · rw [if_neg c21] at H
                            exact absurd H (by simp)
                        · rw [if_neg c20] at H
                          exact absurd H (by simp)
                      · rw [if_neg c19] at H
                        have c19b0 : decide (x59_2 < (t132.size : Int)) = false := decide_eq_false c19
                        clear c19
                        have H' := Aside0.mk H
                        clear H
                        go_wp2
                        go_meet
                        case rel => exact ⟨_, H', ⟨by have := HJ10.out; have := HK2.out; first | omega | exact Nat.le_refl _⟩, ⟨by repeat (first | (with_reducible first | exact HB.out | apply below_alloc | apply pw_below_drewN | apply below_drew1) | exact HB.out)⟩⟩
          · rw [if_neg c9] at H
            exact absurd H (by simp)
        · rw [if_neg c8] at H
          have c8b0 : (t133 == 0) = false := beq_eq_false_iff_ne.mpr c8
          have c8b1 : (t133 != 0) = true := bne_iff_ne.mpr c8
          (first | rw [c8b0] | (simp only [i64_w, i32_w]; rw [c8b0]) | skip)
          have H' := Aside0.mk H
          clear H
          go_wp2
          go_meet
          case rel => exact ⟨_, H', ⟨by first | omega | exact Nat.le_refl _⟩, ⟨by repeat (first | (with_reducible first | exact HB.out | apply below_alloc | apply pw_below_drewN | apply below_drew1) | exact HB.out)⟩⟩
      case rest =>
        clear HC7
        try clear c1
        try clear c2
        try clear p2
        try clear c4
        try clear c4b0
        try clear c4b1
        try clear c5
        try clear c5b0
        try clear c5b1
        try clear p6
        try clear c8
        try clear c8b0
        try clear c8b1
        try clear c9
        try clear c9b0
        try clear c9b1
        try clear c9b2
        try clear c12
        try clear c13
        try clear c13b0
        try clear c13b1
        try clear c14
        try clear c14b0
        try clear c14b1
        try clear c15
        try clear c15b0
        try clear c15b1
        try clear c17
        try clear c18
        try clear c19
        try clear c19b0
        try clear c20
        try clear c20b0
        try clear c20b1
        try clear c21
        try clear c21b0
        try clear c21b1
        try clear c23
        try clear c23b0
        try clear c23b1
        try clear c24
        try clear c24b0
        try clear c24b1
        try clear p2
        obtain ⟨kq, HA, HJ6, HB⟩ := hcut
        cases kq with
        | zero => exact absurd HA.out (by simp [backseatlaw01_UtfBack.j2])
        | succ kj6 =>
          have H := HA.out
          clear HA
          simp only [backseatlaw01_UtfBack.j2] at H
          replace H := Option.bind_eq_some_iff.mp H
          obtain ⟨⟨t141, t142, t143⟩, A280, H⟩ := H
          replace H : (if t143 = 0 then ((utf_Text.f t141).bind fun bt144 => ((backseatlaw01_alive.f kj6).bind fun t146 => (if t146 = true then (if bt144.2 = 0 then (if t142 ≤ ((a1.extract 0 ((ji3) : Int).toNat).size : Int) then (if 0 ≤ t142 then (some (bt144.1.toList == ((a1.extract 0 ((ji3) : Int).toNat).extract 0 (t142 : Int).toNat).toList)) else (none)) else (some false)) else (some false)) else (some false)))) else ((backseatlaw01_alive.f kj6).bind fun t147 => (if t147 = true then (if t141 = 0 then (if t143 = 2 then (if t142 = 0 then (some true) else (if t143 = 4 then (if t142 ≥ 1 then (if t142 ≤ ((a1.extract 0 ((ji3) : Int).toNat).size : Int) then ((utf_Valid.f (a1.extract 0 ((ji3) : Int).toNat)).bind fun t148 => (some (!t148))) else (some false)) else (some false)) else (some false))) else (if t143 = 4 then (if t142 ≥ 1 then (if t142 ≤ ((a1.extract 0 ((ji3) : Int).toNat).size : Int) then ((utf_Valid.f (a1.extract 0 ((ji3) : Int).toNat)).bind fun t149 => (some (!t149))) else (some false)) else (some false)) else (some false))) else (some false)) else (some false)))) = some r := H
          have A28 := Aside0.mk A280
          clear A280
          by_cases c29 : t143 = 0
          · rw [if_pos c29] at H
            have c29b0 : (t143 == 0) = true := beq_iff_eq.mpr c29
            have c29b1 : (t143 != 0) = false := bne_eq_false_iff_eq.mpr c29
            clear c29
            replace H := Option.bind_eq_some_iff.mp H
            obtain ⟨⟨t144, t145⟩, A300, H⟩ := H
            replace H : ((backseatlaw01_alive.f kj6).bind fun t146 => (if t146 = true then (if t145 = 0 then (if t142 ≤ ((a1.extract 0 ((ji3) : Int).toNat).size : Int) then (if 0 ≤ t142 then (some (t144.toList == ((a1.extract 0 ((ji3) : Int).toNat).extract 0 (t142 : Int).toNat).toList)) else (none)) else (some false)) else (some false)) else (some false))) = some r := H
            have A30 := Aside0.mk A300
            clear A300
            replace H := Option.bind_eq_some_iff.mp H
            obtain ⟨t146, A310, H⟩ := H
            replace H : (if t146 = true then (if t145 = 0 then (if t142 ≤ ((a1.extract 0 ((ji3) : Int).toNat).size : Int) then (if 0 ≤ t142 then (some (t144.toList == ((a1.extract 0 ((ji3) : Int).toNat).extract 0 (t142 : Int).toNat).toList)) else (none)) else (some false)) else (some false)) else (some false)) = some r := H
            have A31 := Aside0.mk A310
            clear A310
            by_cases c32 : t146 = true
            · subst c32
              have H1 : (if t145 = 0 then (if t142 ≤ ((a1.extract 0 ((ji3) : Int).toNat).size : Int) then (if 0 ≤ t142 then (some (t144.toList == ((a1.extract 0 ((ji3) : Int).toNat).extract 0 (t142 : Int).toNat).toList)) else (none)) else (some false)) else (some false)) = some r := by rw [if_pos rfl] at H; exact H
              clear H
              have H := H1
              clear H1
              by_cases c33 : t145 = 0
              · rw [if_pos c33] at H
                have c33b0 : (t145 == 0) = true := beq_iff_eq.mpr c33
                have c33b1 : (t145 != 0) = false := bne_eq_false_iff_eq.mpr c33
                clear c33
                by_cases c34 : t142 ≤ ((a1.extract 0 ((ji3) : Int).toNat).size : Int)
                · rw [if_pos c34] at H
                  have c34b0 : decide (t142 ≤ ((a1.extract 0 ((ji3) : Int).toNat).size : Int)) = true := decide_eq_true c34
                  (try (have c34b0x := c34b0; simp at c34b0x))
                  clear c34
                  by_cases c35 : 0 ≤ t142
                  · rw [if_pos c35] at H
                    have c35b0 := eq_true c35
                    have c35b1 : decide (0 ≤ t142) = true := decide_eq_true c35
                    clear c35
                    have c36b0 := eq_true (of_decide_eq_true (by first | (with_reducible assumption) | assumption) : t142 ≤ ((a1.extract 0 ((ji3) : Int).toNat).size : Int))
                    obtain rfl := Option.some.inj H
                    go_wp2_with (first | ((with_reducible refine gate_callee (f := 12) rfl ?_); refine goesL_ (some 79) rfl rfl Tryd.func12 (by kernel_rfl) rfl #[.string (a1.extract 0 ((ji3) : Int).toNat)] rfl (by (try simp only [List.map_toArray, List.map_cons, List.map_nil]); first | done | (simp only [hji3]; rfl) | rfl | (simp only [List.length_drop, List.length_take]; rfl)) ?_; (with_reducible refine (utf_First.calls kj6 (a1.extract 0 ((ji3) : Int).toNat) t141 t142 t143 _ A28.out).mono ?_); rintro e w37 ⟨rfl, hb⟩; refine ⟨_, rfl, ?_⟩; have n0_ := Aside0.mk (below_step (by repeat (first | (with_reducible first | exact HB.out | apply below_alloc | apply pw_below_drewN | apply below_drew1) | exact HB.out)) hb); clear HB; have HB := n0_; clear n0_; (try clear hb); (try clear hb2); (try clear hk); (try clear hi)) | ((with_reducible refine gate_callee (f := 17) rfl ?_); refine goesL_ (some 119) rfl rfl Tryd.func17 (by kernel_rfl) rfl #[.int .i32 t141] rfl (by (try simp only [List.map_toArray, List.map_cons, List.map_nil]); first | done | rfl | (simp only [List.length_drop, List.length_take]; rfl)) ?_; (with_reducible refine (utf_Text.calls t141 t144 t145 _ A30.out).mono ?_); rintro e w' ⟨rfl, ⟨nd, rfl⟩⟩; refine ⟨_, rfl, ?_⟩) | ((with_reducible refine gate_callee (f := 14) rfl ?_); refine goesL_ (some 122) rfl rfl Tryd.func14 (by kernel_rfl) rfl #[] rfl (by (try simp only [List.map_toArray, List.map_cons, List.map_nil]); first | done | rfl | (simp only [List.length_drop, List.length_take]; rfl)) ?_; (with_reducible refine (backseatlaw01_alive.calls kj6  true _ A31.out).mono ?_); rintro e w38 ⟨rfl, hb⟩; refine ⟨_, rfl, ?_⟩; have n0_ := Aside0.mk (below_step (by repeat (first | (with_reducible first | exact HB.out | apply below_alloc | apply pw_below_drewN | apply below_drew1) | exact HB.out)) hb); clear HB; have HB := n0_; clear n0_; (try clear hb); (try clear hb2); (try clear hk); (try clear hi)))
                    go_ret
                    exact ⟨by first | rfl | (simp [errW_none, errW_some] <;> rfl) | (simp only [← hji3]; first | rfl | (simp [errW_none, errW_some] <;> rfl)) | (simp [*, errW_none, errW_some] <;> rfl), by repeat (first | (with_reducible first | exact HB.out | apply below_alloc | apply pw_below_drewN | apply below_drew1) | exact HB.out)⟩
                  · rw [if_neg c35] at H
                    exact absurd H (by simp)
                · rw [if_neg c34] at H
                  have c34b0 : decide (t142 ≤ ((a1.extract 0 ((ji3) : Int).toNat).size : Int)) = false := decide_eq_false c34
                  (try (have c34b0x := c34b0; simp at c34b0x))
                  clear c34
                  obtain rfl := Option.some.inj H
                  go_wp2_with (first | ((with_reducible refine gate_callee (f := 12) rfl ?_); refine goesL_ (some 79) rfl rfl Tryd.func12 (by kernel_rfl) rfl #[.string (a1.extract 0 ((ji3) : Int).toNat)] rfl (by (try simp only [List.map_toArray, List.map_cons, List.map_nil]); first | done | (simp only [hji3]; rfl) | rfl | (simp only [List.length_drop, List.length_take]; rfl)) ?_; (with_reducible refine (utf_First.calls kj6 (a1.extract 0 ((ji3) : Int).toNat) t141 t142 t143 _ A28.out).mono ?_); rintro e w39 ⟨rfl, hb⟩; refine ⟨_, rfl, ?_⟩; have n0_ := Aside0.mk (below_step (by repeat (first | (with_reducible first | exact HB.out | apply below_alloc | apply pw_below_drewN | apply below_drew1) | exact HB.out)) hb); clear HB; have HB := n0_; clear n0_; (try clear hb); (try clear hb2); (try clear hk); (try clear hi)) | ((with_reducible refine gate_callee (f := 17) rfl ?_); refine goesL_ (some 119) rfl rfl Tryd.func17 (by kernel_rfl) rfl #[.int .i32 t141] rfl (by (try simp only [List.map_toArray, List.map_cons, List.map_nil]); first | done | rfl | (simp only [List.length_drop, List.length_take]; rfl)) ?_; (with_reducible refine (utf_Text.calls t141 t144 t145 _ A30.out).mono ?_); rintro e w' ⟨rfl, ⟨nd, rfl⟩⟩; refine ⟨_, rfl, ?_⟩) | ((with_reducible refine gate_callee (f := 14) rfl ?_); refine goesL_ (some 122) rfl rfl Tryd.func14 (by kernel_rfl) rfl #[] rfl (by (try simp only [List.map_toArray, List.map_cons, List.map_nil]); first | done | rfl | (simp only [List.length_drop, List.length_take]; rfl)) ?_; (with_reducible refine (backseatlaw01_alive.calls kj6  true _ A31.out).mono ?_); rintro e w40 ⟨rfl, hb⟩; refine ⟨_, rfl, ?_⟩; have n0_ := Aside0.mk (below_step (by repeat (first | (with_reducible first | exact HB.out | apply below_alloc | apply pw_below_drewN | apply below_drew1) | exact HB.out)) hb); clear HB; have HB := n0_; clear n0_; (try clear hb); (try clear hb2); (try clear hk); (try clear hi)))
                  go_ret
                  exact ⟨by first | rfl | (simp [errW_none, errW_some] <;> rfl) | (simp only [← hji3]; first | rfl | (simp [errW_none, errW_some] <;> rfl)) | (simp [*, errW_none, errW_some] <;> rfl), by repeat (first | (with_reducible first | exact HB.out | apply below_alloc | apply pw_below_drewN | apply below_drew1) | exact HB.out)⟩
              · rw [if_neg c33] at H
                have c33b0 : (t145 == 0) = false := beq_eq_false_iff_ne.mpr c33
                have c33b1 : (t145 != 0) = true := bne_iff_ne.mpr c33
                obtain rfl := Option.some.inj H
                go_wp2_with (first | ((with_reducible refine gate_callee (f := 12) rfl ?_); refine goesL_ (some 79) rfl rfl Tryd.func12 (by kernel_rfl) rfl #[.string (a1.extract 0 ((ji3) : Int).toNat)] rfl (by (try simp only [List.map_toArray, List.map_cons, List.map_nil]); first | done | (simp only [hji3]; rfl) | rfl | (simp only [List.length_drop, List.length_take]; rfl)) ?_; (with_reducible refine (utf_First.calls kj6 (a1.extract 0 ((ji3) : Int).toNat) t141 t142 t143 _ A28.out).mono ?_); rintro e w41 ⟨rfl, hb⟩; refine ⟨_, rfl, ?_⟩; have n0_ := Aside0.mk (below_step (by repeat (first | (with_reducible first | exact HB.out | apply below_alloc | apply pw_below_drewN | apply below_drew1) | exact HB.out)) hb); clear HB; have HB := n0_; clear n0_; (try clear hb); (try clear hb2); (try clear hk); (try clear hi)) | ((with_reducible refine gate_callee (f := 17) rfl ?_); refine goesL_ (some 119) rfl rfl Tryd.func17 (by kernel_rfl) rfl #[.int .i32 t141] rfl (by (try simp only [List.map_toArray, List.map_cons, List.map_nil]); first | done | rfl | (simp only [List.length_drop, List.length_take]; rfl)) ?_; (with_reducible refine (utf_Text.calls t141 t144 t145 _ A30.out).mono ?_); rintro e w' ⟨rfl, ⟨nd, rfl⟩⟩; refine ⟨_, rfl, ?_⟩) | ((with_reducible refine gate_callee (f := 14) rfl ?_); refine goesL_ (some 122) rfl rfl Tryd.func14 (by kernel_rfl) rfl #[] rfl (by (try simp only [List.map_toArray, List.map_cons, List.map_nil]); first | done | rfl | (simp only [List.length_drop, List.length_take]; rfl)) ?_; (with_reducible refine (backseatlaw01_alive.calls kj6  true _ A31.out).mono ?_); rintro e w42 ⟨rfl, hb⟩; refine ⟨_, rfl, ?_⟩; have n0_ := Aside0.mk (below_step (by repeat (first | (with_reducible first | exact HB.out | apply below_alloc | apply pw_below_drewN | apply below_drew1) | exact HB.out)) hb); clear HB; have HB := n0_; clear n0_; (try clear hb); (try clear hb2); (try clear hk); (try clear hi)))
                go_ret
                exact ⟨by first | rfl | (simp [errW_none, errW_some] <;> rfl) | (simp only [← hji3]; first | rfl | (simp [errW_none, errW_some] <;> rfl)) | (simp [*, errW_none, errW_some] <;> rfl), by repeat (first | (with_reducible first | exact HB.out | apply below_alloc | apply pw_below_drewN | apply below_drew1) | exact HB.out)⟩
            · replace c32 := Bool.eq_false_iff.mpr c32
              subst c32
              have H1 : (some false) = some r := by rw [if_neg (show ¬ (false = true) by decide)] at H; exact H
              clear H
              have H := H1
              clear H1
              obtain rfl := Option.some.inj H
              go_wp2_with (first | ((with_reducible refine gate_callee (f := 12) rfl ?_); refine goesL_ (some 79) rfl rfl Tryd.func12 (by kernel_rfl) rfl #[.string (a1.extract 0 ((ji3) : Int).toNat)] rfl (by (try simp only [List.map_toArray, List.map_cons, List.map_nil]); first | done | (simp only [hji3]; rfl) | rfl | (simp only [List.length_drop, List.length_take]; rfl)) ?_; (with_reducible refine (utf_First.calls kj6 (a1.extract 0 ((ji3) : Int).toNat) t141 t142 t143 _ A28.out).mono ?_); rintro e w43 ⟨rfl, hb⟩; refine ⟨_, rfl, ?_⟩; have n0_ := Aside0.mk (below_step (by repeat (first | (with_reducible first | exact HB.out | apply below_alloc | apply pw_below_drewN | apply below_drew1) | exact HB.out)) hb); clear HB; have HB := n0_; clear n0_; (try clear hb); (try clear hb2); (try clear hk); (try clear hi)) | ((with_reducible refine gate_callee (f := 17) rfl ?_); refine goesL_ (some 119) rfl rfl Tryd.func17 (by kernel_rfl) rfl #[.int .i32 t141] rfl (by (try simp only [List.map_toArray, List.map_cons, List.map_nil]); first | done | rfl | (simp only [List.length_drop, List.length_take]; rfl)) ?_; (with_reducible refine (utf_Text.calls t141 t144 t145 _ A30.out).mono ?_); rintro e w' ⟨rfl, ⟨nd, rfl⟩⟩; refine ⟨_, rfl, ?_⟩) | ((with_reducible refine gate_callee (f := 14) rfl ?_); refine goesL_ (some 122) rfl rfl Tryd.func14 (by kernel_rfl) rfl #[] rfl (by (try simp only [List.map_toArray, List.map_cons, List.map_nil]); first | done | rfl | (simp only [List.length_drop, List.length_take]; rfl)) ?_; (with_reducible refine (backseatlaw01_alive.calls kj6  false _ A31.out).mono ?_); rintro e w44 ⟨rfl, hb⟩; refine ⟨_, rfl, ?_⟩; have n0_ := Aside0.mk (below_step (by repeat (first | (with_reducible first | exact HB.out | apply below_alloc | apply pw_below_drewN | apply below_drew1) | exact HB.out)) hb); clear HB; have HB := n0_; clear n0_; (try clear hb); (try clear hb2); (try clear hk); (try clear hi)))
              go_ret
              exact ⟨by first | rfl | (simp [errW_none, errW_some] <;> rfl) | (simp only [← hji3]; first | rfl | (simp [errW_none, errW_some] <;> rfl)) | (simp [*, errW_none, errW_some] <;> rfl), by repeat (first | (with_reducible first | exact HB.out | apply below_alloc | apply pw_below_drewN | apply below_drew1) | exact HB.out)⟩
          · rw [if_neg c29] at H
            have c29b0 : (t143 == 0) = false := beq_eq_false_iff_ne.mpr c29
            have c29b1 : (t143 != 0) = true := bne_iff_ne.mpr c29
            replace H := Option.bind_eq_some_iff.mp H
            obtain ⟨t147, A450, H⟩ := H
            replace H : (if t147 = true then (if t141 = 0 then (if t143 = 2 then (if t142 = 0 then (some true) else (if t143 = 4 then (if t142 ≥ 1 then (if t142 ≤ ((a1.extract 0 ((ji3) : Int).toNat).size : Int) then ((utf_Valid.f (a1.extract 0 ((ji3) : Int).toNat)).bind fun t148 => (some (!t148))) else (some false)) else (some false)) else (some false))) else (if t143 = 4 then (if t142 ≥ 1 then (if t142 ≤ ((a1.extract 0 ((ji3) : Int).toNat).size : Int) then ((utf_Valid.f (a1.extract 0 ((ji3) : Int).toNat)).bind fun t149 => (some (!t149))) else (some false)) else (some false)) else (some false))) else (some false)) else (some false)) = some r := H
            have A45 := Aside0.mk A450
            clear A450
            by_cases c46 : t147 = true
            · subst c46
              have H1 : (if t141 = 0 then (if t143 = 2 then (if t142 = 0 then (some true) else (if t143 = 4 then (if t142 ≥ 1 then (if t142 ≤ ((a1.extract 0 ((ji3) : Int).toNat).size : Int) then ((utf_Valid.f (a1.extract 0 ((ji3) : Int).toNat)).bind fun t148 => (some (!t148))) else (some false)) else (some false)) else (some false))) else (if t143 = 4 then (if t142 ≥ 1 then (if t142 ≤ ((a1.extract 0 ((ji3) : Int).toNat).size : Int) then ((utf_Valid.f (a1.extract 0 ((ji3) : Int).toNat)).bind fun t149 => (some (!t149))) else (some false)) else (some false)) else (some false))) else (some false)) = some r := by rw [if_pos rfl] at H; exact H
              clear H
              have H := H1
              clear H1
              by_cases c47 : t141 = 0
              · rw [if_pos c47] at H
                have c47b0 : (t141 == 0) = true := beq_iff_eq.mpr c47
                have c47b1 : (t141 != 0) = false := bne_eq_false_iff_eq.mpr c47
                clear c47
                by_cases c48 : t143 = 2
                · rw [if_pos c48] at H
                  have c48b0 : (t143 == 2) = true := beq_iff_eq.mpr c48
                  have c48b1 : (t143 != 2) = false := bne_eq_false_iff_eq.mpr c48
                  clear c48
                  by_cases c49 : t142 = 0
                  · rw [if_pos c49] at H
                    have c49b0 : (t142 == 0) = true := beq_iff_eq.mpr c49
                    have c49b1 : (t142 != 0) = false := bne_eq_false_iff_eq.mpr c49
                    clear c49
                    obtain rfl := Option.some.inj H
                    go_wp2_with (first | ((with_reducible refine gate_callee (f := 12) rfl ?_); refine goesL_ (some 79) rfl rfl Tryd.func12 (by kernel_rfl) rfl #[.string (a1.extract 0 ((ji3) : Int).toNat)] rfl (by (try simp only [List.map_toArray, List.map_cons, List.map_nil]); first | done | (simp only [hji3]; rfl) | rfl | (simp only [List.length_drop, List.length_take]; rfl)) ?_; (with_reducible refine (utf_First.calls kj6 (a1.extract 0 ((ji3) : Int).toNat) t141 t142 t143 _ A28.out).mono ?_); rintro e w50 ⟨rfl, hb⟩; refine ⟨_, rfl, ?_⟩; have n0_ := Aside0.mk (below_step (by repeat (first | (with_reducible first | exact HB.out | apply below_alloc | apply pw_below_drewN | apply below_drew1) | exact HB.out)) hb); clear HB; have HB := n0_; clear n0_; (try clear hb); (try clear hb2); (try clear hk); (try clear hi)) | ((with_reducible refine gate_callee (f := 14) rfl ?_); refine goesL_ (some 85) rfl rfl Tryd.func14 (by kernel_rfl) rfl #[] rfl (by (try simp only [List.map_toArray, List.map_cons, List.map_nil]); first | done | rfl | (simp only [List.length_drop, List.length_take]; rfl)) ?_; (with_reducible refine (backseatlaw01_alive.calls kj6  true _ A45.out).mono ?_); rintro e w51 ⟨rfl, hb⟩; refine ⟨_, rfl, ?_⟩; have n0_ := Aside0.mk (below_step (by repeat (first | (with_reducible first | exact HB.out | apply below_alloc | apply pw_below_drewN | apply below_drew1) | exact HB.out)) hb); clear HB; have HB := n0_; clear n0_; (try clear hb); (try clear hb2); (try clear hk); (try clear hi)))
                    go_ret
                    exact ⟨by first | rfl | (simp [errW_none, errW_some] <;> rfl) | (simp only [← hji3]; first | rfl | (simp [errW_none, errW_some] <;> rfl)) | (simp [*, errW_none, errW_some] <;> rfl), by repeat (first | (with_reducible first | exact HB.out | apply below_alloc | apply pw_below_drewN | apply below_drew1) | exact HB.out)⟩
                  · rw [if_neg c49] at H
                    have c49b0 : (t142 == 0) = false := beq_eq_false_iff_ne.mpr c49
                    have c49b1 : (t142 != 0) = true := bne_iff_ne.mpr c49
                    by_cases c52 : t143 = 4
                    · rw [if_pos c52] at H
                      have c52b0 : (t143 == 4) = true := beq_iff_eq.mpr c52
                      have c52b1 : (t143 != 4) = false := bne_eq_false_iff_eq.mpr c52
                      clear c52
                      by_cases c53 : t142 ≥ 1
                      · rw [if_pos c53] at H
                        have c53b0 : decide (1 ≤ t142) = true := decide_eq_true c53
                        clear c53
                        by_cases c54 : t142 ≤ ((a1.extract 0 ((ji3) : Int).toNat).size : Int)
                        · rw [if_pos c54] at H
                          have c54b0 : decide (t142 ≤ ((a1.extract 0 ((ji3) : Int).toNat).size : Int)) = true := decide_eq_true c54
                          (try (have c54b0x := c54b0; simp at c54b0x))
                          clear c54
                          replace H := Option.bind_eq_some_iff.mp H
                          obtain ⟨t148, A550, H⟩ := H
                          replace H : (some (!t148)) = some r := H
                          have A55 := Aside0.mk A550
                          clear A550
                          obtain rfl := Option.some.inj H
                          go_wp2_with (first | ((with_reducible refine gate_callee (f := 12) rfl ?_); refine goesL_ (some 79) rfl rfl Tryd.func12 (by kernel_rfl) rfl #[.string (a1.extract 0 ((ji3) : Int).toNat)] rfl (by (try simp only [List.map_toArray, List.map_cons, List.map_nil]); first | done | (simp only [hji3]; rfl) | rfl | (simp only [List.length_drop, List.length_take]; rfl)) ?_; (with_reducible refine (utf_First.calls kj6 (a1.extract 0 ((ji3) : Int).toNat) t141 t142 t143 _ A28.out).mono ?_); rintro e w56 ⟨rfl, hb⟩; refine ⟨_, rfl, ?_⟩; have n0_ := Aside0.mk (below_step (by repeat (first | (with_reducible first | exact HB.out | apply below_alloc | apply pw_below_drewN | apply below_drew1) | exact HB.out)) hb); clear HB; have HB := n0_; clear n0_; (try clear hb); (try clear hb2); (try clear hk); (try clear hi)) | ((with_reducible refine gate_callee (f := 14) rfl ?_); refine goesL_ (some 85) rfl rfl Tryd.func14 (by kernel_rfl) rfl #[] rfl (by (try simp only [List.map_toArray, List.map_cons, List.map_nil]); first | done | rfl | (simp only [List.length_drop, List.length_take]; rfl)) ?_; (with_reducible refine (backseatlaw01_alive.calls kj6  true _ A45.out).mono ?_); rintro e w57 ⟨rfl, hb⟩; refine ⟨_, rfl, ?_⟩; have n0_ := Aside0.mk (below_step (by repeat (first | (with_reducible first | exact HB.out | apply below_alloc | apply pw_below_drewN | apply below_drew1) | exact HB.out)) hb); clear HB; have HB := n0_; clear n0_; (try clear hb); (try clear hb2); (try clear hk); (try clear hi)) | (go_at_call 15; (with_reducible refine (utf_Valid.calls (a1.extract 0 ((ji3) : Int).toNat) t148 _ A55.out).mono ?_); rintro e w58 ⟨rfl, hb⟩; have n0_ := Aside0.mk (below_step (by repeat (first | (with_reducible first | exact HB.out | apply below_alloc | apply pw_below_drewN | apply below_drew1) | exact HB.out)) hb); clear HB; have HB := n0_; clear n0_; (try clear hb); (try clear hb2); (try clear hk); (try clear hi)))
                          go_ret
                          exact ⟨by first | rfl | (simp [errW_none, errW_some] <;> rfl) | (simp only [← hji3]; first | rfl | (simp [errW_none, errW_some] <;> rfl)) | (simp [*, errW_none, errW_some] <;> rfl), by repeat (first | (with_reducible first | exact HB.out | apply below_alloc | apply pw_below_drewN | apply below_drew1) | exact HB.out)⟩
                        · rw [if_neg c54] at H
                          have c54b0 : decide (t142 ≤ ((a1.extract 0 ((ji3) : Int).toNat).size : Int)) = false := decide_eq_false c54
                          (try (have c54b0x := c54b0; simp at c54b0x))
                          clear c54
                          obtain rfl := Option.some.inj H
                          go_wp2_with (first | ((with_reducible refine gate_callee (f := 12) rfl ?_); refine goesL_ (some 79) rfl rfl Tryd.func12 (by kernel_rfl) rfl #[.string (a1.extract 0 ((ji3) : Int).toNat)] rfl (by (try simp only [List.map_toArray, List.map_cons, List.map_nil]); first | done | (simp only [hji3]; rfl) | rfl | (simp only [List.length_drop, List.length_take]; rfl)) ?_; (with_reducible refine (utf_First.calls kj6 (a1.extract 0 ((ji3) : Int).toNat) t141 t142 t143 _ A28.out).mono ?_); rintro e w59 ⟨rfl, hb⟩; refine ⟨_, rfl, ?_⟩; have n0_ := Aside0.mk (below_step (by repeat (first | (with_reducible first | exact HB.out | apply below_alloc | apply pw_below_drewN | apply below_drew1) | exact HB.out)) hb); clear HB; have HB := n0_; clear n0_; (try clear hb); (try clear hb2); (try clear hk); (try clear hi)) | ((with_reducible refine gate_callee (f := 14) rfl ?_); refine goesL_ (some 85) rfl rfl Tryd.func14 (by kernel_rfl) rfl #[] rfl (by (try simp only [List.map_toArray, List.map_cons, List.map_nil]); first | done | rfl | (simp only [List.length_drop, List.length_take]; rfl)) ?_; (with_reducible refine (backseatlaw01_alive.calls kj6  true _ A45.out).mono ?_); rintro e w60 ⟨rfl, hb⟩; refine ⟨_, rfl, ?_⟩; have n0_ := Aside0.mk (below_step (by repeat (first | (with_reducible first | exact HB.out | apply below_alloc | apply pw_below_drewN | apply below_drew1) | exact HB.out)) hb); clear HB; have HB := n0_; clear n0_; (try clear hb); (try clear hb2); (try clear hk); (try clear hi)))
                          go_ret
                          exact ⟨by first | rfl | (simp [errW_none, errW_some] <;> rfl) | (simp only [← hji3]; first | rfl | (simp [errW_none, errW_some] <;> rfl)) | (simp [*, errW_none, errW_some] <;> rfl), by repeat (first | (with_reducible first | exact HB.out | apply below_alloc | apply pw_below_drewN | apply below_drew1) | exact HB.out)⟩
                      · rw [if_neg c53] at H
                        have c53b0 : decide (1 ≤ t142) = false := decide_eq_false c53
                        clear c53
                        obtain rfl := Option.some.inj H
                        go_wp2_with (first | ((with_reducible refine gate_callee (f := 12) rfl ?_); refine goesL_ (some 79) rfl rfl Tryd.func12 (by kernel_rfl) rfl #[.string (a1.extract 0 ((ji3) : Int).toNat)] rfl (by (try simp only [List.map_toArray, List.map_cons, List.map_nil]); first | done | (simp only [hji3]; rfl) | rfl | (simp only [List.length_drop, List.length_take]; rfl)) ?_; (with_reducible refine (utf_First.calls kj6 (a1.extract 0 ((ji3) : Int).toNat) t141 t142 t143 _ A28.out).mono ?_); rintro e w61 ⟨rfl, hb⟩; refine ⟨_, rfl, ?_⟩; have n0_ := Aside0.mk (below_step (by repeat (first | (with_reducible first | exact HB.out | apply below_alloc | apply pw_below_drewN | apply below_drew1) | exact HB.out)) hb); clear HB; have HB := n0_; clear n0_; (try clear hb); (try clear hb2); (try clear hk); (try clear hi)) | ((with_reducible refine gate_callee (f := 14) rfl ?_); refine goesL_ (some 85) rfl rfl Tryd.func14 (by kernel_rfl) rfl #[] rfl (by (try simp only [List.map_toArray, List.map_cons, List.map_nil]); first | done | rfl | (simp only [List.length_drop, List.length_take]; rfl)) ?_; (with_reducible refine (backseatlaw01_alive.calls kj6  true _ A45.out).mono ?_); rintro e w62 ⟨rfl, hb⟩; refine ⟨_, rfl, ?_⟩; have n0_ := Aside0.mk (below_step (by repeat (first | (with_reducible first | exact HB.out | apply below_alloc | apply pw_below_drewN | apply below_drew1) | exact HB.out)) hb); clear HB; have HB := n0_; clear n0_; (try clear hb); (try clear hb2); (try clear hk); (try clear hi)))
                        go_ret
                        exact ⟨by first | rfl | (simp [errW_none, errW_some] <;> rfl) | (simp only [← hji3]; first | rfl | (simp [errW_none, errW_some] <;> rfl)) | (simp [*, errW_none, errW_some] <;> rfl), by repeat (first | (with_reducible first | exact HB.out | apply below_alloc | apply pw_below_drewN | apply below_drew1) | exact HB.out)⟩
                    · rw [if_neg c52] at H
                      have c52b0 : (t143 == 4) = false := beq_eq_false_iff_ne.mpr c52
                      have c52b1 : (t143 != 4) = true := bne_iff_ne.mpr c52
                      obtain rfl := Option.some.inj H
                      go_wp2_with (first | ((with_reducible refine gate_callee (f := 12) rfl ?_); refine goesL_ (some 79) rfl rfl Tryd.func12 (by kernel_rfl) rfl #[.string (a1.extract 0 ((ji3) : Int).toNat)] rfl (by (try simp only [List.map_toArray, List.map_cons, List.map_nil]); first | done | (simp only [hji3]; rfl) | rfl | (simp only [List.length_drop, List.length_take]; rfl)) ?_; (with_reducible refine (utf_First.calls kj6 (a1.extract 0 ((ji3) : Int).toNat) t141 t142 t143 _ A28.out).mono ?_); rintro e w63 ⟨rfl, hb⟩; refine ⟨_, rfl, ?_⟩; have n0_ := Aside0.mk (below_step (by repeat (first | (with_reducible first | exact HB.out | apply below_alloc | apply pw_below_drewN | apply below_drew1) | exact HB.out)) hb); clear HB; have HB := n0_; clear n0_; (try clear hb); (try clear hb2); (try clear hk); (try clear hi)) | ((with_reducible refine gate_callee (f := 14) rfl ?_); refine goesL_ (some 85) rfl rfl Tryd.func14 (by kernel_rfl) rfl #[] rfl (by (try simp only [List.map_toArray, List.map_cons, List.map_nil]); first | done | rfl | (simp only [List.length_drop, List.length_take]; rfl)) ?_; (with_reducible refine (backseatlaw01_alive.calls kj6  true _ A45.out).mono ?_); rintro e w64 ⟨rfl, hb⟩; refine ⟨_, rfl, ?_⟩; have n0_ := Aside0.mk (below_step (by repeat (first | (with_reducible first | exact HB.out | apply below_alloc | apply pw_below_drewN | apply below_drew1) | exact HB.out)) hb); clear HB; have HB := n0_; clear n0_; (try clear hb); (try clear hb2); (try clear hk); (try clear hi)))
                      go_ret
                      exact ⟨by first | rfl | (simp [errW_none, errW_some] <;> rfl) | (simp only [← hji3]; first | rfl | (simp [errW_none, errW_some] <;> rfl)) | (simp [*, errW_none, errW_some] <;> rfl), by repeat (first | (with_reducible first | exact HB.out | apply below_alloc | apply pw_below_drewN | apply below_drew1) | exact HB.out)⟩
                · rw [if_neg c48] at H
                  have c48b0 : (t143 == 2) = false := beq_eq_false_iff_ne.mpr c48
                  have c48b1 : (t143 != 2) = true := bne_iff_ne.mpr c48
                  by_cases c65 : t143 = 4
                  · rw [if_pos c65] at H
                    have c65b0 : (t143 == 4) = true := beq_iff_eq.mpr c65
                    have c65b1 : (t143 != 4) = false := bne_eq_false_iff_eq.mpr c65
                    clear c65
                    by_cases c66 : t142 ≥ 1
                    · rw [if_pos c66] at H
                      have c66b0 : decide (1 ≤ t142) = true := decide_eq_true c66
                      clear c66
                      by_cases c67 : t142 ≤ ((a1.extract 0 ((ji3) : Int).toNat).size : Int)
                      · rw [if_pos c67] at H
                        have c67b0 : decide (t142 ≤ ((a1.extract 0 ((ji3) : Int).toNat).size : Int)) = true := decide_eq_true c67
                        (try (have c67b0x := c67b0; simp at c67b0x))
                        clear c67
                        replace H := Option.bind_eq_some_iff.mp H
                        obtain ⟨t149, A680, H⟩ := H
                        replace H : (some (!t149)) = some r := H
                        have A68 := Aside0.mk A680
                        clear A680
                        obtain rfl := Option.some.inj H
                        go_wp2_with (first | ((with_reducible refine gate_callee (f := 12) rfl ?_); refine goesL_ (some 79) rfl rfl Tryd.func12 (by kernel_rfl) rfl #[.string (a1.extract 0 ((ji3) : Int).toNat)] rfl (by (try simp only [List.map_toArray, List.map_cons, List.map_nil]); first | done | (simp only [hji3]; rfl) | rfl | (simp only [List.length_drop, List.length_take]; rfl)) ?_; (with_reducible refine (utf_First.calls kj6 (a1.extract 0 ((ji3) : Int).toNat) t141 t142 t143 _ A28.out).mono ?_); rintro e w69 ⟨rfl, hb⟩; refine ⟨_, rfl, ?_⟩; have n0_ := Aside0.mk (below_step (by repeat (first | (with_reducible first | exact HB.out | apply below_alloc | apply pw_below_drewN | apply below_drew1) | exact HB.out)) hb); clear HB; have HB := n0_; clear n0_; (try clear hb); (try clear hb2); (try clear hk); (try clear hi)) | ((with_reducible refine gate_callee (f := 14) rfl ?_); refine goesL_ (some 85) rfl rfl Tryd.func14 (by kernel_rfl) rfl #[] rfl (by (try simp only [List.map_toArray, List.map_cons, List.map_nil]); first | done | rfl | (simp only [List.length_drop, List.length_take]; rfl)) ?_; (with_reducible refine (backseatlaw01_alive.calls kj6  true _ A45.out).mono ?_); rintro e w70 ⟨rfl, hb⟩; refine ⟨_, rfl, ?_⟩; have n0_ := Aside0.mk (below_step (by repeat (first | (with_reducible first | exact HB.out | apply below_alloc | apply pw_below_drewN | apply below_drew1) | exact HB.out)) hb); clear HB; have HB := n0_; clear n0_; (try clear hb); (try clear hb2); (try clear hk); (try clear hi)) | (go_at_call 15; (with_reducible refine (utf_Valid.calls (a1.extract 0 ((ji3) : Int).toNat) t149 _ A68.out).mono ?_); rintro e w71 ⟨rfl, hb⟩; have n0_ := Aside0.mk (below_step (by repeat (first | (with_reducible first | exact HB.out | apply below_alloc | apply pw_below_drewN | apply below_drew1) | exact HB.out)) hb); clear HB; have HB := n0_; clear n0_; (try clear hb); (try clear hb2); (try clear hk); (try clear hi)))
                        go_ret
                        exact ⟨by first | rfl | (simp [errW_none, errW_some] <;> rfl) | (simp only [← hji3]; first | rfl | (simp [errW_none, errW_some] <;> rfl)) | (simp [*, errW_none, errW_some] <;> rfl), by repeat (first | (with_reducible first | exact HB.out | apply below_alloc | apply pw_below_drewN | apply below_drew1) | exact HB.out)⟩
                      · rw [if_neg c67] at H
                        have c67b0 : decide (t142 ≤ ((a1.extract 0 ((ji3) : Int).toNat).size : Int)) = false := decide_eq_false c67
                        (try (have c67b0x := c67b0; simp at c67b0x))
                        clear c67
                        obtain rfl := Option.some.inj H
                        go_wp2_with (first | ((with_reducible refine gate_callee (f := 12) rfl ?_); refine goesL_ (some 79) rfl rfl Tryd.func12 (by kernel_rfl) rfl #[.string (a1.extract 0 ((ji3) : Int).toNat)] rfl (by (try simp only [List.map_toArray, List.map_cons, List.map_nil]); first | done | (simp only [hji3]; rfl) | rfl | (simp only [List.length_drop, List.length_take]; rfl)) ?_; (with_reducible refine (utf_First.calls kj6 (a1.extract 0 ((ji3) : Int).toNat) t141 t142 t143 _ A28.out).mono ?_); rintro e w72 ⟨rfl, hb⟩; refine ⟨_, rfl, ?_⟩; have n0_ := Aside0.mk (below_step (by repeat (first | (with_reducible first | exact HB.out | apply below_alloc | apply pw_below_drewN | apply below_drew1) | exact HB.out)) hb); clear HB; have HB := n0_; clear n0_; (try clear hb); (try clear hb2); (try clear hk); (try clear hi)) | ((with_reducible refine gate_callee (f := 14) rfl ?_); refine goesL_ (some 85) rfl rfl Tryd.func14 (by kernel_rfl) rfl #[] rfl (by (try simp only [List.map_toArray, List.map_cons, List.map_nil]); first | done | rfl | (simp only [List.length_drop, List.length_take]; rfl)) ?_; (with_reducible refine (backseatlaw01_alive.calls kj6  true _ A45.out).mono ?_); rintro e w73 ⟨rfl, hb⟩; refine ⟨_, rfl, ?_⟩; have n0_ := Aside0.mk (below_step (by repeat (first | (with_reducible first | exact HB.out | apply below_alloc | apply pw_below_drewN | apply below_drew1) | exact HB.out)) hb); clear HB; have HB := n0_; clear n0_; (try clear hb); (try clear hb2); (try clear hk); (try clear hi)))
                        go_ret
                        exact ⟨by first | rfl | (simp [errW_none, errW_some] <;> rfl) | (simp only [← hji3]; first | rfl | (simp [errW_none, errW_some] <;> rfl)) | (simp [*, errW_none, errW_some] <;> rfl), by repeat (first | (with_reducible first | exact HB.out | apply below_alloc | apply pw_below_drewN | apply below_drew1) | exact HB.out)⟩
                    · rw [if_neg c66] at H
                      have c66b0 : decide (1 ≤ t142) = false := decide_eq_false c66
                      clear c66
                      obtain rfl := Option.some.inj H
                      go_wp2_with (first | ((with_reducible refine gate_callee (f := 12) rfl ?_); refine goesL_ (some 79) rfl rfl Tryd.func12 (by kernel_rfl) rfl #[.string (a1.extract 0 ((ji3) : Int).toNat)] rfl (by (try simp only [List.map_toArray, List.map_cons, List.map_nil]); first | done | (simp only [hji3]; rfl) | rfl | (simp only [List.length_drop, List.length_take]; rfl)) ?_; (with_reducible refine (utf_First.calls kj6 (a1.extract 0 ((ji3) : Int).toNat) t141 t142 t143 _ A28.out).mono ?_); rintro e w74 ⟨rfl, hb⟩; refine ⟨_, rfl, ?_⟩; have n0_ := Aside0.mk (below_step (by repeat (first | (with_reducible first | exact HB.out | apply below_alloc | apply pw_below_drewN | apply below_drew1) | exact HB.out)) hb); clear HB; have HB := n0_; clear n0_; (try clear hb); (try clear hb2); (try clear hk); (try clear hi)) | ((with_reducible refine gate_callee (f := 14) rfl ?_); refine goesL_ (some 85) rfl rfl Tryd.func14 (by kernel_rfl) rfl #[] rfl (by (try simp only [List.map_toArray, List.map_cons, List.map_nil]); first | done | rfl | (simp only [List.length_drop, List.length_take]; rfl)) ?_; (with_reducible refine (backseatlaw01_alive.calls kj6  true _ A45.out).mono ?_); rintro e w75 ⟨rfl, hb⟩; refine ⟨_, rfl, ?_⟩; have n0_ := Aside0.mk (below_step (by repeat (first | (with_reducible first | exact HB.out | apply below_alloc | apply pw_below_drewN | apply below_drew1) | exact HB.out)) hb); clear HB; have HB := n0_; clear n0_; (try clear hb); (try clear hb2); (try clear hk); (try clear hi)))
                      go_ret
                      exact ⟨by first | rfl | (simp [errW_none, errW_some] <;> rfl) | (simp only [← hji3]; first | rfl | (simp [errW_none, errW_some] <;> rfl)) | (simp [*, errW_none, errW_some] <;> rfl), by repeat (first | (with_reducible first | exact HB.out | apply below_alloc | apply pw_below_drewN | apply below_drew1) | exact HB.out)⟩
                  · rw [if_neg c65] at H
                    have c65b0 : (t143 == 4) = false := beq_eq_false_iff_ne.mpr c65
                    have c65b1 : (t143 != 4) = true := bne_iff_ne.mpr c65
                    obtain rfl := Option.some.inj H
                    go_wp2_with (first | ((with_reducible refine gate_callee (f := 12) rfl ?_); refine goesL_ (some 79) rfl rfl Tryd.func12 (by kernel_rfl) rfl #[.string (a1.extract 0 ((ji3) : Int).toNat)] rfl (by (try simp only [List.map_toArray, List.map_cons, List.map_nil]); first | done | (simp only [hji3]; rfl) | rfl | (simp only [List.length_drop, List.length_take]; rfl)) ?_; (with_reducible refine (utf_First.calls kj6 (a1.extract 0 ((ji3) : Int).toNat) t141 t142 t143 _ A28.out).mono ?_); rintro e w76 ⟨rfl, hb⟩; refine ⟨_, rfl, ?_⟩; have n0_ := Aside0.mk (below_step (by repeat (first | (with_reducible first | exact HB.out | apply below_alloc | apply pw_below_drewN | apply below_drew1) | exact HB.out)) hb); clear HB; have HB := n0_; clear n0_; (try clear hb); (try clear hb2); (try clear hk); (try clear hi)) | ((with_reducible refine gate_callee (f := 14) rfl ?_); refine goesL_ (some 85) rfl rfl Tryd.func14 (by kernel_rfl) rfl #[] rfl (by (try simp only [List.map_toArray, List.map_cons, List.map_nil]); first | done | rfl | (simp only [List.length_drop, List.length_take]; rfl)) ?_; (with_reducible refine (backseatlaw01_alive.calls kj6  true _ A45.out).mono ?_); rintro e w77 ⟨rfl, hb⟩; refine ⟨_, rfl, ?_⟩; have n0_ := Aside0.mk (below_step (by repeat (first | (with_reducible first | exact HB.out | apply below_alloc | apply pw_below_drewN | apply below_drew1) | exact HB.out)) hb); clear HB; have HB := n0_; clear n0_; (try clear hb); (try clear hb2); (try clear hk); (try clear hi)))
                    go_ret
                    exact ⟨by first | rfl | (simp [errW_none, errW_some] <;> rfl) | (simp only [← hji3]; first | rfl | (simp [errW_none, errW_some] <;> rfl)) | (simp [*, errW_none, errW_some] <;> rfl), by repeat (first | (with_reducible first | exact HB.out | apply below_alloc | apply pw_below_drewN | apply below_drew1) | exact HB.out)⟩
              · rw [if_neg c47] at H
                have c47b0 : (t141 == 0) = false := beq_eq_false_iff_ne.mpr c47
                have c47b1 : (t141 != 0) = true := bne_iff_ne.mpr c47
                obtain rfl := Option.some.inj H
                go_wp2_with (first | ((with_reducible refine gate_callee (f := 12) rfl ?_); refine goesL_ (some 79) rfl rfl Tryd.func12 (by kernel_rfl) rfl #[.string (a1.extract 0 ((ji3) : Int).toNat)] rfl (by (try simp only [List.map_toArray, List.map_cons, List.map_nil]); first | done | (simp only [hji3]; rfl) | rfl | (simp only [List.length_drop, List.length_take]; rfl)) ?_; (with_reducible refine (utf_First.calls kj6 (a1.extract 0 ((ji3) : Int).toNat) t141 t142 t143 _ A28.out).mono ?_); rintro e w78 ⟨rfl, hb⟩; refine ⟨_, rfl, ?_⟩; have n0_ := Aside0.mk (below_step (by repeat (first | (with_reducible first | exact HB.out | apply below_alloc | apply pw_below_drewN | apply below_drew1) | exact HB.out)) hb); clear HB; have HB := n0_; clear n0_; (try clear hb); (try clear hb2); (try clear hk); (try clear hi)) | ((with_reducible refine gate_callee (f := 14) rfl ?_); refine goesL_ (some 85) rfl rfl Tryd.func14 (by kernel_rfl) rfl #[] rfl (by (try simp only [List.map_toArray, List.map_cons, List.map_nil]); first | done | rfl | (simp only [List.length_drop, List.length_take]; rfl)) ?_; (with_reducible refine (backseatlaw01_alive.calls kj6  true _ A45.out).mono ?_); rintro e w79 ⟨rfl, hb⟩; refine ⟨_, rfl, ?_⟩; have n0_ := Aside0.mk (below_step (by repeat (first | (with_reducible first | exact HB.out | apply below_alloc | apply pw_below_drewN | apply below_drew1) | exact HB.out)) hb); clear HB; have HB := n0_; clear n0_; (try clear hb); (try clear hb2); (try clear hk); (try clear hi)))
                go_ret
                exact ⟨by first | rfl | (simp [errW_none, errW_some] <;> rfl) | (simp only [← hji3]; first | rfl | (simp [errW_none, errW_some] <;> rfl)) | (simp [*, errW_none, errW_some] <;> rfl), by repeat (first | (with_reducible first | exact HB.out | apply below_alloc | apply pw_below_drewN | apply below_drew1) | exact HB.out)⟩
            · replace c46 := Bool.eq_false_iff.mpr c46
              subst c46
              have H1 : (some false) = some r := by rw [if_neg (show ¬ (false = true) by decide)] at H; exact H
              clear H
              have H := H1
              clear H1
              obtain rfl := Option.some.inj H
              go_wp2_with (first | ((with_reducible refine gate_callee (f := 12) rfl ?_); refine goesL_ (some 79) rfl rfl Tryd.func12 (by kernel_rfl) rfl #[.string (a1.extract 0 ((ji3) : Int).toNat)] rfl (by (try simp only [List.map_toArray, List.map_cons, List.map_nil]); first | done | (simp only [hji3]; rfl) | rfl | (simp only [List.length_drop, List.length_take]; rfl)) ?_; (with_reducible refine (utf_First.calls kj6 (a1.extract 0 ((ji3) : Int).toNat) t141 t142 t143 _ A28.out).mono ?_); rintro e w80 ⟨rfl, hb⟩; refine ⟨_, rfl, ?_⟩; have n0_ := Aside0.mk (below_step (by repeat (first | (with_reducible first | exact HB.out | apply below_alloc | apply pw_below_drewN | apply below_drew1) | exact HB.out)) hb); clear HB; have HB := n0_; clear n0_; (try clear hb); (try clear hb2); (try clear hk); (try clear hi)) | ((with_reducible refine gate_callee (f := 14) rfl ?_); refine goesL_ (some 85) rfl rfl Tryd.func14 (by kernel_rfl) rfl #[] rfl (by (try simp only [List.map_toArray, List.map_cons, List.map_nil]); first | done | rfl | (simp only [List.length_drop, List.length_take]; rfl)) ?_; (with_reducible refine (backseatlaw01_alive.calls kj6  false _ A45.out).mono ?_); rintro e w81 ⟨rfl, hb⟩; refine ⟨_, rfl, ?_⟩; have n0_ := Aside0.mk (below_step (by repeat (first | (with_reducible first | exact HB.out | apply below_alloc | apply pw_below_drewN | apply below_drew1) | exact HB.out)) hb); clear HB; have HB := n0_; clear n0_; (try clear hb); (try clear hb2); (try clear hk); (try clear hi)))
              go_ret
              exact ⟨by first | rfl | (simp [errW_none, errW_some] <;> rfl) | (simp only [← hji3]; first | rfl | (simp [errW_none, errW_some] <;> rfl)) | (simp [*, errW_none, errW_some] <;> rfl), by repeat (first | (with_reducible first | exact HB.out | apply below_alloc | apply pw_below_drewN | apply below_drew1) | exact HB.out)⟩
    · rw [if_neg c5] at H
      exact absurd H (by simp)
  · rw [if_neg c4] at H
    exact absurd H (by simp)

/-- THE ONE PURE STATEMENT of backseatlaw01_UtfBack: yours. -/
def backseatlaw01_UtfBack.Pure : Prop := ∀ (a0 : Int) (a1 : ByteArray), (Lit.int .i32 a0).wf = true → a1.size ≤ 140737488351232 → ∃ k, backseatlaw01_UtfBack.f k a0 a1 = some true

end Go.Proofs.YthipdgnbpdngpaaDoor.P
