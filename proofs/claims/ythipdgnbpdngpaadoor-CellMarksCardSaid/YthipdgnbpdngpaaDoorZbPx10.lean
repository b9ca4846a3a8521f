-- A copy of the text YthipdgnbpdngpaaDoorPx10 with what this claim does not reach left out (prune.py, a program of this project).
import Derived.Test.YthipdgnbpdngpaaDoorZbPx0
import Derived.Test.YthipdgnbpdngpaaDoorZbPx3
import Derived.Test.YthipdgnbpdngpaaDoorZbGWidth
namespace Go.Proofs.YthipdgnbpdngpaaDoor.P
open Go.RowKit Go.Proofs.YthipdgnbpdngpaaDoor Go.Proofs.YthipdgnbpdngpaaDoorW.PrintWords Go.Proofs.YthipdgnbpdngpaaDoorW.PrintLast Go.Proofs.YthipdgnbpdngpaaDoorW.PrintMore
attribute [local go_sem] max2_int min2_int max_two min_two max_three min_three max_four min_four   -- for this text's walks alone
set_option linter.unusedVariables false
set_option linter.unusedSimpArgs false
def cell_marks.l0 : Nat → ByteArray → Int → Option (Int)
  | 0, _, _ => none
  | k + 1, x0, x3 => if x0.toList = ([] : List UInt8) then (some x3) else ((utf_First.f k x0).bind fun bt218 => (if bt218.2.2 = 0 then ((utf_Width.f bt218.1).bind fun t221 => (if t221 = 0 then (if 0 ≤ bt218.2.1 then (if bt218.2.1 ≤ (x0.size : Int) then (cell_marks.l0 k (x0.extract (bt218.2.1 : Int).toNat x0.size) (wrap64 (x3 + 1))) else (none)) else (none)) else (some (-1)))) else (some (-1))))
def cell_marks.f (k : Nat) (a0 : ByteArray) : Option (Int) := cell_marks.l0 k a0 0
theorem cell_marks.mono_l : ∀ k, (∀ y0 y1, LeO (cell_marks.l0 k y0 y1) (cell_marks.l0 (k + 1) y0 y1))
  | 0 => fun _ _ r h => by simp [cell_marks.l0] at h
  | k + 1 => by
    have ih0 := cell_marks.mono_l k
    · intro y0 y1
      unfold cell_marks.l0
      repeat' first
      | (with_reducible exact ih0 _ _)
      | (with_reducible exact utf_First.mono _ _)
      | (with_reducible exact LeO.refl _)
      | (with_reducible exact LeO.none _)
      | (with_reducible refine LeO.ite ?_ ?_)
      | (with_reducible refine LeO.bind ?_ (fun _ => ?_))
      | exact ih0 _ _
      | exact utf_First.mono _ _
      | exact LeO.none _
      | refine LeO.ite ?_ ?_
      | refine LeO.bind ?_ (fun _ => ?_)
theorem cell_marks.mono : ∀ a0 k, LeO (cell_marks.f k a0) (cell_marks.f (k + 1) a0) := by
  intro a0 k
  have ih0 := cell_marks.mono_l k
  unfold cell_marks.f
  repeat' first
      | (with_reducible exact ih0 _ _)
      | (with_reducible exact utf_First.mono _ _)
      | (with_reducible exact LeO.refl _)
      | (with_reducible exact LeO.none _)
      | (with_reducible refine LeO.ite ?_ ?_)
      | (with_reducible refine LeO.bind ?_ (fun _ => ?_))
      | exact ih0 _ _
      | exact utf_First.mono _ _
      | exact LeO.none _
      | refine LeO.ite ?_ ?_
      | refine LeO.bind ?_ (fun _ => ?_)
set_option maxHeartbeats 8000000 in
set_option maxRecDepth 100000 in
theorem cell_marks.calls (k : Nat) (a0 : ByteArray) (r : Int) (w : World) (h : cell_marks.f k a0 = some r) (hT : TabsAt w := by first | with_reducible assumption | exact tabs_here (by with_reducible assumption) (by repeat (with_reducible first | assumption | apply below_alloc | apply pw_below_drewN | apply below_drew1 | (refine Below.setCell ?_ ?_ _) | exact Aside0.out (by assumption)))) :
    Calls Tryd.prog 54 #[.string a0] w fun e w' => e = .returned (.int .i64 r) ∧ Below w.heap.size w w' := by
  have HB := Aside0.mk (Below.refl w.heap.size w)
  have H : (cell_marks.l0 k a0 0) = some r := h
  clear h
  have H' := Aside0.mk H
  clear H
  go_enter Tryd.func54, Tryd.ntmps54
  go_wp2
  go_loopg [0, 3] k (fun kq v0 v3 w' => ∃ (x0_1 : ByteArray) (x3_1 : Int), v0 = .string x0_1 ∧ v3 = .int .i64 x3_1 ∧ Aside0 (cell_marks.l0 kq x0_1 x3_1 = some r) ∧ Aside0 (kq ≤ k) ∧ Aside0 (Below w.heap.size w w'))
  case atStart => exact ⟨(a0), (0), (by first | rfl | (simp; done) | (simp [*]; done)), (by first | rfl | (simp; done) | (simp [*]; done)), H', ⟨Nat.le_refl _⟩, ⟨by repeat (first | (with_reducible first | exact HB.out | apply below_alloc | apply pw_below_drewN | apply below_drew1) | exact HB.out)⟩⟩
  case round =>
    clear H'
    obtain ⟨x0_1, x3_1, rfl, rfl, HA, HK1, HB⟩ := hrel
    cases gk with
    | zero => exact absurd HA.out (by simp [cell_marks.l0])
    | succ k1 =>
      have H := HA.out
      clear HA
      simp only [cell_marks.l0] at H
      by_cases c2 : x0_1.toList = ([] : List UInt8)
      · rw [if_pos c2] at H
        have c2b0 : (x0_1.toList == ([] : List UInt8)) = true := beq_iff_eq.mpr c2
        have c2b1 : (x0_1.toList != ([] : List UInt8)) = false := bne_eq_false_iff_eq.mpr c2
        clear c2
        obtain rfl := Option.some.inj H
        go_wp2
        go_ret
        exact ⟨by first | rfl | (simp [errW_none, errW_some] <;> rfl) | (simp [*, errW_none, errW_some] <;> rfl), by repeat (first | (with_reducible first | exact HB.out | apply below_alloc | apply pw_below_drewN | apply below_drew1) | exact HB.out)⟩
      · rw [if_neg c2] at H
        have c2b0 : (x0_1.toList == ([] : List UInt8)) = false := beq_eq_false_iff_ne.mpr c2
        have c2b1 : (x0_1.toList != ([] : List UInt8)) = true := bne_iff_ne.mpr c2
        replace H := Option.bind_eq_some_iff.mp H
        obtain ⟨⟨t218, t219, t220⟩, A30, H⟩ := H
        replace H : (if t220 = 0 then ((utf_Width.f t218).bind fun t221 => (if t221 = 0 then (if 0 ≤ t219 then (if t219 ≤ (x0_1.size : Int) then (cell_marks.l0 k1 (x0_1.extract (t219 : Int).toNat x0_1.size) (wrap64 (x3_1 + 1))) else (none)) else (none)) else (some (-1)))) else (some (-1))) = some r := H
        have A3 := Aside0.mk A30
        clear A30
        by_cases c4 : t220 = 0
        · rw [if_pos c4] at H
          have c4b0 : (t220 == 0) = true := beq_iff_eq.mpr c4
          have c4b1 : (t220 != 0) = false := bne_eq_false_iff_eq.mpr c4
          clear c4
          replace H := Option.bind_eq_some_iff.mp H
          obtain ⟨t221, A50, H⟩ := H
          replace H : (if t221 = 0 then (if 0 ≤ t219 then (if t219 ≤ (x0_1.size : Int) then (cell_marks.l0 k1 (x0_1.extract (t219 : Int).toNat x0_1.size) (wrap64 (x3_1 + 1))) else (none)) else (none)) else (some (-1))) = some r := H
          have A5 := Aside0.mk A50
          clear A50
          by_cases c6 : t221 = 0
          · rw [if_pos c6] at H
            have c6b0 : (t221 == 0) = true := beq_iff_eq.mpr c6
            have c6b1 : (t221 != 0) = false := bne_eq_false_iff_eq.mpr c6
            clear c6
            by_cases c7 : 0 ≤ t219
            · rw [if_pos c7] at H
              have c7b0 := eq_true c7
              have c7b1 : decide (0 ≤ t219) = true := decide_eq_true c7
              clear c7
              by_cases c8 : t219 ≤ (x0_1.size : Int)
              · rw [if_pos c8] at H
                have c8b0 := eq_true c8
                have c8b1 : decide (t219 ≤ (x0_1.size : Int)) = true := decide_eq_true c8
                clear c8
                have H' := Aside0.mk H
                clear H
                go_wp2_with (first | ((with_reducible refine gate_callee (f := 12) rfl ?_); refine goesL_ (some 11) rfl rfl Tryd.func12 (by kernel_rfl) rfl #[.string x0_1] rfl (by (try simp only [List.map_toArray, List.map_cons, List.map_nil]); first | done | rfl | (simp only [List.length_drop, List.length_take]; rfl)) ?_; (with_reducible refine (utf_First.calls k1 x0_1 t218 t219 t220 _ A3.out).mono ?_); rintro e w9 ⟨rfl, hb⟩; refine ⟨_, rfl, ?_⟩; have n0_ := Aside0.mk (below_step (by repeat (first | (with_reducible first | exact HB.out | apply below_alloc | apply pw_below_drewN | apply below_drew1) | exact HB.out)) hb); clear HB; have HB := n0_; clear n0_; (try clear hb); (try clear hb2); (try clear hk); (try clear hi)) | (go_at_call 18; (with_reducible refine (utf_Width.calls t218 t221 _ A5.out).mono ?_); rintro e w10 ⟨rfl, hb⟩; have n0_ := Aside0.mk (below_step (by repeat (first | (with_reducible first | exact HB.out | apply below_alloc | apply pw_below_drewN | apply below_drew1) | exact HB.out)) hb); clear HB; have HB := n0_; clear n0_; (try clear hb); (try clear hb2); (try clear hk); (try clear hi)))
                go_roundg k1
                case measure => have := HK1.out; omega
                case rel => exact ⟨(x0_1.extract (t219 : Int).toNat x0_1.size), (wrap64 (x3_1 + 1)), (by first | rfl | (simp; done) | (simp [*]; done)), (by first | rfl | (simp; done) | (simp [*]; done)), H', ⟨by have := HK1.out; omega⟩, ⟨by repeat (first | (with_reducible first | exact HB.out | apply below_alloc | apply pw_below_drewN | apply below_drew1) | exact HB.out)⟩⟩
              · rw [if_neg c8] at H
                exact absurd H (by simp)
            · rw [if_neg c7] at H
              exact absurd H (by simp)
          · rw [if_neg c6] at H
            have c6b0 : (t221 == 0) = false := beq_eq_false_iff_ne.mpr c6
            have c6b1 : (t221 != 0) = true := bne_iff_ne.mpr c6
            obtain rfl := Option.some.inj H
            go_wp2_with (first | ((with_reducible refine gate_callee (f := 12) rfl ?_); refine goesL_ (some 11) rfl rfl Tryd.func12 (by kernel_rfl) rfl #[.string x0_1] rfl (by (try simp only [List.map_toArray, List.map_cons, List.map_nil]); first | done | rfl | (simp only [List.length_drop, List.length_take]; rfl)) ?_; (with_reducible refine (utf_First.calls k1 x0_1 t218 t219 t220 _ A3.out).mono ?_); rintro e w11 ⟨rfl, hb⟩; refine ⟨_, rfl, ?_⟩; have n0_ := Aside0.mk (below_step (by repeat (first | (with_reducible first | exact HB.out | apply below_alloc | apply pw_below_drewN | apply below_drew1) | exact HB.out)) hb); clear HB; have HB := n0_; clear n0_; (try clear hb); (try clear hb2); (try clear hk); (try clear hi)) | (go_at_call 18; (with_reducible refine (utf_Width.calls t218 t221 _ A5.out).mono ?_); rintro e w12 ⟨rfl, hb⟩; have n0_ := Aside0.mk (below_step (by repeat (first | (with_reducible first | exact HB.out | apply below_alloc | apply pw_below_drewN | apply below_drew1) | exact HB.out)) hb); clear HB; have HB := n0_; clear n0_; (try clear hb); (try clear hb2); (try clear hk); (try clear hi)))
            go_ret
            exact ⟨by first | rfl | (simp [errW_none, errW_some] <;> rfl) | (simp [*, errW_none, errW_some] <;> rfl), by repeat (first | (with_reducible first | exact HB.out | apply below_alloc | apply pw_below_drewN | apply below_drew1) | exact HB.out)⟩
        · rw [if_neg c4] at H
          have c4b0 : (t220 == 0) = false := beq_eq_false_iff_ne.mpr c4
          have c4b1 : (t220 != 0) = true := bne_iff_ne.mpr c4
          obtain rfl := Option.some.inj H
          go_wp2_with (first | ((with_reducible refine gate_callee (f := 12) rfl ?_); refine goesL_ (some 11) rfl rfl Tryd.func12 (by kernel_rfl) rfl #[.string x0_1] rfl (by (try simp only [List.map_toArray, List.map_cons, List.map_nil]); first | done | rfl | (simp only [List.length_drop, List.length_take]; rfl)) ?_; (with_reducible refine (utf_First.calls k1 x0_1 t218 t219 t220 _ A3.out).mono ?_); rintro e w13 ⟨rfl, hb⟩; refine ⟨_, rfl, ?_⟩; have n0_ := Aside0.mk (below_step (by repeat (first | (with_reducible first | exact HB.out | apply below_alloc | apply pw_below_drewN | apply below_drew1) | exact HB.out)) hb); clear HB; have HB := n0_; clear n0_; (try clear hb); (try clear hb2); (try clear hk); (try clear hi)))
          go_ret
          exact ⟨by first | rfl | (simp [errW_none, errW_some] <;> rfl) | (simp [*, errW_none, errW_some] <;> rfl), by repeat (first | (with_reducible first | exact HB.out | apply below_alloc | apply pw_below_drewN | apply below_drew1) | exact HB.out)⟩
end Go.Proofs.YthipdgnbpdngpaaDoor.P
