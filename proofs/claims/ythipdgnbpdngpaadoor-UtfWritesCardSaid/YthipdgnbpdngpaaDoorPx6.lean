-- Written by hybrid.py, a program of this project, for the seat YthipdgnbpdngpaaDoor.
import Derived.Test.YthipdgnbpdngpaaDoorPx0
import Derived.Test.YthipdgnbpdngpaaDoorPx2
import Derived.Test.YthipdgnbpdngpaaDoorPx3
import Derived.Test.YthipdgnbpdngpaaDoorGText
namespace Go.Proofs.YthipdgnbpdngpaaDoor.P
open Go.RowKit Go.Proofs.YthipdgnbpdngpaaDoor Go.Proofs.YthipdgnbpdngpaaDoorW.PrintWords Go.Proofs.YthipdgnbpdngpaaDoorW.PrintLast Go.Proofs.YthipdgnbpdngpaaDoorW.PrintMore
attribute [local go_sem] max2_int min2_int max_two min_two max_three min_three max_four min_four   -- for this text's walks alone
set_option linter.unusedVariables false
set_option linter.unusedSimpArgs false

/-! ### backseatlaw01_UtfGoes: function 5 -/
mutual
def backseatlaw01_UtfGoes.j2 : Nat → ByteArray → ByteArray → ByteArray → ByteArray → Option (Bool)
  | 0, _, _, _, _ => none
  | k + 1, x0, x1, x5, x6 => if (x6.size : Int) > 3 then (backseatlaw01_UtfGoes.j3 k x0 x1 true) else ((utf_Valid.f x5).bind fun t155 => (if t155 = true then ((utf_Valid.f x0).bind fun t156 => (if t156 = true then (if x5.toList = x0.toList then ((backseatlaw01_alive.f k).bind fun t157 => (backseatlaw01_UtfGoes.j3 k x0 x1 (!t157))) else (backseatlaw01_UtfGoes.j3 k x0 x1 true)) else ((backseatlaw01_alive.f k).bind fun t158 => (backseatlaw01_UtfGoes.j3 k x0 x1 (!t158))))) else (backseatlaw01_UtfGoes.j3 k x0 x1 true)))
def backseatlaw01_UtfGoes.j3 : Nat → ByteArray → ByteArray → Bool → Option (Bool)
  | 0, _, _, _ => none
  | k + 1, x0, x1, x80 => if x80 = true then (some false) else ((utf_Valid.f x0).bind fun t159 => (if t159 = true then (if x0.size + x1.size ≤ 9223372036854775807 then ((utf_Valid.f (x0 ++ x1)).bind fun t160 => ((utf_Valid.f x1).bind fun t161 => (some (t160 == t161)))) else (none)) else (some true)))
def backseatlaw01_UtfGoes.l0 : Nat → ByteArray → ByteArray → ByteArray → ByteArray → Option (Bool)
  | 0, _, _, _, _ => none
  | k + 1, x0, x1, x5, x6 => if x6.toList = ([] : List UInt8) then (backseatlaw01_UtfGoes.j2 k x0 x1 x5 x6) else ((utf_First.f k x6).bind fun bt150 => (if bt150.2.2 = 2 then (backseatlaw01_UtfGoes.j2 k x0 x1 x5 x6) else (if bt150.2.1 < 1 then (backseatlaw01_UtfGoes.j1 k x0 x1 x5 x6 bt150.1 bt150.2.1 bt150.2.2 true) else (if bt150.2.1 > 4 then (backseatlaw01_UtfGoes.j1 k x0 x1 x5 x6 bt150.1 bt150.2.1 bt150.2.2 true) else (backseatlaw01_UtfGoes.j1 k x0 x1 x5 x6 bt150.1 bt150.2.1 bt150.2.2 (decide (bt150.2.1 > (x6.size : Int))))))))
def backseatlaw01_UtfGoes.j1 : Nat → ByteArray → ByteArray → ByteArray → ByteArray → Int → Int → Int → Bool → Option (Bool)
  | 0, _, _, _, _, _, _, _, _ => none
  | k + 1, x0, x1, x5, x6, x7, x8, x9, x44 => if x44 = true then (some false) else (if x9 = 0 then ((utf_Text.f x7).bind fun bt153 => (if bt153.2 = 0 then (if x5.size + bt153.1.size ≤ 9223372036854775807 then (if 0 ≤ x8 then (if x8 ≤ (x6.size : Int) then (backseatlaw01_UtfGoes.l0 k x0 x1 (x5 ++ bt153.1) (x6.extract (x8 : Int).toNat x6.size)) else (none)) else (none)) else (none)) else (some false))) else (if 0 ≤ x8 then (if x8 ≤ (x6.size : Int) then (backseatlaw01_UtfGoes.l0 k x0 x1 x5 (x6.extract (x8 : Int).toNat x6.size)) else (none)) else (none)))
end
def backseatlaw01_UtfGoes.f (k : Nat) (a0 : ByteArray) (a1 : ByteArray) : Option (Bool) := if 0 ≤ (mn (a0.size : Int) 100) then (if (mn (a0.size : Int) 100) ≤ (a0.size : Int) then (if 0 ≤ (mn (a1.size : Int) 100) then (if (mn (a1.size : Int) 100) ≤ (a1.size : Int) then (backseatlaw01_UtfGoes.l0 k (a0.extract 0 ((mn (a0.size : Int) 100) : Int).toNat) (a1.extract 0 ((mn (a1.size : Int) 100) : Int).toNat) (⟨#[]⟩ : ByteArray) (a0.extract 0 ((mn (a0.size : Int) 100) : Int).toNat)) else (none)) else (none)) else (none)) else (none)
theorem backseatlaw01_UtfGoes.mono_l : ∀ k, (∀ y0 y1 y2 y3, LeO (backseatlaw01_UtfGoes.j2 k y0 y1 y2 y3) (backseatlaw01_UtfGoes.j2 (k + 1) y0 y1 y2 y3)) ∧ (∀ y0 y1 y2, LeO (backseatlaw01_UtfGoes.j3 k y0 y1 y2) (backseatlaw01_UtfGoes.j3 (k + 1) y0 y1 y2)) ∧ (∀ y0 y1 y2 y3, LeO (backseatlaw01_UtfGoes.l0 k y0 y1 y2 y3) (backseatlaw01_UtfGoes.l0 (k + 1) y0 y1 y2 y3)) ∧ (∀ y0 y1 y2 y3 y4 y5 y6 y7, LeO (backseatlaw01_UtfGoes.j1 k y0 y1 y2 y3 y4 y5 y6 y7) (backseatlaw01_UtfGoes.j1 (k + 1) y0 y1 y2 y3 y4 y5 y6 y7))
  | 0 => ⟨fun _ _ _ _ r h => by simp [backseatlaw01_UtfGoes.j2] at h, fun _ _ _ r h => by simp [backseatlaw01_UtfGoes.j3] at h, fun _ _ _ _ r h => by simp [backseatlaw01_UtfGoes.l0] at h, fun _ _ _ _ _ _ _ _ r h => by simp [backseatlaw01_UtfGoes.j1] at h⟩
  | k + 1 => by
    obtain ⟨ih0, ih1, ih2, ih3⟩ := backseatlaw01_UtfGoes.mono_l k
    refine ⟨?_, ?_, ?_, ?_⟩
    · intro y0 y1 y2 y3
      unfold backseatlaw01_UtfGoes.j2
      repeat' first
      | (with_reducible exact ih0 _ _ _ _)
      | (with_reducible exact ih1 _ _ _)
      | (with_reducible exact ih2 _ _ _ _)
      | (with_reducible exact ih3 _ _ _ _ _ _ _ _)
      | (with_reducible exact backseatlaw01_alive.mono _)
      | (with_reducible exact utf_First.mono _ _)
      | (with_reducible exact LeO.refl _)
      | (with_reducible exact LeO.none _)
      | (with_reducible refine LeO.ite ?_ ?_)
      | (with_reducible refine LeO.bind ?_ (fun _ => ?_))
      | exact ih0 _ _ _ _
      | exact ih1 _ _ _
      | exact ih2 _ _ _ _
      | exact ih3 _ _ _ _ _ _ _ _
      | exact backseatlaw01_alive.mono _
      | exact utf_First.mono _ _
      | exact LeO.none _
      | refine LeO.ite ?_ ?_
      | refine LeO.bind ?_ (fun _ => ?_)
    · intro y0 y1 y2
      unfold backseatlaw01_UtfGoes.j3
      repeat' first
      | (with_reducible exact ih0 _ _ _ _)
      | (with_reducible exact ih1 _ _ _)
      | (with_reducible exact ih2 _ _ _ _)
      | (with_reducible exact ih3 _ _ _ _ _ _ _ _)
      | (with_reducible exact backseatlaw01_alive.mono _)
      | (with_reducible exact utf_First.mono _ _)
      | (with_reducible exact LeO.refl _)
      | (with_reducible exact LeO.none _)
      | (with_reducible refine LeO.ite ?_ ?_)
      | (with_reducible refine LeO.bind ?_ (fun _ => ?_))
      | exact ih0 _ _ _ _
      | exact ih1 _ _ _
      | exact ih2 _ _ _ _
      | exact ih3 _ _ _ _ _ _ _ _
      | exact backseatlaw01_alive.mono _
      | exact utf_First.mono _ _
      | exact LeO.none _
      | refine LeO.ite ?_ ?_
      | refine LeO.bind ?_ (fun _ => ?_)
    · intro y0 y1 y2 y3
      unfold backseatlaw01_UtfGoes.l0
      repeat' first
      | (with_reducible exact ih0 _ _ _ _)
      | (with_reducible exact ih1 _ _ _)
      | (with_reducible exact ih2 _ _ _ _)
      | (with_reducible exact ih3 _ _ _ _ _ _ _ _)
      | (with_reducible exact backseatlaw01_alive.mono _)
      | (with_reducible exact utf_First.mono _ _)
      | (with_reducible exact LeO.refl _)
      | (with_reducible exact LeO.none _)
      | (with_reducible refine LeO.ite ?_ ?_)
      | (with_reducible refine LeO.bind ?_ (fun _ => ?_))
      | exact ih0 _ _ _ _
      | exact ih1 _ _ _
      | exact ih2 _ _ _ _
      | exact ih3 _ _ _ _ _ _ _ _
      | exact backseatlaw01_alive.mono _
      | exact utf_First.mono _ _
      | exact LeO.none _
      | refine LeO.ite ?_ ?_
      | refine LeO.bind ?_ (fun _ => ?_)
    · intro y0 y1 y2 y3 y4 y5 y6 y7
      unfold backseatlaw01_UtfGoes.j1
      repeat' first
      | (with_reducible exact ih0 _ _ _ _)
      | (with_reducible exact ih1 _ _ _)
      | (with_reducible exact ih2 _ _ _ _)
      | (with_reducible exact ih3 _ _ _ _ _ _ _ _)
      | (with_reducible exact backseatlaw01_alive.mono _)
      | (with_reducible exact utf_First.mono _ _)
      | (with_reducible exact LeO.refl _)
      | (with_reducible exact LeO.none _)
      | (with_reducible refine LeO.ite ?_ ?_)
      | (with_reducible refine LeO.bind ?_ (fun _ => ?_))
      | exact ih0 _ _ _ _
      | exact ih1 _ _ _
      | exact ih2 _ _ _ _
      | exact ih3 _ _ _ _ _ _ _ _
      | exact backseatlaw01_alive.mono _
      | exact utf_First.mono _ _
      | exact LeO.none _
      | refine LeO.ite ?_ ?_
      | refine LeO.bind ?_ (fun _ => ?_)
theorem backseatlaw01_UtfGoes.mono : ∀ a0 a1 k, LeO (backseatlaw01_UtfGoes.f k a0 a1) (backseatlaw01_UtfGoes.f (k + 1) a0 a1) := by
  intro a0 a1 k
  obtain ⟨ih0, ih1, ih2, ih3⟩ := backseatlaw01_UtfGoes.mono_l k
  unfold backseatlaw01_UtfGoes.f
  repeat' first
      | (with_reducible exact ih0 _ _ _ _)
      | (with_reducible exact ih1 _ _ _)
      | (with_reducible exact ih2 _ _ _ _)
      | (with_reducible exact ih3 _ _ _ _ _ _ _ _)
      | (with_reducible exact backseatlaw01_alive.mono _)
      | (with_reducible exact utf_First.mono _ _)
      | (with_reducible exact LeO.refl _)
      | (with_reducible exact LeO.none _)
      | (with_reducible refine LeO.ite ?_ ?_)
      | (with_reducible refine LeO.bind ?_ (fun _ => ?_))
      | exact ih0 _ _ _ _
      | exact ih1 _ _ _
      | exact ih2 _ _ _ _
      | exact ih3 _ _ _ _ _ _ _ _
      | exact backseatlaw01_alive.mono _
      | exact utf_First.mono _ _
      | exact LeO.none _
      | refine LeO.ite ?_ ?_
      | refine LeO.bind ?_ (fun _ => ?_)
set_option maxHeartbeats 8000000 in
set_option maxRecDepth 100000 in
theorem backseatlaw01_UtfGoes.calls (k : Nat) (a0 : ByteArray) (a1 : ByteArray) (r : Bool) (w : World) (h : backseatlaw01_UtfGoes.f k a0 a1 = some r) (hT : TabsAt w := by first | with_reducible assumption | exact tabs_here (by with_reducible assumption) (by repeat (with_reducible first | assumption | apply below_alloc | apply pw_below_drewN | apply below_drew1 | (refine Below.setCell ?_ ?_ _) | exact Aside0.out (by assumption)))) :
    Calls Tryd.prog 5 #[.string a0, .string a1] w fun e w' => e = .returned (.bool r) ∧ Below w.heap.size w w' := by
  have HB := Aside0.mk (Below.refl w.heap.size w)
  have H : (if 0 ≤ (mn (a0.size : Int) 100) then (if (mn (a0.size : Int) 100) ≤ (a0.size : Int) then (if 0 ≤ (mn (a1.size : Int) 100) then (if (mn (a1.size : Int) 100) ≤ (a1.size : Int) then (backseatlaw01_UtfGoes.l0 k (a0.extract 0 ((mn (a0.size : Int) 100) : Int).toNat) (a1.extract 0 ((mn (a1.size : Int) 100) : Int).toNat) (⟨#[]⟩ : ByteArray) (a0.extract 0 ((mn (a0.size : Int) 100) : Int).toNat)) else (none)) else (none)) else (none)) else (none)) = some r := h
  clear h
  obtain ⟨ji3, hji3⟩ : ∃ j_ : Int, (mn (a0.size : Int) 100) = j_ := ⟨_, rfl⟩
  replace H : (if 0 ≤ (ji3) then (if (ji3) ≤ (a0.size : Int) then (if 0 ≤ (mn (a1.size : Int) 100) then (if (mn (a1.size : Int) 100) ≤ (a1.size : Int) then (backseatlaw01_UtfGoes.l0 k (a0.extract 0 ((ji3) : Int).toNat) (a1.extract 0 ((mn (a1.size : Int) 100) : Int).toNat) (⟨#[]⟩ : ByteArray) (a0.extract 0 ((ji3) : Int).toNat)) else (none)) else (none)) else (none)) else (none)) = some r := by first | (rw [hji3] at H; exact H) | (simp only [hji3] at H ⊢; exact H)
  (try (have hji3h : ji3 ≤ 100 := by (rw [← hji3]; unfold mn; (repeat' split) <;> omega)))
  (try (have hji3g : ji3 ≤ 64 := by omega))
  (try (have hji3l : 0 ≤ ji3 := by (rw [← hji3]; unfold mn; (repeat' split) <;> omega)))
  (try (have hji3m : 0 ≤ ji3 := by omega))
  have hji3_ : (if 100 < (a0.size : Int) then 100 else (a0.size : Int)) = ji3 := hji3
  by_cases c4 : 0 ≤ (ji3)
  · rw [if_pos c4] at H
    have c4b0 := eq_true c4
    have c4b1 : decide (0 ≤ (ji3)) = true := decide_eq_true c4
    clear c4
    by_cases c5 : (ji3) ≤ (a0.size : Int)
    · rw [if_pos c5] at H
      have c5b0 := eq_true c5
      have c5b1 : decide ((ji3) ≤ (a0.size : Int)) = true := decide_eq_true c5
      clear c5
      obtain ⟨ji6, hji6⟩ : ∃ j_ : Int, (mn (a1.size : Int) 100) = j_ := ⟨_, rfl⟩
      replace H : (if 0 ≤ (ji6) then (if (ji6) ≤ (a1.size : Int) then (backseatlaw01_UtfGoes.l0 k (a0.extract 0 ((ji3) : Int).toNat) (a1.extract 0 ((ji6) : Int).toNat) (⟨#[]⟩ : ByteArray) (a0.extract 0 ((ji3) : Int).toNat)) else (none)) else (none)) = some r := by first | (rw [hji6] at H; exact H) | (simp only [hji6] at H ⊢; exact H)
      (try (have hji6h : ji6 ≤ 100 := by (rw [← hji6]; unfold mn; (repeat' split) <;> omega)))
      (try (have hji6g : ji6 ≤ 64 := by omega))
      (try (have hji6l : 0 ≤ ji6 := by (rw [← hji6]; unfold mn; (repeat' split) <;> omega)))
      (try (have hji6m : 0 ≤ ji6 := by omega))
      have hji6_ : (if 100 < (a1.size : Int) then 100 else (a1.size : Int)) = ji6 := hji6
      by_cases c7 : 0 ≤ (ji6)
      · rw [if_pos c7] at H
        have c7b0 := eq_true c7
        have c7b1 : decide (0 ≤ (ji6)) = true := decide_eq_true c7
        clear c7
        by_cases c8 : (ji6) ≤ (a1.size : Int)
        · rw [if_pos c8] at H
          have c8b0 := eq_true c8
          have c8b1 : decide ((ji6) ≤ (a1.size : Int)) = true := decide_eq_true c8
          clear c8
          have HC9 := Aside0.mk H
          clear H
          go_enter Tryd.func5, Tryd.ntmps5
          go_upto_block 0 with (fail)
          repeat (go_quiet (fail); go_upto_block 0 with (fail))
          go_cut [5, 6] (fun v5 v6 wc => ∃ (kq : Nat) (x5_8 : ByteArray) (x6_8 : ByteArray), v5 = .string x5_8 ∧ v6 = .string x6_8 ∧ Aside0 (backseatlaw01_UtfGoes.j2 kq (a0.extract 0 ((ji3) : Int).toNat) (a1.extract 0 ((ji6) : Int).toNat) x5_8 x6_8 = some r) ∧ Aside0 (kq ≤ k) ∧ Aside0 (Below w.heap.size w wc))
          case first =>
            have H := HC9.out
            clear HC9
            have H' := Aside0.mk H
            clear H
            go_wp2
            repeat (go_quiet (fail); try go_wp2)
            go_loopg [5, 6] k (fun kq v5 v6 w' => ∃ (x5_1 : ByteArray) (x6_1 : ByteArray), v5 = .string x5_1 ∧ v6 = .string x6_1 ∧ Aside0 (backseatlaw01_UtfGoes.l0 kq (a0.extract 0 ((ji3) : Int).toNat) (a1.extract 0 ((ji6) : Int).toNat) x5_1 x6_1 = some r) ∧ Aside0 (kq ≤ k) ∧ Aside0 (Below w.heap.size w w'))
            case atStart => exact ⟨((⟨#[]⟩ : ByteArray)), (a0.extract 0 ((ji3) : Int).toNat), (by first | rfl | (simp; done) | (simp [*]; done)), (by first | rfl | (simp; done) | (simp only [← hji3] <;> (first | rfl | simp)) | (simp [*]; done)), H', ⟨Nat.le_refl _⟩, ⟨by repeat (first | (with_reducible first | exact HB.out | apply below_alloc | apply pw_below_drewN | apply below_drew1) | exact HB.out)⟩⟩
            case round =>
              clear H'
              try clear p2
              try clear c4
              try clear c4b0
              try clear c4b1
              try clear c5
              try clear c5b0
              try clear c5b1
              try clear c7
              try clear c7b0
              try clear c7b1
              try clear c8
              try clear c8b0
              try clear c8b1
              obtain ⟨x5_1, x6_1, rfl, rfl, HA, HK1, HB⟩ := hrel
              cases gk with
              | zero => exact absurd HA.out (by simp [backseatlaw01_UtfGoes.l0])
              | succ k1 =>
                have H := HA.out
                clear HA
                simp only [backseatlaw01_UtfGoes.l0] at H
                by_cases c10 : x6_1.toList = ([] : List UInt8)
                · rw [if_pos c10] at H
                  have c10b0 : (x6_1.toList == ([] : List UInt8)) = true := beq_iff_eq.mpr c10
                  have c10b1 : (x6_1.toList != ([] : List UInt8)) = false := bne_eq_false_iff_eq.mpr c10
                  clear c10
                  (first | rw [c10b0] | (simp only [i64_w, i32_w]; rw [c10b0]) | skip)
                  have H' := Aside0.mk H
                  clear H
                  go_wp2
                  repeat (go_quiet (fail); try go_wp2)
                  go_meet
                  case rel => exact ⟨_, (x5_1), (x6_1), (by first | rfl | (simp; done) | (simp [*]; done)), (by first | rfl | (simp; done) | (simp [*]; done)), H', ⟨by have := HK1.out; first | omega | exact Nat.le_refl _⟩, ⟨by repeat (first | (with_reducible first | exact HB.out | apply below_alloc | apply pw_below_drewN | apply below_drew1) | exact HB.out)⟩⟩
                · rw [if_neg c10] at H
                  have c10b0 : (x6_1.toList == ([] : List UInt8)) = false := beq_eq_false_iff_ne.mpr c10
                  have c10b1 : (x6_1.toList != ([] : List UInt8)) = true := bne_iff_ne.mpr c10
                  (first | rw [c10b0] | (simp only [i64_w, i32_w]; rw [c10b0]) | skip)
                  replace H := Option.bind_eq_some_iff.mp H
                  obtain ⟨⟨t150, t151, t152⟩, A110, H⟩ := H
                  replace H : (if t152 = 2 then (backseatlaw01_UtfGoes.j2 k1 (a0.extract 0 ((ji3) : Int).toNat) (a1.extract 0 ((ji6) : Int).toNat) x5_1 x6_1) else (if t151 < 1 then (backseatlaw01_UtfGoes.j1 k1 (a0.extract 0 ((ji3) : Int).toNat) (a1.extract 0 ((ji6) : Int).toNat) x5_1 x6_1 t150 t151 t152 true) else (if t151 > 4 then (backseatlaw01_UtfGoes.j1 k1 (a0.extract 0 ((ji3) : Int).toNat) (a1.extract 0 ((ji6) : Int).toNat) x5_1 x6_1 t150 t151 t152 true) else (backseatlaw01_UtfGoes.j1 k1 (a0.extract 0 ((ji3) : Int).toNat) (a1.extract 0 ((ji6) : Int).toNat) x5_1 x6_1 t150 t151 t152 (decide (t151 > (x6_1.size : Int))))))) = some r := H
                  have A11 := Aside0.mk A110
                  clear A110
                  by_cases c12 : t152 = 2
                  · rw [if_pos c12] at H
                    have c12b0 : (t152 == 2) = true := beq_iff_eq.mpr c12
                    have c12b1 : (t152 != 2) = false := bne_eq_false_iff_eq.mpr c12
                    clear c12
                    have H' := Aside0.mk H
                    clear H
                    go_wp2_with (first | (go_at_call 12; (with_reducible refine (utf_First.calls k1 x6_1 t150 t151 t152 _ A11.out).mono ?_); rintro e w13 ⟨rfl, hb⟩; have n0_ := Aside0.mk (below_step (by repeat (first | (with_reducible first | exact HB.out | apply below_alloc | apply pw_below_drewN | apply below_drew1) | exact HB.out)) hb); clear HB; have HB := n0_; clear n0_; (try clear hb); (try clear hb2); (try clear hk); (try clear hi)))
                    repeat (go_quiet (first | (go_at_call 12; (with_reducible refine (utf_First.calls k1 x6_1 t150 t151 t152 _ A11.out).mono ?_); rintro e w13 ⟨rfl, hb⟩; have n0_ := Aside0.mk (below_step (by repeat (first | (with_reducible first | exact HB.out | apply below_alloc | apply pw_below_drewN | apply below_drew1) | exact HB.out)) hb); clear HB; have HB := n0_; clear n0_; (try clear hb); (try clear hb2); (try clear hk); (try clear hi))); try go_wp2_with (first | (go_at_call 12; (with_reducible refine (utf_First.calls k1 x6_1 t150 t151 t152 _ A11.out).mono ?_); rintro e w13 ⟨rfl, hb⟩; have n0_ := Aside0.mk (below_step (by repeat (first | (with_reducible first | exact HB.out | apply below_alloc | apply pw_below_drewN | apply below_drew1) | exact HB.out)) hb); clear HB; have HB := n0_; clear n0_; (try clear hb); (try clear hb2); (try clear hk); (try clear hi))))
                    go_meet
                    case rel => exact ⟨_, (x5_1), (x6_1), (by first | rfl | (simp; done) | (simp [*]; done)), (by first | rfl | (simp; done) | (simp [*]; done)), H', ⟨by have := HK1.out; first | omega | exact Nat.le_refl _⟩, ⟨by repeat (first | (with_reducible first | exact HB.out | apply below_alloc | apply pw_below_drewN | apply below_drew1) | exact HB.out)⟩⟩
                  · rw [if_neg c12] at H
                    have c12b0 : (t152 == 2) = false := beq_eq_false_iff_ne.mpr c12
                    have c12b1 : (t152 != 2) = true := bne_iff_ne.mpr c12
                    have HC14 := Aside0.mk H
                    clear H
                    go_upto_region 6 with (first | (go_at_call 12; (with_reducible refine (utf_First.calls k1 x6_1 t150 t151 t152 _ A11.out).mono ?_); rintro e w15 ⟨rfl, hb⟩; have n0_ := Aside0.mk (below_step (by repeat (first | (with_reducible first | exact HB.out | apply below_alloc | apply pw_below_drewN | apply below_drew1) | exact HB.out)) hb); clear HB; have HB := n0_; clear n0_; (try clear hb); (try clear hb2); (try clear hk); (try clear hi)))
                    repeat (go_quiet (first | (go_at_call 12; (with_reducible refine (utf_First.calls k1 x6_1 t150 t151 t152 _ A11.out).mono ?_); rintro e w15 ⟨rfl, hb⟩; have n0_ := Aside0.mk (below_step (by repeat (first | (with_reducible first | exact HB.out | apply below_alloc | apply pw_below_drewN | apply below_drew1) | exact HB.out)) hb); clear HB; have HB := n0_; clear n0_; (try clear hb); (try clear hb2); (try clear hk); (try clear hi))); go_upto_region 6 with (first | (go_at_call 12; (with_reducible refine (utf_First.calls k1 x6_1 t150 t151 t152 _ A11.out).mono ?_); rintro e w15 ⟨rfl, hb⟩; have n0_ := Aside0.mk (below_step (by repeat (first | (with_reducible first | exact HB.out | apply below_alloc | apply pw_below_drewN | apply below_drew1) | exact HB.out)) hb); clear HB; have HB := n0_; clear n0_; (try clear hb); (try clear hb2); (try clear hk); (try clear hi))))
                    (try simp only [Act.put, List.setIfInBounds_toArray, List.set_cons_zero, List.set_cons_succ])
                    go_cut [44] (fun v44 wc => ∃ (kq : Nat) (x44_13 : Bool), v44 = .bool x44_13 ∧ Aside0 (backseatlaw01_UtfGoes.j1 kq (a0.extract 0 ((ji3) : Int).toNat) (a1.extract 0 ((ji6) : Int).toNat) x5_1 x6_1 t150 t151 t152 x44_13 = some r) ∧ Aside0 (kq ≤ k1) ∧ Aside0 (Below w.heap.size w wc))
                    case first =>
                      have H := HC14.out
                      clear HC14
                      by_cases c16 : t151 < 1
                      · rw [if_pos c16] at H
                        have c16b0 : decide (t151 < 1) = true := decide_eq_true c16
                        clear c16
                        (first | rw [c16b0] | (simp only [i64_w, i32_w]; rw [c16b0]) | skip)
                        have H' := Aside0.mk H
                        clear H
                        go_wp2
                        repeat (go_quiet (fail); try go_wp2)
                        go_meet
                        case rel => exact ⟨_, (true), (by first | rfl | (simp; done) | (simp [*]; done)), H', ⟨by have := HK1.out; first | omega | exact Nat.le_refl _⟩, ⟨by repeat (first | (with_reducible first | exact HB.out | apply below_alloc | apply pw_below_drewN | apply below_drew1) | exact HB.out)⟩⟩
                      · rw [if_neg c16] at H
                        have c16b0 : decide (t151 < 1) = false := decide_eq_false c16
                        clear c16
                        (first | rw [c16b0] | (simp only [i64_w, i32_w]; rw [c16b0]) | skip)
                        by_cases c17 : t151 > 4
                        · rw [if_pos c17] at H
                          have c17b0 : decide (4 < t151) = true := decide_eq_true c17
                          clear c17
                          have H' := Aside0.mk H
                          clear H
                          go_wp2
                          repeat (go_quiet (fail); try go_wp2)
                          go_meet
                          case rel => exact ⟨_, (true), (by first | rfl | (simp; done) | (simp [*]; done)), H', ⟨by have := HK1.out; first | omega | exact Nat.le_refl _⟩, ⟨by repeat (first | (with_reducible first | exact HB.out | apply below_alloc | apply pw_below_drewN | apply below_drew1) | exact HB.out)⟩⟩
                        · rw [if_neg c17] at H
                          have c17b0 : decide (4 < t151) = false := decide_eq_false c17
                          clear c17
                          have H' := Aside0.mk H
                          clear H
                          go_wp2
                          repeat (go_quiet (fail); try go_wp2)
                          go_meet
                          case rel => exact ⟨_, (decide (t151 > (x6_1.size : Int))), (by first | rfl | (simp; done) | (simp [*]; done)), H', ⟨by have := HK1.out; first | omega | exact Nat.le_refl _⟩, ⟨by repeat (first | (with_reducible first | exact HB.out | apply below_alloc | apply pw_below_drewN | apply below_drew1) | exact HB.out)⟩⟩
                    case rest =>
                      clear HC14
                      try clear c1
                      try clear p2
                      try clear c4
                      try clear c4b0
                      try clear c4b1
                      try clear c5
                      try clear c5b0
                      try clear c5b1
                      try clear c7
                      try clear c7b0
                      try clear c7b1
                      try clear c8
                      try clear c8b0
                      try clear c8b1
                      try clear c10
                      try clear c10b0
                      try clear c10b1
                      try clear c12
                      try clear c12b0
                      try clear c12b1
                      try clear c16
                      try clear c16b0
                      try clear c17
                      try clear c17b0
                      try clear p2
                      obtain ⟨kq, x44_13, rfl, HA, HJ13, HB⟩ := hcut
                      cases kq with
                      | zero => exact absurd HA.out (by simp [backseatlaw01_UtfGoes.j1])
                      | succ kj13 =>
                        have H := HA.out
                        clear HA
                        simp only [backseatlaw01_UtfGoes.j1] at H
                        by_cases c18 : x44_13 = true
                        · subst c18
                          have H1 : (some false) = some r := by rw [if_pos rfl] at H; exact H
                          clear H
                          have H := H1
                          clear H1
                          obtain rfl := Option.some.inj H
                          go_wp2
                          repeat (go_quiet (fail); try go_wp2)
                          go_ret
                          exact ⟨by first | rfl | (simp [errW_none, errW_some] <;> rfl) | (simp only [← hji3, ← hji6]; first | rfl | (simp [errW_none, errW_some] <;> rfl)) | (simp [*, errW_none, errW_some] <;> rfl), by repeat (first | (with_reducible first | exact HB.out | apply below_alloc | apply pw_below_drewN | apply below_drew1) | exact HB.out)⟩
                        · replace c18 := Bool.eq_false_iff.mpr c18
                          subst c18
                          have H1 : (if t152 = 0 then ((utf_Text.f t150).bind fun bt153 => (if bt153.2 = 0 then (if x5_1.size + bt153.1.size ≤ 9223372036854775807 then (if 0 ≤ t151 then (if t151 ≤ (x6_1.size : Int) then (backseatlaw01_UtfGoes.l0 kj13 (a0.extract 0 ((ji3) : Int).toNat) (a1.extract 0 ((ji6) : Int).toNat) (x5_1 ++ bt153.1) (x6_1.extract (t151 : Int).toNat x6_1.size)) else (none)) else (none)) else (none)) else (some false))) else (if 0 ≤ t151 then (if t151 ≤ (x6_1.size : Int) then (backseatlaw01_UtfGoes.l0 kj13 (a0.extract 0 ((ji3) : Int).toNat) (a1.extract 0 ((ji6) : Int).toNat) x5_1 (x6_1.extract (t151 : Int).toNat x6_1.size)) else (none)) else (none))) = some r := by rw [if_neg (show ¬ (false = true) by decide)] at H; exact H
                          clear H
                          have H := H1
                          clear H1
                          by_cases c19 : t152 = 0
                          · rw [if_pos c19] at H
                            have c19b0 : (t152 == 0) = true := beq_iff_eq.mpr c19
                            have c19b1 : (t152 != 0) = false := bne_eq_false_iff_eq.mpr c19
                            clear c19
                            replace H := Option.bind_eq_some_iff.mp H
                            obtain ⟨⟨t153, t154⟩, A200, H⟩ := H
                            replace H : (if t154 = 0 then (if x5_1.size + t153.size ≤ 9223372036854775807 then (if 0 ≤ t151 then (if t151 ≤ (x6_1.size : Int) then (backseatlaw01_UtfGoes.l0 kj13 (a0.extract 0 ((ji3) : Int).toNat) (a1.extract 0 ((ji6) : Int).toNat) (x5_1 ++ t153) (x6_1.extract (t151 : Int).toNat x6_1.size)) else (none)) else (none)) else (none)) else (some false)) = some r := H
                            have A20 := Aside0.mk A200
                            clear A200
                            by_cases c21 : t154 = 0
                            · rw [if_pos c21] at H
                              have c21b0 : (t154 == 0) = true := beq_iff_eq.mpr c21
                              have c21b1 : (t154 != 0) = false := bne_eq_false_iff_eq.mpr c21
                              clear c21
                              by_cases c22 : x5_1.size + t153.size ≤ 9223372036854775807
                              · rw [if_pos c22] at H
                                have c22b0 := eq_true c22
                                have c22b1 : decide (x5_1.size + t153.size ≤ 9223372036854775807) = true := decide_eq_true c22
                                try have c22b2 : (9223372036854775807 < x5_1.size + t153.size) = False := eq_false (Nat.not_lt.2 c22)
                                by_cases c23 : 0 ≤ t151
                                · rw [if_pos c23] at H
                                  have c23b0 := eq_true c23
                                  have c23b1 : decide (0 ≤ t151) = true := decide_eq_true c23
                                  clear c23
                                  by_cases c24 : t151 ≤ (x6_1.size : Int)
                                  · rw [if_pos c24] at H
                                    have c24b0 := eq_true c24
                                    have c24b1 : decide (t151 ≤ (x6_1.size : Int)) = true := decide_eq_true c24
                                    clear c24
                                    have H' := Aside0.mk H
                                    clear H
                                    go_wp2_with (first | (go_at_call 17; (with_reducible refine (utf_Text.calls t150 t153 t154 _ A20.out).mono ?_); rintro e w' ⟨rfl, ⟨nd, rfl⟩⟩; (try first | exact ⟨rfl, _, World.drewN_drewN _ _ _⟩ | exact ⟨rfl, _, Eq.trans (World.drewN_drewN _ _ _) (congrArg (World.drewN _) (Nat.add_assoc _ _ _))⟩)))
                                    repeat (go_quiet (first | (go_at_call 17; (with_reducible refine (utf_Text.calls t150 t153 t154 _ A20.out).mono ?_); rintro e w' ⟨rfl, ⟨nd, rfl⟩⟩; (try first | exact ⟨rfl, _, World.drewN_drewN _ _ _⟩ | exact ⟨rfl, _, Eq.trans (World.drewN_drewN _ _ _) (congrArg (World.drewN _) (Nat.add_assoc _ _ _))⟩))); try go_wp2_with (first | (go_at_call 17; (with_reducible refine (utf_Text.calls t150 t153 t154 _ A20.out).mono ?_); rintro e w' ⟨rfl, ⟨nd, rfl⟩⟩; (try first | exact ⟨rfl, _, World.drewN_drewN _ _ _⟩ | exact ⟨rfl, _, Eq.trans (World.drewN_drewN _ _ _) (congrArg (World.drewN _) (Nat.add_assoc _ _ _))⟩))))
                                    go_roundg kj13
                                    case measure => have := HK1.out; have := HJ13.out; omega
                                    case rel => exact ⟨(x5_1 ++ t153), (x6_1.extract (t151 : Int).toNat x6_1.size), (by first | rfl | (simp; done) | (simp [*]; done)), (by first | rfl | (simp; done) | (simp [*]; done)), H', ⟨by have := HK1.out; have := HJ13.out; omega⟩, ⟨by repeat (first | (with_reducible first | exact HB.out | apply below_alloc | apply pw_below_drewN | apply below_drew1) | exact HB.out)⟩⟩
                                  · rw [if_neg c24] at H
                                    exact absurd H (by simp)
                                · rw [if_neg c23] at H
                                  exact absurd H (by simp)
                              · rw [if_neg c22] at H
                                exact absurd H (by simp)
                            · rw [if_neg c21] at H
                              have c21b0 : (t154 == 0) = false := beq_eq_false_iff_ne.mpr c21
                              have c21b1 : (t154 != 0) = true := bne_iff_ne.mpr c21
                              obtain rfl := Option.some.inj H
                              go_wp2_with (first | (go_at_call 17; (with_reducible refine (utf_Text.calls t150 t153 t154 _ A20.out).mono ?_); rintro e w' ⟨rfl, ⟨nd, rfl⟩⟩; (try first | exact ⟨rfl, _, World.drewN_drewN _ _ _⟩ | exact ⟨rfl, _, Eq.trans (World.drewN_drewN _ _ _) (congrArg (World.drewN _) (Nat.add_assoc _ _ _))⟩)))
                              repeat (go_quiet (first | (go_at_call 17; (with_reducible refine (utf_Text.calls t150 t153 t154 _ A20.out).mono ?_); rintro e w' ⟨rfl, ⟨nd, rfl⟩⟩; (try first | exact ⟨rfl, _, World.drewN_drewN _ _ _⟩ | exact ⟨rfl, _, Eq.trans (World.drewN_drewN _ _ _) (congrArg (World.drewN _) (Nat.add_assoc _ _ _))⟩))); try go_wp2_with (first | (go_at_call 17; (with_reducible refine (utf_Text.calls t150 t153 t154 _ A20.out).mono ?_); rintro e w' ⟨rfl, ⟨nd, rfl⟩⟩; (try first | exact ⟨rfl, _, World.drewN_drewN _ _ _⟩ | exact ⟨rfl, _, Eq.trans (World.drewN_drewN _ _ _) (congrArg (World.drewN _) (Nat.add_assoc _ _ _))⟩))))
                              go_ret
                              exact ⟨by first | rfl | (simp [errW_none, errW_some] <;> rfl) | (simp only [← hji3, ← hji6]; first | rfl | (simp [errW_none, errW_some] <;> rfl)) | (simp [*, errW_none, errW_some] <;> rfl), by repeat (first | (with_reducible first | exact HB.out | apply below_alloc | apply pw_below_drewN | apply below_drew1) | exact HB.out)⟩
                          · rw [if_neg c19] at H
                            have c19b0 : (t152 == 0) = false := beq_eq_false_iff_ne.mpr c19
                            have c19b1 : (t152 != 0) = true := bne_iff_ne.mpr c19
                            by_cases c25 : 0 ≤ t151
                            · rw [if_pos c25] at H
                              have c25b0 := eq_true c25
                              have c25b1 : decide (0 ≤ t151) = true := decide_eq_true c25
                              clear c25
                              by_cases c26 : t151 ≤ (x6_1.size : Int)
                              · rw [if_pos c26] at H
                                have c26b0 := eq_true c26
                                have c26b1 : decide (t151 ≤ (x6_1.size : Int)) = true := decide_eq_true c26
                                clear c26
                                have H' := Aside0.mk H
                                clear H
                                go_wp2
                                repeat (go_quiet (fail); try go_wp2)
                                go_roundg kj13
                                case measure => have := HK1.out; have := HJ13.out; omega
                                case rel => exact ⟨(x5_1), (x6_1.extract (t151 : Int).toNat x6_1.size), (by first | rfl | (simp; done) | (simp [*]; done)), (by first | rfl | (simp; done) | (simp [*]; done)), H', ⟨by have := HK1.out; have := HJ13.out; omega⟩, ⟨by repeat (first | (with_reducible first | exact HB.out | apply below_alloc | apply pw_below_drewN | apply below_drew1) | exact HB.out)⟩⟩
                              · rw [if_neg c26] at H
                                exact absurd H (by simp)
                            · rw [if_neg c25] at H
                              exact absurd H (by simp)
          case rest =>
            clear HC9
            try clear c1
            try clear c2
            try clear p2
            try clear c4
            try clear c4b0
            try clear c4b1
            try clear c5
            try clear c5b0
            try clear c5b1
            try clear c7
            try clear c7b0
            try clear c7b1
            try clear c8
            try clear c8b0
            try clear c8b1
            try clear c10
            try clear c10b0
            try clear c10b1
            try clear c12
            try clear c12b0
            try clear c12b1
            try clear c16
            try clear c16b0
            try clear c17
            try clear c17b0
            try clear c18
            try clear c19
            try clear c19b0
            try clear c19b1
            try clear c21
            try clear c21b0
            try clear c21b1
            try clear c22
            try clear c22b0
            try clear c22b1
            try clear c22b2
            try clear c23
            try clear c23b0
            try clear c23b1
            try clear c24
            try clear c24b0
            try clear c24b1
            try clear c25
            try clear c25b0
            try clear c25b1
            try clear c26
            try clear c26b0
            try clear c26b1
            try clear p2
            obtain ⟨kq, x5_8, x6_8, rfl, rfl, HA, HJ8, HB⟩ := hcut
            cases kq with
            | zero => exact absurd HA.out (by simp [backseatlaw01_UtfGoes.j2])
            | succ kj8 =>
              have H := HA.out
              clear HA
              simp only [backseatlaw01_UtfGoes.j2] at H
              have HC27 := Aside0.mk H
              clear H
              go_upto_region 14 with (fail)
              repeat (go_quiet (fail); go_upto_region 14 with (fail))
              go_cut [80] (fun v80 wc => ∃ (kq : Nat) (x80_26 : Bool), v80 = .bool x80_26 ∧ Aside0 (backseatlaw01_UtfGoes.j3 kq (a0.extract 0 ((ji3) : Int).toNat) (a1.extract 0 ((ji6) : Int).toNat) x80_26 = some r) ∧ Aside0 (kq ≤ kj8) ∧ Aside0 (Below w.heap.size w wc))
              case first =>
                have H := HC27.out
                clear HC27
                by_cases c28 : (x6_8.size : Int) > 3
                · rw [if_pos c28] at H
                  have c28b0 : decide (3 < (x6_8.size : Int)) = true := decide_eq_true c28
                  have c28b1 : decide (3 < x6_8.size) = true := decide_eq_true (by omega)
                  clear c28
                  (first | rw [c28b0] | (simp only [i64_w, i32_w]; rw [c28b0]) | skip)
                  have H' := Aside0.mk H
                  clear H
                  go_wp2
                  repeat (go_quiet (fail); try go_wp2)
                  go_meet
                  case rel => exact ⟨_, (true), (by first | rfl | (simp; done) | (simp [*]; done)), H', ⟨by have := HJ8.out; first | omega | exact Nat.le_refl _⟩, ⟨by repeat (first | (with_reducible first | exact HB.out | apply below_alloc | apply pw_below_drewN | apply below_drew1) | exact HB.out)⟩⟩
                · rw [if_neg c28] at H
                  have c28b0 : decide (3 < (x6_8.size : Int)) = false := decide_eq_false c28
                  have c28b1 : decide (3 < x6_8.size) = false := decide_eq_false (by omega)
                  clear c28
                  (first | rw [c28b0] | (simp only [i64_w, i32_w]; rw [c28b0]) | skip)
                  replace H := Option.bind_eq_some_iff.mp H
                  obtain ⟨t155, A290, H⟩ := H
                  replace H : (if t155 = true then ((utf_Valid.f (a0.extract 0 ((ji3) : Int).toNat)).bind fun t156 => (if t156 = true then (if x5_8.toList = (a0.extract 0 ((ji3) : Int).toNat).toList then ((backseatlaw01_alive.f kj8).bind fun t157 => (backseatlaw01_UtfGoes.j3 kj8 (a0.extract 0 ((ji3) : Int).toNat) (a1.extract 0 ((ji6) : Int).toNat) (!t157))) else (backseatlaw01_UtfGoes.j3 kj8 (a0.extract 0 ((ji3) : Int).toNat) (a1.extract 0 ((ji6) : Int).toNat) true)) else ((backseatlaw01_alive.f kj8).bind fun t158 => (backseatlaw01_UtfGoes.j3 kj8 (a0.extract 0 ((ji3) : Int).toNat) (a1.extract 0 ((ji6) : Int).toNat) (!t158))))) else (backseatlaw01_UtfGoes.j3 kj8 (a0.extract 0 ((ji3) : Int).toNat) (a1.extract 0 ((ji6) : Int).toNat) true)) = some r := H
                  have A29 := Aside0.mk A290
                  clear A290
                  by_cases c30 : t155 = true
                  · subst c30
                    have H1 : ((utf_Valid.f (a0.extract 0 ((ji3) : Int).toNat)).bind fun t156 => (if t156 = true then (if x5_8.toList = (a0.extract 0 ((ji3) : Int).toNat).toList then ((backseatlaw01_alive.f kj8).bind fun t157 => (backseatlaw01_UtfGoes.j3 kj8 (a0.extract 0 ((ji3) : Int).toNat) (a1.extract 0 ((ji6) : Int).toNat) (!t157))) else (backseatlaw01_UtfGoes.j3 kj8 (a0.extract 0 ((ji3) : Int).toNat) (a1.extract 0 ((ji6) : Int).toNat) true)) else ((backseatlaw01_alive.f kj8).bind fun t158 => (backseatlaw01_UtfGoes.j3 kj8 (a0.extract 0 ((ji3) : Int).toNat) (a1.extract 0 ((ji6) : Int).toNat) (!t158))))) = some r := by rw [if_pos rfl] at H; exact H
                    clear H
                    have H := H1
                    clear H1
                    replace H := Option.bind_eq_some_iff.mp H
                    obtain ⟨t156, A310, H⟩ := H
                    replace H : (if t156 = true then (if x5_8.toList = (a0.extract 0 ((ji3) : Int).toNat).toList then ((backseatlaw01_alive.f kj8).bind fun t157 => (backseatlaw01_UtfGoes.j3 kj8 (a0.extract 0 ((ji3) : Int).toNat) (a1.extract 0 ((ji6) : Int).toNat) (!t157))) else (backseatlaw01_UtfGoes.j3 kj8 (a0.extract 0 ((ji3) : Int).toNat) (a1.extract 0 ((ji6) : Int).toNat) true)) else ((backseatlaw01_alive.f kj8).bind fun t158 => (backseatlaw01_UtfGoes.j3 kj8 (a0.extract 0 ((ji3) : Int).toNat) (a1.extract 0 ((ji6) : Int).toNat) (!t158)))) = some r := H
                    have A31 := Aside0.mk A310
                    clear A310
                    by_cases c32 : t156 = true
                    · subst c32
                      have H1 : (if x5_8.toList = (a0.extract 0 ((ji3) : Int).toNat).toList then ((backseatlaw01_alive.f kj8).bind fun t157 => (backseatlaw01_UtfGoes.j3 kj8 (a0.extract 0 ((ji3) : Int).toNat) (a1.extract 0 ((ji6) : Int).toNat) (!t157))) else (backseatlaw01_UtfGoes.j3 kj8 (a0.extract 0 ((ji3) : Int).toNat) (a1.extract 0 ((ji6) : Int).toNat) true)) = some r := by rw [if_pos rfl] at H; exact H
                      clear H
                      have H := H1
                      clear H1
                      by_cases c33 : x5_8.toList = (a0.extract 0 ((ji3) : Int).toNat).toList
                      · rw [if_pos c33] at H
                        have c33b0 : (x5_8.toList == (a0.extract 0 ((ji3) : Int).toNat).toList) = true := beq_iff_eq.mpr c33
                        have c33b1 : (x5_8.toList != (a0.extract 0 ((ji3) : Int).toNat).toList) = false := bne_eq_false_iff_eq.mpr c33
                        clear c33
                        replace H := Option.bind_eq_some_iff.mp H
                        obtain ⟨t157, A340, H⟩ := H
                        replace H : (backseatlaw01_UtfGoes.j3 kj8 (a0.extract 0 ((ji3) : Int).toNat) (a1.extract 0 ((ji6) : Int).toNat) (!t157)) = some r := H
                        have A34 := Aside0.mk A340
                        clear A340
                        have H' := Aside0.mk H
                        clear H
                        go_wp2_with (first | (go_at_call 15; (with_reducible refine (utf_Valid.calls x5_8 true _ A29.out).mono ?_); rintro e w35 ⟨rfl, hb⟩; have n0_ := Aside0.mk (below_step (by repeat (first | (with_reducible first | exact HB.out | apply below_alloc | apply pw_below_drewN | apply below_drew1) | exact HB.out)) hb); clear HB; have HB := n0_; clear n0_; (try clear hb); (try clear hb2); (try clear hk); (try clear hi)) | (go_at_call 15; (with_reducible refine (utf_Valid.calls (a0.extract 0 ((ji3) : Int).toNat) true _ A31.out).mono ?_); rintro e w36 ⟨rfl, hb⟩; have n0_ := Aside0.mk (below_step (by repeat (first | (with_reducible first | exact HB.out | apply below_alloc | apply pw_below_drewN | apply below_drew1) | exact HB.out)) hb); clear HB; have HB := n0_; clear n0_; (try clear hb); (try clear hb2); (try clear hk); (try clear hi)) | (go_at_call 14; (with_reducible refine (backseatlaw01_alive.calls kj8  t157 _ A34.out).mono ?_); rintro e w37 ⟨rfl, hb⟩; have n0_ := Aside0.mk (below_step (by repeat (first | (with_reducible first | exact HB.out | apply below_alloc | apply pw_below_drewN | apply below_drew1) | exact HB.out)) hb); clear HB; have HB := n0_; clear n0_; (try clear hb); (try clear hb2); (try clear hk); (try clear hi)))
                        repeat (go_quiet (first | (go_at_call 15; (with_reducible refine (utf_Valid.calls x5_8 true _ A29.out).mono ?_); rintro e w35 ⟨rfl, hb⟩; have n0_ := Aside0.mk (below_step (by repeat (first | (with_reducible first | exact HB.out | apply below_alloc | apply pw_below_drewN | apply below_drew1) | exact HB.out)) hb); clear HB; have HB := n0_; clear n0_; (try clear hb); (try clear hb2); (try clear hk); (try clear hi)) | (go_at_call 15; (with_reducible refine (utf_Valid.calls (a0.extract 0 ((ji3) : Int).toNat) true _ A31.out).mono ?_); rintro e w36 ⟨rfl, hb⟩; have n0_ := Aside0.mk (below_step (by repeat (first | (with_reducible first | exact HB.out | apply below_alloc | apply pw_below_drewN | apply below_drew1) | exact HB.out)) hb); clear HB; have HB := n0_; clear n0_; (try clear hb); (try clear hb2); (try clear hk); (try clear hi)) | (go_at_call 14; (with_reducible refine (backseatlaw01_alive.calls kj8  t157 _ A34.out).mono ?_); rintro e w37 ⟨rfl, hb⟩; have n0_ := Aside0.mk (below_step (by repeat (first | (with_reducible first | exact HB.out | apply below_alloc | apply pw_below_drewN | apply below_drew1) | exact HB.out)) hb); clear HB; have HB := n0_; clear n0_; (try clear hb); (try clear hb2); (try clear hk); (try clear hi))); try go_wp2_with (first | (go_at_call 15; (with_reducible refine (utf_Valid.calls x5_8 true _ A29.out).mono ?_); rintro e w35 ⟨rfl, hb⟩; have n0_ := Aside0.mk (below_step (by repeat (first | (with_reducible first | exact HB.out | apply below_alloc | apply pw_below_drewN | apply below_drew1) | exact HB.out)) hb); clear HB; have HB := n0_; clear n0_; (try clear hb); (try clear hb2); (try clear hk); (try clear hi)) | (go_at_call 15; (with_reducible refine (utf_Valid.calls (a0.extract 0 ((ji3) : Int).toNat) true _ A31.out).mono ?_); rintro e w36 ⟨rfl, hb⟩; have n0_ := Aside0.mk (below_step (by repeat (first | (with_reducible first | exact HB.out | apply below_alloc | apply pw_below_drewN | apply below_drew1) | exact HB.out)) hb); clear HB; have HB := n0_; clear n0_; (try clear hb); (try clear hb2); (try clear hk); (try clear hi)) | (go_at_call 14; (with_reducible refine (backseatlaw01_alive.calls kj8  t157 _ A34.out).mono ?_); rintro e w37 ⟨rfl, hb⟩; have n0_ := Aside0.mk (below_step (by repeat (first | (with_reducible first | exact HB.out | apply below_alloc | apply pw_below_drewN | apply below_drew1) | exact HB.out)) hb); clear HB; have HB := n0_; clear n0_; (try clear hb); (try clear hb2); (try clear hk); (try clear hi))))
                        go_meet
                        case rel => exact ⟨_, (!t157), (by first | rfl | (simp; done) | (simp [*]; done)), H', ⟨by have := HJ8.out; first | omega | exact Nat.le_refl _⟩, ⟨by repeat (first | (with_reducible first | exact HB.out | apply below_alloc | apply pw_below_drewN | apply below_drew1) | exact HB.out)⟩⟩
                      · rw [if_neg c33] at H
                        have c33b0 : (x5_8.toList == (a0.extract 0 ((ji3) : Int).toNat).toList) = false := beq_eq_false_iff_ne.mpr c33
                        have c33b1 : (x5_8.toList != (a0.extract 0 ((ji3) : Int).toNat).toList) = true := bne_iff_ne.mpr c33
                        have H' := Aside0.mk H
                        clear H
                        go_wp2_with (first | (go_at_call 15; (with_reducible refine (utf_Valid.calls x5_8 true _ A29.out).mono ?_); rintro e w38 ⟨rfl, hb⟩; have n0_ := Aside0.mk (below_step (by repeat (first | (with_reducible first | exact HB.out | apply below_alloc | apply pw_below_drewN | apply below_drew1) | exact HB.out)) hb); clear HB; have HB := n0_; clear n0_; (try clear hb); (try clear hb2); (try clear hk); (try clear hi)) | (go_at_call 15; (with_reducible refine (utf_Valid.calls (a0.extract 0 ((ji3) : Int).toNat) true _ A31.out).mono ?_); rintro e w39 ⟨rfl, hb⟩; have n0_ := Aside0.mk (below_step (by repeat (first | (with_reducible first | exact HB.out | apply below_alloc | apply pw_below_drewN | apply below_drew1) | exact HB.out)) hb); clear HB; have HB := n0_; clear n0_; (try clear hb); (try clear hb2); (try clear hk); (try clear hi)))
                        repeat (go_quiet (first | (go_at_call 15; (with_reducible refine (utf_Valid.calls x5_8 true _ A29.out).mono ?_); rintro e w38 ⟨rfl, hb⟩; have n0_ := Aside0.mk (below_step (by repeat (first | (with_reducible first | exact HB.out | apply below_alloc | apply pw_below_drewN | apply below_drew1) | exact HB.out)) hb); clear HB; have HB := n0_; clear n0_; (try clear hb); (try clear hb2); (try clear hk); (try clear hi)) | (go_at_call 15; (with_reducible refine (utf_Valid.calls (a0.extract 0 ((ji3) : Int).toNat) true _ A31.out).mono ?_); rintro e w39 ⟨rfl, hb⟩; have n0_ := Aside0.mk (below_step (by repeat (first | (with_reducible first | exact HB.out | apply below_alloc | apply pw_below_drewN | apply below_drew1) | exact HB.out)) hb); clear HB; have HB := n0_; clear n0_; (try clear hb); (try clear hb2); (try clear hk); (try clear hi))); try go_wp2_with (first | (go_at_call 15; (with_reducible refine (utf_Valid.calls x5_8 true _ A29.out).mono ?_); rintro e w38 ⟨rfl, hb⟩; have n0_ := Aside0.mk (below_step (by repeat (first | (with_reducible first | exact HB.out | apply below_alloc | apply pw_below_drewN | apply below_drew1) | exact HB.out)) hb); clear HB; have HB := n0_; clear n0_; (try clear hb); (try clear hb2); (try clear hk); (try clear hi)) | (go_at_call 15; (with_reducible refine (utf_Valid.calls (a0.extract 0 ((ji3) : Int).toNat) true _ A31.out).mono ?_); rintro e w39 ⟨rfl, hb⟩; have n0_ := Aside0.mk (below_step (by repeat (first | (with_reducible first | exact HB.out | apply below_alloc | apply pw_below_drewN | apply below_drew1) | exact HB.out)) hb); clear HB; have HB := n0_; clear n0_; (try clear hb); (try clear hb2); (try clear hk); (try clear hi))))
                        go_meet
                        case rel => exact ⟨_, (true), (by first | rfl | (simp; done) | (simp [*]; done)), H', ⟨by have := HJ8.out; first | omega | exact Nat.le_refl _⟩, ⟨by repeat (first | (with_reducible first | exact HB.out | apply below_alloc | apply pw_below_drewN | apply below_drew1) | exact HB.out)⟩⟩
                    · replace c32 := Bool.eq_false_iff.mpr c32
                      subst c32
                      have H1 : ((backseatlaw01_alive.f kj8).bind fun t158 => (backseatlaw01_UtfGoes.j3 kj8 (a0.extract 0 ((ji3) : Int).toNat) (a1.extract 0 ((ji6) : Int).toNat) (!t158))) = some r := by rw [if_neg (show ¬ (false = true) by decide)] at H; exact H
                      clear H
                      have H := H1
                      clear H1
                      replace H := Option.bind_eq_some_iff.mp H
                      obtain ⟨t158, A400, H⟩ := H
                      replace H : (backseatlaw01_UtfGoes.j3 kj8 (a0.extract 0 ((ji3) : Int).toNat) (a1.extract 0 ((ji6) : Int).toNat) (!t158)) = some r := H
                      have A40 := Aside0.mk A400
                      clear A400
                      have H' := Aside0.mk H
                      clear H
                      go_wp2_with (first | (go_at_call 15; (with_reducible refine (utf_Valid.calls x5_8 true _ A29.out).mono ?_); rintro e w41 ⟨rfl, hb⟩; have n0_ := Aside0.mk (below_step (by repeat (first | (with_reducible first | exact HB.out | apply below_alloc | apply pw_below_drewN | apply below_drew1) | exact HB.out)) hb); clear HB; have HB := n0_; clear n0_; (try clear hb); (try clear hb2); (try clear hk); (try clear hi)) | (go_at_call 15; (with_reducible refine (utf_Valid.calls (a0.extract 0 ((ji3) : Int).toNat) false _ A31.out).mono ?_); rintro e w42 ⟨rfl, hb⟩; have n0_ := Aside0.mk (below_step (by repeat (first | (with_reducible first | exact HB.out | apply below_alloc | apply pw_below_drewN | apply below_drew1) | exact HB.out)) hb); clear HB; have HB := n0_; clear n0_; (try clear hb); (try clear hb2); (try clear hk); (try clear hi)) | (go_at_call 14; (with_reducible refine (backseatlaw01_alive.calls kj8  t158 _ A40.out).mono ?_); rintro e w43 ⟨rfl, hb⟩; have n0_ := Aside0.mk (below_step (by repeat (first | (with_reducible first | exact HB.out | apply below_alloc | apply pw_below_drewN | apply below_drew1) | exact HB.out)) hb); clear HB; have HB := n0_; clear n0_; (try clear hb); (try clear hb2); (try clear hk); (try clear hi)))
                      repeat (go_quiet (first | (go_at_call 15; (with_reducible refine (utf_Valid.calls x5_8 true _ A29.out).mono ?_); rintro e w41 ⟨rfl, hb⟩; have n0_ := Aside0.mk (below_step (by repeat (first | (with_reducible first | exact HB.out | apply below_alloc | apply pw_below_drewN | apply below_drew1) | exact HB.out)) hb); clear HB; have HB := n0_; clear n0_; (try clear hb); (try clear hb2); (try clear hk); (try clear hi)) | (go_at_call 15; (with_reducible refine (utf_Valid.calls (a0.extract 0 ((ji3) : Int).toNat) false _ A31.out).mono ?_); rintro e w42 ⟨rfl, hb⟩; have n0_ := Aside0.mk (below_step (by repeat (first | (with_reducible first | exact HB.out | apply below_alloc | apply pw_below_drewN | apply below_drew1) | exact HB.out)) hb); clear HB; have HB := n0_; clear n0_; (try clear hb); (try clear hb2); (try clear hk); (try clear hi)) | (go_at_call 14; (with_reducible refine (backseatlaw01_alive.calls kj8  t158 _ A40.out).mono ?_); rintro e w43 ⟨rfl, hb⟩; have n0_ := Aside0.mk (below_step (by repeat (first | (with_reducible first | exact HB.out | apply below_alloc | apply pw_below_drewN | apply below_drew1) | exact HB.out)) hb); clear HB; have HB := n0_; clear n0_; (try clear hb); (try clear hb2); (try clear hk); (try clear hi))); try go_wp2_with (first | (go_at_call 15; (with_reducible refine (utf_Valid.calls x5_8 true _ A29.out).mono ?_); rintro e w41 ⟨rfl, hb⟩; have n0_ := Aside0.mk (below_step (by repeat (first | (with_reducible first | exact HB.out | apply below_alloc | apply pw_below_drewN | apply below_drew1) | exact HB.out)) hb); clear HB; have HB := n0_; clear n0_; (try clear hb); (try clear hb2); (try clear hk); (try clear hi)) | (go_at_call 15; (with_reducible refine (utf_Valid.calls (a0.extract 0 ((ji3) : Int).toNat) false _ A31.out).mono ?_); rintro e w42 ⟨rfl, hb⟩; have n0_ := Aside0.mk (below_step (by repeat (first | (with_reducible first | exact HB.out | apply below_alloc | apply pw_below_drewN | apply below_drew1) | exact HB.out)) hb); clear HB; have HB := n0_; clear n0_; (try clear hb); (try clear hb2); (try clear hk); (try clear hi)) | (go_at_call 14; (with_reducible refine (backseatlaw01_alive.calls kj8  t158 _ A40.out).mono ?_); rintro e w43 ⟨rfl, hb⟩; have n0_ := Aside0.mk (below_step (by repeat (first | (with_reducible first | exact HB.out | apply below_alloc | apply pw_below_drewN | apply below_drew1) | exact HB.out)) hb); clear HB; have HB := n0_; clear n0_; (try clear hb); (try clear hb2); (try clear hk); (try clear hi))))
                      go_meet
                      case rel => exact ⟨_, (!t158), (by first | rfl | (simp; done) | (simp [*]; done)), H', ⟨by have := HJ8.out; first | omega | exact Nat.le_refl _⟩, ⟨by repeat (first | (with_reducible first | exact HB.out | apply below_alloc | apply pw_below_drewN | apply below_drew1) | exact HB.out)⟩⟩
                  · replace c30 := Bool.eq_false_iff.mpr c30
                    subst c30
                    have H1 : (backseatlaw01_UtfGoes.j3 kj8 (a0.extract 0 ((ji3) : Int).toNat) (a1.extract 0 ((ji6) : Int).toNat) true) = some r := by rw [if_neg (show ¬ (false = true) by decide)] at H; exact H
                    clear H
                    have H := H1
                    clear H1
                    have H' := Aside0.mk H
                    clear H
                    go_wp2_with (first | (go_at_call 15; (with_reducible refine (utf_Valid.calls x5_8 false _ A29.out).mono ?_); rintro e w44 ⟨rfl, hb⟩; have n0_ := Aside0.mk (below_step (by repeat (first | (with_reducible first | exact HB.out | apply below_alloc | apply pw_below_drewN | apply below_drew1) | exact HB.out)) hb); clear HB; have HB := n0_; clear n0_; (try clear hb); (try clear hb2); (try clear hk); (try clear hi)))
                    repeat (go_quiet (first | (go_at_call 15; (with_reducible refine (utf_Valid.calls x5_8 false _ A29.out).mono ?_); rintro e w44 ⟨rfl, hb⟩; have n0_ := Aside0.mk (below_step (by repeat (first | (with_reducible first | exact HB.out | apply below_alloc | apply pw_below_drewN | apply below_drew1) | exact HB.out)) hb); clear HB; have HB := n0_; clear n0_; (try clear hb); (try clear hb2); (try clear hk); (try clear hi))); try go_wp2_with (first | (go_at_call 15; (with_reducible refine (utf_Valid.calls x5_8 false _ A29.out).mono ?_); rintro e w44 ⟨rfl, hb⟩; have n0_ := Aside0.mk (below_step (by repeat (first | (with_reducible first | exact HB.out | apply below_alloc | apply pw_below_drewN | apply below_drew1) | exact HB.out)) hb); clear HB; have HB := n0_; clear n0_; (try clear hb); (try clear hb2); (try clear hk); (try clear hi))))
                    go_meet
                    case rel => exact ⟨_, (true), (by first | rfl | (simp; done) | (simp [*]; done)), H', ⟨by have := HJ8.out; first | omega | exact Nat.le_refl _⟩, ⟨by repeat (first | (with_reducible first | exact HB.out | apply below_alloc | apply pw_below_drewN | apply below_drew1) | exact HB.out)⟩⟩
              case rest =>
                clear HC27
                try clear c1
                try clear c2
                try clear p2
                try clear c3
                try clear c4
                try clear c4b0
                try clear c4b1
                try clear c5
                try clear c5b0
                try clear c5b1
                try clear c7
                try clear c7b0
                try clear c7b1
                try clear c8
                try clear c8b0
                try clear c8b1
                try clear c10
                try clear c10b0
                try clear c10b1
                try clear c12
                try clear c12b0
                try clear c12b1
                try clear c16
                try clear c16b0
                try clear c17
                try clear c17b0
                try clear c18
                try clear c19
                try clear c19b0
                try clear c19b1
                try clear c21
                try clear c21b0
                try clear c21b1
                try clear c22
                try clear c22b0
                try clear c22b1
                try clear c22b2
                try clear c23
                try clear c23b0
                try clear c23b1
                try clear c24
                try clear c24b0
                try clear c24b1
                try clear c25
                try clear c25b0
                try clear c25b1
                try clear c26
                try clear c26b0
                try clear c26b1
                try clear c28
                try clear c28b0
                try clear c28b1
                try clear c30
                try clear c32
                try clear c33
                try clear c33b0
                try clear c33b1
                try clear p2
                obtain ⟨kq, x80_26, rfl, HA, HJ26, HB⟩ := hcut
                cases kq with
                | zero => exact absurd HA.out (by simp [backseatlaw01_UtfGoes.j3])
                | succ kj26 =>
                  have H := HA.out
                  clear HA
                  simp only [backseatlaw01_UtfGoes.j3] at H
                  by_cases c45 : x80_26 = true
                  · subst c45
                    have H1 : (some false) = some r := by rw [if_pos rfl] at H; exact H
                    clear H
                    have H := H1
                    clear H1
                    obtain rfl := Option.some.inj H
                    go_wp2
                    repeat (go_quiet (fail); try go_wp2)
                    go_ret
                    exact ⟨by first | rfl | (simp [errW_none, errW_some] <;> rfl) | (simp only [← hji3, ← hji6]; first | rfl | (simp [errW_none, errW_some] <;> rfl)) | (simp [*, errW_none, errW_some] <;> rfl), by repeat (first | (with_reducible first | exact HB.out | apply below_alloc | apply pw_below_drewN | apply below_drew1) | exact HB.out)⟩
                  · replace c45 := Bool.eq_false_iff.mpr c45
                    subst c45
                    have H1 : ((utf_Valid.f (a0.extract 0 ((ji3) : Int).toNat)).bind fun t159 => (if t159 = true then (if (a0.extract 0 ((ji3) : Int).toNat).size + (a1.extract 0 ((ji6) : Int).toNat).size ≤ 9223372036854775807 then ((utf_Valid.f ((a0.extract 0 ((ji3) : Int).toNat) ++ (a1.extract 0 ((ji6) : Int).toNat))).bind fun t160 => ((utf_Valid.f (a1.extract 0 ((ji6) : Int).toNat)).bind fun t161 => (some (t160 == t161)))) else (none)) else (some true))) = some r := by rw [if_neg (show ¬ (false = true) by decide)] at H; exact H
                    clear H
                    have H := H1
                    clear H1
                    replace H := Option.bind_eq_some_iff.mp H
                    obtain ⟨t159, A460, H⟩ := H
                    replace H : (if t159 = true then (if (a0.extract 0 ((ji3) : Int).toNat).size + (a1.extract 0 ((ji6) : Int).toNat).size ≤ 9223372036854775807 then ((utf_Valid.f ((a0.extract 0 ((ji3) : Int).toNat) ++ (a1.extract 0 ((ji6) : Int).toNat))).bind fun t160 => ((utf_Valid.f (a1.extract 0 ((ji6) : Int).toNat)).bind fun t161 => (some (t160 == t161)))) else (none)) else (some true)) = some r := H
                    have A46 := Aside0.mk A460
                    clear A460
                    by_cases c47 : t159 = true
                    · subst c47
                      have H1 : (if (a0.extract 0 ((ji3) : Int).toNat).size + (a1.extract 0 ((ji6) : Int).toNat).size ≤ 9223372036854775807 then ((utf_Valid.f ((a0.extract 0 ((ji3) : Int).toNat) ++ (a1.extract 0 ((ji6) : Int).toNat))).bind fun t160 => ((utf_Valid.f (a1.extract 0 ((ji6) : Int).toNat)).bind fun t161 => (some (t160 == t161)))) else (none)) = some r := by rw [if_pos rfl] at H; exact H
                      clear H
                      have H := H1
                      clear H1
                      by_cases c48 : (a0.extract 0 ((ji3) : Int).toNat).size + (a1.extract 0 ((ji6) : Int).toNat).size ≤ 9223372036854775807
                      · rw [if_pos c48] at H
                        have c48b0 := eq_true c48
                        have c48b1 : decide ((a0.extract 0 ((ji3) : Int).toNat).size + (a1.extract 0 ((ji6) : Int).toNat).size ≤ 9223372036854775807) = true := decide_eq_true c48
                        (try (have c48b1x := c48b1; simp at c48b1x))
                        try have c48b2 : (9223372036854775807 < (a0.extract 0 ((ji3) : Int).toNat).size + (a1.extract 0 ((ji6) : Int).toNat).size) = False := eq_false (Nat.not_lt.2 c48)
                        replace H := Option.bind_eq_some_iff.mp H
                        obtain ⟨t160, A490, H⟩ := H
                        replace H : ((utf_Valid.f (a1.extract 0 ((ji6) : Int).toNat)).bind fun t161 => (some (t160 == t161))) = some r := H
                        have A49 := Aside0.mk A490
                        clear A490
                        replace H := Option.bind_eq_some_iff.mp H
                        obtain ⟨t161, A500, H⟩ := H
                        replace H : (some (t160 == t161)) = some r := H
                        have A50 := Aside0.mk A500
                        clear A500
                        obtain rfl := Option.some.inj H
                        go_wp2_with (first | (go_at_call 15; (with_reducible refine (utf_Valid.calls (a0.extract 0 ((ji3) : Int).toNat) true _ A46.out).mono ?_); rintro e w51 ⟨rfl, hb⟩; have n0_ := Aside0.mk (below_step (by repeat (first | (with_reducible first | exact HB.out | apply below_alloc | apply pw_below_drewN | apply below_drew1) | exact HB.out)) hb); clear HB; have HB := n0_; clear n0_; (try clear hb); (try clear hb2); (try clear hk); (try clear hi)) | (go_at_call 15; (with_reducible refine (utf_Valid.calls ((a0.extract 0 ((ji3) : Int).toNat) ++ (a1.extract 0 ((ji6) : Int).toNat)) t160 _ A49.out).mono ?_); rintro e w52 ⟨rfl, hb⟩; have n0_ := Aside0.mk (below_step (by repeat (first | (with_reducible first | exact HB.out | apply below_alloc | apply pw_below_drewN | apply below_drew1) | exact HB.out)) hb); clear HB; have HB := n0_; clear n0_; (try clear hb); (try clear hb2); (try clear hk); (try clear hi)) | (go_at_call 15; (with_reducible refine (utf_Valid.calls (a1.extract 0 ((ji6) : Int).toNat) t161 _ A50.out).mono ?_); rintro e w53 ⟨rfl, hb⟩; have n0_ := Aside0.mk (below_step (by repeat (first | (with_reducible first | exact HB.out | apply below_alloc | apply pw_below_drewN | apply below_drew1) | exact HB.out)) hb); clear HB; have HB := n0_; clear n0_; (try clear hb); (try clear hb2); (try clear hk); (try clear hi)))
                        repeat (go_quiet (first | (go_at_call 15; (with_reducible refine (utf_Valid.calls (a0.extract 0 ((ji3) : Int).toNat) true _ A46.out).mono ?_); rintro e w51 ⟨rfl, hb⟩; have n0_ := Aside0.mk (below_step (by repeat (first | (with_reducible first | exact HB.out | apply below_alloc | apply pw_below_drewN | apply below_drew1) | exact HB.out)) hb); clear HB; have HB := n0_; clear n0_; (try clear hb); (try clear hb2); (try clear hk); (try clear hi)) | (go_at_call 15; (with_reducible refine (utf_Valid.calls ((a0.extract 0 ((ji3) : Int).toNat) ++ (a1.extract 0 ((ji6) : Int).toNat)) t160 _ A49.out).mono ?_); rintro e w52 ⟨rfl, hb⟩; have n0_ := Aside0.mk (below_step (by repeat (first | (with_reducible first | exact HB.out | apply below_alloc | apply pw_below_drewN | apply below_drew1) | exact HB.out)) hb); clear HB; have HB := n0_; clear n0_; (try clear hb); (try clear hb2); (try clear hk); (try clear hi)) | (go_at_call 15; (with_reducible refine (utf_Valid.calls (a1.extract 0 ((ji6) : Int).toNat) t161 _ A50.out).mono ?_); rintro e w53 ⟨rfl, hb⟩; have n0_ := Aside0.mk (below_step (by repeat (first | (with_reducible first | exact HB.out | apply below_alloc | apply pw_below_drewN | apply below_drew1) | exact HB.out)) hb); clear HB; have HB := n0_; clear n0_; (try clear hb); (try clear hb2); (try clear hk); (try clear hi))); try go_wp2_with (first | (go_at_call 15; (with_reducible refine (utf_Valid.calls (a0.extract 0 ((ji3) : Int).toNat) true _ A46.out).mono ?_); rintro e w51 ⟨rfl, hb⟩; have n0_ := Aside0.mk (below_step (by repeat (first | (with_reducible first | exact HB.out | apply below_alloc | apply pw_below_drewN | apply below_drew1) | exact HB.out)) hb); clear HB; have HB := n0_; clear n0_; (try clear hb); (try clear hb2); (try clear hk); (try clear hi)) | (go_at_call 15; (with_reducible refine (utf_Valid.calls ((a0.extract 0 ((ji3) : Int).toNat) ++ (a1.extract 0 ((ji6) : Int).toNat)) t160 _ A49.out).mono ?_); rintro e w52 ⟨rfl, hb⟩; have n0_ := Aside0.mk (below_step (by repeat (first | (with_reducible first | exact HB.out | apply below_alloc | apply pw_below_drewN | apply below_drew1) | exact HB.out)) hb); clear HB; have HB := n0_; clear n0_; (try clear hb); (try clear hb2); (try clear hk); (try clear hi)) | (go_at_call 15; (with_reducible refine (utf_Valid.calls (a1.extract 0 ((ji6) : Int).toNat) t161 _ A50.out).mono ?_); rintro e w53 ⟨rfl, hb⟩; have n0_ := Aside0.mk (below_step (by repeat (first | (with_reducible first | exact HB.out | apply below_alloc | apply pw_below_drewN | apply below_drew1) | exact HB.out)) hb); clear HB; have HB := n0_; clear n0_; (try clear hb); (try clear hb2); (try clear hk); (try clear hi))))
                        go_ret
                        exact ⟨by first | rfl | (simp [errW_none, errW_some] <;> rfl) | (simp only [← hji3, ← hji6]; first | rfl | (simp [errW_none, errW_some] <;> rfl)) | (simp [*, errW_none, errW_some] <;> rfl), by repeat (first | (with_reducible first | exact HB.out | apply below_alloc | apply pw_below_drewN | apply below_drew1) | exact HB.out)⟩
                      · rw [if_neg c48] at H
                        exact absurd H (by simp)
                    · replace c47 := Bool.eq_false_iff.mpr c47
                      subst c47
                      have H1 : (some true) = some r := by rw [if_neg (show ¬ (false = true) by decide)] at H; exact H
                      clear H
                      have H := H1
                      clear H1
                      obtain rfl := Option.some.inj H
                      go_wp2_with (first | (go_at_call 15; (with_reducible refine (utf_Valid.calls (a0.extract 0 ((ji3) : Int).toNat) false _ A46.out).mono ?_); rintro e w54 ⟨rfl, hb⟩; have n0_ := Aside0.mk (below_step (by repeat (first | (with_reducible first | exact HB.out | apply below_alloc | apply pw_below_drewN | apply below_drew1) | exact HB.out)) hb); clear HB; have HB := n0_; clear n0_; (try clear hb); (try clear hb2); (try clear hk); (try clear hi)))
                      repeat (go_quiet (first | (go_at_call 15; (with_reducible refine (utf_Valid.calls (a0.extract 0 ((ji3) : Int).toNat) false _ A46.out).mono ?_); rintro e w54 ⟨rfl, hb⟩; have n0_ := Aside0.mk (below_step (by repeat (first | (with_reducible first | exact HB.out | apply below_alloc | apply pw_below_drewN | apply below_drew1) | exact HB.out)) hb); clear HB; have HB := n0_; clear n0_; (try clear hb); (try clear hb2); (try clear hk); (try clear hi))); try go_wp2_with (first | (go_at_call 15; (with_reducible refine (utf_Valid.calls (a0.extract 0 ((ji3) : Int).toNat) false _ A46.out).mono ?_); rintro e w54 ⟨rfl, hb⟩; have n0_ := Aside0.mk (below_step (by repeat (first | (with_reducible first | exact HB.out | apply below_alloc | apply pw_below_drewN | apply below_drew1) | exact HB.out)) hb); clear HB; have HB := n0_; clear n0_; (try clear hb); (try clear hb2); (try clear hk); (try clear hi))))
                      go_ret
                      exact ⟨by first | rfl | (simp [errW_none, errW_some] <;> rfl) | (simp only [← hji3, ← hji6]; first | rfl | (simp [errW_none, errW_some] <;> rfl)) | (simp [*, errW_none, errW_some] <;> rfl), by repeat (first | (with_reducible first | exact HB.out | apply below_alloc | apply pw_below_drewN | apply below_drew1) | exact HB.out)⟩
        · rw [if_neg c8] at H
          exact absurd H (by simp)
      · rw [if_neg c7] at H
        exact absurd H (by simp)
    · rw [if_neg c5] at H
      exact absurd H (by simp)
  · rw [if_neg c4] at H
    exact absurd H (by simp)

/-- THE ONE PURE STATEMENT of backseatlaw01_UtfGoes: yours. -/
def backseatlaw01_UtfGoes.Pure : Prop := ∀ (a0 : ByteArray) (a1 : ByteArray), a0.size ≤ 140737488351232 → a1.size ≤ 140737488351232 → ∃ k, backseatlaw01_UtfGoes.f k a0 a1 = some true

end Go.Proofs.YthipdgnbpdngpaaDoor.P
