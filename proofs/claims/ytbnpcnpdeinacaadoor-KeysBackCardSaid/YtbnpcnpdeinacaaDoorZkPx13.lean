-- A copy of the text YtbnpcnpdeinacaaDoorPx13 with what this claim does not reach left out (prune.py, a program of this project).
import Derived.Test.YtbnpcnpdeinacaaDoorZkPx0
import Derived.Test.YtbnpcnpdeinacaaDoorZkPx2
namespace Go.Proofs.YtbnpcnpdeinacaaDoor.P
open Go.RowKit Go.Proofs.YtbnpcnpdeinacaaDoor Go.Proofs.YtbnpcnpdeinacaaDoorW.PrintWords Go.Proofs.YtbnpcnpdeinacaaDoorW.PrintLast Go.Proofs.YtbnpcnpdeinacaaDoorW.PrintMore
attribute [local go_sem] max2_int min2_int max_two min_two max_three min_three max_four min_four   -- for this text's walks alone
set_option linter.unusedVariables false
set_option linter.unusedSimpArgs false
mutual
def backseatlaw03_KeysBack.l0 : Nat → ByteArray → List ByteArray → List ByteArray → Int → Int → Option (Bool)
  | 0, _, _, _, _, _ => none
  | k + 1, x3, x4, x19, x20, x21 => if x21 < x20 then (if 0 ≤ x21 then (if x21 < (x19.length : Int) then (if 0 ≤ (mn ((rdOf ByteArray.empty x19 x21).size : Int) 20) then (if (mn ((rdOf ByteArray.empty x19 x21).size : Int) 20) ≤ ((rdOf ByteArray.empty x19 x21).size : Int) then ((keys_Bytes.f ((rdOf ByteArray.empty x19 x21).extract 0 ((mn ((rdOf ByteArray.empty x19 x21).size : Int) 20) : Int).toNat)).bind fun bt270 => (if bt270.2 = 0 then (backseatlaw03_KeysBack.j1 k x3 x4 ((rdOf ByteArray.empty x19 x21).extract 0 ((mn ((rdOf ByteArray.empty x19 x21).size : Int) 20) : Int).toNat) bt270.1 x19 x20 x21 (((rdOf ByteArray.empty x19 x21).extract 0 ((mn ((rdOf ByteArray.empty x19 x21).size : Int) 20) : Int).toNat).toList == ([69, 115, 99] : List UInt8))) else (backseatlaw03_KeysBack.j1 k x3 x4 ((rdOf ByteArray.empty x19 x21).extract 0 ((mn ((rdOf ByteArray.empty x19 x21).size : Int) 20) : Int).toNat) bt270.1 x19 x20 x21 true))) else (none)) else (none)) else (none)) else (none)) else ((keys_Decode.f x3 false).bind fun bt280 => ((keys_Decode.f (⟨#[27]⟩ : ByteArray) true).bind fun bt284 => ((backseatlaw03_alive.f).bind fun t288 => (if t288 = true then (if bt280.2.toList = ([] : List UInt8) then ((backseatref03_Same.f k bt280.1 x4).bind fun t289 => (if t289 = true then (if (bt284.1.length : Int) = 1 then (if 0 < (bt284.1.length : Int) then (some ((rdOf ByteArray.empty bt284.1 0).toList == ([69, 115, 99] : List UInt8))) else (none)) else (some false)) else (some false))) else (some false)) else (some false)))))
def backseatlaw03_KeysBack.j1 : Nat → ByteArray → List ByteArray → ByteArray → ByteArray → List ByteArray → Int → Int → Bool → Option (Bool)
  | 0, _, _, _, _, _, _, _, _ => none
  | k + 1, x3, x4, x6, x7, x19, x20, x21, x40 => if x40 = true then (backseatlaw03_KeysBack.l0 k x3 x4 x19 x20 (wrap64 (x21 + 1))) else ((keys_Decode.f x7 true).bind fun bt272 => (if x7.toList = ([] : List UInt8) then (some false) else (if bt272.2.toList = ([] : List UInt8) then (if (bt272.1.length : Int) = 1 then (if 0 < (bt272.1.length : Int) then (if (rdOf ByteArray.empty bt272.1 0).toList = x6.toList then (if x3.size + x7.size ≤ 9223372036854775807 then (if x4.length < 8796093022208 then (backseatlaw03_KeysBack.l0 k (x3 ++ x7) (x4 ++ [x6]) x19 x20 (wrap64 (x21 + 1))) else (none)) else (none)) else (some false)) else (none)) else (some false)) else (some false))))
end
def backseatlaw03_KeysBack.f (k : Nat) (l0 : List ByteArray) : Option (Bool) := if 0 ≤ (mn (l0.length : Int) 12) then (if (mn (l0.length : Int) 12) ≤ (l0.length : Int) then (backseatlaw03_KeysBack.l0 k (⟨#[]⟩ : ByteArray) ([] : List ByteArray) (l0.take ((mn (l0.length : Int) 12) : Int).toNat) ((l0.take ((mn (l0.length : Int) 12) : Int).toNat).length : Int) 0) else (none)) else (none)
theorem backseatlaw03_KeysBack.mono_l : ∀ k, (∀ y0 y1 y2 y3 y4, LeO (backseatlaw03_KeysBack.l0 k y0 y1 y2 y3 y4) (backseatlaw03_KeysBack.l0 (k + 1) y0 y1 y2 y3 y4)) ∧ (∀ y0 y1 y2 y3 y4 y5 y6 y7, LeO (backseatlaw03_KeysBack.j1 k y0 y1 y2 y3 y4 y5 y6 y7) (backseatlaw03_KeysBack.j1 (k + 1) y0 y1 y2 y3 y4 y5 y6 y7))
  | 0 => ⟨fun _ _ _ _ _ r h => by simp [backseatlaw03_KeysBack.l0] at h, fun _ _ _ _ _ _ _ _ r h => by simp [backseatlaw03_KeysBack.j1] at h⟩
  | k + 1 => by
    obtain ⟨ih0, ih1⟩ := backseatlaw03_KeysBack.mono_l k
    refine ⟨?_, ?_⟩
    · intro y0 y1 y2 y3 y4
      unfold backseatlaw03_KeysBack.l0
      repeat' first
      | (with_reducible exact ih0 _ _ _ _ _)
      | (with_reducible exact ih1 _ _ _ _ _ _ _ _)
      | (with_reducible exact backseatref03_Same.mono _ _ _)
      | (with_reducible exact LeO.refl _)
      | (with_reducible exact LeO.none _)
      | (with_reducible refine LeO.ite ?_ ?_)
      | (with_reducible refine LeO.bind ?_ (fun _ => ?_))
      | exact ih0 _ _ _ _ _
      | exact ih1 _ _ _ _ _ _ _ _
      | exact backseatref03_Same.mono _ _ _
      | exact LeO.none _
      | refine LeO.ite ?_ ?_
      | refine LeO.bind ?_ (fun _ => ?_)
    · intro y0 y1 y2 y3 y4 y5 y6 y7
      unfold backseatlaw03_KeysBack.j1
      repeat' first
      | (with_reducible exact ih0 _ _ _ _ _)
      | (with_reducible exact ih1 _ _ _ _ _ _ _ _)
      | (with_reducible exact backseatref03_Same.mono _ _ _)
      | (with_reducible exact LeO.refl _)
      | (with_reducible exact LeO.none _)
      | (with_reducible refine LeO.ite ?_ ?_)
      | (with_reducible refine LeO.bind ?_ (fun _ => ?_))
      | exact ih0 _ _ _ _ _
      | exact ih1 _ _ _ _ _ _ _ _
      | exact backseatref03_Same.mono _ _ _
      | exact LeO.none _
      | refine LeO.ite ?_ ?_
      | refine LeO.bind ?_ (fun _ => ?_)
theorem backseatlaw03_KeysBack.mono : ∀ a0 k, LeO (backseatlaw03_KeysBack.f k a0) (backseatlaw03_KeysBack.f (k + 1) a0) := by
  intro a0 k
  obtain ⟨ih0, ih1⟩ := backseatlaw03_KeysBack.mono_l k
  unfold backseatlaw03_KeysBack.f
  repeat' first
      | (with_reducible exact ih0 _ _ _ _ _)
      | (with_reducible exact ih1 _ _ _ _ _ _ _ _)
      | (with_reducible exact backseatref03_Same.mono _ _ _)
      | (with_reducible exact LeO.refl _)
      | (with_reducible exact LeO.none _)
      | (with_reducible refine LeO.ite ?_ ?_)
      | (with_reducible refine LeO.bind ?_ (fun _ => ?_))
      | exact ih0 _ _ _ _ _
      | exact ih1 _ _ _ _ _ _ _ _
      | exact backseatref03_Same.mono _ _ _
      | exact LeO.none _
      | refine LeO.ite ?_ ?_
      | refine LeO.bind ?_ (fun _ => ?_)
set_option maxHeartbeats 8000000 in
set_option maxRecDepth 100000 in
theorem backseatlaw03_KeysBack.calls (k : Nat) (A0 : Option Addr) (c0 : Nat) (l0 : List ByteArray) (r : Bool) (w : World) (hr0 : Kd.C Kd.string w A0 l0.length l0) (hc0 : l0.length ≤ c0) (h : backseatlaw03_KeysBack.f k l0 = some r) (hT : TabsAt w := by first | with_reducible assumption | exact tabs_here (by with_reducible assumption) (by repeat (with_reducible first | assumption | apply below_alloc | apply pw_below_drewN | apply below_drew1 | (refine Below.setCell ?_ ?_ _) | exact Aside0.out (by assumption)))) :
    Calls Tryd.prog 5 #[.slice A0 l0.length c0] w fun e w' => e = .returned (.bool r) ∧ Below w.heap.size w w' := by
  have HR0 := Aside0.mk hr0
  have HC0 := Aside0.mk hc0
  clear hr0 hc0
  have HB := Aside0.mk (Below.refl w.heap.size w)
  have H : (if 0 ≤ (mn (l0.length : Int) 12) then (if (mn (l0.length : Int) 12) ≤ (l0.length : Int) then (backseatlaw03_KeysBack.l0 k (⟨#[]⟩ : ByteArray) ([] : List ByteArray) (l0.take ((mn (l0.length : Int) 12) : Int).toNat) ((l0.take ((mn (l0.length : Int) 12) : Int).toNat).length : Int) 0) else (none)) else (none)) = some r := h
  clear h
  obtain ⟨ji2, hji2⟩ : ∃ j_ : Int, (mn (l0.length : Int) 12) = j_ := ⟨_, rfl⟩
  replace H : (if 0 ≤ (ji2) then (if (ji2) ≤ (l0.length : Int) then (backseatlaw03_KeysBack.l0 k (⟨#[]⟩ : ByteArray) ([] : List ByteArray) (l0.take ((ji2) : Int).toNat) ((l0.take ((ji2) : Int).toNat).length : Int) 0) else (none)) else (none)) = some r := by first | (rw [hji2] at H; exact H) | (simp only [hji2] at H ⊢; exact H)
  (try (have hji2h : ji2 ≤ 12 := by (rw [← hji2]; unfold mn; (repeat' split) <;> omega)))
  (try (have hji2g : ji2 ≤ 64 := by omega))
  (try (have hji2l : 0 ≤ ji2 := by (rw [← hji2]; unfold mn; (repeat' split) <;> omega)))
  (try (have hji2m : 0 ≤ ji2 := by omega))
  have hji2_ : (if 12 < (l0.length : Int) then 12 else (l0.length : Int)) = ji2 := hji2
  by_cases c3 : 0 ≤ (ji2)
  · rw [if_pos c3] at H
    have c3b0 := eq_true c3
    have c3b1 : decide (0 ≤ (ji2)) = true := decide_eq_true c3
    clear c3
    by_cases c4 : (ji2) ≤ (l0.length : Int)
    · rw [if_pos c4] at H
      have c4b0 := eq_true c4
      have c4b1 : decide ((ji2) ≤ (l0.length : Int)) = true := decide_eq_true c4
      clear c4
      have H' := Aside0.mk H
      clear H
      obtain ⟨i05, hi05, _, hsz5, _⟩ := info_parts info9
      obtain ⟨hcut5, hA5, hC5⟩ := print_take_of (P := Tryd.prog) Value.string (⟨#[]⟩ : ByteArray) 23 9 .i64 Tryd.underlying23 hi05 hsz5 A0 c0 l0 (ji2) (of_decide_eq_true (by first | (with_reducible assumption) | assumption)) (of_decide_eq_true (by first | (with_reducible assumption) | assumption)) HC0.out
      have HR268 := Aside0.mk (Kd.C_of_reads (h1 := fun _ => rfl) (hA5 _ (Kd.reads_of_C HR0.out)))
      have HC268 := Aside0.mk hC5
      clear hA5 hC5 hi05 hsz5
      go_enter Tryd.func5, Tryd.ntmps5
      go_wp2
      go_loopg [3, 4, 21] k (fun kq v3 v4 v21 w' => ∃ (x3_1 : ByteArray) (x4_1 : List ByteArray) (x21_1 : Int), v3 = .string x3_1 ∧ v21 = .int .i64 x21_1 ∧ Aside0 (backseatlaw03_KeysBack.l0 kq x3_1 x4_1 (l0.take ((ji2) : Int).toNat) ((l0.take ((ji2) : Int).toNat).length : Int) x21_1 = some r) ∧ Aside0 (kq ≤ k) ∧ Aside0 (Kd.R Kd.string 9 w' w.heap.size (fun _ => True) v4 x4_1) ∧ Aside0 (Below w.heap.size w w'))
      case atStart => exact ⟨((⟨#[]⟩ : ByteArray)), (([] : List ByteArray)), (0), (by first | rfl | (simp; done) | (simp [*]; done)), (by first | rfl | (simp; done) | (simp [*]; done)), H', ⟨Nat.le_refl _⟩, ⟨by first | exact Kd.R_nil _ _ _ _ _ | exact Kd.N_nil _ _ _ _ _ | exact Kd.V_nil _ _ _ _ _ | exact Kd.Q_nil _ _ _ _ _ | exact Kd.S_nil _ _ _ _ _⟩, ⟨by repeat (first | (with_reducible first | exact HB.out | apply below_alloc | apply pw_below_drewN | apply below_drew1) | exact HB.out)⟩⟩
      case round =>
        clear H'
        try clear p2
        try clear c3
        try clear c3b0
        try clear c3b1
        try clear c4
        try clear c4b0
        try clear c4b1
        try clear c5
        obtain ⟨x3_1, x4_1, x21_1, rfl, rfl, HA, HK1, HO_4, HB⟩ := hrel
        cases gk with
        | zero => exact absurd HA.out (by simp [backseatlaw03_KeysBack.l0])
        | succ k1 =>
          have H := HA.out
          clear HA
          simp only [backseatlaw03_KeysBack.l0] at H
          by_cases c6 : x21_1 < ((l0.take ((ji2) : Int).toNat).length : Int)
          · rw [if_pos c6] at H
            have c6b0 : decide (x21_1 < ((l0.take ((ji2) : Int).toNat).length : Int)) = true := decide_eq_true c6
            have hl_ : (l0.take ((ji2) : Int).toNat).length = (ji2 : Int).toNat := (by have h1_ : ji2 ≤ (l0.length : Int) := (by first | exact of_decide_eq_true (by assumption) | (rw [← hji2_]; split <;> omega)); rw [List.length_take]; omega)
            have c6d0 : decide (x21_1 < ((ji2.toNat : Nat) : Int)) = true := decide_eq_true (by have := of_decide_eq_true c6b0; omega)
            have c6e0 : decide (x21_1 < max ji2 0) = true := decide_eq_true (by have := of_decide_eq_true c6b0; omega)
            have c6h0 : x21_1 < max ji2 0 := of_decide_eq_true c6e0
            clear hl_
            clear c6
            by_cases c7 : 0 ≤ x21_1
            · rw [if_pos c7] at H
              have c7b0 : decide (0 ≤ x21_1) = true := decide_eq_true c7
              clear c7
              by_cases c8 : x21_1 < ((l0.take ((ji2) : Int).toNat).length : Int)
              · rw [if_pos c8] at H
                have c8b0 : decide (x21_1 < ((l0.take ((ji2) : Int).toNat).length : Int)) = true := decide_eq_true c8
                have hl_ : (l0.take ((ji2) : Int).toNat).length = (ji2 : Int).toNat := (by have h1_ : ji2 ≤ (l0.length : Int) := (by first | exact of_decide_eq_true (by assumption) | (rw [← hji2_]; split <;> omega)); rw [List.length_take]; omega)
                have c8d0 : decide (x21_1 < ((ji2.toNat : Nat) : Int)) = true := decide_eq_true (by have := of_decide_eq_true c8b0; omega)
                have c8e0 : decide (x21_1 < max ji2 0) = true := decide_eq_true (by have := of_decide_eq_true c8b0; omega)
                have c8h0 : x21_1 < max ji2 0 := of_decide_eq_true c8e0
                clear hl_
                clear c8
                obtain ⟨ji9, hji9⟩ : ∃ j_ : Int, (mn ((rdOf ByteArray.empty (l0.take ((ji2) : Int).toNat) x21_1).size : Int) 20) = j_ := ⟨_, rfl⟩
                replace H : (if 0 ≤ (ji9) then (if (ji9) ≤ ((rdOf ByteArray.empty (l0.take ((ji2) : Int).toNat) x21_1).size : Int) then ((keys_Bytes.f ((rdOf ByteArray.empty (l0.take ((ji2) : Int).toNat) x21_1).extract 0 ((ji9) : Int).toNat)).bind fun bt270 => (if bt270.2 = 0 then (backseatlaw03_KeysBack.j1 k1 x3_1 x4_1 ((rdOf ByteArray.empty (l0.take ((ji2) : Int).toNat) x21_1).extract 0 ((ji9) : Int).toNat) bt270.1 (l0.take ((ji2) : Int).toNat) ((l0.take ((ji2) : Int).toNat).length : Int) x21_1 (((rdOf ByteArray.empty (l0.take ((ji2) : Int).toNat) x21_1).extract 0 ((ji9) : Int).toNat).toList == ([69, 115, 99] : List UInt8))) else (backseatlaw03_KeysBack.j1 k1 x3_1 x4_1 ((rdOf ByteArray.empty (l0.take ((ji2) : Int).toNat) x21_1).extract 0 ((ji9) : Int).toNat) bt270.1 (l0.take ((ji2) : Int).toNat) ((l0.take ((ji2) : Int).toNat).length : Int) x21_1 true))) else (none)) else (none)) = some r := by first | (rw [hji9] at H; exact H) | (simp only [hji9] at H ⊢; exact H)
                have hji9_ : (if 20 < ((rdOf ByteArray.empty (l0.take ((ji2) : Int).toNat) x21_1).size : Int) then 20 else ((rdOf ByteArray.empty (l0.take ((ji2) : Int).toNat) x21_1).size : Int)) = ji9 := hji9
                by_cases c10 : 0 ≤ (ji9)
                · rw [if_pos c10] at H
                  have c10b0 := eq_true c10
                  have c10b1 : decide (0 ≤ (ji9)) = true := decide_eq_true c10
                  clear c10
                  by_cases c11 : (ji9) ≤ ((rdOf ByteArray.empty (l0.take ((ji2) : Int).toNat) x21_1).size : Int)
                  · rw [if_pos c11] at H
                    have c11b0 := eq_true c11
                    have c11b1 : decide ((ji9) ≤ ((rdOf ByteArray.empty (l0.take ((ji2) : Int).toNat) x21_1).size : Int)) = true := decide_eq_true c11
                    clear c11
                    replace H := Option.bind_eq_some_iff.mp H
                    obtain ⟨⟨t270, t271⟩, A120, H⟩ := H
                    replace H : (if t271 = 0 then (backseatlaw03_KeysBack.j1 k1 x3_1 x4_1 ((rdOf ByteArray.empty (l0.take ((ji2) : Int).toNat) x21_1).extract 0 ((ji9) : Int).toNat) t270 (l0.take ((ji2) : Int).toNat) ((l0.take ((ji2) : Int).toNat).length : Int) x21_1 (((rdOf ByteArray.empty (l0.take ((ji2) : Int).toNat) x21_1).extract 0 ((ji9) : Int).toNat).toList == ([69, 115, 99] : List UInt8))) else (backseatlaw03_KeysBack.j1 k1 x3_1 x4_1 ((rdOf ByteArray.empty (l0.take ((ji2) : Int).toNat) x21_1).extract 0 ((ji9) : Int).toNat) t270 (l0.take ((ji2) : Int).toNat) ((l0.take ((ji2) : Int).toNat).length : Int) x21_1 true)) = some r := H
                    have A12 := Aside0.mk A120
                    clear A120
                    have HC13 := Aside0.mk H
                    clear H
                    have p269 : 0 ≤ (x21_1 : Int) := of_decide_eq_true (by first | (with_reducible assumption) | assumption)
                    have q269 : x21_1 < ((l0.take ((ji2) : Int).toNat).length : Int) := of_decide_eq_true (by first | (with_reducible assumption) | assumption)
                    obtain ⟨ad269, e269, hx269_0⟩ := Kd.at_string HR268.out x21_1 p269 q269
                    cases e269
                    replace hx269_0 := (HB.out.cell (World.block_lt_of_cell? w _ hx269_0)).trans hx269_0
                    replace p269 := eq_true p269
                    replace q269 := eq_true q269
                    go_upto_region 8 with (first | ((with_reducible refine gate_callee (f := 9) rfl ?_); refine goesL_ (some 32) rfl rfl Tryd.func9 (by kernel_rfl) rfl #[.string ((rdOf ByteArray.empty (l0.take ((ji2) : Int).toNat) x21_1).extract 0 ((ji9) : Int).toNat)] rfl (by (try simp only [List.map_toArray, List.map_cons, List.map_nil]); first | done | (simp only [hji2, hji9]; rfl) | rfl | (simp only [List.length_drop, List.length_take]; rfl)) ?_; (with_reducible refine (keys_Bytes.calls ((rdOf ByteArray.empty (l0.take ((ji2) : Int).toNat) x21_1).extract 0 ((ji9) : Int).toNat) t270 t271 _ A12.out).mono ?_); rintro e w14 ⟨rfl, hb⟩; refine ⟨_, rfl, ?_⟩; have n0_ := Aside0.mk (Kd.R_below (by (with_reducible repeat (first | apply Kd.R_alloc | apply Kd.R_drewN | apply Kd.R_drew)); exact HO_4.out) hb); have n1_ := Aside0.mk (below_step (by repeat (first | (with_reducible first | exact HB.out | apply below_alloc | apply pw_below_drewN | apply below_drew1) | exact HB.out)) hb); clear HO_4; clear HB; have HO_4 := n0_; have HB := n1_; clear n0_ n1_; (try clear hb); (try clear hb2); (try clear hk); (try clear hi)))
                    (try simp only [Act.put, List.setIfInBounds_toArray, List.set_cons_zero, List.set_cons_succ])
                    go_cut [40] (fun v40 wc => ∃ (kq : Nat) (x40_12 : Bool), v40 = .bool x40_12 ∧ Aside0 (backseatlaw03_KeysBack.j1 kq x3_1 x4_1 ((rdOf ByteArray.empty (l0.take ((ji2) : Int).toNat) x21_1).extract 0 ((ji9) : Int).toNat) t270 (l0.take ((ji2) : Int).toNat) ((l0.take ((ji2) : Int).toNat).length : Int) x21_1 x40_12 = some r) ∧ Aside0 (kq ≤ k1) ∧ Aside0 (Kd.R Kd.string 9 wc w.heap.size (fun _ => True) u4 x4_1) ∧ Aside0 (Below w.heap.size w wc))
                    case first =>
                      have H := HC13.out
                      clear HC13
                      by_cases c15 : t271 = 0
                      · rw [if_pos c15] at H
                        have c15b0 : (t271 == 0) = true := beq_iff_eq.mpr c15
                        have c15b1 : (t271 != 0) = false := bne_eq_false_iff_eq.mpr c15
                        clear c15
                        (first | rw [c15b0] | (simp only [i64_w, i32_w]; rw [c15b0]) | skip)
                        have H' := Aside0.mk H
                        clear H
                        go_wp2
                        go_meet
                        case rel => exact ⟨_, ((((rdOf ByteArray.empty (l0.take ((ji2) : Int).toNat) x21_1).extract 0 ((ji9) : Int).toNat).toList == ([69, 115, 99] : List UInt8))), (by first | rfl | (simp; done) | (simp only [← hji2, ← hji9] <;> (first | rfl | simp)) | (simp [*]; done)), H', ⟨by have := HK1.out; first | omega | exact Nat.le_refl _⟩, ⟨by (with_reducible repeat (first | apply Kd.R_alloc | apply Kd.R_drewN | apply Kd.R_drew)); exact HO_4.out⟩, ⟨by repeat (first | (with_reducible first | exact HB.out | apply below_alloc | apply pw_below_drewN | apply below_drew1) | exact HB.out)⟩⟩
                      · rw [if_neg c15] at H
                        have c15b0 : (t271 == 0) = false := beq_eq_false_iff_ne.mpr c15
                        have c15b1 : (t271 != 0) = true := bne_iff_ne.mpr c15
                        (first | rw [c15b0] | (simp only [i64_w, i32_w]; rw [c15b0]) | skip)
                        have H' := Aside0.mk H
                        clear H
                        go_wp2
                        go_meet
                        case rel => exact ⟨_, (true), (by first | rfl | (simp; done) | (simp [*]; done)), H', ⟨by have := HK1.out; first | omega | exact Nat.le_refl _⟩, ⟨by (with_reducible repeat (first | apply Kd.R_alloc | apply Kd.R_drewN | apply Kd.R_drew)); exact HO_4.out⟩, ⟨by repeat (first | (with_reducible first | exact HB.out | apply below_alloc | apply pw_below_drewN | apply below_drew1) | exact HB.out)⟩⟩
                    case rest =>
                      clear HC13
                      try clear c1
                      try clear p2
                      try clear q2
                      try clear hx2
                      try clear c3
                      try clear c3b0
                      try clear c3b1
                      try clear c4
                      try clear c4b0
                      try clear c4b1
                      try clear c5
                      try clear c6
                      try clear c6b0
                      try clear c7
                      try clear c7b0
                      try clear c8
                      try clear c8b0
                      try clear c9
                      try clear c10
                      try clear c10b0
                      try clear c10b1
                      try clear c11
                      try clear c11b0
                      try clear c11b1
                      try clear c15
                      try clear c15b0
                      try clear c15b1
                      try clear hx269_0
                      try clear p2
                      try clear p269
                      try clear q269
                      obtain ⟨kq, x40_12, rfl, HA, HJ12, HO_4, HB⟩ := hcut
                      cases kq with
                      | zero => exact absurd HA.out (by simp [backseatlaw03_KeysBack.j1])
                      | succ kj12 =>
                        have H := HA.out
                        clear HA
                        simp only [backseatlaw03_KeysBack.j1] at H
                        by_cases c16 : x40_12 = true
                        · subst c16
                          have H1 : (backseatlaw03_KeysBack.l0 kj12 x3_1 x4_1 (l0.take ((ji2) : Int).toNat) ((l0.take ((ji2) : Int).toNat).length : Int) (wrap64 (x21_1 + 1))) = some r := by rw [if_pos rfl] at H; exact H
                          clear H
                          have H := H1
                          clear H1
                          have H' := Aside0.mk H
                          clear H
                          go_wp2
                          go_roundg kj12
                          case measure => have := HK1.out; have := HJ12.out; omega
                          case rel => exact ⟨(x3_1), (x4_1), (wrap64 (x21_1 + 1)), (by first | rfl | (simp; done) | (simp [*]; done)), (by first | rfl | (simp; done) | (simp [*]; done)), H', ⟨by have := HK1.out; have := HJ12.out; omega⟩, ⟨by (with_reducible repeat (first | apply Kd.R_alloc | apply Kd.R_drewN | apply Kd.R_drew)); exact HO_4.out⟩, ⟨by repeat (first | (with_reducible first | exact HB.out | apply below_alloc | apply pw_below_drewN | apply below_drew1) | exact HB.out)⟩⟩
                        · replace c16 := Bool.eq_false_iff.mpr c16
                          subst c16
                          have H1 : ((keys_Decode.f t270 true).bind fun bt272 => (if t270.toList = ([] : List UInt8) then (some false) else (if bt272.2.toList = ([] : List UInt8) then (if (bt272.1.length : Int) = 1 then (if 0 < (bt272.1.length : Int) then (if (rdOf ByteArray.empty bt272.1 0).toList = ((rdOf ByteArray.empty (l0.take ((ji2) : Int).toNat) x21_1).extract 0 ((ji9) : Int).toNat).toList then (if x3_1.size + t270.size ≤ 9223372036854775807 then (if x4_1.length < 8796093022208 then (backseatlaw03_KeysBack.l0 kj12 (x3_1 ++ t270) (x4_1 ++ [((rdOf ByteArray.empty (l0.take ((ji2) : Int).toNat) x21_1).extract 0 ((ji9) : Int).toNat)]) (l0.take ((ji2) : Int).toNat) ((l0.take ((ji2) : Int).toNat).length : Int) (wrap64 (x21_1 + 1))) else (none)) else (none)) else (some false)) else (none)) else (some false)) else (some false)))) = some r := by rw [if_neg (show ¬ (false = true) by decide)] at H; exact H
                          clear H
                          have H := H1
                          clear H1
                          replace H := Option.bind_eq_some_iff.mp H
                          obtain ⟨⟨t272, t273⟩, A170, H⟩ := H
                          replace H : (if t270.toList = ([] : List UInt8) then (some false) else (if t273.toList = ([] : List UInt8) then (if (t272.length : Int) = 1 then (if 0 < (t272.length : Int) then (if (rdOf ByteArray.empty t272 0).toList = ((rdOf ByteArray.empty (l0.take ((ji2) : Int).toNat) x21_1).extract 0 ((ji9) : Int).toNat).toList then (if x3_1.size + t270.size ≤ 9223372036854775807 then (if x4_1.length < 8796093022208 then (backseatlaw03_KeysBack.l0 kj12 (x3_1 ++ t270) (x4_1 ++ [((rdOf ByteArray.empty (l0.take ((ji2) : Int).toNat) x21_1).extract 0 ((ji9) : Int).toNat)]) (l0.take ((ji2) : Int).toNat) ((l0.take ((ji2) : Int).toNat).length : Int) (wrap64 (x21_1 + 1))) else (none)) else (none)) else (some false)) else (none)) else (some false)) else (some false))) = some r := H
                          have A17 := Aside0.mk A170
                          clear A170
                          by_cases c18 : t270.toList = ([] : List UInt8)
                          · rw [if_pos c18] at H
                            have c18b0 : (t270.toList == ([] : List UInt8)) = true := beq_iff_eq.mpr c18
                            have c18b1 : (t270.toList != ([] : List UInt8)) = false := bne_eq_false_iff_eq.mpr c18
                            clear c18
                            obtain rfl := Option.some.inj H
                            go_wp2_with (first | ((with_reducible refine gate_callee (f := 6) rfl ?_); refine goesL_ (some 43) rfl rfl Tryd.func6 (by kernel_rfl) rfl #[.string t270, .bool true] rfl (by (try simp only [List.map_toArray, List.map_cons, List.map_nil]); first | done | rfl | (simp only [List.length_drop, List.length_take]; rfl)) ?_; (with_reducible refine (keys_Decode.calls t270 true t272 t273 _ A17.out).mono ?_); rintro e w19 ⟨v274, rfl, ho0, hb⟩; refine ⟨_, rfl, ?_⟩; have n0_ := Aside0.mk (Kd.R_elder' (by (with_reducible repeat (first | apply Kd.R_alloc | apply Kd.R_drewN | apply Kd.R_drew)); exact HO_4.out) (Kd.R_base ho0) hb); have n1_ := Aside0.mk (Kd.R_lower (Kd.R_new' ho0 (Kd.R_lt (by (with_reducible repeat (first | apply Kd.R_alloc | apply Kd.R_drewN | apply Kd.R_drew)); exact HO_4.out))) (below_size (by repeat (first | (with_reducible first | exact HB.out | apply below_alloc | apply pw_below_drewN | apply below_drew1) | exact HB.out)))); have n2_ := Aside0.mk (below_step (by repeat (first | (with_reducible first | exact HB.out | apply below_alloc | apply pw_below_drewN | apply below_drew1) | exact HB.out)) hb); clear HO_4; clear HB; have HO_4 := n0_; have HO275 := n1_; have HB := n2_; clear n0_ n1_ n2_; (try clear hb); (try clear hb2); (try clear hk); (try clear hi); (try clear ho0)))
                            go_ret
                            exact ⟨by first | rfl | (simp [errW_none, errW_some] <;> rfl) | (simp only [← hji2, ← hji9]; first | rfl | (simp [errW_none, errW_some] <;> rfl)) | (simp [*, errW_none, errW_some] <;> rfl), by repeat (first | (with_reducible first | exact HB.out | apply below_alloc | apply pw_below_drewN | apply below_drew1) | exact HB.out)⟩
                          · rw [if_neg c18] at H
                            have c18b0 : (t270.toList == ([] : List UInt8)) = false := beq_eq_false_iff_ne.mpr c18
                            have c18b1 : (t270.toList != ([] : List UInt8)) = true := bne_iff_ne.mpr c18
                            by_cases c20 : t273.toList = ([] : List UInt8)
                            · rw [if_pos c20] at H
                              have c20b0 : (t273.toList == ([] : List UInt8)) = true := beq_iff_eq.mpr c20
                              have c20b1 : (t273.toList != ([] : List UInt8)) = false := bne_eq_false_iff_eq.mpr c20
                              clear c20
                              by_cases c21 : (t272.length : Int) = 1
                              · rw [if_pos c21] at H
                                have c21b0 : ((t272.length : Int) == 1) = true := beq_iff_eq.mpr c21
                                have c21b1 : ((t272.length : Int) != 1) = false := bne_eq_false_iff_eq.mpr c21
                                clear c21
                                by_cases c22 : 0 < (t272.length : Int)
                                · rw [if_pos c22] at H
                                  have c22b0 : decide (0 < (t272.length : Int)) = true := decide_eq_true c22
                                  have c22b1 : decide (0 < t272.length) = true := decide_eq_true (by omega)
                                  clear c22
                                  by_cases c23 : (rdOf ByteArray.empty t272 0).toList = ((rdOf ByteArray.empty (l0.take ((ji2) : Int).toNat) x21_1).extract 0 ((ji9) : Int).toNat).toList
                                  · rw [if_pos c23] at H
                                    have c23b0 : ((rdOf ByteArray.empty t272 0).toList == ((rdOf ByteArray.empty (l0.take ((ji2) : Int).toNat) x21_1).extract 0 ((ji9) : Int).toNat).toList) = true := beq_iff_eq.mpr c23
                                    have c23b1 : ((rdOf ByteArray.empty t272 0).toList != ((rdOf ByteArray.empty (l0.take ((ji2) : Int).toNat) x21_1).extract 0 ((ji9) : Int).toNat).toList) = false := bne_eq_false_iff_eq.mpr c23
                                    clear c23
                                    by_cases c24 : x3_1.size + t270.size ≤ 9223372036854775807
                                    · rw [if_pos c24] at H
                                      have c24b0 := eq_true c24
                                      have c24b1 : decide (x3_1.size + t270.size ≤ 9223372036854775807) = true := decide_eq_true c24
                                      try have c24b2 : (9223372036854775807 < x3_1.size + t270.size) = False := eq_false (Nat.not_lt.2 c24)
                                      by_cases c25 : x4_1.length < 8796093022208
                                      · rw [if_pos c25] at H
                                        have LMc25 := Aside0.mk c25
                                        clear c25
                                        obtain ⟨y277, hy277⟩ : ∃ y_ : List ByteArray, y_ = (x4_1 ++ [((rdOf ByteArray.empty (l0.take ((ji2) : Int).toNat) x21_1).extract 0 ((ji9) : Int).toNat)]) := ⟨_, rfl⟩
                                        replace H : (backseatlaw03_KeysBack.l0 kj12 (x3_1 ++ t270) y277 (l0.take ((ji2) : Int).toNat) ((l0.take ((ji2) : Int).toNat).length : Int) (wrap64 (x21_1 + 1))) = some r := by first | (rw [hy277]; with_reducible exact H) | (have H2_ := (Option.bind_some _ _).symm.trans H; rw [hy277]; with_reducible exact H2_) | (have H2_ := (Option.bind_some _ _).symm.trans H; with_reducible exact H2_) | with_reducible exact H | (rw [hy277]; exact H) | exact H
                                        have Ny277 := Aside0.mk hy277
                                        clear hy277
                                        have H' := Aside0.mk H
                                        clear H
                                        go_wp2_with (first | ((with_reducible refine gate_callee (f := 6) rfl ?_); refine goesL_ (some 43) rfl rfl Tryd.func6 (by kernel_rfl) rfl #[.string t270, .bool true] rfl (by (try simp only [List.map_toArray, List.map_cons, List.map_nil]); first | done | rfl | (simp only [List.length_drop, List.length_take]; rfl)) ?_; (with_reducible refine (keys_Decode.calls t270 true t272 t273 _ A17.out).mono ?_); rintro e w26 ⟨v274, rfl, ho0, hb⟩; refine ⟨_, rfl, ?_⟩; have n0_ := Aside0.mk (Kd.R_elder' (by (with_reducible repeat (first | apply Kd.R_alloc | apply Kd.R_drewN | apply Kd.R_drew)); exact HO_4.out) (Kd.R_base ho0) hb); have n1_ := Aside0.mk (Kd.R_lower (Kd.R_new' ho0 (Kd.R_lt (by (with_reducible repeat (first | apply Kd.R_alloc | apply Kd.R_drewN | apply Kd.R_drew)); exact HO_4.out))) (below_size (by repeat (first | (with_reducible first | exact HB.out | apply below_alloc | apply pw_below_drewN | apply below_drew1) | exact HB.out)))); have n2_ := Aside0.mk (below_step (by repeat (first | (with_reducible first | exact HB.out | apply below_alloc | apply pw_below_drewN | apply below_drew1) | exact HB.out)) hb); clear HO_4; clear HB; have HO_4 := n0_; have HO275 := n1_; have HB := n2_; clear n0_ n1_ n2_; (try clear hb); (try clear hb2); (try clear hk); (try clear hi); (try clear ho0); obtain ⟨Ao27, co27, eo27⟩ := Kd.R_slice HO275.out; subst eo27; have p276 : 0 ≤ (0 : Int) := (by omega); have q276 : 0 < (t272.length : Int) := of_decide_eq_true (by first | (with_reducible assumption) | assumption); obtain ⟨ad276, e276, hx276_0⟩ := Kd.at_string (Kd.R_reads' HO275.out).2.2 0 p276 q276; cases e276; have qi276 : (0 < t272.length) = True := eq_true (by omega); (try rw [show ((0 : Int)).toNat = 0 from rfl] at hx276_0); (try rw [Addr.add_zero'] at hx276_0); replace p276 := eq_true p276; replace q276 := eq_true q276) | ((with_reducible refine gate_builtin (b := .append) (xs := #[.tmp 67, .tmp 69]) rfl ?_); (try (refine gate_guard (by rfl) ?_; dsimp only)); at_builtin; refine Kd.R_append Kd.string (w0 := w) w.heap.size rfl (.tmp 67) (.tmp 69) 23 9 (.string ⟨#[]⟩) 16 rfl Tryd.underlying23 info9 rfl (by decide) (by omega) u4 x4_1 ((rdOf ByteArray.empty (l0.take ((ji2) : Int).toNat) x21_1).extract 0 ((ji9) : Int).toNat) [.string ((rdOf ByteArray.empty (l0.take ((ji2) : Int).toNat) x21_1).extract 0 ((ji9) : Int).toNat)] (fun k_ => some k_ ≠ (.slice (some ad276) t272.length co27 : Value).ownBlock) (fun _ => False) rfl rfl ?aP (fun _ hk => hk.elim) ?aF ?aO ?aB ?aS ?aL ?_; (case aP => exact rfl); (case aB => exact (by repeat (first | (with_reducible first | exact HB.out | apply below_alloc | apply pw_below_drewN | apply below_drew1) | exact HB.out))); (case aF => exact (fun k_ hk => Kd.fresh' (Kd.R_lt (by (with_reducible repeat (first | apply Kd.R_alloc | apply Kd.R_drewN | apply Kd.R_drew)); exact HO275.out)) k_ hk)); (case aO => exact (by (with_reducible repeat (first | apply Kd.R_alloc | apply Kd.R_drewN | apply Kd.R_drew)); exact Kd.R_mono HO_4.out (fun _ hk => hk.2))); (case aS => exact (below_size (by repeat (first | (with_reducible first | exact HB.out | apply below_alloc | apply pw_below_drewN | apply below_drew1) | exact HB.out)))); (case aL => have := LMc25.out; omega); intro v278 w28 ho hb hg hat; rw [← Ny277.out] at ho; have n0_ := Aside0.mk (Kd.R_after (ok := (fun _ => True)) (by (with_reducible repeat (first | apply Kd.R_alloc | apply Kd.R_drewN | apply Kd.R_drew)); exact HO275.out) hg hat); have n1_ := Aside0.mk (hb); have n2_ := Aside0.mk (ho); clear HO275; clear HB; clear HO_4; have HO275 := n0_; have HB := n1_; have HO279 := n2_; clear n0_ n1_ n2_; clear ho hb hg hat))
                                        go_roundg kj12
                                        case measure => have := HK1.out; have := HJ12.out; omega
                                        case rel => exact ⟨(x3_1 ++ t270), (y277), (wrap64 (x21_1 + 1)), (by first | rfl | (simp; done) | (simp [*]; done)), (by first | rfl | (simp; done) | (simp [*]; done)), H', ⟨by have := HK1.out; have := HJ12.out; omega⟩, ⟨by (with_reducible repeat (first | apply Kd.R_alloc | apply Kd.R_drewN | apply Kd.R_drew)); exact Kd.R_mono HO279.out (fun _ hk => trivial)⟩, ⟨by repeat (first | (with_reducible first | exact HB.out | apply below_alloc | apply pw_below_drewN | apply below_drew1) | exact HB.out)⟩⟩
                                      · rw [if_neg c25] at H
                                        exact absurd H (by simp)
                                    · rw [if_neg c24] at H
                                      exact absurd H (by simp)
                                  · rw [if_neg c23] at H
                                    have c23b0 : ((rdOf ByteArray.empty t272 0).toList == ((rdOf ByteArray.empty (l0.take ((ji2) : Int).toNat) x21_1).extract 0 ((ji9) : Int).toNat).toList) = false := beq_eq_false_iff_ne.mpr c23
                                    have c23b1 : ((rdOf ByteArray.empty t272 0).toList != ((rdOf ByteArray.empty (l0.take ((ji2) : Int).toNat) x21_1).extract 0 ((ji9) : Int).toNat).toList) = true := bne_iff_ne.mpr c23
                                    obtain rfl := Option.some.inj H
                                    go_wp2_with (first | ((with_reducible refine gate_callee (f := 6) rfl ?_); refine goesL_ (some 43) rfl rfl Tryd.func6 (by kernel_rfl) rfl #[.string t270, .bool true] rfl (by (try simp only [List.map_toArray, List.map_cons, List.map_nil]); first | done | rfl | (simp only [List.length_drop, List.length_take]; rfl)) ?_; (with_reducible refine (keys_Decode.calls t270 true t272 t273 _ A17.out).mono ?_); rintro e w29 ⟨v274, rfl, ho0, hb⟩; refine ⟨_, rfl, ?_⟩; have n0_ := Aside0.mk (Kd.R_elder' (by (with_reducible repeat (first | apply Kd.R_alloc | apply Kd.R_drewN | apply Kd.R_drew)); exact HO_4.out) (Kd.R_base ho0) hb); have n1_ := Aside0.mk (Kd.R_lower (Kd.R_new' ho0 (Kd.R_lt (by (with_reducible repeat (first | apply Kd.R_alloc | apply Kd.R_drewN | apply Kd.R_drew)); exact HO_4.out))) (below_size (by repeat (first | (with_reducible first | exact HB.out | apply below_alloc | apply pw_below_drewN | apply below_drew1) | exact HB.out)))); have n2_ := Aside0.mk (below_step (by repeat (first | (with_reducible first | exact HB.out | apply below_alloc | apply pw_below_drewN | apply below_drew1) | exact HB.out)) hb); clear HO_4; clear HB; have HO_4 := n0_; have HO275 := n1_; have HB := n2_; clear n0_ n1_ n2_; (try clear hb); (try clear hb2); (try clear hk); (try clear hi); (try clear ho0); obtain ⟨Ao30, co30, eo30⟩ := Kd.R_slice HO275.out; subst eo30; have p276 : 0 ≤ (0 : Int) := (by omega); have q276 : 0 < (t272.length : Int) := of_decide_eq_true (by first | (with_reducible assumption) | assumption); obtain ⟨ad276, e276, hx276_0⟩ := Kd.at_string (Kd.R_reads' HO275.out).2.2 0 p276 q276; cases e276; have qi276 : (0 < t272.length) = True := eq_true (by omega); (try rw [show ((0 : Int)).toNat = 0 from rfl] at hx276_0); (try rw [Addr.add_zero'] at hx276_0); replace p276 := eq_true p276; replace q276 := eq_true q276))
                                    go_ret
                                    exact ⟨by first | rfl | (simp [errW_none, errW_some] <;> rfl) | (simp only [← hji2, ← hji9]; first | rfl | (simp [errW_none, errW_some] <;> rfl)) | (simp [*, errW_none, errW_some] <;> rfl), by repeat (first | (with_reducible first | exact HB.out | apply below_alloc | apply pw_below_drewN | apply below_drew1) | exact HB.out)⟩
                                · rw [if_neg c22] at H
                                  exact absurd H (by simp)
                              · rw [if_neg c21] at H
                                have c21b0 : ((t272.length : Int) == 1) = false := beq_eq_false_iff_ne.mpr c21
                                have c21b1 : ((t272.length : Int) != 1) = true := bne_iff_ne.mpr c21
                                obtain rfl := Option.some.inj H
                                go_wp2_with (first | ((with_reducible refine gate_callee (f := 6) rfl ?_); refine goesL_ (some 43) rfl rfl Tryd.func6 (by kernel_rfl) rfl #[.string t270, .bool true] rfl (by (try simp only [List.map_toArray, List.map_cons, List.map_nil]); first | done | rfl | (simp only [List.length_drop, List.length_take]; rfl)) ?_; (with_reducible refine (keys_Decode.calls t270 true t272 t273 _ A17.out).mono ?_); rintro e w31 ⟨v274, rfl, ho0, hb⟩; refine ⟨_, rfl, ?_⟩; have n0_ := Aside0.mk (Kd.R_elder' (by (with_reducible repeat (first | apply Kd.R_alloc | apply Kd.R_drewN | apply Kd.R_drew)); exact HO_4.out) (Kd.R_base ho0) hb); have n1_ := Aside0.mk (Kd.R_lower (Kd.R_new' ho0 (Kd.R_lt (by (with_reducible repeat (first | apply Kd.R_alloc | apply Kd.R_drewN | apply Kd.R_drew)); exact HO_4.out))) (below_size (by repeat (first | (with_reducible first | exact HB.out | apply below_alloc | apply pw_below_drewN | apply below_drew1) | exact HB.out)))); have n2_ := Aside0.mk (below_step (by repeat (first | (with_reducible first | exact HB.out | apply below_alloc | apply pw_below_drewN | apply below_drew1) | exact HB.out)) hb); clear HO_4; clear HB; have HO_4 := n0_; have HO275 := n1_; have HB := n2_; clear n0_ n1_ n2_; (try clear hb); (try clear hb2); (try clear hk); (try clear hi); (try clear ho0); obtain ⟨Ao32, co32, eo32⟩ := Kd.R_slice HO275.out; subst eo32))
                                go_ret
                                exact ⟨by first | rfl | (simp [errW_none, errW_some] <;> rfl) | (simp only [← hji2, ← hji9]; first | rfl | (simp [errW_none, errW_some] <;> rfl)) | (simp [*, errW_none, errW_some] <;> rfl), by repeat (first | (with_reducible first | exact HB.out | apply below_alloc | apply pw_below_drewN | apply below_drew1) | exact HB.out)⟩
                            · rw [if_neg c20] at H
                              have c20b0 : (t273.toList == ([] : List UInt8)) = false := beq_eq_false_iff_ne.mpr c20
                              have c20b1 : (t273.toList != ([] : List UInt8)) = true := bne_iff_ne.mpr c20
                              obtain rfl := Option.some.inj H
                              go_wp2_with (first | ((with_reducible refine gate_callee (f := 6) rfl ?_); refine goesL_ (some 43) rfl rfl Tryd.func6 (by kernel_rfl) rfl #[.string t270, .bool true] rfl (by (try simp only [List.map_toArray, List.map_cons, List.map_nil]); first | done | rfl | (simp only [List.length_drop, List.length_take]; rfl)) ?_; (with_reducible refine (keys_Decode.calls t270 true t272 t273 _ A17.out).mono ?_); rintro e w33 ⟨v274, rfl, ho0, hb⟩; refine ⟨_, rfl, ?_⟩; have n0_ := Aside0.mk (Kd.R_elder' (by (with_reducible repeat (first | apply Kd.R_alloc | apply Kd.R_drewN | apply Kd.R_drew)); exact HO_4.out) (Kd.R_base ho0) hb); have n1_ := Aside0.mk (Kd.R_lower (Kd.R_new' ho0 (Kd.R_lt (by (with_reducible repeat (first | apply Kd.R_alloc | apply Kd.R_drewN | apply Kd.R_drew)); exact HO_4.out))) (below_size (by repeat (first | (with_reducible first | exact HB.out | apply below_alloc | apply pw_below_drewN | apply below_drew1) | exact HB.out)))); have n2_ := Aside0.mk (below_step (by repeat (first | (with_reducible first | exact HB.out | apply below_alloc | apply pw_below_drewN | apply below_drew1) | exact HB.out)) hb); clear HO_4; clear HB; have HO_4 := n0_; have HO275 := n1_; have HB := n2_; clear n0_ n1_ n2_; (try clear hb); (try clear hb2); (try clear hk); (try clear hi); (try clear ho0)))
                              go_ret
                              exact ⟨by first | rfl | (simp [errW_none, errW_some] <;> rfl) | (simp only [← hji2, ← hji9]; first | rfl | (simp [errW_none, errW_some] <;> rfl)) | (simp [*, errW_none, errW_some] <;> rfl), by repeat (first | (with_reducible first | exact HB.out | apply below_alloc | apply pw_below_drewN | apply below_drew1) | exact HB.out)⟩
                  · rw [if_neg c11] at H
                    exact absurd H (by simp)
                · rw [if_neg c10] at H
                  exact absurd H (by simp)
              · rw [if_neg c8] at H
                exact absurd H (by simp)
            · rw [if_neg c7] at H
              exact absurd H (by simp)
          · rw [if_neg c6] at H
            have c6b0 : decide (x21_1 < ((l0.take ((ji2) : Int).toNat).length : Int)) = false := decide_eq_false c6
            have hl_ : (l0.take ((ji2) : Int).toNat).length = (ji2 : Int).toNat := (by have h1_ : ji2 ≤ (l0.length : Int) := (by first | exact of_decide_eq_true (by assumption) | (rw [← hji2_]; split <;> omega)); rw [List.length_take]; omega)
            have c6d0 : decide (x21_1 < ((ji2.toNat : Nat) : Int)) = false := decide_eq_false (by have := of_decide_eq_false c6b0; omega)
            have c6e0 : decide (x21_1 < max ji2 0) = false := decide_eq_false (by have := of_decide_eq_false c6b0; omega)
            have c6h0 : max ji2 0 ≤ x21_1 := (by have := of_decide_eq_false c6e0; omega)
            have c6i0 : ¬ (x21_1 < max ji2 0) := of_decide_eq_false c6e0
            clear hl_
            clear c6
            replace H := Option.bind_eq_some_iff.mp H
            obtain ⟨⟨t280, t281⟩, A340, H⟩ := H
            replace H : ((keys_Decode.f (⟨#[27]⟩ : ByteArray) true).bind fun bt284 => ((backseatlaw03_alive.f).bind fun t288 => (if t288 = true then (if t281.toList = ([] : List UInt8) then ((backseatref03_Same.f k1 t280 x4_1).bind fun t289 => (if t289 = true then (if (bt284.1.length : Int) = 1 then (if 0 < (bt284.1.length : Int) then (some ((rdOf ByteArray.empty bt284.1 0).toList == ([69, 115, 99] : List UInt8))) else (none)) else (some false)) else (some false))) else (some false)) else (some false)))) = some r := H
            have A34 := Aside0.mk A340
            clear A340
            replace H := Option.bind_eq_some_iff.mp H
            obtain ⟨⟨t284, t285⟩, A350, H⟩ := H
            replace H : ((backseatlaw03_alive.f).bind fun t288 => (if t288 = true then (if t281.toList = ([] : List UInt8) then ((backseatref03_Same.f k1 t280 x4_1).bind fun t289 => (if t289 = true then (if (t284.length : Int) = 1 then (if 0 < (t284.length : Int) then (some ((rdOf ByteArray.empty t284 0).toList == ([69, 115, 99] : List UInt8))) else (none)) else (some false)) else (some false))) else (some false)) else (some false))) = some r := H
            have A35 := Aside0.mk A350
            clear A350
            replace H := Option.bind_eq_some_iff.mp H
            obtain ⟨t288, A360, H⟩ := H
            replace H : (if t288 = true then (if t281.toList = ([] : List UInt8) then ((backseatref03_Same.f k1 t280 x4_1).bind fun t289 => (if t289 = true then (if (t284.length : Int) = 1 then (if 0 < (t284.length : Int) then (some ((rdOf ByteArray.empty t284 0).toList == ([69, 115, 99] : List UInt8))) else (none)) else (some false)) else (some false))) else (some false)) else (some false)) = some r := H
            have A36 := Aside0.mk A360
            clear A360
            by_cases c37 : t288 = true
            · subst c37
              have H1 : (if t281.toList = ([] : List UInt8) then ((backseatref03_Same.f k1 t280 x4_1).bind fun t289 => (if t289 = true then (if (t284.length : Int) = 1 then (if 0 < (t284.length : Int) then (some ((rdOf ByteArray.empty t284 0).toList == ([69, 115, 99] : List UInt8))) else (none)) else (some false)) else (some false))) else (some false)) = some r := by rw [if_pos rfl] at H; exact H
              clear H
              have H := H1
              clear H1
              by_cases c38 : t281.toList = ([] : List UInt8)
              · rw [if_pos c38] at H
                have c38b0 : (t281.toList == ([] : List UInt8)) = true := beq_iff_eq.mpr c38
                have c38b1 : (t281.toList != ([] : List UInt8)) = false := bne_eq_false_iff_eq.mpr c38
                clear c38
                replace H := Option.bind_eq_some_iff.mp H
                obtain ⟨t289, A390, H⟩ := H
                replace H : (if t289 = true then (if (t284.length : Int) = 1 then (if 0 < (t284.length : Int) then (some ((rdOf ByteArray.empty t284 0).toList == ([69, 115, 99] : List UInt8))) else (none)) else (some false)) else (some false)) = some r := H
                have A39 := Aside0.mk A390
                clear A390
                by_cases c40 : t289 = true
                · subst c40
                  have H1 : (if (t284.length : Int) = 1 then (if 0 < (t284.length : Int) then (some ((rdOf ByteArray.empty t284 0).toList == ([69, 115, 99] : List UInt8))) else (none)) else (some false)) = some r := by rw [if_pos rfl] at H; exact H
                  clear H
                  have H := H1
                  clear H1
                  by_cases c41 : (t284.length : Int) = 1
                  · rw [if_pos c41] at H
                    have c41b0 : ((t284.length : Int) == 1) = true := beq_iff_eq.mpr c41
                    have c41b1 : ((t284.length : Int) != 1) = false := bne_eq_false_iff_eq.mpr c41
                    clear c41
                    by_cases c42 : 0 < (t284.length : Int)
                    · rw [if_pos c42] at H
                      have c42b0 : decide (0 < (t284.length : Int)) = true := decide_eq_true c42
                      have c42b1 : decide (0 < t284.length) = true := decide_eq_true (by omega)
                      clear c42
                      obtain rfl := Option.some.inj H
                      go_wp2_with (first | ((with_reducible refine gate_callee (f := 6) rfl ?_); refine goesL_ (some 74) rfl rfl Tryd.func6 (by kernel_rfl) rfl #[.string x3_1, .bool false] rfl (by (try simp only [List.map_toArray, List.map_cons, List.map_nil]); first | done | rfl | (simp only [List.length_drop, List.length_take]; rfl)) ?_; (with_reducible refine (keys_Decode.calls x3_1 false t280 t281 _ A34.out).mono ?_); rintro e w43 ⟨v282, rfl, ho0, hb⟩; refine ⟨_, rfl, ?_⟩; have n0_ := Aside0.mk (Kd.R_elder' (by (with_reducible repeat (first | apply Kd.R_alloc | apply Kd.R_drewN | apply Kd.R_drew)); exact HO_4.out) (Kd.R_base ho0) hb); have n1_ := Aside0.mk (Kd.R_lower (Kd.R_new' ho0 (Kd.R_lt (by (with_reducible repeat (first | apply Kd.R_alloc | apply Kd.R_drewN | apply Kd.R_drew)); exact HO_4.out))) (below_size (by repeat (first | (with_reducible first | exact HB.out | apply below_alloc | apply pw_below_drewN | apply below_drew1) | exact HB.out)))); have n2_ := Aside0.mk (below_step (by repeat (first | (with_reducible first | exact HB.out | apply below_alloc | apply pw_below_drewN | apply below_drew1) | exact HB.out)) hb); clear HO_4; clear HB; have HO_4 := n0_; have HO283 := n1_; have HB := n2_; clear n0_ n1_ n2_; (try clear hb); (try clear hb2); (try clear hk); (try clear hi); (try clear ho0)) | ((with_reducible refine gate_callee (f := 6) rfl ?_); refine goesL_ (some 78) rfl rfl Tryd.func6 (by kernel_rfl) rfl #[.string (⟨#[27]⟩ : ByteArray), .bool true] rfl (by (try simp only [List.map_toArray, List.map_cons, List.map_nil]); first | done | rfl | (simp only [List.length_drop, List.length_take]; rfl)) ?_; (with_reducible refine (keys_Decode.calls (⟨#[27]⟩ : ByteArray) true t284 t285 _ A35.out).mono ?_); rintro e w44 ⟨v286, rfl, ho0, hb⟩; refine ⟨_, rfl, ?_⟩; have n0_ := Aside0.mk (Kd.R_elder' (by (with_reducible repeat (first | apply Kd.R_alloc | apply Kd.R_drewN | apply Kd.R_drew)); exact HO_4.out) (Kd.R_base ho0) hb); have n1_ := Aside0.mk (Kd.R_elder' (by (with_reducible repeat (first | apply Kd.R_alloc | apply Kd.R_drewN | apply Kd.R_drew)); exact HO283.out) (Kd.R_base ho0) hb); have n2_ := Aside0.mk (Kd.R_lower (Kd.R_new' (Kd.R_new' ho0 (Kd.R_lt (by (with_reducible repeat (first | apply Kd.R_alloc | apply Kd.R_drewN | apply Kd.R_drew)); exact HO_4.out))) (Kd.R_lt (by (with_reducible repeat (first | apply Kd.R_alloc | apply Kd.R_drewN | apply Kd.R_drew)); exact HO283.out))) (below_size (by repeat (first | (with_reducible first | exact HB.out | apply below_alloc | apply pw_below_drewN | apply below_drew1) | exact HB.out)))); have n3_ := Aside0.mk (below_step (by repeat (first | (with_reducible first | exact HB.out | apply below_alloc | apply pw_below_drewN | apply below_drew1) | exact HB.out)) hb); clear HO_4; clear HO283; clear HB; have HO_4 := n0_; have HO283 := n1_; have HO287 := n2_; have HB := n3_; clear n0_ n1_ n2_ n3_; (try clear hb); (try clear hb2); (try clear hk); (try clear hi); (try clear ho0)) | ((with_reducible refine gate_callee (f := 8) rfl ?_); refine goesL_ (some 81) rfl rfl Tryd.func8 (by kernel_rfl) rfl #[] rfl (by (try simp only [List.map_toArray, List.map_cons, List.map_nil]); first | done | rfl | (simp only [List.length_drop, List.length_take]; rfl)) ?_; (with_reducible refine (backseatlaw03_alive.calls  true _ A36.out).mono ?_); rintro e w45 ⟨rfl, hb⟩; refine ⟨_, rfl, ?_⟩; have n0_ := Aside0.mk (Kd.R_below (by (with_reducible repeat (first | apply Kd.R_alloc | apply Kd.R_drewN | apply Kd.R_drew)); exact HO_4.out) hb); have n1_ := Aside0.mk (Kd.R_below (by (with_reducible repeat (first | apply Kd.R_alloc | apply Kd.R_drewN | apply Kd.R_drew)); exact HO283.out) hb); have n2_ := Aside0.mk (Kd.R_below (by (with_reducible repeat (first | apply Kd.R_alloc | apply Kd.R_drewN | apply Kd.R_drew)); exact HO287.out) hb); have n3_ := Aside0.mk (below_step (by repeat (first | (with_reducible first | exact HB.out | apply below_alloc | apply pw_below_drewN | apply below_drew1) | exact HB.out)) hb); clear HO_4; clear HO283; clear HO287; clear HB; have HO_4 := n0_; have HO283 := n1_; have HO287 := n2_; have HB := n3_; clear n0_ n1_ n2_ n3_; (try clear hb); (try clear hb2); (try clear hk); (try clear hi); obtain ⟨Ao46, co46, eo46⟩ := Kd.R_slice HO283.out; subst eo46; obtain ⟨Ao47, co47, eo47⟩ := Kd.R_slice HO_4.out; subst eo47) | (go_at_call 7; (with_reducible refine (backseatref03_Same.calls k1 _ _ t280 _ _ x4_1 true _ ?side1 ?side2 ?side3 ?side4 A39.out).mono ?_); (case side1 => repeat (first | exact (Kd.R_reads' HO283.out).2.2 | (with_reducible refine Kd.C_alloc ?_ _) | (with_reducible refine Kd.C_drewN ?_ _) | (with_reducible refine Kd.C_drew ?_))); (case side2 => exact (Kd.R_reads' HO283.out).2.1); (case side3 => repeat (first | exact (Kd.R_reads' HO_4.out).2.2 | (with_reducible refine Kd.C_alloc ?_ _) | (with_reducible refine Kd.C_drewN ?_ _) | (with_reducible refine Kd.C_drew ?_))); (case side4 => exact (Kd.R_reads' HO_4.out).2.1); rintro e w' ⟨rfl, ⟨nd, rfl⟩⟩; obtain ⟨Ao48, co48, eo48⟩ := Kd.R_slice HO287.out; subst eo48; have p290 : 0 ≤ (0 : Int) := (by omega); have q290 : 0 < (t284.length : Int) := of_decide_eq_true (by first | (with_reducible assumption) | assumption); obtain ⟨ad290, e290, hx290_0⟩ := Kd.at_string (Kd.R_reads' HO287.out).2.2 0 p290 q290; cases e290; have qi290 : (0 < t284.length) = True := eq_true (by omega); (try rw [show ((0 : Int)).toNat = 0 from rfl] at hx290_0); (try rw [Addr.add_zero'] at hx290_0); replace p290 := eq_true p290; replace q290 := eq_true q290))
                      go_ret
                      exact ⟨by first | rfl | (simp [errW_none, errW_some] <;> rfl) | (simp only [← hji2]; first | rfl | (simp [errW_none, errW_some] <;> rfl)) | (simp [*, errW_none, errW_some] <;> rfl), by repeat (first | (with_reducible first | exact HB.out | apply below_alloc | apply pw_below_drewN | apply below_drew1) | exact HB.out)⟩
                    · rw [if_neg c42] at H
                      exact absurd H (by simp)
                  · rw [if_neg c41] at H
                    have c41b0 : ((t284.length : Int) == 1) = false := beq_eq_false_iff_ne.mpr c41
                    have c41b1 : ((t284.length : Int) != 1) = true := bne_iff_ne.mpr c41
                    obtain rfl := Option.some.inj H
                    go_wp2_with (first | ((with_reducible refine gate_callee (f := 6) rfl ?_); refine goesL_ (some 74) rfl rfl Tryd.func6 (by kernel_rfl) rfl #[.string x3_1, .bool false] rfl (by (try simp only [List.map_toArray, List.map_cons, List.map_nil]); first | done | rfl | (simp only [List.length_drop, List.length_take]; rfl)) ?_; (with_reducible refine (keys_Decode.calls x3_1 false t280 t281 _ A34.out).mono ?_); rintro e w49 ⟨v282, rfl, ho0, hb⟩; refine ⟨_, rfl, ?_⟩; have n0_ := Aside0.mk (Kd.R_elder' (by (with_reducible repeat (first | apply Kd.R_alloc | apply Kd.R_drewN | apply Kd.R_drew)); exact HO_4.out) (Kd.R_base ho0) hb); have n1_ := Aside0.mk (Kd.R_lower (Kd.R_new' ho0 (Kd.R_lt (by (with_reducible repeat (first | apply Kd.R_alloc | apply Kd.R_drewN | apply Kd.R_drew)); exact HO_4.out))) (below_size (by repeat (first | (with_reducible first | exact HB.out | apply below_alloc | apply pw_below_drewN | apply below_drew1) | exact HB.out)))); have n2_ := Aside0.mk (below_step (by repeat (first | (with_reducible first | exact HB.out | apply below_alloc | apply pw_below_drewN | apply below_drew1) | exact HB.out)) hb); clear HO_4; clear HB; have HO_4 := n0_; have HO283 := n1_; have HB := n2_; clear n0_ n1_ n2_; (try clear hb); (try clear hb2); (try clear hk); (try clear hi); (try clear ho0)) | ((with_reducible refine gate_callee (f := 6) rfl ?_); refine goesL_ (some 78) rfl rfl Tryd.func6 (by kernel_rfl) rfl #[.string (⟨#[27]⟩ : ByteArray), .bool true] rfl (by (try simp only [List.map_toArray, List.map_cons, List.map_nil]); first | done | rfl | (simp only [List.length_drop, List.length_take]; rfl)) ?_; (with_reducible refine (keys_Decode.calls (⟨#[27]⟩ : ByteArray) true t284 t285 _ A35.out).mono ?_); rintro e w50 ⟨v286, rfl, ho0, hb⟩; refine ⟨_, rfl, ?_⟩; have n0_ := Aside0.mk (Kd.R_elder' (by (with_reducible repeat (first | apply Kd.R_alloc | apply Kd.R_drewN | apply Kd.R_drew)); exact HO_4.out) (Kd.R_base ho0) hb); have n1_ := Aside0.mk (Kd.R_elder' (by (with_reducible repeat (first | apply Kd.R_alloc | apply Kd.R_drewN | apply Kd.R_drew)); exact HO283.out) (Kd.R_base ho0) hb); have n2_ := Aside0.mk (Kd.R_lower (Kd.R_new' (Kd.R_new' ho0 (Kd.R_lt (by (with_reducible repeat (first | apply Kd.R_alloc | apply Kd.R_drewN | apply Kd.R_drew)); exact HO_4.out))) (Kd.R_lt (by (with_reducible repeat (first | apply Kd.R_alloc | apply Kd.R_drewN | apply Kd.R_drew)); exact HO283.out))) (below_size (by repeat (first | (with_reducible first | exact HB.out | apply below_alloc | apply pw_below_drewN | apply below_drew1) | exact HB.out)))); have n3_ := Aside0.mk (below_step (by repeat (first | (with_reducible first | exact HB.out | apply below_alloc | apply pw_below_drewN | apply below_drew1) | exact HB.out)) hb); clear HO_4; clear HO283; clear HB; have HO_4 := n0_; have HO283 := n1_; have HO287 := n2_; have HB := n3_; clear n0_ n1_ n2_ n3_; (try clear hb); (try clear hb2); (try clear hk); (try clear hi); (try clear ho0)) | ((with_reducible refine gate_callee (f := 8) rfl ?_); refine goesL_ (some 81) rfl rfl Tryd.func8 (by kernel_rfl) rfl #[] rfl (by (try simp only [List.map_toArray, List.map_cons, List.map_nil]); first | done | rfl | (simp only [List.length_drop, List.length_take]; rfl)) ?_; (with_reducible refine (backseatlaw03_alive.calls  true _ A36.out).mono ?_); rintro e w51 ⟨rfl, hb⟩; refine ⟨_, rfl, ?_⟩; have n0_ := Aside0.mk (Kd.R_below (by (with_reducible repeat (first | apply Kd.R_alloc | apply Kd.R_drewN | apply Kd.R_drew)); exact HO_4.out) hb); have n1_ := Aside0.mk (Kd.R_below (by (with_reducible repeat (first | apply Kd.R_alloc | apply Kd.R_drewN | apply Kd.R_drew)); exact HO283.out) hb); have n2_ := Aside0.mk (Kd.R_below (by (with_reducible repeat (first | apply Kd.R_alloc | apply Kd.R_drewN | apply Kd.R_drew)); exact HO287.out) hb); have n3_ := Aside0.mk (below_step (by repeat (first | (with_reducible first | exact HB.out | apply below_alloc | apply pw_below_drewN | apply below_drew1) | exact HB.out)) hb); clear HO_4; clear HO283; clear HO287; clear HB; have HO_4 := n0_; have HO283 := n1_; have HO287 := n2_; have HB := n3_; clear n0_ n1_ n2_ n3_; (try clear hb); (try clear hb2); (try clear hk); (try clear hi); obtain ⟨Ao52, co52, eo52⟩ := Kd.R_slice HO283.out; subst eo52; obtain ⟨Ao53, co53, eo53⟩ := Kd.R_slice HO_4.out; subst eo53) | (go_at_call 7; (with_reducible refine (backseatref03_Same.calls k1 _ _ t280 _ _ x4_1 true _ ?side1 ?side2 ?side3 ?side4 A39.out).mono ?_); (case side1 => repeat (first | exact (Kd.R_reads' HO283.out).2.2 | (with_reducible refine Kd.C_alloc ?_ _) | (with_reducible refine Kd.C_drewN ?_ _) | (with_reducible refine Kd.C_drew ?_))); (case side2 => exact (Kd.R_reads' HO283.out).2.1); (case side3 => repeat (first | exact (Kd.R_reads' HO_4.out).2.2 | (with_reducible refine Kd.C_alloc ?_ _) | (with_reducible refine Kd.C_drewN ?_ _) | (with_reducible refine Kd.C_drew ?_))); (case side4 => exact (Kd.R_reads' HO_4.out).2.1); rintro e w' ⟨rfl, ⟨nd, rfl⟩⟩; obtain ⟨Ao54, co54, eo54⟩ := Kd.R_slice HO287.out; subst eo54))
                    go_ret
                    exact ⟨by first | rfl | (simp [errW_none, errW_some] <;> rfl) | (simp only [← hji2]; first | rfl | (simp [errW_none, errW_some] <;> rfl)) | (simp [*, errW_none, errW_some] <;> rfl), by repeat (first | (with_reducible first | exact HB.out | apply below_alloc | apply pw_below_drewN | apply below_drew1) | exact HB.out)⟩
                · replace c40 := Bool.eq_false_iff.mpr c40
                  subst c40
                  have H1 : (some false) = some r := by rw [if_neg (show ¬ (false = true) by decide)] at H; exact H
                  clear H
                  have H := H1
                  clear H1
                  obtain rfl := Option.some.inj H
                  go_wp2_with (first | ((with_reducible refine gate_callee (f := 6) rfl ?_); refine goesL_ (some 74) rfl rfl Tryd.func6 (by kernel_rfl) rfl #[.string x3_1, .bool false] rfl (by (try simp only [List.map_toArray, List.map_cons, List.map_nil]); first | done | rfl | (simp only [List.length_drop, List.length_take]; rfl)) ?_; (with_reducible refine (keys_Decode.calls x3_1 false t280 t281 _ A34.out).mono ?_); rintro e w55 ⟨v282, rfl, ho0, hb⟩; refine ⟨_, rfl, ?_⟩; have n0_ := Aside0.mk (Kd.R_elder' (by (with_reducible repeat (first | apply Kd.R_alloc | apply Kd.R_drewN | apply Kd.R_drew)); exact HO_4.out) (Kd.R_base ho0) hb); have n1_ := Aside0.mk (Kd.R_lower (Kd.R_new' ho0 (Kd.R_lt (by (with_reducible repeat (first | apply Kd.R_alloc | apply Kd.R_drewN | apply Kd.R_drew)); exact HO_4.out))) (below_size (by repeat (first | (with_reducible first | exact HB.out | apply below_alloc | apply pw_below_drewN | apply below_drew1) | exact HB.out)))); have n2_ := Aside0.mk (below_step (by repeat (first | (with_reducible first | exact HB.out | apply below_alloc | apply pw_below_drewN | apply below_drew1) | exact HB.out)) hb); clear HO_4; clear HB; have HO_4 := n0_; have HO283 := n1_; have HB := n2_; clear n0_ n1_ n2_; (try clear hb); (try clear hb2); (try clear hk); (try clear hi); (try clear ho0)) | ((with_reducible refine gate_callee (f := 6) rfl ?_); refine goesL_ (some 78) rfl rfl Tryd.func6 (by kernel_rfl) rfl #[.string (⟨#[27]⟩ : ByteArray), .bool true] rfl (by (try simp only [List.map_toArray, List.map_cons, List.map_nil]); first | done | rfl | (simp only [List.length_drop, List.length_take]; rfl)) ?_; (with_reducible refine (keys_Decode.calls (⟨#[27]⟩ : ByteArray) true t284 t285 _ A35.out).mono ?_); rintro e w56 ⟨v286, rfl, ho0, hb⟩; refine ⟨_, rfl, ?_⟩; have n0_ := Aside0.mk (Kd.R_elder' (by (with_reducible repeat (first | apply Kd.R_alloc | apply Kd.R_drewN | apply Kd.R_drew)); exact HO_4.out) (Kd.R_base ho0) hb); have n1_ := Aside0.mk (Kd.R_elder' (by (with_reducible repeat (first | apply Kd.R_alloc | apply Kd.R_drewN | apply Kd.R_drew)); exact HO283.out) (Kd.R_base ho0) hb); have n2_ := Aside0.mk (Kd.R_lower (Kd.R_new' (Kd.R_new' ho0 (Kd.R_lt (by (with_reducible repeat (first | apply Kd.R_alloc | apply Kd.R_drewN | apply Kd.R_drew)); exact HO_4.out))) (Kd.R_lt (by (with_reducible repeat (first | apply Kd.R_alloc | apply Kd.R_drewN | apply Kd.R_drew)); exact HO283.out))) (below_size (by repeat (first | (with_reducible first | exact HB.out | apply below_alloc | apply pw_below_drewN | apply below_drew1) | exact HB.out)))); have n3_ := Aside0.mk (below_step (by repeat (first | (with_reducible first | exact HB.out | apply below_alloc | apply pw_below_drewN | apply below_drew1) | exact HB.out)) hb); clear HO_4; clear HO283; clear HB; have HO_4 := n0_; have HO283 := n1_; have HO287 := n2_; have HB := n3_; clear n0_ n1_ n2_ n3_; (try clear hb); (try clear hb2); (try clear hk); (try clear hi); (try clear ho0)) | ((with_reducible refine gate_callee (f := 8) rfl ?_); refine goesL_ (some 81) rfl rfl Tryd.func8 (by kernel_rfl) rfl #[] rfl (by (try simp only [List.map_toArray, List.map_cons, List.map_nil]); first | done | rfl | (simp only [List.length_drop, List.length_take]; rfl)) ?_; (with_reducible refine (backseatlaw03_alive.calls  true _ A36.out).mono ?_); rintro e w57 ⟨rfl, hb⟩; refine ⟨_, rfl, ?_⟩; have n0_ := Aside0.mk (Kd.R_below (by (with_reducible repeat (first | apply Kd.R_alloc | apply Kd.R_drewN | apply Kd.R_drew)); exact HO_4.out) hb); have n1_ := Aside0.mk (Kd.R_below (by (with_reducible repeat (first | apply Kd.R_alloc | apply Kd.R_drewN | apply Kd.R_drew)); exact HO283.out) hb); have n2_ := Aside0.mk (Kd.R_below (by (with_reducible repeat (first | apply Kd.R_alloc | apply Kd.R_drewN | apply Kd.R_drew)); exact HO287.out) hb); have n3_ := Aside0.mk (below_step (by repeat (first | (with_reducible first | exact HB.out | apply below_alloc | apply pw_below_drewN | apply below_drew1) | exact HB.out)) hb); clear HO_4; clear HO283; clear HO287; clear HB; have HO_4 := n0_; have HO283 := n1_; have HO287 := n2_; have HB := n3_; clear n0_ n1_ n2_ n3_; (try clear hb); (try clear hb2); (try clear hk); (try clear hi); obtain ⟨Ao58, co58, eo58⟩ := Kd.R_slice HO283.out; subst eo58; obtain ⟨Ao59, co59, eo59⟩ := Kd.R_slice HO_4.out; subst eo59) | (go_at_call 7; (with_reducible refine (backseatref03_Same.calls k1 _ _ t280 _ _ x4_1 false _ ?side1 ?side2 ?side3 ?side4 A39.out).mono ?_); (case side1 => repeat (first | exact (Kd.R_reads' HO283.out).2.2 | (with_reducible refine Kd.C_alloc ?_ _) | (with_reducible refine Kd.C_drewN ?_ _) | (with_reducible refine Kd.C_drew ?_))); (case side2 => exact (Kd.R_reads' HO283.out).2.1); (case side3 => repeat (first | exact (Kd.R_reads' HO_4.out).2.2 | (with_reducible refine Kd.C_alloc ?_ _) | (with_reducible refine Kd.C_drewN ?_ _) | (with_reducible refine Kd.C_drew ?_))); (case side4 => exact (Kd.R_reads' HO_4.out).2.1); rintro e w' ⟨rfl, ⟨nd, rfl⟩⟩))
                  go_ret
                  exact ⟨by first | rfl | (simp [errW_none, errW_some] <;> rfl) | (simp only [← hji2]; first | rfl | (simp [errW_none, errW_some] <;> rfl)) | (simp [*, errW_none, errW_some] <;> rfl), by repeat (first | (with_reducible first | exact HB.out | apply below_alloc | apply pw_below_drewN | apply below_drew1) | exact HB.out)⟩
              · rw [if_neg c38] at H
                have c38b0 : (t281.toList == ([] : List UInt8)) = false := beq_eq_false_iff_ne.mpr c38
                have c38b1 : (t281.toList != ([] : List UInt8)) = true := bne_iff_ne.mpr c38
                obtain rfl := Option.some.inj H
                go_wp2_with (first | ((with_reducible refine gate_callee (f := 6) rfl ?_); refine goesL_ (some 74) rfl rfl Tryd.func6 (by kernel_rfl) rfl #[.string x3_1, .bool false] rfl (by (try simp only [List.map_toArray, List.map_cons, List.map_nil]); first | done | rfl | (simp only [List.length_drop, List.length_take]; rfl)) ?_; (with_reducible refine (keys_Decode.calls x3_1 false t280 t281 _ A34.out).mono ?_); rintro e w60 ⟨v282, rfl, ho0, hb⟩; refine ⟨_, rfl, ?_⟩; have n0_ := Aside0.mk (Kd.R_elder' (by (with_reducible repeat (first | apply Kd.R_alloc | apply Kd.R_drewN | apply Kd.R_drew)); exact HO_4.out) (Kd.R_base ho0) hb); have n1_ := Aside0.mk (Kd.R_lower (Kd.R_new' ho0 (Kd.R_lt (by (with_reducible repeat (first | apply Kd.R_alloc | apply Kd.R_drewN | apply Kd.R_drew)); exact HO_4.out))) (below_size (by repeat (first | (with_reducible first | exact HB.out | apply below_alloc | apply pw_below_drewN | apply below_drew1) | exact HB.out)))); have n2_ := Aside0.mk (below_step (by repeat (first | (with_reducible first | exact HB.out | apply below_alloc | apply pw_below_drewN | apply below_drew1) | exact HB.out)) hb); clear HO_4; clear HB; have HO_4 := n0_; have HO283 := n1_; have HB := n2_; clear n0_ n1_ n2_; (try clear hb); (try clear hb2); (try clear hk); (try clear hi); (try clear ho0)) | ((with_reducible refine gate_callee (f := 6) rfl ?_); refine goesL_ (some 78) rfl rfl Tryd.func6 (by kernel_rfl) rfl #[.string (⟨#[27]⟩ : ByteArray), .bool true] rfl (by (try simp only [List.map_toArray, List.map_cons, List.map_nil]); first | done | rfl | (simp only [List.length_drop, List.length_take]; rfl)) ?_; (with_reducible refine (keys_Decode.calls (⟨#[27]⟩ : ByteArray) true t284 t285 _ A35.out).mono ?_); rintro e w61 ⟨v286, rfl, ho0, hb⟩; refine ⟨_, rfl, ?_⟩; have n0_ := Aside0.mk (Kd.R_elder' (by (with_reducible repeat (first | apply Kd.R_alloc | apply Kd.R_drewN | apply Kd.R_drew)); exact HO_4.out) (Kd.R_base ho0) hb); have n1_ := Aside0.mk (Kd.R_elder' (by (with_reducible repeat (first | apply Kd.R_alloc | apply Kd.R_drewN | apply Kd.R_drew)); exact HO283.out) (Kd.R_base ho0) hb); have n2_ := Aside0.mk (Kd.R_lower (Kd.R_new' (Kd.R_new' ho0 (Kd.R_lt (by (with_reducible repeat (first | apply Kd.R_alloc | apply Kd.R_drewN | apply Kd.R_drew)); exact HO_4.out))) (Kd.R_lt (by (with_reducible repeat (first | apply Kd.R_alloc | apply Kd.R_drewN | apply Kd.R_drew)); exact HO283.out))) (below_size (by repeat (first | (with_reducible first | exact HB.out | apply below_alloc | apply pw_below_drewN | apply below_drew1) | exact HB.out)))); have n3_ := Aside0.mk (below_step (by repeat (first | (with_reducible first | exact HB.out | apply below_alloc | apply pw_below_drewN | apply below_drew1) | exact HB.out)) hb); clear HO_4; clear HO283; clear HB; have HO_4 := n0_; have HO283 := n1_; have HO287 := n2_; have HB := n3_; clear n0_ n1_ n2_ n3_; (try clear hb); (try clear hb2); (try clear hk); (try clear hi); (try clear ho0)) | ((with_reducible refine gate_callee (f := 8) rfl ?_); refine goesL_ (some 81) rfl rfl Tryd.func8 (by kernel_rfl) rfl #[] rfl (by (try simp only [List.map_toArray, List.map_cons, List.map_nil]); first | done | rfl | (simp only [List.length_drop, List.length_take]; rfl)) ?_; (with_reducible refine (backseatlaw03_alive.calls  true _ A36.out).mono ?_); rintro e w62 ⟨rfl, hb⟩; refine ⟨_, rfl, ?_⟩; have n0_ := Aside0.mk (Kd.R_below (by (with_reducible repeat (first | apply Kd.R_alloc | apply Kd.R_drewN | apply Kd.R_drew)); exact HO_4.out) hb); have n1_ := Aside0.mk (Kd.R_below (by (with_reducible repeat (first | apply Kd.R_alloc | apply Kd.R_drewN | apply Kd.R_drew)); exact HO283.out) hb); have n2_ := Aside0.mk (Kd.R_below (by (with_reducible repeat (first | apply Kd.R_alloc | apply Kd.R_drewN | apply Kd.R_drew)); exact HO287.out) hb); have n3_ := Aside0.mk (below_step (by repeat (first | (with_reducible first | exact HB.out | apply below_alloc | apply pw_below_drewN | apply below_drew1) | exact HB.out)) hb); clear HO_4; clear HO283; clear HO287; clear HB; have HO_4 := n0_; have HO283 := n1_; have HO287 := n2_; have HB := n3_; clear n0_ n1_ n2_ n3_; (try clear hb); (try clear hb2); (try clear hk); (try clear hi)))
                go_ret
                exact ⟨by first | rfl | (simp [errW_none, errW_some] <;> rfl) | (simp only [← hji2]; first | rfl | (simp [errW_none, errW_some] <;> rfl)) | (simp [*, errW_none, errW_some] <;> rfl), by repeat (first | (with_reducible first | exact HB.out | apply below_alloc | apply pw_below_drewN | apply below_drew1) | exact HB.out)⟩
            · replace c37 := Bool.eq_false_iff.mpr c37
              subst c37
              have H1 : (some false) = some r := by rw [if_neg (show ¬ (false = true) by decide)] at H; exact H
              clear H
              have H := H1
              clear H1
              obtain rfl := Option.some.inj H
              go_wp2_with (first | ((with_reducible refine gate_callee (f := 6) rfl ?_); refine goesL_ (some 74) rfl rfl Tryd.func6 (by kernel_rfl) rfl #[.string x3_1, .bool false] rfl (by (try simp only [List.map_toArray, List.map_cons, List.map_nil]); first | done | rfl | (simp only [List.length_drop, List.length_take]; rfl)) ?_; (with_reducible refine (keys_Decode.calls x3_1 false t280 t281 _ A34.out).mono ?_); rintro e w63 ⟨v282, rfl, ho0, hb⟩; refine ⟨_, rfl, ?_⟩; have n0_ := Aside0.mk (Kd.R_elder' (by (with_reducible repeat (first | apply Kd.R_alloc | apply Kd.R_drewN | apply Kd.R_drew)); exact HO_4.out) (Kd.R_base ho0) hb); have n1_ := Aside0.mk (Kd.R_lower (Kd.R_new' ho0 (Kd.R_lt (by (with_reducible repeat (first | apply Kd.R_alloc | apply Kd.R_drewN | apply Kd.R_drew)); exact HO_4.out))) (below_size (by repeat (first | (with_reducible first | exact HB.out | apply below_alloc | apply pw_below_drewN | apply below_drew1) | exact HB.out)))); have n2_ := Aside0.mk (below_step (by repeat (first | (with_reducible first | exact HB.out | apply below_alloc | apply pw_below_drewN | apply below_drew1) | exact HB.out)) hb); clear HO_4; clear HB; have HO_4 := n0_; have HO283 := n1_; have HB := n2_; clear n0_ n1_ n2_; (try clear hb); (try clear hb2); (try clear hk); (try clear hi); (try clear ho0)) | ((with_reducible refine gate_callee (f := 6) rfl ?_); refine goesL_ (some 78) rfl rfl Tryd.func6 (by kernel_rfl) rfl #[.string (⟨#[27]⟩ : ByteArray), .bool true] rfl (by (try simp only [List.map_toArray, List.map_cons, List.map_nil]); first | done | rfl | (simp only [List.length_drop, List.length_take]; rfl)) ?_; (with_reducible refine (keys_Decode.calls (⟨#[27]⟩ : ByteArray) true t284 t285 _ A35.out).mono ?_); rintro e w64 ⟨v286, rfl, ho0, hb⟩; refine ⟨_, rfl, ?_⟩; have n0_ := Aside0.mk (Kd.R_elder' (by (with_reducible repeat (first | apply Kd.R_alloc | apply Kd.R_drewN | apply Kd.R_drew)); exact HO_4.out) (Kd.R_base ho0) hb); have n1_ := Aside0.mk (Kd.R_elder' (by (with_reducible repeat (first | apply Kd.R_alloc | apply Kd.R_drewN | apply Kd.R_drew)); exact HO283.out) (Kd.R_base ho0) hb); have n2_ := Aside0.mk (Kd.R_lower (Kd.R_new' (Kd.R_new' ho0 (Kd.R_lt (by (with_reducible repeat (first | apply Kd.R_alloc | apply Kd.R_drewN | apply Kd.R_drew)); exact HO_4.out))) (Kd.R_lt (by (with_reducible repeat (first | apply Kd.R_alloc | apply Kd.R_drewN | apply Kd.R_drew)); exact HO283.out))) (below_size (by repeat (first | (with_reducible first | exact HB.out | apply below_alloc | apply pw_below_drewN | apply below_drew1) | exact HB.out)))); have n3_ := Aside0.mk (below_step (by repeat (first | (with_reducible first | exact HB.out | apply below_alloc | apply pw_below_drewN | apply below_drew1) | exact HB.out)) hb); clear HO_4; clear HO283; clear HB; have HO_4 := n0_; have HO283 := n1_; have HO287 := n2_; have HB := n3_; clear n0_ n1_ n2_ n3_; (try clear hb); (try clear hb2); (try clear hk); (try clear hi); (try clear ho0)) | ((with_reducible refine gate_callee (f := 8) rfl ?_); refine goesL_ (some 81) rfl rfl Tryd.func8 (by kernel_rfl) rfl #[] rfl (by (try simp only [List.map_toArray, List.map_cons, List.map_nil]); first | done | rfl | (simp only [List.length_drop, List.length_take]; rfl)) ?_; (with_reducible refine (backseatlaw03_alive.calls  false _ A36.out).mono ?_); rintro e w65 ⟨rfl, hb⟩; refine ⟨_, rfl, ?_⟩; have n0_ := Aside0.mk (Kd.R_below (by (with_reducible repeat (first | apply Kd.R_alloc | apply Kd.R_drewN | apply Kd.R_drew)); exact HO_4.out) hb); have n1_ := Aside0.mk (Kd.R_below (by (with_reducible repeat (first | apply Kd.R_alloc | apply Kd.R_drewN | apply Kd.R_drew)); exact HO283.out) hb); have n2_ := Aside0.mk (Kd.R_below (by (with_reducible repeat (first | apply Kd.R_alloc | apply Kd.R_drewN | apply Kd.R_drew)); exact HO287.out) hb); have n3_ := Aside0.mk (below_step (by repeat (first | (with_reducible first | exact HB.out | apply below_alloc | apply pw_below_drewN | apply below_drew1) | exact HB.out)) hb); clear HO_4; clear HO283; clear HO287; clear HB; have HO_4 := n0_; have HO283 := n1_; have HO287 := n2_; have HB := n3_; clear n0_ n1_ n2_ n3_; (try clear hb); (try clear hb2); (try clear hk); (try clear hi)))
              go_ret
              exact ⟨by first | rfl | (simp [errW_none, errW_some] <;> rfl) | (simp only [← hji2]; first | rfl | (simp [errW_none, errW_some] <;> rfl)) | (simp [*, errW_none, errW_some] <;> rfl), by repeat (first | (with_reducible first | exact HB.out | apply below_alloc | apply pw_below_drewN | apply below_drew1) | exact HB.out)⟩
    · rw [if_neg c4] at H
      exact absurd H (by simp)
  · rw [if_neg c3] at H
    exact absurd H (by simp)
end Go.Proofs.YtbnpcnpdeinacaaDoor.P
