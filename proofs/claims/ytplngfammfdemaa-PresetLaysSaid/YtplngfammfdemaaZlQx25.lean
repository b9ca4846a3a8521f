-- Copies of the texts YtplngfammfdemaaQx20, YtplngfammfdemaaQx25 with what this claim does not reach left out (prune.py, a program of this project).
import Derived.Test.YtplngfammfdemaaZlGMul
import Derived.Test.YtplngfammfdemaaZlQx19
import Derived.Test.YtplngfammfdemaaZlQx22
import Derived.Test.YtplngfammfdemaaZlQx23
import Derived.Test.YtplngfammfdemaaZlQx24
import Derived.Test.YtplngfammfdemaaZlQx4
section
namespace Go.Proofs.Ytplngfammfdemaa.Q
open Go.RowKit Go.Proofs.Ytplngfammfdemaa Go.Proofs.YtplngfammfdemaaW.PrintWords Go.Proofs.YtplngfammfdemaaW.PrintLast Go.Proofs.YtplngfammfdemaaW.PrintMore
attribute [local go_sem] max2_int min2_int max_two min_two max_three min_three max_four min_four   -- for this text's walks alone
set_option linter.unusedVariables false
set_option linter.unusedSimpArgs false
def backseatref12_May.l0 : Nat → List Int → Int → Int → Int → List Int → Int → Int → Option (Bool)
  | 0, _, _, _, _, _, _, _ => none
  | k + 1, x0, x1, x2, x3, x11, x12, x13 => if x13 < x12 then (if 0 ≤ x13 then (if x13 < (x11.length : Int) then (if (rd x11 x13) < 1 then (some false) else (if (rd x11 x13) > 999 then (some false) else ((backseatref11_At.f k x0 (rd x11 x13)).bind fun t364 => (if t364 = x13 then (backseatref12_May.l0 k x0 x1 x2 x3 x11 x12 (wrap64 (x13 + 1))) else (some false))))) else (none)) else (none)) else (if (x0.length : Int) ≥ 1 then (if (x0.length : Int) ≤ 8 then (if x1 ≥ 1 then (if x1 ≤ 5 then ((backseatref11_Size.f x2 x3).bind fun t365 => (some t365)) else (some false)) else (some false)) else (some false)) else (some false))
def backseatref12_May.f (k : Nat) (l0 : List Int) (a1 : Int) (a2 : Int) (a3 : Int) : Option (Bool) := backseatref12_May.l0 k l0 a1 a2 a3 l0 (l0.length : Int) 0
theorem backseatref12_May.mono_l : ∀ k, (∀ y0 y1 y2 y3 y4 y5 y6, LeO (backseatref12_May.l0 k y0 y1 y2 y3 y4 y5 y6) (backseatref12_May.l0 (k + 1) y0 y1 y2 y3 y4 y5 y6))
  | 0 => fun _ _ _ _ _ _ _ r h => by simp [backseatref12_May.l0] at h
  | k + 1 => by
    have ih0 := backseatref12_May.mono_l k
    · intro y0 y1 y2 y3 y4 y5 y6
      unfold backseatref12_May.l0
      repeat' first
      | (with_reducible exact ih0 _ _ _ _ _ _ _)
      | (with_reducible exact backseatref11_At.mono _ _ _)
      | (with_reducible exact LeO.refl _)
      | (with_reducible exact LeO.none _)
      | (with_reducible refine LeO.ite ?_ ?_)
      | (with_reducible refine LeO.bind ?_ (fun _ => ?_))
      | exact ih0 _ _ _ _ _ _ _
      | exact backseatref11_At.mono _ _ _
      | exact LeO.none _
      | refine LeO.ite ?_ ?_
      | refine LeO.bind ?_ (fun _ => ?_)
theorem backseatref12_May.mono : ∀ a0 a1 a2 a3 k, LeO (backseatref12_May.f k a0 a1 a2 a3) (backseatref12_May.f (k + 1) a0 a1 a2 a3) := by
  intro a0 a1 a2 a3 k
  have ih0 := backseatref12_May.mono_l k
  unfold backseatref12_May.f
  repeat' first
      | (with_reducible exact ih0 _ _ _ _ _ _ _)
      | (with_reducible exact backseatref11_At.mono _ _ _)
      | (with_reducible exact LeO.refl _)
      | (with_reducible exact LeO.none _)
      | (with_reducible refine LeO.ite ?_ ?_)
      | (with_reducible refine LeO.bind ?_ (fun _ => ?_))
      | exact ih0 _ _ _ _ _ _ _
      | exact backseatref11_At.mono _ _ _
      | exact LeO.none _
      | refine LeO.ite ?_ ?_
      | refine LeO.bind ?_ (fun _ => ?_)
set_option maxHeartbeats 8000000 in
set_option maxRecDepth 100000 in
theorem backseatref12_May.calls (k : Nat) (A0 : Option Addr) (c0 : Nat) (l0 : List Int) (a1 : Int) (a2 : Int) (a3 : Int) (r : Bool) (w : World) (hr0 : Kd.C (Kd.int .i64) w A0 l0.length l0) (hc0 : l0.length ≤ c0) (h : backseatref12_May.f k l0 a1 a2 a3 = some r) :
    Calls Try.prog 15 #[.slice A0 l0.length c0, .int .i64 a1, .int .i64 a2, .int .i64 a3] w fun e w' => e = .returned (.bool r) ∧ Drawn0 w w' := by
  have HR0 := Aside0.mk hr0
  have HC0 := Aside0.mk hc0
  clear hr0 hc0
  have H : (backseatref12_May.l0 k l0 a1 a2 a3 l0 (l0.length : Int) 0) = some r := h
  clear h
  have H' := Aside0.mk H
  clear H
  go_enter Try.func15, Try.ntmps15
  go_wp2
  go_loopg [13] k (fun kq v13 w' => ∃ (x13_1 : Int), v13 = .int .i64 x13_1 ∧ Aside0 (backseatref12_May.l0 kq l0 a1 a2 a3 l0 (l0.length : Int) x13_1 = some r) ∧ Aside0 (kq ≤ k) ∧ Drawn0 w w')
  case atStart => exact ⟨(0), (by first | rfl | (simp; done) | (simp [*]; done)), H', ⟨Nat.le_refl _⟩, by repeat (first | exact Drawn0.refl _ | apply Drawn0.step)⟩
  case round =>
    clear H'
    try clear c1
    try clear p2
    obtain ⟨x13_1, rfl, HA, HK1, ⟨m1, rfl⟩⟩ := hrel
    cases gk with
    | zero => exact absurd HA.out (by simp [backseatref12_May.l0])
    | succ k1 =>
      have H := HA.out
      clear HA
      simp only [backseatref12_May.l0] at H
      by_cases c5 : x13_1 < (l0.length : Int)
      · rw [if_pos c5] at H
        have c5b0 : decide (x13_1 < (l0.length : Int)) = true := decide_eq_true c5
        clear c5
        by_cases c6 : 0 ≤ x13_1
        · rw [if_pos c6] at H
          have c6b0 : decide (0 ≤ x13_1) = true := decide_eq_true c6
          clear c6
          by_cases c7 : x13_1 < (l0.length : Int)
          · rw [if_pos c7] at H
            have c7b0 : decide (x13_1 < (l0.length : Int)) = true := decide_eq_true c7
            clear c7
            by_cases c8 : (rd l0 x13_1) < 1
            · rw [if_pos c8] at H
              have c8b0 : decide ((rd l0 x13_1) < 1) = true := decide_eq_true c8
              clear c8
              obtain rfl := Option.some.inj H
              have p363 : 0 ≤ (x13_1 : Int) := of_decide_eq_true (by first | (with_reducible assumption) | assumption)
              have q363 : x13_1 < (l0.length : Int) := of_decide_eq_true (by first | (with_reducible assumption) | assumption)
              obtain ⟨ad363, e363, hx363_0⟩ := Kd.at_int HR0.out x13_1 p363 q363
              cases e363
              replace p363 := eq_true p363
              replace q363 := eq_true q363
              go_wp2
              go_ret
              exact ⟨by first | rfl | (simp; done) | (simp [*]; done), by repeat (first | exact Drawn0.refl _ | apply Drawn0.step)⟩
            · rw [if_neg c8] at H
              have c8b0 : decide ((rd l0 x13_1) < 1) = false := decide_eq_false c8
              clear c8
              by_cases c9 : (rd l0 x13_1) > 999
              · rw [if_pos c9] at H
                have c9b0 : decide (999 < (rd l0 x13_1)) = true := decide_eq_true c9
                clear c9
                obtain rfl := Option.some.inj H
                have p363 : 0 ≤ (x13_1 : Int) := of_decide_eq_true (by first | (with_reducible assumption) | assumption)
                have q363 : x13_1 < (l0.length : Int) := of_decide_eq_true (by first | (with_reducible assumption) | assumption)
                obtain ⟨ad363, e363, hx363_0⟩ := Kd.at_int HR0.out x13_1 p363 q363
                cases e363
                replace p363 := eq_true p363
                replace q363 := eq_true q363
                go_wp2
                go_ret
                exact ⟨by first | rfl | (simp; done) | (simp [*]; done), by repeat (first | exact Drawn0.refl _ | apply Drawn0.step)⟩
              · rw [if_neg c9] at H
                have c9b0 : decide (999 < (rd l0 x13_1)) = false := decide_eq_false c9
                clear c9
                replace H := Option.bind_eq_some_iff.mp H
                obtain ⟨t364, A100, H⟩ := H
                replace H : (if t364 = x13_1 then (backseatref12_May.l0 k1 l0 a1 a2 a3 l0 (l0.length : Int) (wrap64 (x13_1 + 1))) else (some false)) = some r := H
                have A10 := Aside0.mk A100
                clear A100
                by_cases c11 : t364 = x13_1
                · rw [if_pos c11] at H
                  have c11b0 : (t364 == x13_1) = true := beq_iff_eq.mpr c11
                  have c11b1 : (t364 != x13_1) = false := bne_eq_false_iff_eq.mpr c11
                  clear c11
                  have H' := Aside0.mk H
                  clear H
                  have p363 : 0 ≤ (x13_1 : Int) := of_decide_eq_true (by first | (with_reducible assumption) | assumption)
                  have q363 : x13_1 < (l0.length : Int) := of_decide_eq_true (by first | (with_reducible assumption) | assumption)
                  obtain ⟨ad363, e363, hx363_0⟩ := Kd.at_int HR0.out x13_1 p363 q363
                  cases e363
                  replace p363 := eq_true p363
                  replace q363 := eq_true q363
                  go_wp2_with (first | (go_at_call 52; (with_reducible refine (backseatref11_At.calls k1 _ _ l0 (rd l0 x13_1) t364 _ ?side1 ?side2 A10.out).mono ?_); (case side1 => repeat (first | exact HR0.out | (with_reducible refine Kd.C_alloc ?_ _) | (with_reducible refine Kd.C_drewN ?_ _) | (with_reducible refine Kd.C_drew ?_))); (case side2 => exact HC0.out); rintro e w' ⟨rfl, ⟨nd, rfl⟩⟩))
                  go_roundg k1
                  case measure => have := HK1.out; omega
                  case rel => exact ⟨(wrap64 (x13_1 + 1)), (by first | rfl | (simp; done) | (simp [*]; done)), H', ⟨by have := HK1.out; omega⟩, by repeat (first | exact Drawn0.refl _ | apply Drawn0.step)⟩
                · rw [if_neg c11] at H
                  have c11b0 : (t364 == x13_1) = false := beq_eq_false_iff_ne.mpr c11
                  have c11b1 : (t364 != x13_1) = true := bne_iff_ne.mpr c11
                  obtain rfl := Option.some.inj H
                  have p363 : 0 ≤ (x13_1 : Int) := of_decide_eq_true (by first | (with_reducible assumption) | assumption)
                  have q363 : x13_1 < (l0.length : Int) := of_decide_eq_true (by first | (with_reducible assumption) | assumption)
                  obtain ⟨ad363, e363, hx363_0⟩ := Kd.at_int HR0.out x13_1 p363 q363
                  cases e363
                  replace p363 := eq_true p363
                  replace q363 := eq_true q363
                  go_wp2_with (first | (go_at_call 52; (with_reducible refine (backseatref11_At.calls k1 _ _ l0 (rd l0 x13_1) t364 _ ?side1 ?side2 A10.out).mono ?_); (case side1 => repeat (first | exact HR0.out | (with_reducible refine Kd.C_alloc ?_ _) | (with_reducible refine Kd.C_drewN ?_ _) | (with_reducible refine Kd.C_drew ?_))); (case side2 => exact HC0.out); rintro e w' ⟨rfl, ⟨nd, rfl⟩⟩))
                  go_ret
                  exact ⟨by first | rfl | (simp; done) | (simp [*]; done), by repeat (first | exact Drawn0.refl _ | apply Drawn0.step)⟩
          · rw [if_neg c7] at H
            exact absurd H (by simp)
        · rw [if_neg c6] at H
          exact absurd H (by simp)
      · rw [if_neg c5] at H
        have c5b0 : decide (x13_1 < (l0.length : Int)) = false := decide_eq_false c5
        clear c5
        by_cases c12 : (l0.length : Int) ≥ 1
        · rw [if_pos c12] at H
          have c12b0 : decide (1 ≤ (l0.length : Int)) = true := decide_eq_true c12
          have c12b1 : decide (1 ≤ l0.length) = true := decide_eq_true (by omega)
          clear c12
          by_cases c13 : (l0.length : Int) ≤ 8
          · rw [if_pos c13] at H
            have c13b0 : decide ((l0.length : Int) ≤ 8) = true := decide_eq_true c13
            have c13b1 : decide (l0.length ≤ 8) = true := decide_eq_true (by omega)
            clear c13
            by_cases c14 : a1 ≥ 1
            · rw [if_pos c14] at H
              have c14b0 : decide (1 ≤ a1) = true := decide_eq_true c14
              clear c14
              by_cases c15 : a1 ≤ 5
              · rw [if_pos c15] at H
                have c15b0 : decide (a1 ≤ 5) = true := decide_eq_true c15
                clear c15
                replace H := Option.bind_eq_some_iff.mp H
                obtain ⟨t365, A160, H⟩ := H
                replace H : (some t365) = some r := H
                have A16 := Aside0.mk A160
                clear A160
                obtain rfl := Option.some.inj H
                go_wp2_with (first | (go_at_call 53; (with_reducible refine (backseatref11_Size.calls a2 a3 t365 _ A16.out).mono ?_); rintro e w' ⟨rfl, ⟨nd, rfl⟩⟩))
                go_ret
                exact ⟨by first | rfl | (simp; done) | (simp [*]; done), by repeat (first | exact Drawn0.refl _ | apply Drawn0.step)⟩
              · rw [if_neg c15] at H
                have c15b0 : decide (a1 ≤ 5) = false := decide_eq_false c15
                clear c15
                obtain rfl := Option.some.inj H
                go_wp2
                go_ret
                exact ⟨by first | rfl | (simp; done) | (simp [*]; done), by repeat (first | exact Drawn0.refl _ | apply Drawn0.step)⟩
            · rw [if_neg c14] at H
              have c14b0 : decide (1 ≤ a1) = false := decide_eq_false c14
              clear c14
              obtain rfl := Option.some.inj H
              go_wp2
              go_ret
              exact ⟨by first | rfl | (simp; done) | (simp [*]; done), by repeat (first | exact Drawn0.refl _ | apply Drawn0.step)⟩
          · rw [if_neg c13] at H
            have c13b0 : decide ((l0.length : Int) ≤ 8) = false := decide_eq_false c13
            have c13b1 : decide (l0.length ≤ 8) = false := decide_eq_false (by omega)
            clear c13
            obtain rfl := Option.some.inj H
            go_wp2
            go_ret
            exact ⟨by first | rfl | (simp; done) | (simp [*]; done), by repeat (first | exact Drawn0.refl _ | apply Drawn0.step)⟩
        · rw [if_neg c12] at H
          have c12b0 : decide (1 ≤ (l0.length : Int)) = false := decide_eq_false c12
          have c12b1 : decide (1 ≤ l0.length) = false := decide_eq_false (by omega)
          clear c12
          obtain rfl := Option.some.inj H
          go_wp2
          go_ret
          exact ⟨by first | rfl | (simp; done) | (simp [*]; done), by repeat (first | exact Drawn0.refl _ | apply Drawn0.step)⟩
end Go.Proofs.Ytplngfammfdemaa.Q
end
section
namespace Go.Proofs.Ytplngfammfdemaa.Q
open Go.RowKit Go.Proofs.Ytplngfammfdemaa Go.Proofs.YtplngfammfdemaaW.PrintWords Go.Proofs.YtplngfammfdemaaW.PrintLast Go.Proofs.YtplngfammfdemaaW.PrintMore
attribute [local go_sem] max2_int min2_int max_two min_two max_three min_three max_four min_four   -- for this text's walks alone
set_option linter.unusedVariables false
set_option linter.unusedSimpArgs false
def backseatref12_Lay.j0 : Nat → List Int → Int → Int → Int → Bool → Option (Int × Int × Int × (List (S31)) × Bool)
 | 0, _, _, _, _, _ => none
 | k + 1, x0, x1, x2, x3, x14 => if x14 = true then ((backseatref12_Line.f k x0 x1 x2 x3).bind fun bt452 => (some (bt452.1, bt452.2.1, bt452.2.2.1, bt452.2.2.2.1, bt452.2.2.2.2))) else (if x1 = 5 then ((backseatref12_Rows.f k x0 x2 x3).bind fun bt459 => (some (bt459.1, bt459.2.1, bt459.2.2.1, bt459.2.2.2.1, bt459.2.2.2.2))) else ((backseatref12_Main.f k x0 (wrap64 (x1 - 2)) x2 x3).bind fun bt466 => (some (bt466.1, bt466.2.1, bt466.2.2.1, bt466.2.2.2.1, bt466.2.2.2.2))))
def backseatref12_Lay.f (k : Nat) (l0 : List Int) (a1 : Int) (a2 : Int) (a3 : Int) : Option (Int × Int × Int × (List (S31)) × Bool) := if a1 = 1 then (backseatref12_Lay.j0 k l0 a1 a2 a3 true) else (backseatref12_Lay.j0 k l0 a1 a2 a3 (a1 == 2))
theorem backseatref12_Lay.mono_l : ∀ k, (∀ y0 y1 y2 y3 y4, LeO (backseatref12_Lay.j0 k y0 y1 y2 y3 y4) (backseatref12_Lay.j0 (k + 1) y0 y1 y2 y3 y4))
 | 0 => fun _ _ _ _ _ r h => by simp [backseatref12_Lay.j0] at h
 | k + 1 => by
  have ih0 := backseatref12_Lay.mono_l k
  ·intro y0 y1 y2 y3 y4
   unfold backseatref12_Lay.j0
   repeat' first
   | (with_reducible exact ih0 _ _ _ _ _)
   | (with_reducible exact backseatref12_Line.mono _ _ _ _ _)
   | (with_reducible exact backseatref12_Main.mono _ _ _ _ _)
   | (with_reducible exact backseatref12_Rows.mono _ _ _ _)
   | (with_reducible exact LeO.refl _)
   | (with_reducible exact LeO.none _)
   | (with_reducible refine LeO.ite ?_ ?_)
   | (with_reducible refine LeO.bind ?_ (fun _ => ?_))
   | exact ih0 _ _ _ _ _
   | exact backseatref12_Line.mono _ _ _ _ _
   | exact backseatref12_Main.mono _ _ _ _ _
   | exact backseatref12_Rows.mono _ _ _ _
   | exact LeO.none _
   | refine LeO.ite ?_ ?_
   | refine LeO.bind ?_ (fun _ => ?_)
theorem backseatref12_Lay.mono : ∀ a0 a1 a2 a3 k, LeO (backseatref12_Lay.f k a0 a1 a2 a3) (backseatref12_Lay.f (k + 1) a0 a1 a2 a3) := by
 intro a0 a1 a2 a3 k
 have ih0 := backseatref12_Lay.mono_l k
 unfold backseatref12_Lay.f
 repeat' first
  | (with_reducible exact ih0 _ _ _ _ _)
  | (with_reducible exact backseatref12_Line.mono _ _ _ _ _)
  | (with_reducible exact backseatref12_Main.mono _ _ _ _ _)
  | (with_reducible exact backseatref12_Rows.mono _ _ _ _)
  | (with_reducible exact LeO.refl _)
  | (with_reducible exact LeO.none _)
  | (with_reducible refine LeO.ite ?_ ?_)
  | (with_reducible refine LeO.bind ?_ (fun _ => ?_))
  | exact ih0 _ _ _ _ _
  | exact backseatref12_Line.mono _ _ _ _ _
  | exact backseatref12_Main.mono _ _ _ _ _
  | exact backseatref12_Rows.mono _ _ _ _
  | exact LeO.none _
  | refine LeO.ite ?_ ?_
  | refine LeO.bind ?_ (fun _ => ?_)
set_option maxHeartbeats 8000000 in
set_option maxRecDepth 100000 in
theorem backseatref12_Lay.calls (k : Nat) (A0 : Option Addr) (c0 : Nat) (l0 : List Int) (a1 : Int) (a2 : Int) (a3 : Int) (r1 : Int) (r2 : Int) (r3 : Int) (r4 : List (S31)) (r5 : Bool) (w : World) (hr0 : Kd.C (Kd.int .i64) w A0 l0.length l0) (hc0 : l0.length ≤ c0) (h : backseatref12_Lay.f k l0 a1 a2 a3 = some (r1, r2, r3, r4, r5)) :
 Calls Try.prog 17 #[.slice A0 l0.length c0, .int .i64 a1, .int .i64 a2, .int .i64 a3] w fun e w' => ∃ v3_ : Value, e = .returned (.agg #[.int .i64 r1, .int .i64 r2, .int .i64 r3, v3_, .bool r5]) ∧ Kd.N k31 31 w' w.heap.size (fun k_ => (w.heap.size ≤ k_)) v3_ r4 ∧ Below w.heap.size w w' := by
 have hu37 := Try.underlying37
 have HR0 := zM hr0
 have HC0 := zM hc0
 clear hr0 hc0
 have HB := zM (Below.refl w.heap.size w)
 have H : (if a1 = 1 then (backseatref12_Lay.j0 k l0 a1 a2 a3 true) else (backseatref12_Lay.j0 k l0 a1 a2 a3 (a1 == 2))) = some (r1, r2, r3, r4, r5) := h
 clear h
 have HC5 := zM H
 clear H
 go_enter Try.func17, Try.ntmps17
 go_upto_region 1 with (first | ((with_reducible refine gate_dst (N := 8) rfl ?_); refine box_event ?hg (N := 8) ?hd (cs := #[.int .i64 0, .int .i64 0, .int .i64 0, .slice none 0 0, .bool false]) (t := 37) ?hr ?_; (case hd => rfl); (case hg => rfl); (case hr => first | (go_simp; done) | (go_simp; rfl)); intro gb451 hg w6 hbox hb; have BK451 := zM (hbox); have GW451 := zM ((by rw [hg]; exact (below_size (by first | exact HB.out | exact zN HB.out _ | exact zD HB.out)) : w.heap.size ≤ gb451)); have GE451 := GW451; replace HB := zM (below_step (by first | exact HB.out | exact zN HB.out _ | exact zD HB.out) hb); clear hb hbox hg))
 (try simp only [Act.put, List.setIfInBounds_toArray, List.set_cons_zero, List.set_cons_succ])
 go_cut [14] (fun v14 wc => ∃ (kq : Nat) (x14_4 : Bool), v14 = .bool x14_4 ∧ Aside0 (backseatref12_Lay.j0 kq l0 a1 a2 a3 x14_4 = some (r1, r2, r3, r4, r5)) ∧ Aside0 (kq ≤ k) ∧ Aside0 (wc.heap[gb451]? = some (.cells #[.int .i64 0, .int .i64 0, .int .i64 0, (.slice none 0 0), .bool false] 37 (0, 0))) ∧ Aside0 (Below w.heap.size w wc))
 case first =>
  have H := HC5.out
  clear HC5
  by_cases c7 : a1 = 1
  ·rw [if_pos c7] at H
   have c7b0 : (a1 == 1) = true := beq_iff_eq.mpr c7
   have c7b1 : (a1 != 1) = false := bne_eq_false_iff_eq.mpr c7
   clear c7
   (first | rw [c7b0] | (simp only [i64_w, i32_w]; rw [c7b0]) | skip)
   have H' := zM H
   clear H
   go_wp2
   go_meet
   case rel => exact ⟨_, (true), (by first | rfl | (simp; done) | (simp [*]; done)), H', ⟨by first | omega | exact Nat.le_refl _⟩, ⟨by (with_reducible repeat (first | refine blk_drewN ?_ _ | refine blk_drew ?_ | refine blk_alloc ?_ _)); exact BK451.out⟩, ⟨by repeat first | refine zS ?_ GE451.out | exact HB.out | apply zA | apply zN | apply zD⟩⟩
  ·rw [if_neg c7] at H
   have c7b0 : (a1 == 1) = false := beq_eq_false_iff_ne.mpr c7
   have c7b1 : (a1 != 1) = true := bne_iff_ne.mpr c7
   (first | rw [c7b0] | (simp only [i64_w, i32_w]; rw [c7b0]) | skip)
   have H' := zM H
   clear H
   go_wp2
   go_meet
   case rel => exact ⟨_, ((a1 == 2)), (by first | rfl | (simp; done) | (simp [*]; done)), H', ⟨by first | omega | exact Nat.le_refl _⟩, ⟨by (with_reducible repeat (first | refine blk_drewN ?_ _ | refine blk_drew ?_ | refine blk_alloc ?_ _)); exact BK451.out⟩, ⟨by repeat first | refine zS ?_ GE451.out | exact HB.out | apply zA | apply zN | apply zD⟩⟩
 case rest =>
  clear HC5
  (try clear c1); (try clear p2); (try clear c7); (try clear c7b0); (try clear c7b1)
  obtain ⟨kq, x14_4, rfl, HA, HJ4, BK451, HB⟩ := hcut
  cases kq with
  | zero => exact absurd HA.out (by simp [backseatref12_Lay.j0])
  | succ kj4 =>
   have H := HA.out
   clear HA
   simp only [backseatref12_Lay.j0] at H
   by_cases c8 : x14_4 = true
   ·subst c8
    have H1 : ((backseatref12_Line.f kj4 l0 a1 a2 a3).bind fun bt452 => (some (bt452.1, bt452.2.1, bt452.2.2.1, bt452.2.2.2.1, bt452.2.2.2.2))) = some (r1, r2, r3, r4, r5) := by rw [if_pos rfl] at H; exact H
    clear H
    have H := H1
    clear H1
    replace H := Option.bind_eq_some_iff.mp H
    obtain ⟨⟨t452, t453, t454, t455, t458⟩, A90, H⟩ := H
    replace H : (some (t452, t453, t454, t455, t458)) = some (r1, r2, r3, r4, r5) := H
    have A9 := zM A90
    clear A90
    simp only [Option.some.injEq, Prod.mk.injEq] at H
    obtain ⟨rfl, rfl, rfl, rfl, rfl⟩ := H
    go_wp2_with (first | ((with_reducible refine gate_callee (f := 54) rfl ?_); refine ga (some 19) rfl rfl Try.func54 (by kernel_rfl) rfl #[.slice A0 l0.length c0, .int .i64 a1, .int .i64 a2, .int .i64 a3] rfl ?_; (with_reducible refine (backseatref12_Line.calls kj4 _ _ l0 a1 a2 a3 t452 t453 t454 t455 t458 _ ?side1 ?side2 A9.out).mono ?_); (case side1 => repeat (first | exact (Kd.C_below HR0.out HB.out) | (with_reducible refine Kd.C_alloc ?_ _) | (with_reducible refine Kd.C_drewN ?_ _) | (with_reducible refine Kd.C_drew ?_))); (case side2 => exact HC0.out); rintro e w10 ⟨v456, rfl, ho0, hb⟩; refine ⟨_, rfl, ?_⟩; have HO457 := zM (Kd.N_lower (Kd.N_mono (ok' := fun k_ => (w.heap.size ≤ k_) ∧ k_ ≠ gb451) (Kd.R_N (Kd.R_bound ho0)) (fun k_ hk_ => ⟨(Nat.le_trans (below_size (by repeat first | refine zS ?_ GE451.out | exact HB.out | apply zA | apply zN | apply zD)) hk_.2.1), (Kd.freshB (g := gb451) (o := .cells #[.int .i64 0, .int .i64 0, .int .i64 0, .slice none 0 0, .bool false] 37 (0, 0)) (by (with_reducible repeat (first | refine blk_drewN ?_ _ | refine blk_drew ?_ | refine blk_alloc ?_ _)); exact BK451.out) k_ hk_.2.1)⟩)) (below_size (by repeat first | refine zS ?_ GE451.out | exact HB.out | apply zA | apply zN | apply zD))); replace BK451 := zM (bb hb BK451.out); replace HB := zM (below_step (by repeat first | refine zS ?_ GE451.out | exact HB.out | apply zA | apply zN | apply zD) hb); (try clear hb); (try clear hb2); (try clear hk); (try clear hi); (try clear ho0); obtain ⟨hcz11_0, hcz11_1, hcz11_2, hcz11_3, hcz11_4, hfz11_0, hfz11_1, hfz11_2, hfz11_3, hfz11_4⟩ := cz5 BK451.out; obtain ⟨Ao12, co12, eo12⟩ := Kd.N_slice HO457.out; subst eo12))
    refine bodyPost_ret (results_cell_row rfl _ _ gb451 37 #[.int .i64 t452, .int .i64 t453, .int .i64 t454, .slice Ao12 t455.length co12, .bool t458] (0, 0) _ rfl (by exact (put5 BK451.out)) Try.underlying37 rfl (by kernel_rfl)) rfl ?_
    exact ⟨_, by first | rfl | (simp [errW_none, errW_some] <;> rfl) | (simp [*, errW_none, errW_some] <;> rfl), by (with_reducible repeat (first | apply Kd.N_alloc | apply Kd.N_drewN | apply Kd.N_drew)); exact Kd.N_mono (Kd.N_far (p := ⟨gb451, 4, none⟩) (Kd.N_far (p := ⟨gb451, 3, none⟩) (Kd.N_far (p := ⟨gb451, 2, none⟩) (Kd.N_far (p := ⟨gb451, 1, none⟩) (Kd.N_far (p := ⟨gb451, 0, none⟩) (Kd.N_mono HO457.out (fun k_ hk => (⟨hk, hk.2⟩ : _ ∧ k_ ≠ gb451))) (fun _ hk => hk.2) (.int .i64 t452)) (fun _ hk => hk.2) (.int .i64 t453)) (fun _ hk => hk.2) (.int .i64 t454)) (fun _ hk => hk.2) (.slice Ao12 t455.length co12)) (fun _ hk => hk.2) (.bool t458)) (fun _ hk => hk.1.1), by repeat first | refine zS ?_ GE451.out | exact HB.out | apply zA | apply zN | apply zD⟩
   ·replace c8 := Bool.eq_false_iff.mpr c8
    subst c8
    have H1 : (if a1 = 5 then ((backseatref12_Rows.f kj4 l0 a2 a3).bind fun bt459 => (some (bt459.1, bt459.2.1, bt459.2.2.1, bt459.2.2.2.1, bt459.2.2.2.2))) else ((backseatref12_Main.f kj4 l0 (wrap64 (a1 - 2)) a2 a3).bind fun bt466 => (some (bt466.1, bt466.2.1, bt466.2.2.1, bt466.2.2.2.1, bt466.2.2.2.2)))) = some (r1, r2, r3, r4, r5) := by rw [if_neg (show ¬ (false = true) by decide)] at H; exact H
    clear H
    have H := H1
    clear H1
    by_cases c13 : a1 = 5
    ·rw [if_pos c13] at H
     have c13b0 : (a1 == 5) = true := beq_iff_eq.mpr c13
     have c13b1 : (a1 != 5) = false := bne_eq_false_iff_eq.mpr c13
     clear c13
     replace H := Option.bind_eq_some_iff.mp H
     obtain ⟨⟨t459, t460, t461, t462, t465⟩, A140, H⟩ := H
     replace H : (some (t459, t460, t461, t462, t465)) = some (r1, r2, r3, r4, r5) := H
     have A14 := zM A140
     clear A140
     simp only [Option.some.injEq, Prod.mk.injEq] at H
     obtain ⟨rfl, rfl, rfl, rfl, rfl⟩ := H
     go_wp2_with (first | ((with_reducible refine gate_callee (f := 55) rfl ?_); refine ga (some 25) rfl rfl Try.func55 (by kernel_rfl) rfl #[.slice A0 l0.length c0, .int .i64 a2, .int .i64 a3] rfl ?_; (with_reducible refine (backseatref12_Rows.calls kj4 _ _ l0 a2 a3 t459 t460 t461 t462 t465 _ ?side1 ?side2 A14.out).mono ?_); (case side1 => repeat (first | exact (Kd.C_below HR0.out HB.out) | (with_reducible refine Kd.C_alloc ?_ _) | (with_reducible refine Kd.C_drewN ?_ _) | (with_reducible refine Kd.C_drew ?_))); (case side2 => exact HC0.out); rintro e w15 ⟨v463, rfl, ho0, hb⟩; refine ⟨_, rfl, ?_⟩; have HO464 := zM (Kd.N_lower (Kd.N_mono (ok' := fun k_ => (w.heap.size ≤ k_) ∧ k_ ≠ gb451) (Kd.R_N (Kd.R_bound ho0)) (fun k_ hk_ => ⟨(Nat.le_trans (below_size (by repeat first | refine zS ?_ GE451.out | exact HB.out | apply zA | apply zN | apply zD)) hk_.2.1), (Kd.freshB (g := gb451) (o := .cells #[.int .i64 0, .int .i64 0, .int .i64 0, .slice none 0 0, .bool false] 37 (0, 0)) (by (with_reducible repeat (first | refine blk_drewN ?_ _ | refine blk_drew ?_ | refine blk_alloc ?_ _)); exact BK451.out) k_ hk_.2.1)⟩)) (below_size (by repeat first | refine zS ?_ GE451.out | exact HB.out | apply zA | apply zN | apply zD))); replace BK451 := zM (bb hb BK451.out); replace HB := zM (below_step (by repeat first | refine zS ?_ GE451.out | exact HB.out | apply zA | apply zN | apply zD) hb); (try clear hb); (try clear hb2); (try clear hk); (try clear hi); (try clear ho0); obtain ⟨hcz16_0, hcz16_1, hcz16_2, hcz16_3, hcz16_4, hfz16_0, hfz16_1, hfz16_2, hfz16_3, hfz16_4⟩ := cz5 BK451.out; obtain ⟨Ao17, co17, eo17⟩ := Kd.N_slice HO464.out; subst eo17))
     refine bodyPost_ret (results_cell_row rfl _ _ gb451 37 #[.int .i64 t459, .int .i64 t460, .int .i64 t461, .slice Ao17 t462.length co17, .bool t465] (0, 0) _ rfl (by exact (put5 BK451.out)) Try.underlying37 rfl (by kernel_rfl)) rfl ?_
     exact ⟨_, by first | rfl | (simp [errW_none, errW_some] <;> rfl) | (simp [*, errW_none, errW_some] <;> rfl), by (with_reducible repeat (first | apply Kd.N_alloc | apply Kd.N_drewN | apply Kd.N_drew)); exact Kd.N_mono (Kd.N_far (p := ⟨gb451, 4, none⟩) (Kd.N_far (p := ⟨gb451, 3, none⟩) (Kd.N_far (p := ⟨gb451, 2, none⟩) (Kd.N_far (p := ⟨gb451, 1, none⟩) (Kd.N_far (p := ⟨gb451, 0, none⟩) (Kd.N_mono HO464.out (fun k_ hk => (⟨hk, hk.2⟩ : _ ∧ k_ ≠ gb451))) (fun _ hk => hk.2) (.int .i64 t459)) (fun _ hk => hk.2) (.int .i64 t460)) (fun _ hk => hk.2) (.int .i64 t461)) (fun _ hk => hk.2) (.slice Ao17 t462.length co17)) (fun _ hk => hk.2) (.bool t465)) (fun _ hk => hk.1.1), by repeat first | refine zS ?_ GE451.out | exact HB.out | apply zA | apply zN | apply zD⟩
    ·rw [if_neg c13] at H
     have c13b0 : (a1 == 5) = false := beq_eq_false_iff_ne.mpr c13
     have c13b1 : (a1 != 5) = true := bne_iff_ne.mpr c13
     replace H := Option.bind_eq_some_iff.mp H
     obtain ⟨⟨t466, t467, t468, t469, t472⟩, A180, H⟩ := H
     replace H : (some (t466, t467, t468, t469, t472)) = some (r1, r2, r3, r4, r5) := H
     have A18 := zM A180
     clear A180
     simp only [Option.some.injEq, Prod.mk.injEq] at H
     obtain ⟨rfl, rfl, rfl, rfl, rfl⟩ := H
     go_wp2_with (first | ((with_reducible refine gate_callee (f := 56) rfl ?_); refine ga (some 31) rfl rfl Try.func56 (by kernel_rfl) rfl #[.slice A0 l0.length c0, .int .i64 (wrap64 (a1 - 2)), .int .i64 a2, .int .i64 a3] rfl ?_; (with_reducible refine (backseatref12_Main.calls kj4 _ _ l0 (wrap64 (a1 - 2)) a2 a3 t466 t467 t468 t469 t472 _ ?side1 ?side2 A18.out).mono ?_); (case side1 => repeat (first | exact (Kd.C_below HR0.out HB.out) | (with_reducible refine Kd.C_alloc ?_ _) | (with_reducible refine Kd.C_drewN ?_ _) | (with_reducible refine Kd.C_drew ?_))); (case side2 => exact HC0.out); rintro e w19 ⟨v470, rfl, ho0, hb⟩; refine ⟨_, rfl, ?_⟩; have HO471 := zM (Kd.N_lower (Kd.N_mono (ok' := fun k_ => (w.heap.size ≤ k_) ∧ k_ ≠ gb451) ho0 (fun k_ hk_ => ⟨(Nat.le_trans (below_size (by repeat first | refine zS ?_ GE451.out | exact HB.out | apply zA | apply zN | apply zD)) hk_), (Kd.freshB (g := gb451) (o := .cells #[.int .i64 0, .int .i64 0, .int .i64 0, .slice none 0 0, .bool false] 37 (0, 0)) (by (with_reducible repeat (first | refine blk_drewN ?_ _ | refine blk_drew ?_ | refine blk_alloc ?_ _)); exact BK451.out) k_ hk_)⟩)) (below_size (by repeat first | refine zS ?_ GE451.out | exact HB.out | apply zA | apply zN | apply zD))); replace BK451 := zM (bb hb BK451.out); replace HB := zM (below_step (by repeat first | refine zS ?_ GE451.out | exact HB.out | apply zA | apply zN | apply zD) hb); (try clear hb); (try clear hb2); (try clear hk); (try clear hi); (try clear ho0); obtain ⟨hcz20_0, hcz20_1, hcz20_2, hcz20_3, hcz20_4, hfz20_0, hfz20_1, hfz20_2, hfz20_3, hfz20_4⟩ := cz5 BK451.out; obtain ⟨Ao21, co21, eo21⟩ := Kd.N_slice HO471.out; subst eo21))
     refine bodyPost_ret (results_cell_row rfl _ _ gb451 37 #[.int .i64 t466, .int .i64 t467, .int .i64 t468, .slice Ao21 t469.length co21, .bool t472] (0, 0) _ rfl (by exact (put5 BK451.out)) Try.underlying37 rfl (by kernel_rfl)) rfl ?_
     exact ⟨_, by first | rfl | (simp [errW_none, errW_some] <;> rfl) | (simp [*, errW_none, errW_some] <;> rfl), by (with_reducible repeat (first | apply Kd.N_alloc | apply Kd.N_drewN | apply Kd.N_drew)); exact Kd.N_mono (Kd.N_far (p := ⟨gb451, 4, none⟩) (Kd.N_far (p := ⟨gb451, 3, none⟩) (Kd.N_far (p := ⟨gb451, 2, none⟩) (Kd.N_far (p := ⟨gb451, 1, none⟩) (Kd.N_far (p := ⟨gb451, 0, none⟩) (Kd.N_mono HO471.out (fun k_ hk => (⟨hk, hk.2⟩ : _ ∧ k_ ≠ gb451))) (fun _ hk => hk.2) (.int .i64 t466)) (fun _ hk => hk.2) (.int .i64 t467)) (fun _ hk => hk.2) (.int .i64 t468)) (fun _ hk => hk.2) (.slice Ao21 t469.length co21)) (fun _ hk => hk.2) (.bool t472)) (fun _ hk => hk.1.1), by repeat first | refine zS ?_ GE451.out | exact HB.out | apply zA | apply zN | apply zD⟩
end Go.Proofs.Ytplngfammfdemaa.Q
end
