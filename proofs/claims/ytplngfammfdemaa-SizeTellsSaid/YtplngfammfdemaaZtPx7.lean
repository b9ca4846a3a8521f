-- A copy of the text YtplngfammfdemaaPx7 with what this claim does not reach left out (prune.py, a program of this project).
import Derived.Test.YtplngfammfdemaaZtPx0
import Derived.Test.YtplngfammfdemaaZtPx1
import Derived.Test.YtplngfammfdemaaZtPx2
import Derived.Test.YtplngfammfdemaaZtPx5
import Derived.Test.YtplngfammfdemaaZtPx6
import Derived.Test.YtplngfammfdemaaZtGLatest
import Derived.Test.YtplngfammfdemaaZtGOf
import Derived.Test.YtplngfammfdemaaZtGShort
namespace Go.Proofs.Ytplngfammfdemaa.P
open Go.RowKit Go.Proofs.Ytplngfammfdemaa Go.Proofs.YtplngfammfdemaaW.PrintWords Go.Proofs.YtplngfammfdemaaW.PrintLast Go.Proofs.YtplngfammfdemaaW.PrintMore
attribute [local go_sem] max2_int min2_int max_two min_two max_three min_three max_four min_four   -- for this text's walks alone
set_option linter.unusedVariables false
set_option linter.unusedSimpArgs false
attribute [local go_sem high] eqA48
def backseatlaw16_SizeTells.j0 : Nat → Int → Int → Int → Bool → Int → Int → Int → Int → Option (Bool)
 | 0, _, _, _, _, _, _, _, _ => none
 | k + 1, x7, x8, x9, x91, x222000, x222001, x222002, x222003 => if x91 = true then (some false) else (if x222000 = 0 then (if x9 = 5 then (if x7 = 0 then (some (x8 == 0)) else (some false)) else (some false)) else (if x9 = 0 then (if x7 = x222001 then (some (x8 == (wrap64 (x222002 - 1)))) else (some false)) else (some false)))
def backseatlaw16_SizeTells.f (k : Nat) (l0 : List (S48)) (l1 : List Int) : Option (Bool) := (backseatlaw16_few.f l0).bind fun t194 => (if 0 ≤ (mn (l1.length : Int) 12) then (if (mn (l1.length : Int) 12) ≤ (l1.length : Int) then ((size_Latest.f t194).bind fun bt198 => ((size_Of.f t194 (l1.take ((mn (l1.length : Int) 12) : Int).toNat)).bind fun bt204 => ((backseatref16_Right.f k t194).bind fun t207 => (if t207 = true then ((backseatref16_Latest.f k t194).bind fun bt209 => ((backseatref16_Some.f k t194 (l1.take ((mn (l1.length : Int) 12) : Int).toNat)).bind fun t213 => ((backseatref16_Latest.f k t213).bind fun bt216 => (if bt209.1 = 0 then (if bt198.2.2.2.2 = 5 then (if (!(bt198.1 == bt209.1) || (!(bt198.2.1 == bt209.2.1) || (!(bt198.2.2.1 == bt209.2.2.1) || (!(bt198.2.2.2.1 == bt209.2.2.2))))) = true then (backseatlaw16_SizeTells.j0 k bt204.1 bt204.2.1 bt204.2.2 true bt216.1 bt216.2.1 bt216.2.2.1 bt216.2.2.2) else (if bt209.1 > 0 then (if bt198.2.2.2.2 = 0 then ((backseatlaw16_alive.f k).bind fun t222 => (backseatlaw16_SizeTells.j0 k bt204.1 bt204.2.1 bt204.2.2 (!t222) bt216.1 bt216.2.1 bt216.2.2.1 bt216.2.2.2)) else (backseatlaw16_SizeTells.j0 k bt204.1 bt204.2.1 bt204.2.2 true bt216.1 bt216.2.1 bt216.2.2.1 bt216.2.2.2)) else ((backseatlaw16_alive.f k).bind fun t223 => (backseatlaw16_SizeTells.j0 k bt204.1 bt204.2.1 bt204.2.2 (!t223) bt216.1 bt216.2.1 bt216.2.2.1 bt216.2.2.2)))) else (backseatlaw16_SizeTells.j0 k bt204.1 bt204.2.1 bt204.2.2 true bt216.1 bt216.2.1 bt216.2.2.1 bt216.2.2.2)) else (if bt209.1 > 0 then (if bt198.2.2.2.2 = 0 then (if (!(bt198.1 == bt209.1) || (!(bt198.2.1 == bt209.2.1) || (!(bt198.2.2.1 == bt209.2.2.1) || (!(bt198.2.2.2.1 == bt209.2.2.2))))) = true then (backseatlaw16_SizeTells.j0 k bt204.1 bt204.2.1 bt204.2.2 true bt216.1 bt216.2.1 bt216.2.2.1 bt216.2.2.2) else ((backseatlaw16_alive.f k).bind fun t224 => (backseatlaw16_SizeTells.j0 k bt204.1 bt204.2.1 bt204.2.2 (!t224) bt216.1 bt216.2.1 bt216.2.2.1 bt216.2.2.2))) else (backseatlaw16_SizeTells.j0 k bt204.1 bt204.2.1 bt204.2.2 true bt216.1 bt216.2.1 bt216.2.2.1 bt216.2.2.2)) else ((backseatlaw16_alive.f k).bind fun t225 => (backseatlaw16_SizeTells.j0 k bt204.1 bt204.2.1 bt204.2.2 (!t225) bt216.1 bt216.2.1 bt216.2.2.1 bt216.2.2.2))))))) else ((backseatlaw16_alive.f k).bind fun t208 => (if t208 = true then (if bt198.2.2.2.2 = 1 then (if bt204.2.2 = 1 then (if (bt198.1 == 0 && (bt198.2.1 == 0 && (bt198.2.2.1 == 0 && (bt198.2.2.2.1 == 0)))) = true then (if bt204.1 = 0 then (some (bt204.2.1 == 0)) else (some false)) else (some false)) else (some false)) else (some false)) else (some false))))))) else (none)) else (none))
theorem backseatlaw16_SizeTells.mono_l : ∀ k, (∀ y0 y1 y2 y3 y4 y5 y6 y7, LeO (backseatlaw16_SizeTells.j0 k y0 y1 y2 y3 y4 y5 y6 y7) (backseatlaw16_SizeTells.j0 (k + 1) y0 y1 y2 y3 y4 y5 y6 y7))
 | 0 => fun _ _ _ _ _ _ _ _ r h => by simp [backseatlaw16_SizeTells.j0] at h
 | k + 1 => by
  have ih0 := backseatlaw16_SizeTells.mono_l k
  ·intro y0 y1 y2 y3 y4 y5 y6 y7
   unfold backseatlaw16_SizeTells.j0
   repeat' first
   | (with_reducible exact ih0 _ _ _ _ _ _ _ _)
   | (with_reducible exact backseatlaw16_alive.mono _)
   | (with_reducible exact backseatref16_Latest.mono _ _)
   | (with_reducible exact backseatref16_Right.mono _ _)
   | (with_reducible exact backseatref16_Some.mono _ _ _)
   | (with_reducible exact LeO.refl _)
   | (with_reducible exact LeO.none _)
   | (with_reducible refine LeO.ite ?_ ?_)
   | (with_reducible refine LeO.bind ?_ (fun _ => ?_))
   | exact ih0 _ _ _ _ _ _ _ _
   | exact backseatlaw16_alive.mono _
   | exact backseatref16_Latest.mono _ _
   | exact backseatref16_Right.mono _ _
   | exact backseatref16_Some.mono _ _ _
   | exact LeO.none _
   | refine LeO.ite ?_ ?_
   | refine LeO.bind ?_ (fun _ => ?_)
theorem backseatlaw16_SizeTells.mono : ∀ a0 a1 k, LeO (backseatlaw16_SizeTells.f k a0 a1) (backseatlaw16_SizeTells.f (k + 1) a0 a1) := by
 intro a0 a1 k
 have ih0 := backseatlaw16_SizeTells.mono_l k
 unfold backseatlaw16_SizeTells.f
 repeat' first
   | (with_reducible exact ih0 _ _ _ _ _ _ _ _)
   | (with_reducible exact backseatlaw16_alive.mono _)
   | (with_reducible exact backseatref16_Latest.mono _ _)
   | (with_reducible exact backseatref16_Right.mono _ _)
   | (with_reducible exact backseatref16_Some.mono _ _ _)
   | (with_reducible exact LeO.refl _)
   | (with_reducible exact LeO.none _)
   | (with_reducible refine LeO.ite ?_ ?_)
   | (with_reducible refine LeO.bind ?_ (fun _ => ?_))
   | exact ih0 _ _ _ _ _ _ _ _
   | exact backseatlaw16_alive.mono _
   | exact backseatref16_Latest.mono _ _
   | exact backseatref16_Right.mono _ _
   | exact backseatref16_Some.mono _ _ _
   | exact LeO.none _
   | refine LeO.ite ?_ ?_
   | refine LeO.bind ?_ (fun _ => ?_)
def backseatlaw16_SizeTells.T1 : Bool × List (List Nat × List Nat) := (true, [([], []), ([0], [0]), ([], []), ([], []), ([3], [3]), ([4], [4]), ([2, 5], [2, 5]), ([1, 1, 0, 1], [0, 1]), ([6, 7, 0, 1, 2, 3, 4, 5, 6, 7], [2, 3, 6])])
def backseatlaw16_SizeTells.B1 : List Nat := [0, 1, 0, 0, 8, 24, 60, 3, 255]
theorem backseatlaw16_SizeTells.tab1 : rtab .any (opsOf Try.f6 1) = backseatlaw16_SizeTells.T1 := by kernel_rfl
theorem backseatlaw16_SizeTells.bits1 : waitsOk backseatlaw16_SizeTells.T1.2 backseatlaw16_SizeTells.B1 = true := by kernel_rfl
set_option maxHeartbeats 8000000 in
set_option maxRecDepth 100000 in
theorem backseatlaw16_SizeTells.calls (k : Nat) (A0 : Option Addr) (c0 : Nat) (l0 : List (S48)) (A1 : Option Addr) (c1 : Nat) (l1 : List Int) (r : Bool) (w : World) (hr0 : Kd.C k48 w A0 l0.length l0) (hc0 : l0.length ≤ c0) (hr1 : Kd.C (Kd.int .i64) w A1 l1.length l1) (hc1 : l1.length ≤ c1) (h : backseatlaw16_SizeTells.f k l0 l1 = some r) :
  Calls Try.prog 6 #[.slice A0 l0.length c0, .slice A1 l1.length c1] w fun e w' => e = .returned (.bool r) ∧ Below w.heap.size w w' := by
 have hu48 := Try.underlying48
 have HR0 := Aside0.mk hr0
 have HC0 := Aside0.mk hc0
 clear hr0 hc0
 have HR1 := Aside0.mk hr1
 have HC1 := Aside0.mk hc1
 clear hr1 hc1
 have HB := Aside0.mk (Below.refl w.heap.size w)
 have H : ((backseatlaw16_few.f l0).bind fun t194 => (if 0 ≤ (mn (l1.length : Int) 12) then (if (mn (l1.length : Int) 12) ≤ (l1.length : Int) then ((size_Latest.f t194).bind fun bt198 => ((size_Of.f t194 (l1.take ((mn (l1.length : Int) 12) : Int).toNat)).bind fun bt204 => ((backseatref16_Right.f k t194).bind fun t207 => (if t207 = true then ((backseatref16_Latest.f k t194).bind fun bt209 => ((backseatref16_Some.f k t194 (l1.take ((mn (l1.length : Int) 12) : Int).toNat)).bind fun t213 => ((backseatref16_Latest.f k t213).bind fun bt216 => (if bt209.1 = 0 then (if bt198.2.2.2.2 = 5 then (if (!(bt198.1 == bt209.1) || (!(bt198.2.1 == bt209.2.1) || (!(bt198.2.2.1 == bt209.2.2.1) || (!(bt198.2.2.2.1 == bt209.2.2.2))))) = true then (backseatlaw16_SizeTells.j0 k bt204.1 bt204.2.1 bt204.2.2 true bt216.1 bt216.2.1 bt216.2.2.1 bt216.2.2.2) else (if bt209.1 > 0 then (if bt198.2.2.2.2 = 0 then ((backseatlaw16_alive.f k).bind fun t222 => (backseatlaw16_SizeTells.j0 k bt204.1 bt204.2.1 bt204.2.2 (!t222) bt216.1 bt216.2.1 bt216.2.2.1 bt216.2.2.2)) else (backseatlaw16_SizeTells.j0 k bt204.1 bt204.2.1 bt204.2.2 true bt216.1 bt216.2.1 bt216.2.2.1 bt216.2.2.2)) else ((backseatlaw16_alive.f k).bind fun t223 => (backseatlaw16_SizeTells.j0 k bt204.1 bt204.2.1 bt204.2.2 (!t223) bt216.1 bt216.2.1 bt216.2.2.1 bt216.2.2.2)))) else (backseatlaw16_SizeTells.j0 k bt204.1 bt204.2.1 bt204.2.2 true bt216.1 bt216.2.1 bt216.2.2.1 bt216.2.2.2)) else (if bt209.1 > 0 then (if bt198.2.2.2.2 = 0 then (if (!(bt198.1 == bt209.1) || (!(bt198.2.1 == bt209.2.1) || (!(bt198.2.2.1 == bt209.2.2.1) || (!(bt198.2.2.2.1 == bt209.2.2.2))))) = true then (backseatlaw16_SizeTells.j0 k bt204.1 bt204.2.1 bt204.2.2 true bt216.1 bt216.2.1 bt216.2.2.1 bt216.2.2.2) else ((backseatlaw16_alive.f k).bind fun t224 => (backseatlaw16_SizeTells.j0 k bt204.1 bt204.2.1 bt204.2.2 (!t224) bt216.1 bt216.2.1 bt216.2.2.1 bt216.2.2.2))) else (backseatlaw16_SizeTells.j0 k bt204.1 bt204.2.1 bt204.2.2 true bt216.1 bt216.2.1 bt216.2.2.1 bt216.2.2.2)) else ((backseatlaw16_alive.f k).bind fun t225 => (backseatlaw16_SizeTells.j0 k bt204.1 bt204.2.1 bt204.2.2 (!t225) bt216.1 bt216.2.1 bt216.2.2.1 bt216.2.2.2))))))) else ((backseatlaw16_alive.f k).bind fun t208 => (if t208 = true then (if bt198.2.2.2.2 = 1 then (if bt204.2.2 = 1 then (if (bt198.1 == 0 && (bt198.2.1 == 0 && (bt198.2.2.1 == 0 && (bt198.2.2.2.1 == 0)))) = true then (if bt204.1 = 0 then (some (bt204.2.1 == 0)) else (some false)) else (some false)) else (some false)) else (some false)) else (some false))))))) else (none)) else (none))) = some r := h
 clear h
 replace H := Option.bind_eq_some_iff.mp H
 obtain ⟨t194, A30, H⟩ := H
 replace H : (if 0 ≤ (mn (l1.length : Int) 12) then (if (mn (l1.length : Int) 12) ≤ (l1.length : Int) then ((size_Latest.f t194).bind fun bt198 => ((size_Of.f t194 (l1.take ((mn (l1.length : Int) 12) : Int).toNat)).bind fun bt204 => ((backseatref16_Right.f k t194).bind fun t207 => (if t207 = true then ((backseatref16_Latest.f k t194).bind fun bt209 => ((backseatref16_Some.f k t194 (l1.take ((mn (l1.length : Int) 12) : Int).toNat)).bind fun t213 => ((backseatref16_Latest.f k t213).bind fun bt216 => (if bt209.1 = 0 then (if bt198.2.2.2.2 = 5 then (if (!(bt198.1 == bt209.1) || (!(bt198.2.1 == bt209.2.1) || (!(bt198.2.2.1 == bt209.2.2.1) || (!(bt198.2.2.2.1 == bt209.2.2.2))))) = true then (backseatlaw16_SizeTells.j0 k bt204.1 bt204.2.1 bt204.2.2 true bt216.1 bt216.2.1 bt216.2.2.1 bt216.2.2.2) else (if bt209.1 > 0 then (if bt198.2.2.2.2 = 0 then ((backseatlaw16_alive.f k).bind fun t222 => (backseatlaw16_SizeTells.j0 k bt204.1 bt204.2.1 bt204.2.2 (!t222) bt216.1 bt216.2.1 bt216.2.2.1 bt216.2.2.2)) else (backseatlaw16_SizeTells.j0 k bt204.1 bt204.2.1 bt204.2.2 true bt216.1 bt216.2.1 bt216.2.2.1 bt216.2.2.2)) else ((backseatlaw16_alive.f k).bind fun t223 => (backseatlaw16_SizeTells.j0 k bt204.1 bt204.2.1 bt204.2.2 (!t223) bt216.1 bt216.2.1 bt216.2.2.1 bt216.2.2.2)))) else (backseatlaw16_SizeTells.j0 k bt204.1 bt204.2.1 bt204.2.2 true bt216.1 bt216.2.1 bt216.2.2.1 bt216.2.2.2)) else (if bt209.1 > 0 then (if bt198.2.2.2.2 = 0 then (if (!(bt198.1 == bt209.1) || (!(bt198.2.1 == bt209.2.1) || (!(bt198.2.2.1 == bt209.2.2.1) || (!(bt198.2.2.2.1 == bt209.2.2.2))))) = true then (backseatlaw16_SizeTells.j0 k bt204.1 bt204.2.1 bt204.2.2 true bt216.1 bt216.2.1 bt216.2.2.1 bt216.2.2.2) else ((backseatlaw16_alive.f k).bind fun t224 => (backseatlaw16_SizeTells.j0 k bt204.1 bt204.2.1 bt204.2.2 (!t224) bt216.1 bt216.2.1 bt216.2.2.1 bt216.2.2.2))) else (backseatlaw16_SizeTells.j0 k bt204.1 bt204.2.1 bt204.2.2 true bt216.1 bt216.2.1 bt216.2.2.1 bt216.2.2.2)) else ((backseatlaw16_alive.f k).bind fun t225 => (backseatlaw16_SizeTells.j0 k bt204.1 bt204.2.1 bt204.2.2 (!t225) bt216.1 bt216.2.1 bt216.2.2.1 bt216.2.2.2))))))) else ((backseatlaw16_alive.f k).bind fun t208 => (if t208 = true then (if bt198.2.2.2.2 = 1 then (if bt204.2.2 = 1 then (if (bt198.1 == 0 && (bt198.2.1 == 0 && (bt198.2.2.1 == 0 && (bt198.2.2.2.1 == 0)))) = true then (if bt204.1 = 0 then (some (bt204.2.1 == 0)) else (some false)) else (some false)) else (some false)) else (some false)) else (some false))))))) else (none)) else (none)) = some r := H
 have A3 := Aside0.mk A30
 clear A30
 obtain ⟨ji4, hji4⟩ : ∃ j_ : Int, (mn (l1.length : Int) 12) = j_ := ⟨_, rfl⟩
 replace H : (if 0 ≤ (ji4) then (if (ji4) ≤ (l1.length : Int) then ((size_Latest.f t194).bind fun bt198 => ((size_Of.f t194 (l1.take ((ji4) : Int).toNat)).bind fun bt204 => ((backseatref16_Right.f k t194).bind fun t207 => (if t207 = true then ((backseatref16_Latest.f k t194).bind fun bt209 => ((backseatref16_Some.f k t194 (l1.take ((ji4) : Int).toNat)).bind fun t213 => ((backseatref16_Latest.f k t213).bind fun bt216 => (if bt209.1 = 0 then (if bt198.2.2.2.2 = 5 then (if (!(bt198.1 == bt209.1) || (!(bt198.2.1 == bt209.2.1) || (!(bt198.2.2.1 == bt209.2.2.1) || (!(bt198.2.2.2.1 == bt209.2.2.2))))) = true then (backseatlaw16_SizeTells.j0 k bt204.1 bt204.2.1 bt204.2.2 true bt216.1 bt216.2.1 bt216.2.2.1 bt216.2.2.2) else (if bt209.1 > 0 then (if bt198.2.2.2.2 = 0 then ((backseatlaw16_alive.f k).bind fun t222 => (backseatlaw16_SizeTells.j0 k bt204.1 bt204.2.1 bt204.2.2 (!t222) bt216.1 bt216.2.1 bt216.2.2.1 bt216.2.2.2)) else (backseatlaw16_SizeTells.j0 k bt204.1 bt204.2.1 bt204.2.2 true bt216.1 bt216.2.1 bt216.2.2.1 bt216.2.2.2)) else ((backseatlaw16_alive.f k).bind fun t223 => (backseatlaw16_SizeTells.j0 k bt204.1 bt204.2.1 bt204.2.2 (!t223) bt216.1 bt216.2.1 bt216.2.2.1 bt216.2.2.2)))) else (backseatlaw16_SizeTells.j0 k bt204.1 bt204.2.1 bt204.2.2 true bt216.1 bt216.2.1 bt216.2.2.1 bt216.2.2.2)) else (if bt209.1 > 0 then (if bt198.2.2.2.2 = 0 then (if (!(bt198.1 == bt209.1) || (!(bt198.2.1 == bt209.2.1) || (!(bt198.2.2.1 == bt209.2.2.1) || (!(bt198.2.2.2.1 == bt209.2.2.2))))) = true then (backseatlaw16_SizeTells.j0 k bt204.1 bt204.2.1 bt204.2.2 true bt216.1 bt216.2.1 bt216.2.2.1 bt216.2.2.2) else ((backseatlaw16_alive.f k).bind fun t224 => (backseatlaw16_SizeTells.j0 k bt204.1 bt204.2.1 bt204.2.2 (!t224) bt216.1 bt216.2.1 bt216.2.2.1 bt216.2.2.2))) else (backseatlaw16_SizeTells.j0 k bt204.1 bt204.2.1 bt204.2.2 true bt216.1 bt216.2.1 bt216.2.2.1 bt216.2.2.2)) else ((backseatlaw16_alive.f k).bind fun t225 => (backseatlaw16_SizeTells.j0 k bt204.1 bt204.2.1 bt204.2.2 (!t225) bt216.1 bt216.2.1 bt216.2.2.1 bt216.2.2.2))))))) else ((backseatlaw16_alive.f k).bind fun t208 => (if t208 = true then (if bt198.2.2.2.2 = 1 then (if bt204.2.2 = 1 then (if (bt198.1 == 0 && (bt198.2.1 == 0 && (bt198.2.2.1 == 0 && (bt198.2.2.2.1 == 0)))) = true then (if bt204.1 = 0 then (some (bt204.2.1 == 0)) else (some false)) else (some false)) else (some false)) else (some false)) else (some false))))))) else (none)) else (none)) = some r := by first | (rw [hji4] at H; exact H) | (simp only [hji4] at H ⊢; exact H)
 (try rw [hji4] at A3)
 (try (have hji4h : ji4 ≤ 12 := by (rw [← hji4]; unfold mn; (repeat' split) <;> omega)))
 (try (have hji4g : ji4 ≤ 64 := by omega))
 (try (have hji4l : 0 ≤ ji4 := by (rw [← hji4]; unfold mn; (repeat' split) <;> omega)))
 (try (have hji4m : 0 ≤ ji4 := by omega))
 have hji4_ : (if 12 < (l1.length : Int) then 12 else (l1.length : Int)) = ji4 := hji4
 by_cases c5 : 0 ≤ (ji4)
 ·rw [if_pos c5] at H
  have c5b0 := eq_true c5
  have c5b1 : decide (0 ≤ (ji4)) = true := decide_eq_true c5
  clear c5
  by_cases c6 : (ji4) ≤ (l1.length : Int)
  ·rw [if_pos c6] at H
   have c6b0 := eq_true c6
   have c6b1 : decide ((ji4) ≤ (l1.length : Int)) = true := decide_eq_true c6
   clear c6
   replace H := Option.bind_eq_some_iff.mp H
   obtain ⟨⟨t198, t199, t200, t201, t202⟩, A70, H⟩ := H
   replace H : ((size_Of.f t194 (l1.take ((ji4) : Int).toNat)).bind fun bt204 => ((backseatref16_Right.f k t194).bind fun t207 => (if t207 = true then ((backseatref16_Latest.f k t194).bind fun bt209 => ((backseatref16_Some.f k t194 (l1.take ((ji4) : Int).toNat)).bind fun t213 => ((backseatref16_Latest.f k t213).bind fun bt216 => (if bt209.1 = 0 then (if t202 = 5 then (if (!(t198 == bt209.1) || (!(t199 == bt209.2.1) || (!(t200 == bt209.2.2.1) || (!(t201 == bt209.2.2.2))))) = true then (backseatlaw16_SizeTells.j0 k bt204.1 bt204.2.1 bt204.2.2 true bt216.1 bt216.2.1 bt216.2.2.1 bt216.2.2.2) else (if bt209.1 > 0 then (if t202 = 0 then ((backseatlaw16_alive.f k).bind fun t222 => (backseatlaw16_SizeTells.j0 k bt204.1 bt204.2.1 bt204.2.2 (!t222) bt216.1 bt216.2.1 bt216.2.2.1 bt216.2.2.2)) else (backseatlaw16_SizeTells.j0 k bt204.1 bt204.2.1 bt204.2.2 true bt216.1 bt216.2.1 bt216.2.2.1 bt216.2.2.2)) else ((backseatlaw16_alive.f k).bind fun t223 => (backseatlaw16_SizeTells.j0 k bt204.1 bt204.2.1 bt204.2.2 (!t223) bt216.1 bt216.2.1 bt216.2.2.1 bt216.2.2.2)))) else (backseatlaw16_SizeTells.j0 k bt204.1 bt204.2.1 bt204.2.2 true bt216.1 bt216.2.1 bt216.2.2.1 bt216.2.2.2)) else (if bt209.1 > 0 then (if t202 = 0 then (if (!(t198 == bt209.1) || (!(t199 == bt209.2.1) || (!(t200 == bt209.2.2.1) || (!(t201 == bt209.2.2.2))))) = true then (backseatlaw16_SizeTells.j0 k bt204.1 bt204.2.1 bt204.2.2 true bt216.1 bt216.2.1 bt216.2.2.1 bt216.2.2.2) else ((backseatlaw16_alive.f k).bind fun t224 => (backseatlaw16_SizeTells.j0 k bt204.1 bt204.2.1 bt204.2.2 (!t224) bt216.1 bt216.2.1 bt216.2.2.1 bt216.2.2.2))) else (backseatlaw16_SizeTells.j0 k bt204.1 bt204.2.1 bt204.2.2 true bt216.1 bt216.2.1 bt216.2.2.1 bt216.2.2.2)) else ((backseatlaw16_alive.f k).bind fun t225 => (backseatlaw16_SizeTells.j0 k bt204.1 bt204.2.1 bt204.2.2 (!t225) bt216.1 bt216.2.1 bt216.2.2.1 bt216.2.2.2))))))) else ((backseatlaw16_alive.f k).bind fun t208 => (if t208 = true then (if t202 = 1 then (if bt204.2.2 = 1 then (if (t198 == 0 && (t199 == 0 && (t200 == 0 && (t201 == 0)))) = true then (if bt204.1 = 0 then (some (bt204.2.1 == 0)) else (some false)) else (some false)) else (some false)) else (some false)) else (some false)))))) = some r := H
   have A7 := Aside0.mk A70
   clear A70
   replace H := Option.bind_eq_some_iff.mp H
   obtain ⟨⟨t204, t205, t206⟩, A80, H⟩ := H
   replace H : ((backseatref16_Right.f k t194).bind fun t207 => (if t207 = true then ((backseatref16_Latest.f k t194).bind fun bt209 => ((backseatref16_Some.f k t194 (l1.take ((ji4) : Int).toNat)).bind fun t213 => ((backseatref16_Latest.f k t213).bind fun bt216 => (if bt209.1 = 0 then (if t202 = 5 then (if (!(t198 == bt209.1) || (!(t199 == bt209.2.1) || (!(t200 == bt209.2.2.1) || (!(t201 == bt209.2.2.2))))) = true then (backseatlaw16_SizeTells.j0 k t204 t205 t206 true bt216.1 bt216.2.1 bt216.2.2.1 bt216.2.2.2) else (if bt209.1 > 0 then (if t202 = 0 then ((backseatlaw16_alive.f k).bind fun t222 => (backseatlaw16_SizeTells.j0 k t204 t205 t206 (!t222) bt216.1 bt216.2.1 bt216.2.2.1 bt216.2.2.2)) else (backseatlaw16_SizeTells.j0 k t204 t205 t206 true bt216.1 bt216.2.1 bt216.2.2.1 bt216.2.2.2)) else ((backseatlaw16_alive.f k).bind fun t223 => (backseatlaw16_SizeTells.j0 k t204 t205 t206 (!t223) bt216.1 bt216.2.1 bt216.2.2.1 bt216.2.2.2)))) else (backseatlaw16_SizeTells.j0 k t204 t205 t206 true bt216.1 bt216.2.1 bt216.2.2.1 bt216.2.2.2)) else (if bt209.1 > 0 then (if t202 = 0 then (if (!(t198 == bt209.1) || (!(t199 == bt209.2.1) || (!(t200 == bt209.2.2.1) || (!(t201 == bt209.2.2.2))))) = true then (backseatlaw16_SizeTells.j0 k t204 t205 t206 true bt216.1 bt216.2.1 bt216.2.2.1 bt216.2.2.2) else ((backseatlaw16_alive.f k).bind fun t224 => (backseatlaw16_SizeTells.j0 k t204 t205 t206 (!t224) bt216.1 bt216.2.1 bt216.2.2.1 bt216.2.2.2))) else (backseatlaw16_SizeTells.j0 k t204 t205 t206 true bt216.1 bt216.2.1 bt216.2.2.1 bt216.2.2.2)) else ((backseatlaw16_alive.f k).bind fun t225 => (backseatlaw16_SizeTells.j0 k t204 t205 t206 (!t225) bt216.1 bt216.2.1 bt216.2.2.1 bt216.2.2.2))))))) else ((backseatlaw16_alive.f k).bind fun t208 => (if t208 = true then (if t202 = 1 then (if t206 = 1 then (if (t198 == 0 && (t199 == 0 && (t200 == 0 && (t201 == 0)))) = true then (if t204 = 0 then (some (t205 == 0)) else (some false)) else (some false)) else (some false)) else (some false)) else (some false))))) = some r := H
   have A8 := Aside0.mk A80
   clear A80
   replace H := Option.bind_eq_some_iff.mp H
   obtain ⟨t207, A90, H⟩ := H
   replace H : (if t207 = true then ((backseatref16_Latest.f k t194).bind fun bt209 => ((backseatref16_Some.f k t194 (l1.take ((ji4) : Int).toNat)).bind fun t213 => ((backseatref16_Latest.f k t213).bind fun bt216 => (if bt209.1 = 0 then (if t202 = 5 then (if (!(t198 == bt209.1) || (!(t199 == bt209.2.1) || (!(t200 == bt209.2.2.1) || (!(t201 == bt209.2.2.2))))) = true then (backseatlaw16_SizeTells.j0 k t204 t205 t206 true bt216.1 bt216.2.1 bt216.2.2.1 bt216.2.2.2) else (if bt209.1 > 0 then (if t202 = 0 then ((backseatlaw16_alive.f k).bind fun t222 => (backseatlaw16_SizeTells.j0 k t204 t205 t206 (!t222) bt216.1 bt216.2.1 bt216.2.2.1 bt216.2.2.2)) else (backseatlaw16_SizeTells.j0 k t204 t205 t206 true bt216.1 bt216.2.1 bt216.2.2.1 bt216.2.2.2)) else ((backseatlaw16_alive.f k).bind fun t223 => (backseatlaw16_SizeTells.j0 k t204 t205 t206 (!t223) bt216.1 bt216.2.1 bt216.2.2.1 bt216.2.2.2)))) else (backseatlaw16_SizeTells.j0 k t204 t205 t206 true bt216.1 bt216.2.1 bt216.2.2.1 bt216.2.2.2)) else (if bt209.1 > 0 then (if t202 = 0 then (if (!(t198 == bt209.1) || (!(t199 == bt209.2.1) || (!(t200 == bt209.2.2.1) || (!(t201 == bt209.2.2.2))))) = true then (backseatlaw16_SizeTells.j0 k t204 t205 t206 true bt216.1 bt216.2.1 bt216.2.2.1 bt216.2.2.2) else ((backseatlaw16_alive.f k).bind fun t224 => (backseatlaw16_SizeTells.j0 k t204 t205 t206 (!t224) bt216.1 bt216.2.1 bt216.2.2.1 bt216.2.2.2))) else (backseatlaw16_SizeTells.j0 k t204 t205 t206 true bt216.1 bt216.2.1 bt216.2.2.1 bt216.2.2.2)) else ((backseatlaw16_alive.f k).bind fun t225 => (backseatlaw16_SizeTells.j0 k t204 t205 t206 (!t225) bt216.1 bt216.2.1 bt216.2.2.1 bt216.2.2.2))))))) else ((backseatlaw16_alive.f k).bind fun t208 => (if t208 = true then (if t202 = 1 then (if t206 = 1 then (if (t198 == 0 && (t199 == 0 && (t200 == 0 && (t201 == 0)))) = true then (if t204 = 0 then (some (t205 == 0)) else (some false)) else (some false)) else (some false)) else (some false)) else (some false)))) = some r := H
   have A9 := Aside0.mk A90
   clear A90
   by_cases c10 : t207 = true
   ·subst c10
    have H1 : ((backseatref16_Latest.f k t194).bind fun bt209 => ((backseatref16_Some.f k t194 (l1.take ((ji4) : Int).toNat)).bind fun t213 => ((backseatref16_Latest.f k t213).bind fun bt216 => (if bt209.1 = 0 then (if t202 = 5 then (if (!(t198 == bt209.1) || (!(t199 == bt209.2.1) || (!(t200 == bt209.2.2.1) || (!(t201 == bt209.2.2.2))))) = true then (backseatlaw16_SizeTells.j0 k t204 t205 t206 true bt216.1 bt216.2.1 bt216.2.2.1 bt216.2.2.2) else (if bt209.1 > 0 then (if t202 = 0 then ((backseatlaw16_alive.f k).bind fun t222 => (backseatlaw16_SizeTells.j0 k t204 t205 t206 (!t222) bt216.1 bt216.2.1 bt216.2.2.1 bt216.2.2.2)) else (backseatlaw16_SizeTells.j0 k t204 t205 t206 true bt216.1 bt216.2.1 bt216.2.2.1 bt216.2.2.2)) else ((backseatlaw16_alive.f k).bind fun t223 => (backseatlaw16_SizeTells.j0 k t204 t205 t206 (!t223) bt216.1 bt216.2.1 bt216.2.2.1 bt216.2.2.2)))) else (backseatlaw16_SizeTells.j0 k t204 t205 t206 true bt216.1 bt216.2.1 bt216.2.2.1 bt216.2.2.2)) else (if bt209.1 > 0 then (if t202 = 0 then (if (!(t198 == bt209.1) || (!(t199 == bt209.2.1) || (!(t200 == bt209.2.2.1) || (!(t201 == bt209.2.2.2))))) = true then (backseatlaw16_SizeTells.j0 k t204 t205 t206 true bt216.1 bt216.2.1 bt216.2.2.1 bt216.2.2.2) else ((backseatlaw16_alive.f k).bind fun t224 => (backseatlaw16_SizeTells.j0 k t204 t205 t206 (!t224) bt216.1 bt216.2.1 bt216.2.2.1 bt216.2.2.2))) else (backseatlaw16_SizeTells.j0 k t204 t205 t206 true bt216.1 bt216.2.1 bt216.2.2.1 bt216.2.2.2)) else ((backseatlaw16_alive.f k).bind fun t225 => (backseatlaw16_SizeTells.j0 k t204 t205 t206 (!t225) bt216.1 bt216.2.1 bt216.2.2.1 bt216.2.2.2))))))) = some r := by rw [if_pos rfl] at H; exact H
    clear H
    have H := H1
    clear H1
    replace H := Option.bind_eq_some_iff.mp H
    obtain ⟨⟨t209, t210, t211, t212⟩, A110, H⟩ := H
    replace H : ((backseatref16_Some.f k t194 (l1.take ((ji4) : Int).toNat)).bind fun t213 => ((backseatref16_Latest.f k t213).bind fun bt216 => (if t209 = 0 then (if t202 = 5 then (if (!(t198 == t209) || (!(t199 == t210) || (!(t200 == t211) || (!(t201 == t212))))) = true then (backseatlaw16_SizeTells.j0 k t204 t205 t206 true bt216.1 bt216.2.1 bt216.2.2.1 bt216.2.2.2) else (if t209 > 0 then (if t202 = 0 then ((backseatlaw16_alive.f k).bind fun t222 => (backseatlaw16_SizeTells.j0 k t204 t205 t206 (!t222) bt216.1 bt216.2.1 bt216.2.2.1 bt216.2.2.2)) else (backseatlaw16_SizeTells.j0 k t204 t205 t206 true bt216.1 bt216.2.1 bt216.2.2.1 bt216.2.2.2)) else ((backseatlaw16_alive.f k).bind fun t223 => (backseatlaw16_SizeTells.j0 k t204 t205 t206 (!t223) bt216.1 bt216.2.1 bt216.2.2.1 bt216.2.2.2)))) else (backseatlaw16_SizeTells.j0 k t204 t205 t206 true bt216.1 bt216.2.1 bt216.2.2.1 bt216.2.2.2)) else (if t209 > 0 then (if t202 = 0 then (if (!(t198 == t209) || (!(t199 == t210) || (!(t200 == t211) || (!(t201 == t212))))) = true then (backseatlaw16_SizeTells.j0 k t204 t205 t206 true bt216.1 bt216.2.1 bt216.2.2.1 bt216.2.2.2) else ((backseatlaw16_alive.f k).bind fun t224 => (backseatlaw16_SizeTells.j0 k t204 t205 t206 (!t224) bt216.1 bt216.2.1 bt216.2.2.1 bt216.2.2.2))) else (backseatlaw16_SizeTells.j0 k t204 t205 t206 true bt216.1 bt216.2.1 bt216.2.2.1 bt216.2.2.2)) else ((backseatlaw16_alive.f k).bind fun t225 => (backseatlaw16_SizeTells.j0 k t204 t205 t206 (!t225) bt216.1 bt216.2.1 bt216.2.2.1 bt216.2.2.2)))))) = some r := H
    have A11 := Aside0.mk A110
    clear A110
    replace H := Option.bind_eq_some_iff.mp H
    obtain ⟨t213, A120, H⟩ := H
    replace H : ((backseatref16_Latest.f k t213).bind fun bt216 => (if t209 = 0 then (if t202 = 5 then (if (!(t198 == t209) || (!(t199 == t210) || (!(t200 == t211) || (!(t201 == t212))))) = true then (backseatlaw16_SizeTells.j0 k t204 t205 t206 true bt216.1 bt216.2.1 bt216.2.2.1 bt216.2.2.2) else (if t209 > 0 then (if t202 = 0 then ((backseatlaw16_alive.f k).bind fun t222 => (backseatlaw16_SizeTells.j0 k t204 t205 t206 (!t222) bt216.1 bt216.2.1 bt216.2.2.1 bt216.2.2.2)) else (backseatlaw16_SizeTells.j0 k t204 t205 t206 true bt216.1 bt216.2.1 bt216.2.2.1 bt216.2.2.2)) else ((backseatlaw16_alive.f k).bind fun t223 => (backseatlaw16_SizeTells.j0 k t204 t205 t206 (!t223) bt216.1 bt216.2.1 bt216.2.2.1 bt216.2.2.2)))) else (backseatlaw16_SizeTells.j0 k t204 t205 t206 true bt216.1 bt216.2.1 bt216.2.2.1 bt216.2.2.2)) else (if t209 > 0 then (if t202 = 0 then (if (!(t198 == t209) || (!(t199 == t210) || (!(t200 == t211) || (!(t201 == t212))))) = true then (backseatlaw16_SizeTells.j0 k t204 t205 t206 true bt216.1 bt216.2.1 bt216.2.2.1 bt216.2.2.2) else ((backseatlaw16_alive.f k).bind fun t224 => (backseatlaw16_SizeTells.j0 k t204 t205 t206 (!t224) bt216.1 bt216.2.1 bt216.2.2.1 bt216.2.2.2))) else (backseatlaw16_SizeTells.j0 k t204 t205 t206 true bt216.1 bt216.2.1 bt216.2.2.1 bt216.2.2.2)) else ((backseatlaw16_alive.f k).bind fun t225 => (backseatlaw16_SizeTells.j0 k t204 t205 t206 (!t225) bt216.1 bt216.2.1 bt216.2.2.1 bt216.2.2.2))))) = some r := H
    have A12 := Aside0.mk A120
    clear A120
    replace H := Option.bind_eq_some_iff.mp H
    obtain ⟨⟨t216, t217, t218, t219⟩, A130, H⟩ := H
    replace H : (if t209 = 0 then (if t202 = 5 then (if (!(t198 == t209) || (!(t199 == t210) || (!(t200 == t211) || (!(t201 == t212))))) = true then (backseatlaw16_SizeTells.j0 k t204 t205 t206 true t216 t217 t218 t219) else (if t209 > 0 then (if t202 = 0 then ((backseatlaw16_alive.f k).bind fun t222 => (backseatlaw16_SizeTells.j0 k t204 t205 t206 (!t222) t216 t217 t218 t219)) else (backseatlaw16_SizeTells.j0 k t204 t205 t206 true t216 t217 t218 t219)) else ((backseatlaw16_alive.f k).bind fun t223 => (backseatlaw16_SizeTells.j0 k t204 t205 t206 (!t223) t216 t217 t218 t219)))) else (backseatlaw16_SizeTells.j0 k t204 t205 t206 true t216 t217 t218 t219)) else (if t209 > 0 then (if t202 = 0 then (if (!(t198 == t209) || (!(t199 == t210) || (!(t200 == t211) || (!(t201 == t212))))) = true then (backseatlaw16_SizeTells.j0 k t204 t205 t206 true t216 t217 t218 t219) else ((backseatlaw16_alive.f k).bind fun t224 => (backseatlaw16_SizeTells.j0 k t204 t205 t206 (!t224) t216 t217 t218 t219))) else (backseatlaw16_SizeTells.j0 k t204 t205 t206 true t216 t217 t218 t219)) else ((backseatlaw16_alive.f k).bind fun t225 => (backseatlaw16_SizeTells.j0 k t204 t205 t206 (!t225) t216 t217 t218 t219)))) = some r := H
    have A13 := Aside0.mk A130
    clear A130
    have HC14 := Aside0.mk H
    clear H
    go_enter Try.func6, Try.ntmps6
    try go_wp2
    replace HB := Aside0.mk (below_drew1 HB.out)
    obtain ⟨i016, hi016, _, hsz16, _⟩ := info_parts info3
    obtain ⟨hcut16, hA16, hC16⟩ := print_take_of (P := Try.prog) (Value.int .i64) 0 22 3 .i64 Try.underlying22 hi016 hsz16 A1 c1 l1 (ji4) (of_decide_eq_true (by first | (with_reducible assumption) | assumption)) (of_decide_eq_true (by first | (with_reducible assumption) | assumption)) HC1.out
    have HR197 := Aside0.mk (Kd.C_of_reads (h1 := fun _ => rfl) (hA16 _ (Kd.reads_of_C HR1.out)))
    have HC197 := Aside0.mk hC16
    clear hA16 hC16 hi016 hsz16
    refine start_ (n := 9) (S := fun w' => True) (ds := []) #[false, false, false, false, false, false, false, false, false] (by kernel_rfl) rfl rfl trivial (fun hHeld => ?_); refine with_tabW backseatlaw16_SizeTells.tab1 backseatlaw16_SizeTells.bits1 (fun HT_ HW_ => ?_)
    generalize w.drew = w15 at HB HR197 hHeld ⊢
    refine pu HT_.out (i := 0) (N := some 12) (v := ?_) (a' := ?_) #[true, false, false, false, false, false, false, false, false] rfl rfl (by kernel_rfl) (fun _ _ _ h => h) (by rfl) ?_ ?_ ?_; rotate_left; (·intro w'; go_simp; with_reducible rfl); rotate_left; (·simp only [Act.put, s1, s2, s3, i64_w, i32_w]; rfl)
    refine pu HT_.out (i := 2) (N := some 14) (v := ?_) (a' := ?_) #[true, false, true, false, false, false, false, false, false] rfl rfl (by kernel_rfl) (fun _ _ _ h => h) (by rfl) ?_ ?_ ?_; rotate_left; (·intro w'; go_simp; with_reducible rfl); rotate_left; (·simp only [Act.put, s1, s2, s3, i64_w, i32_w]; rfl)
    refine pu HT_.out (i := 3) (N := some 15) (v := ?_) (a' := ?_) #[true, false, true, true, false, false, false, false, false] rfl rfl (by kernel_rfl) (fun _ _ _ h => h) (by rfl) ?_ ?_ ?_; rotate_left; (·intro w'; go_simp; with_reducible rfl); rotate_left; (·simp only [Act.put, s1, s2, s3, i64_w, i32_w]; rfl)
    refine pu HT_.out (i := 4) (N := some 16) (v := ?_) (a' := ?_) #[true, false, true, true, true, false, false, false, false] rfl rfl (by kernel_rfl) (fun _ _ _ h => h) (by rfl) ?_ ?_ ?_; rotate_left; (·intro w'; go_simp; with_reducible rfl); rotate_left; (·simp only [Act.put, s1, s2, s3, i64_w, i32_w]; rfl)
    refine pu HT_.out (i := 5) (N := some 17) (v := ?_) (a' := ?_) #[true, false, true, true, true, true, false, false, false] rfl rfl (by kernel_rfl) (fun _ _ _ h => h) (by rfl) ?_ ?_ ?_; rotate_left; (·intro w'; go_simp; with_reducible rfl); rotate_left; (·simp only [Act.put, s1, s2, s3, i64_w, i32_w]; rfl)
    refine pu HT_.out (i := 6) (N := some 18) (v := ?_) (a' := ?_) #[true, false, true, true, true, true, true, false, false] rfl rfl (by kernel_rfl) (fun _ _ _ h => h) (by rfl) ?_ ?_ ?_; rotate_left; (·intro w'; go_simp; with_reducible rfl); rotate_left; (·simp only [Act.put, s1, s2, s3, i64_w, i32_w]; rfl)
    refine one_ (i := 1) (N := some 13) #[true, true, true, true, true, true, true, false, false] rfl rfl (one_of HT_.out (by kernel_rfl)) (by decide) (fun K hK => ?_)
    refine goes_ Try.func20 (by kernel_rfl) rfl #[.slice A0 l0.length c0] (by rfl) rfl rfl (by (try simp only [List.map_toArray, List.map_cons, List.map_nil]); first | done | rfl | (simp only [List.length_drop, List.length_take]; rfl)) ?_
    with_reducible refine (backseatlaw16_few.calls (fun k_ => k_ < w.heap.size) _ _ l0 t194 _ ?side1 A3.out).mono ?_
    (case side1 => exact Kd.V_mk HC0.out (Kd.F_below (Kd.C_F k48_heap HR0.out) (by first | exact HB.out | exact pw_below_drewN HB.out _ | exact below_drew1 HB.out)))
    rintro e w17 ⟨v195, rfl, ho0, hb⟩
    refine ⟨_, rfl, ?_⟩
    have HO196 := Aside0.mk (Kd.V_lower (Kd.V_mono (ok' := fun k_ => True) ho0 (fun k_ hk_ => trivial)) (below_size (by first | exact HB.out | exact pw_below_drewN HB.out _ | exact below_drew1 HB.out))); replace HB := Aside0.mk (below_step (by first | exact HB.out | exact pw_below_drewN HB.out _ | exact below_drew1 HB.out) hb)
    (try clear hb)
    (try clear hb2)
    (try clear hk)
    (try clear hi)
    (try clear ho0)
    refine hK.out _ _ trivial (fun hHeld => ?_)
    clear hK K
    refine norm_ (a' := ?_) ?_ ?_
    rotate_left
    ·show Act.put _ (some 13) _ = _
     simp only [Act.put, s1, s2, s3, i64_w, i32_w]
     rfl
    refine pu HT_.out (i := 7) (N := some 0) (v := ?_) (a' := ?_) #[true, true, true, true, true, true, true, true, false] rfl rfl (by kernel_rfl) (fun _ _ _ h => h) (by rfl) ?_ ?_ ?_; rotate_left; (·intro w'; go_simp; with_reducible rfl); rotate_left; (·simp only [Act.put, s1, s2, s3, i64_w, i32_w]; rfl)
    refine pu HT_.out (i := 8) (N := some 1) (v := ?_) (a' := ?_) #[true, true, true, true, true, true, true, true, true] rfl rfl (by kernel_rfl) (fun _ _ _ h => h) (by rfl) ?_ ?_ ?_; rotate_left; (·intro w'; go_simp; with_reducible rfl); rotate_left; (·simp only [Act.put, s1, s2, s3, i64_w, i32_w]; rfl)
    refine done_ (done_of HT_.out (by kernel_rfl)) ?_
    obtain ⟨Ao18, co18, eo18⟩ := Kd.V_slice HO196.out
    subst eo18
    go_upto_region 7 with (first | ((with_reducible refine gate_callee (f := 21) rfl ?_); refine goesL_ (some 21) rfl rfl Try.func21 (by kernel_rfl) rfl #[.slice Ao18 t194.length co18] rfl (by (try simp only [List.map_toArray, List.map_cons, List.map_nil]); first | done | rfl | (simp only [List.length_drop, List.length_take]; rfl)) ?_; (with_reducible refine (size_Latest.calls _ _ t194 t198 t199 t200 t201 t202 _ ?side1 ?side2 A7.out).mono ?_); (case side1 => repeat (first | exact (Kd.V_reads' HO196.out).2.2 | (with_reducible refine Kd.C_alloc ?_ _) | (with_reducible refine Kd.C_drewN ?_ _) | (with_reducible refine Kd.C_drew ?_))); (case side2 => exact (Kd.V_reads' HO196.out).2.1); rintro e w19 ⟨rfl, hb⟩; refine ⟨_, rfl, ?_⟩; replace HO196 := Aside0.mk (Kd.V_below (by (with_reducible repeat (first | apply Kd.V_alloc | apply Kd.V_drewN | apply Kd.V_drew)); exact HO196.out) hb); replace HB := Aside0.mk (below_step (by first | exact HB.out | exact pw_below_drewN HB.out _ | exact below_drew1 HB.out) hb); (try clear hb); (try clear hb2); (try clear hk); (try clear hi)) | ((with_reducible refine gate_dst (N := 5) rfl ?_); refine box_event ?hg (N := 5) ?hd (cs := #[.int .i64 0, .int .i64 0, .int .i64 0, .int .i64 0]) (t := 48) ?hr ?_; (case hd => rfl); (case hg => rfl); (case hr => first | (go_simp; done) | (go_simp; rfl)); intro gb203 hg w20 hbox hb; have BK203 := Aside0.mk (hbox); have GW203 := Aside0.mk ((by rw [hg]; exact (below_size (by first | exact HB.out | exact pw_below_drewN HB.out _ | exact below_drew1 HB.out)) : w.heap.size ≤ gb203)); have GE203 := GW203; replace HO196 := Aside0.mk (Kd.V_below (Kd.V_elderB (by (with_reducible repeat (first | apply Kd.V_alloc | apply Kd.V_drewN | apply Kd.V_drew)); exact HO196.out) gb203 (Nat.le_of_eq hg.symm)) hb); replace HB := Aside0.mk (below_step (by first | exact HB.out | exact pw_below_drewN HB.out _ | exact below_drew1 HB.out) hb); clear hb hbox hg; obtain ⟨hcz21_0, hcz21_1, hcz21_2, hcz21_3, hfz21_0, hfz21_1, hfz21_2, hfz21_3⟩ := cz4 BK203.out) | ((with_reducible refine gate_callee (f := 22) rfl ?_); refine goesL_ (some 27) rfl rfl Try.func22 (by kernel_rfl) rfl #[.slice Ao18 t194.length co18, .slice A1 (l1.take ((ji4) : Int).toNat).length c1] rfl (by (try simp only [List.map_toArray, List.map_cons, List.map_nil]); first | done | (rw [show (l1.take ((ji4) : Int).toNat).length = (ji4).toNat from (by rw [List.length_take]; have h_ : ((ji4) : Int) ≤ (l1.length : Int) := of_decide_eq_true (by first | (with_reducible assumption) | assumption); omega)] <;> rfl) | (simp only [hji4]; rfl) | rfl | (simp only [List.length_drop, List.length_take]; rfl)) ?_; (with_reducible refine (size_Of.calls _ _ t194 _ _ (l1.take ((ji4) : Int).toNat) t204 t205 t206 _ ?side1 ?side2 ?side3 ?side4 A8.out).mono ?_); (case side1 => refine (Kd.V_reads' (e := 48) (base := w.heap.size) (ok := fun k_ => (True ∧ k_ ≠ gb203)) (n := t194.length) (c := co18) ?_).2.2; exact (by (with_reducible repeat (first | apply Kd.V_alloc | apply Kd.V_drewN | apply Kd.V_drew)); exact (Kd.V_mono (Kd.V_far (p := ⟨gb203, 3, none⟩) (Kd.V_far (p := ⟨gb203, 2, none⟩) (Kd.V_far (p := ⟨gb203, 1, none⟩) (Kd.V_far (p := ⟨gb203, 0, none⟩) (Kd.V_mono HO196.out (fun k_ hk => (⟨hk, hk.2⟩ : _ ∧ k_ ≠ gb203))) (fun _ hk => hk.2) (.int .i64 t198)) (fun _ hk => hk.2) (.int .i64 t199)) (fun _ hk => hk.2) (.int .i64 t200)) (fun _ hk => hk.2) (.int .i64 t201)) (fun _ h_ => h_.1)))); (case side2 => exact (Kd.V_reads' HO196.out).2.1); (case side3 => exact Kd.C_below HR197.out (by repeat first | refine below_set ?_ GE203.out | exact HB.out | apply below_alloc | apply pw_below_drewN | apply below_drew1)); (case side4 => exact HC197.out); rintro e w22 ⟨rfl, hb⟩; refine ⟨_, rfl, ?_⟩; replace HO196 := Aside0.mk (Kd.V_below (by (with_reducible repeat (first | apply Kd.V_alloc | apply Kd.V_drewN | apply Kd.V_drew)); exact (Kd.V_mono (Kd.V_far (p := ⟨gb203, 3, none⟩) (Kd.V_far (p := ⟨gb203, 2, none⟩) (Kd.V_far (p := ⟨gb203, 1, none⟩) (Kd.V_far (p := ⟨gb203, 0, none⟩) (Kd.V_mono HO196.out (fun k_ hk => (⟨hk, hk.2⟩ : _ ∧ k_ ≠ gb203))) (fun _ hk => hk.2) (.int .i64 t198)) (fun _ hk => hk.2) (.int .i64 t199)) (fun _ hk => hk.2) (.int .i64 t200)) (fun _ hk => hk.2) (.int .i64 t201)) (fun _ h_ => h_.1))) hb); replace BK203 := Aside0.mk (bb hb (put4 BK203.out)); replace HB := Aside0.mk (below_step (by repeat first | refine below_set ?_ GE203.out | exact HB.out | apply below_alloc | apply pw_below_drewN | apply below_drew1) hb); (try clear hb); (try clear hb2); (try clear hk); (try clear hi)) | ((with_reducible refine gate_callee (f := 23) rfl ?_); refine goesL_ (some 32) rfl rfl Try.func23 (by kernel_rfl) rfl #[.slice Ao18 t194.length co18] rfl (by (try simp only [List.map_toArray, List.map_cons, List.map_nil]); first | done | rfl | (simp only [List.length_drop, List.length_take]; rfl)) ?_; (with_reducible refine (backseatref16_Right.calls k _ _ t194 true _ ?side1 ?side2 A9.out).mono ?_); (case side1 => repeat (first | exact (Kd.V_reads' HO196.out).2.2 | (with_reducible refine Kd.C_alloc ?_ _) | (with_reducible refine Kd.C_drewN ?_ _) | (with_reducible refine Kd.C_drew ?_))); (case side2 => exact (Kd.V_reads' HO196.out).2.1); rintro e w23 ⟨rfl, hb⟩; refine ⟨_, rfl, ?_⟩; replace HO196 := Aside0.mk (Kd.V_below (by (with_reducible repeat (first | apply Kd.V_alloc | apply Kd.V_drewN | apply Kd.V_drew)); exact HO196.out) hb); replace BK203 := Aside0.mk (bb hb BK203.out); replace HB := Aside0.mk (below_step (by repeat first | refine below_set ?_ GE203.out | exact HB.out | apply below_alloc | apply pw_below_drewN | apply below_drew1) hb); (try clear hb); (try clear hb2); (try clear hk); (try clear hi)) | ((with_reducible refine gate_callee (f := 25) rfl ?_); refine goesL_ (some 57) rfl rfl Try.func25 (by kernel_rfl) rfl #[.slice Ao18 t194.length co18] rfl (by (try simp only [List.map_toArray, List.map_cons, List.map_nil]); first | done | rfl | (simp only [List.length_drop, List.length_take]; rfl)) ?_; (with_reducible refine (backseatref16_Latest.calls k _ _ t194 t209 t210 t211 t212 _ ?side1 ?side2 A11.out).mono ?_); (case side1 => repeat (first | exact (Kd.V_reads' HO196.out).2.2 | (with_reducible refine Kd.C_alloc ?_ _) | (with_reducible refine Kd.C_drewN ?_ _) | (with_reducible refine Kd.C_drew ?_))); (case side2 => exact (Kd.V_reads' HO196.out).2.1); rintro e w24 ⟨rfl, hb⟩; refine ⟨_, rfl, ?_⟩; replace HO196 := Aside0.mk (Kd.V_below (by (with_reducible repeat (first | apply Kd.V_alloc | apply Kd.V_drewN | apply Kd.V_drew)); exact HO196.out) hb); replace BK203 := Aside0.mk (bb hb BK203.out); replace HB := Aside0.mk (below_step (by repeat first | refine below_set ?_ GE203.out | exact HB.out | apply below_alloc | apply pw_below_drewN | apply below_drew1) hb); (try clear hb); (try clear hb2); (try clear hk); (try clear hi)) | ((with_reducible refine gate_callee (f := 26) rfl ?_); refine goesL_ (some 60) rfl rfl Try.func26 (by kernel_rfl) rfl #[.slice Ao18 t194.length co18, .slice A1 (l1.take ((ji4) : Int).toNat).length c1] rfl (by (try simp only [List.map_toArray, List.map_cons, List.map_nil]); first | done | (rw [show (l1.take ((ji4) : Int).toNat).length = (ji4).toNat from (by rw [List.length_take]; have h_ : ((ji4) : Int) ≤ (l1.length : Int) := of_decide_eq_true (by first | (with_reducible assumption) | assumption); omega)] <;> rfl) | (simp only [hji4]; rfl) | rfl | (simp only [List.length_drop, List.length_take]; rfl)) ?_; (with_reducible refine (backseatref16_Some.calls k _ _ t194 _ _ (l1.take ((ji4) : Int).toNat) t213 _ ?side1 ?side2 ?side3 ?side4 A12.out).mono ?_); (case side1 => repeat (first | exact (Kd.V_reads' HO196.out).2.2 | (with_reducible refine Kd.C_alloc ?_ _) | (with_reducible refine Kd.C_drewN ?_ _) | (with_reducible refine Kd.C_drew ?_))); (case side2 => exact (Kd.V_reads' HO196.out).2.1); (case side3 => repeat (first | exact (Kd.C_below HR197.out HB.out) | (with_reducible refine Kd.C_alloc ?_ _) | (with_reducible refine Kd.C_drewN ?_ _) | (with_reducible refine Kd.C_drew ?_))); (case side4 => exact HC197.out); rintro e w25 ⟨v214, rfl, ho0, hb⟩; refine ⟨_, rfl, ?_⟩; have HO215 := Aside0.mk (Kd.R_lower (Kd.R_newB ho0 (g := gb203) (o := .cells #[.int .i64 t198, .int .i64 t199, .int .i64 t200, .int .i64 t201] 48 (0, 0)) (by (with_reducible repeat (first | refine blk_drewN ?_ _ | refine blk_drew ?_ | refine blk_alloc ?_ _)); exact BK203.out)) (below_size (by repeat first | refine below_set ?_ GE203.out | exact HB.out | apply below_alloc | apply pw_below_drewN | apply below_drew1))); replace HO196 := Aside0.mk (Kd.V_elder' (by (with_reducible repeat (first | apply Kd.V_alloc | apply Kd.V_drewN | apply Kd.V_drew)); exact HO196.out) (Kd.R_base ho0) hb); replace BK203 := Aside0.mk (bb hb BK203.out); replace HB := Aside0.mk (below_step (by repeat first | refine below_set ?_ GE203.out | exact HB.out | apply below_alloc | apply pw_below_drewN | apply below_drew1) hb); (try clear hb); (try clear hb2); (try clear hk); (try clear hi); (try clear ho0); obtain ⟨Ao26, co26, eo26⟩ := Kd.R_slice HO215.out; subst eo26) | ((with_reducible refine gate_callee (f := 25) rfl ?_); refine goesL_ (some 61) rfl rfl Try.func25 (by kernel_rfl) rfl #[.slice Ao26 t213.length co26] rfl (by (try simp only [List.map_toArray, List.map_cons, List.map_nil]); first | done | rfl | (simp only [List.length_drop, List.length_take]; rfl)) ?_; (with_reducible refine (backseatref16_Latest.calls k _ _ t213 t216 t217 t218 t219 _ ?side1 ?side2 A13.out).mono ?_); (case side1 => repeat (first | exact (Kd.R_reads' HO215.out).2.2 | (with_reducible refine Kd.C_alloc ?_ _) | (with_reducible refine Kd.C_drewN ?_ _) | (with_reducible refine Kd.C_drew ?_))); (case side2 => exact (Kd.R_reads' HO215.out).2.1); rintro e w27 ⟨rfl, hb⟩; refine ⟨_, rfl, ?_⟩; replace HO196 := Aside0.mk (Kd.V_below (by (with_reducible repeat (first | apply Kd.V_alloc | apply Kd.V_drewN | apply Kd.V_drew)); exact HO196.out) hb); replace HO215 := Aside0.mk (Kd.R_below (by (with_reducible repeat (first | apply Kd.R_alloc | apply Kd.R_drewN | apply Kd.R_drew)); exact HO215.out) hb); replace BK203 := Aside0.mk (bb hb BK203.out); replace HB := Aside0.mk (below_step (by repeat first | refine below_set ?_ GE203.out | exact HB.out | apply below_alloc | apply pw_below_drewN | apply below_drew1) hb); (try clear hb); (try clear hb2); (try clear hk); (try clear hi)) | ((with_reducible refine gate_dst (N := 10) rfl ?_); refine box_event ?hg (N := 10) ?hd (cs := #[.int .i64 0, .int .i64 0, .int .i64 0, .int .i64 0]) (t := 48) ?hr ?_; (case hd => rfl); (case hg => rfl); (case hr => first | (go_simp; done) | (go_simp; rfl)); intro gb220 hg w28 hbox hb; have BK220 := Aside0.mk (hbox); have GW220 := Aside0.mk ((by rw [hg]; exact (below_size (by repeat first | refine below_set ?_ GE203.out | exact HB.out | apply below_alloc | apply pw_below_drewN | apply below_drew1)) : w.heap.size ≤ gb220)); have GE220 := GW220; have NB203_220 := Aside0.mk ((by rw [hg]; exact lt1 BK203.out : gb203 ≠ gb220)); have NB220_203 := Aside0.mk ((by rw [hg]; exact gt1 BK203.out : gb220 ≠ gb203)); replace HO196 := Aside0.mk (Kd.V_below (Kd.V_elderB (by (with_reducible repeat (first | apply Kd.V_alloc | apply Kd.V_drewN | apply Kd.V_drew)); exact HO196.out) gb220 (Nat.le_of_eq hg.symm)) hb); replace HO215 := Aside0.mk (Kd.R_below (Kd.R_elderB (by (with_reducible repeat (first | apply Kd.R_alloc | apply Kd.R_drewN | apply Kd.R_drew)); exact HO215.out) gb220 (Nat.le_of_eq hg.symm)) hb); replace BK203 := Aside0.mk (bb hb BK203.out); replace HB := Aside0.mk (below_step (by repeat first | refine below_set ?_ GE203.out | exact HB.out | apply below_alloc | apply pw_below_drewN | apply below_drew1) hb); clear hb hbox hg) | ((with_reducible refine gate_dst (N := 11) rfl ?_); refine box_event ?hg (N := 11) ?hd (cs := #[.int .i64 0, .int .i64 0, .int .i64 0, .int .i64 0]) (t := 48) ?hr ?_; (case hd => rfl); (case hg => rfl); (case hr => first | (go_simp; done) | (go_simp; rfl)); intro gb221 hg w29 hbox hb; have BK221 := Aside0.mk (hbox); have GW221 := Aside0.mk ((by rw [hg]; exact (below_size (by repeat first | refine below_set ?_ GE203.out | refine below_set ?_ GE220.out | exact HB.out | apply below_alloc | apply pw_below_drewN | apply below_drew1)) : w.heap.size ≤ gb221)); have GE221 := GW221; have NB203_221 := Aside0.mk ((by rw [hg]; exact lt1 BK203.out : gb203 ≠ gb221)); have NB221_203 := Aside0.mk ((by rw [hg]; exact gt1 BK203.out : gb221 ≠ gb203)); have NB220_221 := Aside0.mk ((by rw [hg]; exact lt1 BK220.out : gb220 ≠ gb221)); have NB221_220 := Aside0.mk ((by rw [hg]; exact gt1 BK220.out : gb221 ≠ gb220)); replace HO196 := Aside0.mk (Kd.V_below (Kd.V_elderB (by (with_reducible repeat (first | apply Kd.V_alloc | apply Kd.V_drewN | apply Kd.V_drew)); exact HO196.out) gb221 (Nat.le_of_eq hg.symm)) hb); replace HO215 := Aside0.mk (Kd.R_below (Kd.R_elderB (by (with_reducible repeat (first | apply Kd.R_alloc | apply Kd.R_drewN | apply Kd.R_drew)); exact HO215.out) gb221 (Nat.le_of_eq hg.symm)) hb); replace BK203 := Aside0.mk (bb hb BK203.out); replace BK220 := Aside0.mk (bb hb BK220.out); replace HB := Aside0.mk (below_step (by repeat first | refine below_set ?_ GE203.out | refine below_set ?_ GE220.out | exact HB.out | apply below_alloc | apply pw_below_drewN | apply below_drew1) hb); clear hb hbox hg; have hnb30 := NB220_203.out; have hnc30 := NB203_220.out; have hnb31 := NB220_221.out; have hnc31 := NB221_220.out; obtain ⟨hcz32_0, hcz32_1, hcz32_2, hcz32_3, hfz32_0, hfz32_1, hfz32_2, hfz32_3⟩ := cz4 BK220.out; have hnb33 := NB221_203.out; have hnc33 := NB203_221.out; obtain ⟨hcz34_0, hcz34_1, hcz34_2, hcz34_3, hfz34_0, hfz34_1, hfz34_2, hfz34_3⟩ := cz4 BK221.out))
    (try simp only [Act.put, List.setIfInBounds_toArray, List.set_cons_zero, List.set_cons_succ])
    go_cut [91] (fun v91 wc => ∃ (kq : Nat) (x91_13 : Bool), v91 = .bool x91_13 ∧ Aside0 (backseatlaw16_SizeTells.j0 kq t204 t205 t206 x91_13 t216 t217 t218 t219 = some r) ∧ Aside0 (kq ≤ k) ∧ Aside0 (wc.heap[gb203]? = some (.cells #[.int .i64 t198, .int .i64 t199, .int .i64 t200, .int .i64 t201] 48 (0, 0))) ∧ Aside0 (wc.heap[gb220]? = some (.cells #[.int .i64 t209, .int .i64 t210, .int .i64 t211, .int .i64 t212] 48 (0, 0))) ∧ Aside0 (wc.heap[gb221]? = some (.cells #[.int .i64 t216, .int .i64 t217, .int .i64 t218, .int .i64 t219] 48 (0, 0))) ∧ Aside0 (Below w.heap.size w wc))
    case first =>
     have H := HC14.out
     clear HC14
     by_cases c35 : t209 = 0
     ·rw [if_pos c35] at H
      have c35b0 : (t209 == 0) = true := beq_iff_eq.mpr c35
      have c35b1 : (t209 != 0) = false := bne_eq_false_iff_eq.mpr c35
      clear c35
      (first | rw [c35b0] | (simp only [i64_w, i32_w]; rw [c35b0]) | skip)
      by_cases c36 : t202 = 5
      ·rw [if_pos c36] at H
       have c36b0 : (t202 == 5) = true := beq_iff_eq.mpr c36
       have c36b1 : (t202 != 5) = false := bne_eq_false_iff_eq.mpr c36
       clear c36
       by_cases c37 : (!(t198 == t209) || (!(t199 == t210) || (!(t200 == t211) || (!(t201 == t212))))) = true
       ·rw [if_pos c37] at H
        have c37b0 : (!(t198 == t209) || (!(t199 == t210) || (!(t200 == t211) || (!(t201 == t212))))) = true := c37
        clear c37
        have H' := Aside0.mk H
        clear H
        have hnb38 := NB220_203.out
        have hnc38 := NB203_220.out
        have hnb39 := NB220_221.out
        have hnc39 := NB221_220.out
        have hcz40_0 : w29.cell? ⟨gb220, 0, none⟩ = some (.int .i64 0) := (blk_cell BK220.out 0).trans rfl
        have hcz40_1 : w29.cell? ⟨gb220, 1, none⟩ = some (.int .i64 0) := (blk_cell BK220.out 1).trans rfl
        have hcz40_2 : w29.cell? ⟨gb220, 2, none⟩ = some (.int .i64 0) := (blk_cell BK220.out 2).trans rfl
        have hcz40_3 : w29.cell? ⟨gb220, 3, none⟩ = some (.int .i64 0) := (blk_cell BK220.out 3).trans rfl
        have hfz40_0 := blk_frozen BK220.out 0
        have hfz40_1 := blk_frozen BK220.out 1
        have hfz40_2 := blk_frozen BK220.out 2
        have hfz40_3 := blk_frozen BK220.out 3
        have hnb41 := NB203_221.out
        have hnc41 := NB221_203.out
        have hcz42_0 : w29.cell? ⟨gb203, 0, none⟩ = some (.int .i64 t198) := (blk_cell BK203.out 0).trans rfl
        have hcz42_1 : w29.cell? ⟨gb203, 1, none⟩ = some (.int .i64 t199) := (blk_cell BK203.out 1).trans rfl
        have hcz42_2 : w29.cell? ⟨gb203, 2, none⟩ = some (.int .i64 t200) := (blk_cell BK203.out 2).trans rfl
        have hcz42_3 : w29.cell? ⟨gb203, 3, none⟩ = some (.int .i64 t201) := (blk_cell BK203.out 3).trans rfl
        have hfz42_0 := blk_frozen BK203.out 0
        have hfz42_1 := blk_frozen BK203.out 1
        have hfz42_2 := blk_frozen BK203.out 2
        have hfz42_3 := blk_frozen BK203.out 3
        go_wp2
        go_meet
        case rel => exact ⟨_, (true), (by first | rfl | (simp; done) | (simp [*]; done)), H', ⟨by first | omega | exact Nat.le_refl _⟩, ⟨by exact (far4 NB203_221.out (far4 NB203_220.out BK203.out))⟩, ⟨by exact (far4 NB220_221.out (put4 BK220.out))⟩, ⟨by exact (put4 (far4 NB221_220.out BK221.out))⟩, ⟨by repeat first | refine below_set ?_ GE203.out | refine below_set ?_ GE220.out | refine below_set ?_ GE221.out | exact HB.out | apply below_alloc | apply pw_below_drewN | apply below_drew1⟩⟩
       ·rw [if_neg c37] at H
        have c37b0 : (!(t198 == t209) || (!(t199 == t210) || (!(t200 == t211) || (!(t201 == t212))))) = false := by simpa using c37
        clear c37
        by_cases c43 : t209 > 0
        ·rw [if_pos c43] at H
         have c43b0 : decide (0 < t209) = true := decide_eq_true c43
         clear c43
         by_cases c44 : t202 = 0
         ·rw [if_pos c44] at H
          have c44b0 : (t202 == 0) = true := beq_iff_eq.mpr c44
          have c44b1 : (t202 != 0) = false := bne_eq_false_iff_eq.mpr c44
          clear c44
          replace H := Option.bind_eq_some_iff.mp H
          obtain ⟨t222, A450, H⟩ := H
          replace H : (backseatlaw16_SizeTells.j0 k t204 t205 t206 (!t222) t216 t217 t218 t219) = some r := H
          have A45 := Aside0.mk A450
          clear A450
          have H' := Aside0.mk H
          clear H
          have hnb46 := NB220_203.out
          have hnc46 := NB203_220.out
          have hnb47 := NB220_221.out
          have hnc47 := NB221_220.out
          have hcz48_0 : w29.cell? ⟨gb220, 0, none⟩ = some (.int .i64 0) := (blk_cell BK220.out 0).trans rfl
          have hcz48_1 : w29.cell? ⟨gb220, 1, none⟩ = some (.int .i64 0) := (blk_cell BK220.out 1).trans rfl
          have hcz48_2 : w29.cell? ⟨gb220, 2, none⟩ = some (.int .i64 0) := (blk_cell BK220.out 2).trans rfl
          have hcz48_3 : w29.cell? ⟨gb220, 3, none⟩ = some (.int .i64 0) := (blk_cell BK220.out 3).trans rfl
          have hfz48_0 := blk_frozen BK220.out 0
          have hfz48_1 := blk_frozen BK220.out 1
          have hfz48_2 := blk_frozen BK220.out 2
          have hfz48_3 := blk_frozen BK220.out 3
          have hnb49 := NB203_221.out
          have hnc49 := NB221_203.out
          have hcz50_0 : w29.cell? ⟨gb203, 0, none⟩ = some (.int .i64 t198) := (blk_cell BK203.out 0).trans rfl
          have hcz50_1 : w29.cell? ⟨gb203, 1, none⟩ = some (.int .i64 t199) := (blk_cell BK203.out 1).trans rfl
          have hcz50_2 : w29.cell? ⟨gb203, 2, none⟩ = some (.int .i64 t200) := (blk_cell BK203.out 2).trans rfl
          have hcz50_3 : w29.cell? ⟨gb203, 3, none⟩ = some (.int .i64 t201) := (blk_cell BK203.out 3).trans rfl
          have hfz50_0 := blk_frozen BK203.out 0
          have hfz50_1 := blk_frozen BK203.out 1
          have hfz50_2 := blk_frozen BK203.out 2
          have hfz50_3 := blk_frozen BK203.out 3
          go_wp2_with (first | (go_at_call 24; (with_reducible refine (backseatlaw16_alive.calls k  t222 _ A45.out).mono ?_); rintro e w51 ⟨rfl, hb⟩; replace HO196 := Aside0.mk (Kd.V_below (by (with_reducible repeat (first | apply Kd.V_alloc | apply Kd.V_drewN | apply Kd.V_drew)); exact (Kd.V_mono (Kd.V_mono (Kd.V_far (p := ⟨gb221, 3, none⟩) (Kd.V_far (p := ⟨gb221, 2, none⟩) (Kd.V_far (p := ⟨gb221, 1, none⟩) (Kd.V_far (p := ⟨gb221, 0, none⟩) (Kd.V_far (p := ⟨gb220, 3, none⟩) (Kd.V_far (p := ⟨gb220, 2, none⟩) (Kd.V_far (p := ⟨gb220, 1, none⟩) (Kd.V_far (p := ⟨gb220, 0, none⟩) (Kd.V_mono (Kd.V_mono HO196.out (fun k_ hk => (⟨hk, hk.1.2⟩ : _ ∧ k_ ≠ gb220))) (fun k_ hk => (⟨hk, hk.1.2⟩ : _ ∧ k_ ≠ gb221))) (fun _ hk => hk.1.2) (.int .i64 t209)) (fun _ hk => hk.1.2) (.int .i64 t210)) (fun _ hk => hk.1.2) (.int .i64 t211)) (fun _ hk => hk.1.2) (.int .i64 t212)) (fun _ hk => hk.2) (.int .i64 t216)) (fun _ hk => hk.2) (.int .i64 t217)) (fun _ hk => hk.2) (.int .i64 t218)) (fun _ hk => hk.2) (.int .i64 t219)) (fun _ h_ => h_.1)) (fun _ h_ => h_.1))) hb); replace HO215 := Aside0.mk (Kd.R_below (by (with_reducible repeat (first | apply Kd.R_alloc | apply Kd.R_drewN | apply Kd.R_drew)); exact (Kd.R_mono (Kd.R_mono (Kd.R_far (p := ⟨gb221, 3, none⟩) (Kd.R_far (p := ⟨gb221, 2, none⟩) (Kd.R_far (p := ⟨gb221, 1, none⟩) (Kd.R_far (p := ⟨gb221, 0, none⟩) (Kd.R_far (p := ⟨gb220, 3, none⟩) (Kd.R_far (p := ⟨gb220, 2, none⟩) (Kd.R_far (p := ⟨gb220, 1, none⟩) (Kd.R_far (p := ⟨gb220, 0, none⟩) (Kd.R_mono (Kd.R_mono HO215.out (fun k_ hk => (⟨hk, hk.1.2⟩ : _ ∧ k_ ≠ gb220))) (fun k_ hk => (⟨hk, hk.1.2⟩ : _ ∧ k_ ≠ gb221))) (fun _ hk => hk.1.2) (.int .i64 t209)) (fun _ hk => hk.1.2) (.int .i64 t210)) (fun _ hk => hk.1.2) (.int .i64 t211)) (fun _ hk => hk.1.2) (.int .i64 t212)) (fun _ hk => hk.2) (.int .i64 t216)) (fun _ hk => hk.2) (.int .i64 t217)) (fun _ hk => hk.2) (.int .i64 t218)) (fun _ hk => hk.2) (.int .i64 t219)) (fun _ h_ => h_.1)) (fun _ h_ => h_.1))) hb); replace BK203 := Aside0.mk (bb hb (by exact (far4 NB203_221.out (far4 NB203_220.out BK203.out)))); replace BK220 := Aside0.mk (bb hb (by exact (far4 NB220_221.out (put4 BK220.out)))); replace BK221 := Aside0.mk (bb hb (by exact (put4 (far4 NB221_220.out BK221.out)))); replace HB := Aside0.mk (below_step (by repeat first | refine below_set ?_ GE203.out | refine below_set ?_ GE220.out | refine below_set ?_ GE221.out | exact HB.out | apply below_alloc | apply pw_below_drewN | apply below_drew1) hb); (try clear hb); (try clear hb2); (try clear hk); (try clear hi)))
          go_meet
          case rel => exact ⟨_, (!t222), (by first | rfl | (simp; done) | (simp [*]; done)), H', ⟨by first | omega | exact Nat.le_refl _⟩, ⟨by (with_reducible repeat (first | refine blk_drewN ?_ _ | refine blk_drew ?_ | refine blk_alloc ?_ _)); exact BK203.out⟩, ⟨by (with_reducible repeat (first | refine blk_drewN ?_ _ | refine blk_drew ?_ | refine blk_alloc ?_ _)); exact BK220.out⟩, ⟨by (with_reducible repeat (first | refine blk_drewN ?_ _ | refine blk_drew ?_ | refine blk_alloc ?_ _)); exact BK221.out⟩, ⟨by repeat first | refine below_set ?_ GE203.out | refine below_set ?_ GE220.out | refine below_set ?_ GE221.out | exact HB.out | apply below_alloc | apply pw_below_drewN | apply below_drew1⟩⟩
         ·rw [if_neg c44] at H
          have c44b0 : (t202 == 0) = false := beq_eq_false_iff_ne.mpr c44
          have c44b1 : (t202 != 0) = true := bne_iff_ne.mpr c44
          have H' := Aside0.mk H
          clear H
          have hnb52 := NB220_203.out
          have hnc52 := NB203_220.out
          have hnb53 := NB220_221.out
          have hnc53 := NB221_220.out
          have hcz54_0 : w29.cell? ⟨gb220, 0, none⟩ = some (.int .i64 0) := (blk_cell BK220.out 0).trans rfl
          have hcz54_1 : w29.cell? ⟨gb220, 1, none⟩ = some (.int .i64 0) := (blk_cell BK220.out 1).trans rfl
          have hcz54_2 : w29.cell? ⟨gb220, 2, none⟩ = some (.int .i64 0) := (blk_cell BK220.out 2).trans rfl
          have hcz54_3 : w29.cell? ⟨gb220, 3, none⟩ = some (.int .i64 0) := (blk_cell BK220.out 3).trans rfl
          have hfz54_0 := blk_frozen BK220.out 0
          have hfz54_1 := blk_frozen BK220.out 1
          have hfz54_2 := blk_frozen BK220.out 2
          have hfz54_3 := blk_frozen BK220.out 3
          have hnb55 := NB203_221.out
          have hnc55 := NB221_203.out
          have hcz56_0 : w29.cell? ⟨gb203, 0, none⟩ = some (.int .i64 t198) := (blk_cell BK203.out 0).trans rfl
          have hcz56_1 : w29.cell? ⟨gb203, 1, none⟩ = some (.int .i64 t199) := (blk_cell BK203.out 1).trans rfl
          have hcz56_2 : w29.cell? ⟨gb203, 2, none⟩ = some (.int .i64 t200) := (blk_cell BK203.out 2).trans rfl
          have hcz56_3 : w29.cell? ⟨gb203, 3, none⟩ = some (.int .i64 t201) := (blk_cell BK203.out 3).trans rfl
          have hfz56_0 := blk_frozen BK203.out 0
          have hfz56_1 := blk_frozen BK203.out 1
          have hfz56_2 := blk_frozen BK203.out 2
          have hfz56_3 := blk_frozen BK203.out 3
          go_wp2
          go_meet
          case rel => exact ⟨_, (true), (by first | rfl | (simp; done) | (simp [*]; done)), H', ⟨by first | omega | exact Nat.le_refl _⟩, ⟨by exact (far4 NB203_221.out (far4 NB203_220.out BK203.out))⟩, ⟨by exact (far4 NB220_221.out (put4 BK220.out))⟩, ⟨by exact (put4 (far4 NB221_220.out BK221.out))⟩, ⟨by repeat first | refine below_set ?_ GE203.out | refine below_set ?_ GE220.out | refine below_set ?_ GE221.out | exact HB.out | apply below_alloc | apply pw_below_drewN | apply below_drew1⟩⟩
        ·rw [if_neg c43] at H
         have c43b0 : decide (0 < t209) = false := decide_eq_false c43
         clear c43
         replace H := Option.bind_eq_some_iff.mp H
         obtain ⟨t223, A570, H⟩ := H
         replace H : (backseatlaw16_SizeTells.j0 k t204 t205 t206 (!t223) t216 t217 t218 t219) = some r := H
         have A57 := Aside0.mk A570
         clear A570
         have H' := Aside0.mk H
         clear H
         have hnb58 := NB220_203.out
         have hnc58 := NB203_220.out
         have hnb59 := NB220_221.out
         have hnc59 := NB221_220.out
         have hcz60_0 : w29.cell? ⟨gb220, 0, none⟩ = some (.int .i64 0) := (blk_cell BK220.out 0).trans rfl
         have hcz60_1 : w29.cell? ⟨gb220, 1, none⟩ = some (.int .i64 0) := (blk_cell BK220.out 1).trans rfl
         have hcz60_2 : w29.cell? ⟨gb220, 2, none⟩ = some (.int .i64 0) := (blk_cell BK220.out 2).trans rfl
         have hcz60_3 : w29.cell? ⟨gb220, 3, none⟩ = some (.int .i64 0) := (blk_cell BK220.out 3).trans rfl
         have hfz60_0 := blk_frozen BK220.out 0
         have hfz60_1 := blk_frozen BK220.out 1
         have hfz60_2 := blk_frozen BK220.out 2
         have hfz60_3 := blk_frozen BK220.out 3
         have hnb61 := NB203_221.out
         have hnc61 := NB221_203.out
         have hcz62_0 : w29.cell? ⟨gb203, 0, none⟩ = some (.int .i64 t198) := (blk_cell BK203.out 0).trans rfl
         have hcz62_1 : w29.cell? ⟨gb203, 1, none⟩ = some (.int .i64 t199) := (blk_cell BK203.out 1).trans rfl
         have hcz62_2 : w29.cell? ⟨gb203, 2, none⟩ = some (.int .i64 t200) := (blk_cell BK203.out 2).trans rfl
         have hcz62_3 : w29.cell? ⟨gb203, 3, none⟩ = some (.int .i64 t201) := (blk_cell BK203.out 3).trans rfl
         have hfz62_0 := blk_frozen BK203.out 0
         have hfz62_1 := blk_frozen BK203.out 1
         have hfz62_2 := blk_frozen BK203.out 2
         have hfz62_3 := blk_frozen BK203.out 3
         go_wp2_with (first | (go_at_call 24; (with_reducible refine (backseatlaw16_alive.calls k  t223 _ A57.out).mono ?_); rintro e w63 ⟨rfl, hb⟩; replace HO196 := Aside0.mk (Kd.V_below (by (with_reducible repeat (first | apply Kd.V_alloc | apply Kd.V_drewN | apply Kd.V_drew)); exact (Kd.V_mono (Kd.V_mono (Kd.V_far (p := ⟨gb221, 3, none⟩) (Kd.V_far (p := ⟨gb221, 2, none⟩) (Kd.V_far (p := ⟨gb221, 1, none⟩) (Kd.V_far (p := ⟨gb221, 0, none⟩) (Kd.V_far (p := ⟨gb220, 3, none⟩) (Kd.V_far (p := ⟨gb220, 2, none⟩) (Kd.V_far (p := ⟨gb220, 1, none⟩) (Kd.V_far (p := ⟨gb220, 0, none⟩) (Kd.V_mono (Kd.V_mono HO196.out (fun k_ hk => (⟨hk, hk.1.2⟩ : _ ∧ k_ ≠ gb220))) (fun k_ hk => (⟨hk, hk.1.2⟩ : _ ∧ k_ ≠ gb221))) (fun _ hk => hk.1.2) (.int .i64 t209)) (fun _ hk => hk.1.2) (.int .i64 t210)) (fun _ hk => hk.1.2) (.int .i64 t211)) (fun _ hk => hk.1.2) (.int .i64 t212)) (fun _ hk => hk.2) (.int .i64 t216)) (fun _ hk => hk.2) (.int .i64 t217)) (fun _ hk => hk.2) (.int .i64 t218)) (fun _ hk => hk.2) (.int .i64 t219)) (fun _ h_ => h_.1)) (fun _ h_ => h_.1))) hb); replace HO215 := Aside0.mk (Kd.R_below (by (with_reducible repeat (first | apply Kd.R_alloc | apply Kd.R_drewN | apply Kd.R_drew)); exact (Kd.R_mono (Kd.R_mono (Kd.R_far (p := ⟨gb221, 3, none⟩) (Kd.R_far (p := ⟨gb221, 2, none⟩) (Kd.R_far (p := ⟨gb221, 1, none⟩) (Kd.R_far (p := ⟨gb221, 0, none⟩) (Kd.R_far (p := ⟨gb220, 3, none⟩) (Kd.R_far (p := ⟨gb220, 2, none⟩) (Kd.R_far (p := ⟨gb220, 1, none⟩) (Kd.R_far (p := ⟨gb220, 0, none⟩) (Kd.R_mono (Kd.R_mono HO215.out (fun k_ hk => (⟨hk, hk.1.2⟩ : _ ∧ k_ ≠ gb220))) (fun k_ hk => (⟨hk, hk.1.2⟩ : _ ∧ k_ ≠ gb221))) (fun _ hk => hk.1.2) (.int .i64 t209)) (fun _ hk => hk.1.2) (.int .i64 t210)) (fun _ hk => hk.1.2) (.int .i64 t211)) (fun _ hk => hk.1.2) (.int .i64 t212)) (fun _ hk => hk.2) (.int .i64 t216)) (fun _ hk => hk.2) (.int .i64 t217)) (fun _ hk => hk.2) (.int .i64 t218)) (fun _ hk => hk.2) (.int .i64 t219)) (fun _ h_ => h_.1)) (fun _ h_ => h_.1))) hb); replace BK203 := Aside0.mk (bb hb (by exact (far4 NB203_221.out (far4 NB203_220.out BK203.out)))); replace BK220 := Aside0.mk (bb hb (by exact (far4 NB220_221.out (put4 BK220.out)))); replace BK221 := Aside0.mk (bb hb (by exact (put4 (far4 NB221_220.out BK221.out)))); replace HB := Aside0.mk (below_step (by repeat first | refine below_set ?_ GE203.out | refine below_set ?_ GE220.out | refine below_set ?_ GE221.out | exact HB.out | apply below_alloc | apply pw_below_drewN | apply below_drew1) hb); (try clear hb); (try clear hb2); (try clear hk); (try clear hi)))
         go_meet
         case rel => exact ⟨_, (!t223), (by first | rfl | (simp; done) | (simp [*]; done)), H', ⟨by first | omega | exact Nat.le_refl _⟩, ⟨by (with_reducible repeat (first | refine blk_drewN ?_ _ | refine blk_drew ?_ | refine blk_alloc ?_ _)); exact BK203.out⟩, ⟨by (with_reducible repeat (first | refine blk_drewN ?_ _ | refine blk_drew ?_ | refine blk_alloc ?_ _)); exact BK220.out⟩, ⟨by (with_reducible repeat (first | refine blk_drewN ?_ _ | refine blk_drew ?_ | refine blk_alloc ?_ _)); exact BK221.out⟩, ⟨by repeat first | refine below_set ?_ GE203.out | refine below_set ?_ GE220.out | refine below_set ?_ GE221.out | exact HB.out | apply below_alloc | apply pw_below_drewN | apply below_drew1⟩⟩
      ·rw [if_neg c36] at H
       have c36b0 : (t202 == 5) = false := beq_eq_false_iff_ne.mpr c36
       have c36b1 : (t202 != 5) = true := bne_iff_ne.mpr c36
       have H' := Aside0.mk H
       clear H
       have hnb64 := NB220_203.out
       have hnc64 := NB203_220.out
       have hnb65 := NB220_221.out
       have hnc65 := NB221_220.out
       have hcz66_0 : w29.cell? ⟨gb220, 0, none⟩ = some (.int .i64 0) := (blk_cell BK220.out 0).trans rfl
       have hcz66_1 : w29.cell? ⟨gb220, 1, none⟩ = some (.int .i64 0) := (blk_cell BK220.out 1).trans rfl
       have hcz66_2 : w29.cell? ⟨gb220, 2, none⟩ = some (.int .i64 0) := (blk_cell BK220.out 2).trans rfl
       have hcz66_3 : w29.cell? ⟨gb220, 3, none⟩ = some (.int .i64 0) := (blk_cell BK220.out 3).trans rfl
       have hfz66_0 := blk_frozen BK220.out 0
       have hfz66_1 := blk_frozen BK220.out 1
       have hfz66_2 := blk_frozen BK220.out 2
       have hfz66_3 := blk_frozen BK220.out 3
       go_wp2
       go_meet
       case rel => exact ⟨_, (true), (by first | rfl | (simp; done) | (simp [*]; done)), H', ⟨by first | omega | exact Nat.le_refl _⟩, ⟨by exact (far4 NB203_221.out (far4 NB203_220.out BK203.out))⟩, ⟨by exact (far4 NB220_221.out (put4 BK220.out))⟩, ⟨by exact (put4 (far4 NB221_220.out BK221.out))⟩, ⟨by repeat first | refine below_set ?_ GE203.out | refine below_set ?_ GE220.out | refine below_set ?_ GE221.out | exact HB.out | apply below_alloc | apply pw_below_drewN | apply below_drew1⟩⟩
     ·rw [if_neg c35] at H
      have c35b0 : (t209 == 0) = false := beq_eq_false_iff_ne.mpr c35
      have c35b1 : (t209 != 0) = true := bne_iff_ne.mpr c35
      (first | rw [c35b0] | (simp only [i64_w, i32_w]; rw [c35b0]) | skip)
      by_cases c67 : t209 > 0
      ·rw [if_pos c67] at H
       have c67b0 : decide (0 < t209) = true := decide_eq_true c67
       clear c67
       by_cases c68 : t202 = 0
       ·rw [if_pos c68] at H
        have c68b0 : (t202 == 0) = true := beq_iff_eq.mpr c68
        have c68b1 : (t202 != 0) = false := bne_eq_false_iff_eq.mpr c68
        clear c68
        by_cases c69 : (!(t198 == t209) || (!(t199 == t210) || (!(t200 == t211) || (!(t201 == t212))))) = true
        ·rw [if_pos c69] at H
         have c69b0 : (!(t198 == t209) || (!(t199 == t210) || (!(t200 == t211) || (!(t201 == t212))))) = true := c69
         clear c69
         have H' := Aside0.mk H
         clear H
         have hnb70 := NB220_203.out
         have hnc70 := NB203_220.out
         have hnb71 := NB220_221.out
         have hnc71 := NB221_220.out
         have hcz72_0 : w29.cell? ⟨gb220, 0, none⟩ = some (.int .i64 0) := (blk_cell BK220.out 0).trans rfl
         have hcz72_1 : w29.cell? ⟨gb220, 1, none⟩ = some (.int .i64 0) := (blk_cell BK220.out 1).trans rfl
         have hcz72_2 : w29.cell? ⟨gb220, 2, none⟩ = some (.int .i64 0) := (blk_cell BK220.out 2).trans rfl
         have hcz72_3 : w29.cell? ⟨gb220, 3, none⟩ = some (.int .i64 0) := (blk_cell BK220.out 3).trans rfl
         have hfz72_0 := blk_frozen BK220.out 0
         have hfz72_1 := blk_frozen BK220.out 1
         have hfz72_2 := blk_frozen BK220.out 2
         have hfz72_3 := blk_frozen BK220.out 3
         have hnb73 := NB203_221.out
         have hnc73 := NB221_203.out
         have hcz74_0 : w29.cell? ⟨gb203, 0, none⟩ = some (.int .i64 t198) := (blk_cell BK203.out 0).trans rfl
         have hcz74_1 : w29.cell? ⟨gb203, 1, none⟩ = some (.int .i64 t199) := (blk_cell BK203.out 1).trans rfl
         have hcz74_2 : w29.cell? ⟨gb203, 2, none⟩ = some (.int .i64 t200) := (blk_cell BK203.out 2).trans rfl
         have hcz74_3 : w29.cell? ⟨gb203, 3, none⟩ = some (.int .i64 t201) := (blk_cell BK203.out 3).trans rfl
         have hfz74_0 := blk_frozen BK203.out 0
         have hfz74_1 := blk_frozen BK203.out 1
         have hfz74_2 := blk_frozen BK203.out 2
         have hfz74_3 := blk_frozen BK203.out 3
         go_wp2
         go_meet
         case rel => exact ⟨_, (true), (by first | rfl | (simp; done) | (simp [*]; done)), H', ⟨by first | omega | exact Nat.le_refl _⟩, ⟨by exact (far4 NB203_221.out (far4 NB203_220.out BK203.out))⟩, ⟨by exact (far4 NB220_221.out (put4 BK220.out))⟩, ⟨by exact (put4 (far4 NB221_220.out BK221.out))⟩, ⟨by repeat first | refine below_set ?_ GE203.out | refine below_set ?_ GE220.out | refine below_set ?_ GE221.out | exact HB.out | apply below_alloc | apply pw_below_drewN | apply below_drew1⟩⟩
        ·rw [if_neg c69] at H
         have c69b0 : (!(t198 == t209) || (!(t199 == t210) || (!(t200 == t211) || (!(t201 == t212))))) = false := by simpa using c69
         clear c69
         replace H := Option.bind_eq_some_iff.mp H
         obtain ⟨t224, A750, H⟩ := H
         replace H : (backseatlaw16_SizeTells.j0 k t204 t205 t206 (!t224) t216 t217 t218 t219) = some r := H
         have A75 := Aside0.mk A750
         clear A750
         have H' := Aside0.mk H
         clear H
         have hnb76 := NB220_203.out
         have hnc76 := NB203_220.out
         have hnb77 := NB220_221.out
         have hnc77 := NB221_220.out
         have hcz78_0 : w29.cell? ⟨gb220, 0, none⟩ = some (.int .i64 0) := (blk_cell BK220.out 0).trans rfl
         have hcz78_1 : w29.cell? ⟨gb220, 1, none⟩ = some (.int .i64 0) := (blk_cell BK220.out 1).trans rfl
         have hcz78_2 : w29.cell? ⟨gb220, 2, none⟩ = some (.int .i64 0) := (blk_cell BK220.out 2).trans rfl
         have hcz78_3 : w29.cell? ⟨gb220, 3, none⟩ = some (.int .i64 0) := (blk_cell BK220.out 3).trans rfl
         have hfz78_0 := blk_frozen BK220.out 0
         have hfz78_1 := blk_frozen BK220.out 1
         have hfz78_2 := blk_frozen BK220.out 2
         have hfz78_3 := blk_frozen BK220.out 3
         have hnb79 := NB203_221.out
         have hnc79 := NB221_203.out
         have hcz80_0 : w29.cell? ⟨gb203, 0, none⟩ = some (.int .i64 t198) := (blk_cell BK203.out 0).trans rfl
         have hcz80_1 : w29.cell? ⟨gb203, 1, none⟩ = some (.int .i64 t199) := (blk_cell BK203.out 1).trans rfl
         have hcz80_2 : w29.cell? ⟨gb203, 2, none⟩ = some (.int .i64 t200) := (blk_cell BK203.out 2).trans rfl
         have hcz80_3 : w29.cell? ⟨gb203, 3, none⟩ = some (.int .i64 t201) := (blk_cell BK203.out 3).trans rfl
         have hfz80_0 := blk_frozen BK203.out 0
         have hfz80_1 := blk_frozen BK203.out 1
         have hfz80_2 := blk_frozen BK203.out 2
         have hfz80_3 := blk_frozen BK203.out 3
         go_wp2_with (first | (go_at_call 24; (with_reducible refine (backseatlaw16_alive.calls k  t224 _ A75.out).mono ?_); rintro e w81 ⟨rfl, hb⟩; replace HO196 := Aside0.mk (Kd.V_below (by (with_reducible repeat (first | apply Kd.V_alloc | apply Kd.V_drewN | apply Kd.V_drew)); exact (Kd.V_mono (Kd.V_mono (Kd.V_far (p := ⟨gb221, 3, none⟩) (Kd.V_far (p := ⟨gb221, 2, none⟩) (Kd.V_far (p := ⟨gb221, 1, none⟩) (Kd.V_far (p := ⟨gb221, 0, none⟩) (Kd.V_far (p := ⟨gb220, 3, none⟩) (Kd.V_far (p := ⟨gb220, 2, none⟩) (Kd.V_far (p := ⟨gb220, 1, none⟩) (Kd.V_far (p := ⟨gb220, 0, none⟩) (Kd.V_mono (Kd.V_mono HO196.out (fun k_ hk => (⟨hk, hk.1.2⟩ : _ ∧ k_ ≠ gb220))) (fun k_ hk => (⟨hk, hk.1.2⟩ : _ ∧ k_ ≠ gb221))) (fun _ hk => hk.1.2) (.int .i64 t209)) (fun _ hk => hk.1.2) (.int .i64 t210)) (fun _ hk => hk.1.2) (.int .i64 t211)) (fun _ hk => hk.1.2) (.int .i64 t212)) (fun _ hk => hk.2) (.int .i64 t216)) (fun _ hk => hk.2) (.int .i64 t217)) (fun _ hk => hk.2) (.int .i64 t218)) (fun _ hk => hk.2) (.int .i64 t219)) (fun _ h_ => h_.1)) (fun _ h_ => h_.1))) hb); replace HO215 := Aside0.mk (Kd.R_below (by (with_reducible repeat (first | apply Kd.R_alloc | apply Kd.R_drewN | apply Kd.R_drew)); exact (Kd.R_mono (Kd.R_mono (Kd.R_far (p := ⟨gb221, 3, none⟩) (Kd.R_far (p := ⟨gb221, 2, none⟩) (Kd.R_far (p := ⟨gb221, 1, none⟩) (Kd.R_far (p := ⟨gb221, 0, none⟩) (Kd.R_far (p := ⟨gb220, 3, none⟩) (Kd.R_far (p := ⟨gb220, 2, none⟩) (Kd.R_far (p := ⟨gb220, 1, none⟩) (Kd.R_far (p := ⟨gb220, 0, none⟩) (Kd.R_mono (Kd.R_mono HO215.out (fun k_ hk => (⟨hk, hk.1.2⟩ : _ ∧ k_ ≠ gb220))) (fun k_ hk => (⟨hk, hk.1.2⟩ : _ ∧ k_ ≠ gb221))) (fun _ hk => hk.1.2) (.int .i64 t209)) (fun _ hk => hk.1.2) (.int .i64 t210)) (fun _ hk => hk.1.2) (.int .i64 t211)) (fun _ hk => hk.1.2) (.int .i64 t212)) (fun _ hk => hk.2) (.int .i64 t216)) (fun _ hk => hk.2) (.int .i64 t217)) (fun _ hk => hk.2) (.int .i64 t218)) (fun _ hk => hk.2) (.int .i64 t219)) (fun _ h_ => h_.1)) (fun _ h_ => h_.1))) hb); replace BK203 := Aside0.mk (bb hb (by exact (far4 NB203_221.out (far4 NB203_220.out BK203.out)))); replace BK220 := Aside0.mk (bb hb (by exact (far4 NB220_221.out (put4 BK220.out)))); replace BK221 := Aside0.mk (bb hb (by exact (put4 (far4 NB221_220.out BK221.out)))); replace HB := Aside0.mk (below_step (by repeat first | refine below_set ?_ GE203.out | refine below_set ?_ GE220.out | refine below_set ?_ GE221.out | exact HB.out | apply below_alloc | apply pw_below_drewN | apply below_drew1) hb); (try clear hb); (try clear hb2); (try clear hk); (try clear hi)))
         go_meet
         case rel => exact ⟨_, (!t224), (by first | rfl | (simp; done) | (simp [*]; done)), H', ⟨by first | omega | exact Nat.le_refl _⟩, ⟨by (with_reducible repeat (first | refine blk_drewN ?_ _ | refine blk_drew ?_ | refine blk_alloc ?_ _)); exact BK203.out⟩, ⟨by (with_reducible repeat (first | refine blk_drewN ?_ _ | refine blk_drew ?_ | refine blk_alloc ?_ _)); exact BK220.out⟩, ⟨by (with_reducible repeat (first | refine blk_drewN ?_ _ | refine blk_drew ?_ | refine blk_alloc ?_ _)); exact BK221.out⟩, ⟨by repeat first | refine below_set ?_ GE203.out | refine below_set ?_ GE220.out | refine below_set ?_ GE221.out | exact HB.out | apply below_alloc | apply pw_below_drewN | apply below_drew1⟩⟩
       ·rw [if_neg c68] at H
        have c68b0 : (t202 == 0) = false := beq_eq_false_iff_ne.mpr c68
        have c68b1 : (t202 != 0) = true := bne_iff_ne.mpr c68
        have H' := Aside0.mk H
        clear H
        have hnb82 := NB220_203.out
        have hnc82 := NB203_220.out
        have hnb83 := NB220_221.out
        have hnc83 := NB221_220.out
        have hcz84_0 : w29.cell? ⟨gb220, 0, none⟩ = some (.int .i64 0) := (blk_cell BK220.out 0).trans rfl
        have hcz84_1 : w29.cell? ⟨gb220, 1, none⟩ = some (.int .i64 0) := (blk_cell BK220.out 1).trans rfl
        have hcz84_2 : w29.cell? ⟨gb220, 2, none⟩ = some (.int .i64 0) := (blk_cell BK220.out 2).trans rfl
        have hcz84_3 : w29.cell? ⟨gb220, 3, none⟩ = some (.int .i64 0) := (blk_cell BK220.out 3).trans rfl
        have hfz84_0 := blk_frozen BK220.out 0
        have hfz84_1 := blk_frozen BK220.out 1
        have hfz84_2 := blk_frozen BK220.out 2
        have hfz84_3 := blk_frozen BK220.out 3
        go_wp2
        go_meet
        case rel => exact ⟨_, (true), (by first | rfl | (simp; done) | (simp [*]; done)), H', ⟨by first | omega | exact Nat.le_refl _⟩, ⟨by exact (far4 NB203_221.out (far4 NB203_220.out BK203.out))⟩, ⟨by exact (far4 NB220_221.out (put4 BK220.out))⟩, ⟨by exact (put4 (far4 NB221_220.out BK221.out))⟩, ⟨by repeat first | refine below_set ?_ GE203.out | refine below_set ?_ GE220.out | refine below_set ?_ GE221.out | exact HB.out | apply below_alloc | apply pw_below_drewN | apply below_drew1⟩⟩
      ·rw [if_neg c67] at H
       have c67b0 : decide (0 < t209) = false := decide_eq_false c67
       clear c67
       replace H := Option.bind_eq_some_iff.mp H
       obtain ⟨t225, A850, H⟩ := H
       replace H : (backseatlaw16_SizeTells.j0 k t204 t205 t206 (!t225) t216 t217 t218 t219) = some r := H
       have A85 := Aside0.mk A850
       clear A850
       have H' := Aside0.mk H
       clear H
       have hnb86 := NB220_203.out
       have hnc86 := NB203_220.out
       have hnb87 := NB220_221.out
       have hnc87 := NB221_220.out
       have hcz88_0 : w29.cell? ⟨gb220, 0, none⟩ = some (.int .i64 0) := (blk_cell BK220.out 0).trans rfl
       have hcz88_1 : w29.cell? ⟨gb220, 1, none⟩ = some (.int .i64 0) := (blk_cell BK220.out 1).trans rfl
       have hcz88_2 : w29.cell? ⟨gb220, 2, none⟩ = some (.int .i64 0) := (blk_cell BK220.out 2).trans rfl
       have hcz88_3 : w29.cell? ⟨gb220, 3, none⟩ = some (.int .i64 0) := (blk_cell BK220.out 3).trans rfl
       have hfz88_0 := blk_frozen BK220.out 0
       have hfz88_1 := blk_frozen BK220.out 1
       have hfz88_2 := blk_frozen BK220.out 2
       have hfz88_3 := blk_frozen BK220.out 3
       go_wp2_with (first | (go_at_call 24; (with_reducible refine (backseatlaw16_alive.calls k  t225 _ A85.out).mono ?_); rintro e w89 ⟨rfl, hb⟩; replace HO196 := Aside0.mk (Kd.V_below (by (with_reducible repeat (first | apply Kd.V_alloc | apply Kd.V_drewN | apply Kd.V_drew)); exact (Kd.V_mono (Kd.V_mono (Kd.V_far (p := ⟨gb221, 3, none⟩) (Kd.V_far (p := ⟨gb221, 2, none⟩) (Kd.V_far (p := ⟨gb221, 1, none⟩) (Kd.V_far (p := ⟨gb221, 0, none⟩) (Kd.V_far (p := ⟨gb220, 3, none⟩) (Kd.V_far (p := ⟨gb220, 2, none⟩) (Kd.V_far (p := ⟨gb220, 1, none⟩) (Kd.V_far (p := ⟨gb220, 0, none⟩) (Kd.V_mono (Kd.V_mono HO196.out (fun k_ hk => (⟨hk, hk.1.2⟩ : _ ∧ k_ ≠ gb220))) (fun k_ hk => (⟨hk, hk.1.2⟩ : _ ∧ k_ ≠ gb221))) (fun _ hk => hk.1.2) (.int .i64 t209)) (fun _ hk => hk.1.2) (.int .i64 t210)) (fun _ hk => hk.1.2) (.int .i64 t211)) (fun _ hk => hk.1.2) (.int .i64 t212)) (fun _ hk => hk.2) (.int .i64 t216)) (fun _ hk => hk.2) (.int .i64 t217)) (fun _ hk => hk.2) (.int .i64 t218)) (fun _ hk => hk.2) (.int .i64 t219)) (fun _ h_ => h_.1)) (fun _ h_ => h_.1))) hb); replace HO215 := Aside0.mk (Kd.R_below (by (with_reducible repeat (first | apply Kd.R_alloc | apply Kd.R_drewN | apply Kd.R_drew)); exact (Kd.R_mono (Kd.R_mono (Kd.R_far (p := ⟨gb221, 3, none⟩) (Kd.R_far (p := ⟨gb221, 2, none⟩) (Kd.R_far (p := ⟨gb221, 1, none⟩) (Kd.R_far (p := ⟨gb221, 0, none⟩) (Kd.R_far (p := ⟨gb220, 3, none⟩) (Kd.R_far (p := ⟨gb220, 2, none⟩) (Kd.R_far (p := ⟨gb220, 1, none⟩) (Kd.R_far (p := ⟨gb220, 0, none⟩) (Kd.R_mono (Kd.R_mono HO215.out (fun k_ hk => (⟨hk, hk.1.2⟩ : _ ∧ k_ ≠ gb220))) (fun k_ hk => (⟨hk, hk.1.2⟩ : _ ∧ k_ ≠ gb221))) (fun _ hk => hk.1.2) (.int .i64 t209)) (fun _ hk => hk.1.2) (.int .i64 t210)) (fun _ hk => hk.1.2) (.int .i64 t211)) (fun _ hk => hk.1.2) (.int .i64 t212)) (fun _ hk => hk.2) (.int .i64 t216)) (fun _ hk => hk.2) (.int .i64 t217)) (fun _ hk => hk.2) (.int .i64 t218)) (fun _ hk => hk.2) (.int .i64 t219)) (fun _ h_ => h_.1)) (fun _ h_ => h_.1))) hb); replace BK203 := Aside0.mk (bb hb (by exact (far4 NB203_221.out (far4 NB203_220.out BK203.out)))); replace BK220 := Aside0.mk (bb hb (by exact (far4 NB220_221.out (put4 BK220.out)))); replace BK221 := Aside0.mk (bb hb (by exact (put4 (far4 NB221_220.out BK221.out)))); replace HB := Aside0.mk (below_step (by repeat first | refine below_set ?_ GE203.out | refine below_set ?_ GE220.out | refine below_set ?_ GE221.out | exact HB.out | apply below_alloc | apply pw_below_drewN | apply below_drew1) hb); (try clear hb); (try clear hb2); (try clear hk); (try clear hi)))
       go_meet
       case rel => exact ⟨_, (!t225), (by first | rfl | (simp; done) | (simp [*]; done)), H', ⟨by first | omega | exact Nat.le_refl _⟩, ⟨by (with_reducible repeat (first | refine blk_drewN ?_ _ | refine blk_drew ?_ | refine blk_alloc ?_ _)); exact BK203.out⟩, ⟨by (with_reducible repeat (first | refine blk_drewN ?_ _ | refine blk_drew ?_ | refine blk_alloc ?_ _)); exact BK220.out⟩, ⟨by (with_reducible repeat (first | refine blk_drewN ?_ _ | refine blk_drew ?_ | refine blk_alloc ?_ _)); exact BK221.out⟩, ⟨by repeat first | refine below_set ?_ GE203.out | refine below_set ?_ GE220.out | refine below_set ?_ GE221.out | exact HB.out | apply below_alloc | apply pw_below_drewN | apply below_drew1⟩⟩
    case rest =>
     clear HC14
     (try clear c1); (try clear c2); (try clear p2); (try clear c3); (try clear c4); (try clear c5); (try clear c5b0); (try clear c5b1); (try clear c6); (try clear c6b0); (try clear c6b1); (try clear c7); (try clear c8); (try clear c10); (try clear c20); (try clear c21); (try clear c22); (try clear c23); (try clear c25); (try clear c26); (try clear c30); (try clear c31); (try clear c33); (try clear c35); (try clear c35b0); (try clear c35b1); (try clear c36); (try clear c36b0); (try clear c36b1); (try clear c37); (try clear c37b0); (try clear c38); (try clear c39); (try clear c41); (try clear c43); (try clear c43b0); (try clear c44); (try clear c44b0); (try clear c44b1); (try clear c46); (try clear c47); (try clear c49); (try clear c52); (try clear c53); (try clear c55); (try clear c58); (try clear c59); (try clear c61); (try clear c64); (try clear c65); (try clear c67); (try clear c67b0); (try clear c68); (try clear c68b0); (try clear c68b1); (try clear c69); (try clear c69b0); (try clear c70); (try clear c71); (try clear c73); (try clear c76); (try clear c77); (try clear c79); (try clear c82); (try clear c83); (try clear c86); (try clear c87); (try clear hcz21_0); (try clear hcz21_1); (try clear hcz21_2); (try clear hcz21_3); (try clear hcz32_0); (try clear hcz32_1); (try clear hcz32_2); (try clear hcz32_3); (try clear hcz34_0); (try clear hcz34_1); (try clear hcz34_2); (try clear hcz34_3); (try clear hcz40_0); (try clear hcz40_1); (try clear hcz40_2); (try clear hcz40_3); (try clear hcz42_0); (try clear hcz42_1); (try clear hcz42_2); (try clear hcz42_3); (try clear hcz48_0); (try clear hcz48_1); (try clear hcz48_2); (try clear hcz48_3); (try clear hcz50_0); (try clear hcz50_1); (try clear hcz50_2); (try clear hcz50_3); (try clear hcz54_0); (try clear hcz54_1); (try clear hcz54_2); (try clear hcz54_3); (try clear hcz56_0); (try clear hcz56_1); (try clear hcz56_2); (try clear hcz56_3); (try clear hcz60_0); (try clear hcz60_1); (try clear hcz60_2); (try clear hcz60_3); (try clear hcz62_0); (try clear hcz62_1); (try clear hcz62_2); (try clear hcz62_3); (try clear hcz66_0); (try clear hcz66_1); (try clear hcz66_2); (try clear hcz66_3); (try clear hcz72_0); (try clear hcz72_1); (try clear hcz72_2); (try clear hcz72_3); (try clear hcz74_0); (try clear hcz74_1); (try clear hcz74_2); (try clear hcz74_3); (try clear hcz78_0); (try clear hcz78_1); (try clear hcz78_2); (try clear hcz78_3); (try clear hcz80_0); (try clear hcz80_1); (try clear hcz80_2); (try clear hcz80_3); (try clear hcz84_0); (try clear hcz84_1); (try clear hcz84_2); (try clear hcz84_3); (try clear hcz88_0); (try clear hcz88_1); (try clear hcz88_2); (try clear hcz88_3); (try clear hfz21_0); (try clear hfz21_1); (try clear hfz21_2); (try clear hfz21_3); (try clear hfz32_0); (try clear hfz32_1); (try clear hfz32_2); (try clear hfz32_3); (try clear hfz34_0); (try clear hfz34_1); (try clear hfz34_2); (try clear hfz34_3); (try clear hfz40_0); (try clear hfz40_1); (try clear hfz40_2); (try clear hfz40_3); (try clear hfz42_0); (try clear hfz42_1); (try clear hfz42_2); (try clear hfz42_3); (try clear hfz48_0); (try clear hfz48_1); (try clear hfz48_2); (try clear hfz48_3); (try clear hfz50_0); (try clear hfz50_1); (try clear hfz50_2); (try clear hfz50_3); (try clear hfz54_0); (try clear hfz54_1); (try clear hfz54_2); (try clear hfz54_3); (try clear hfz56_0); (try clear hfz56_1); (try clear hfz56_2); (try clear hfz56_3); (try clear hfz60_0); (try clear hfz60_1); (try clear hfz60_2); (try clear hfz60_3); (try clear hfz62_0); (try clear hfz62_1); (try clear hfz62_2); (try clear hfz62_3); (try clear hfz66_0); (try clear hfz66_1); (try clear hfz66_2); (try clear hfz66_3); (try clear hfz72_0); (try clear hfz72_1); (try clear hfz72_2); (try clear hfz72_3); (try clear hfz74_0); (try clear hfz74_1); (try clear hfz74_2); (try clear hfz74_3); (try clear hfz78_0); (try clear hfz78_1); (try clear hfz78_2); (try clear hfz78_3); (try clear hfz80_0); (try clear hfz80_1); (try clear hfz80_2); (try clear hfz80_3); (try clear hfz84_0); (try clear hfz84_1); (try clear hfz84_2); (try clear hfz84_3); (try clear hfz88_0); (try clear hfz88_1); (try clear hfz88_2); (try clear hfz88_3)
     obtain ⟨kq, x91_13, rfl, HA, HJ13, BK203, BK220, BK221, HB⟩ := hcut
     cases kq with
     | zero => exact absurd HA.out (by simp [backseatlaw16_SizeTells.j0])
     | succ kj13 =>
      have H := HA.out
      clear HA
      simp only [backseatlaw16_SizeTells.j0] at H
      by_cases c90 : x91_13 = true
      ·subst c90
       have H1 : (some false) = some r := by rw [if_pos rfl] at H; exact H
       clear H
       have H := H1
       clear H1
       obtain rfl := Option.some.inj H
       go_wp2
       go_ret
       exact ⟨by first | rfl | (simp [errW_none, errW_some] <;> rfl) | (simp only [← hji4]; first | rfl | (simp [errW_none, errW_some] <;> rfl)) | (simp [*, errW_none, errW_some] <;> rfl), by repeat first | refine below_set ?_ GE203.out | refine below_set ?_ GE220.out | refine below_set ?_ GE221.out | exact HB.out | apply below_alloc | apply pw_below_drewN | apply below_drew1⟩
      ·replace c90 := Bool.eq_false_iff.mpr c90
       subst c90
       have H1 : (if t216 = 0 then (if t206 = 5 then (if t204 = 0 then (some (t205 == 0)) else (some false)) else (some false)) else (if t206 = 0 then (if t204 = t217 then (some (t205 == (wrap64 (t218 - 1)))) else (some false)) else (some false))) = some r := by rw [if_neg (show ¬ (false = true) by decide)] at H; exact H
       clear H
       have H := H1
       clear H1
       by_cases c91 : t216 = 0
       ·rw [if_pos c91] at H
        have c91b0 : (t216 == 0) = true := beq_iff_eq.mpr c91
        have c91b1 : (t216 != 0) = false := bne_eq_false_iff_eq.mpr c91
        clear c91
        by_cases c92 : t206 = 5
        ·rw [if_pos c92] at H
         have c92b0 : (t206 == 5) = true := beq_iff_eq.mpr c92
         have c92b1 : (t206 != 5) = false := bne_eq_false_iff_eq.mpr c92
         clear c92
         by_cases c93 : t204 = 0
         ·rw [if_pos c93] at H
          have c93b0 : (t204 == 0) = true := beq_iff_eq.mpr c93
          have c93b1 : (t204 != 0) = false := bne_eq_false_iff_eq.mpr c93
          clear c93
          obtain rfl := Option.some.inj H
          have hnb94 := NB221_203.out
          have hnc94 := NB203_221.out
          have hnb95 := NB221_220.out
          have hnc95 := NB220_221.out
          have hcz96_0 : wc.cell? ⟨gb221, 0, none⟩ = some (.int .i64 t216) := (blk_cell BK221.out 0).trans rfl
          have hcz96_1 : wc.cell? ⟨gb221, 1, none⟩ = some (.int .i64 t217) := (blk_cell BK221.out 1).trans rfl
          have hcz96_2 : wc.cell? ⟨gb221, 2, none⟩ = some (.int .i64 t218) := (blk_cell BK221.out 2).trans rfl
          have hcz96_3 : wc.cell? ⟨gb221, 3, none⟩ = some (.int .i64 t219) := (blk_cell BK221.out 3).trans rfl
          have hfz96_0 := blk_frozen BK221.out 0
          have hfz96_1 := blk_frozen BK221.out 1
          have hfz96_2 := blk_frozen BK221.out 2
          have hfz96_3 := blk_frozen BK221.out 3
          go_wp2
          go_ret
          exact ⟨by first | rfl | (simp [errW_none, errW_some] <;> rfl) | (simp only [← hji4]; first | rfl | (simp [errW_none, errW_some] <;> rfl)) | (simp [*, errW_none, errW_some] <;> rfl), by repeat first | refine below_set ?_ GE203.out | refine below_set ?_ GE220.out | refine below_set ?_ GE221.out | exact HB.out | apply below_alloc | apply pw_below_drewN | apply below_drew1⟩
         ·rw [if_neg c93] at H
          have c93b0 : (t204 == 0) = false := beq_eq_false_iff_ne.mpr c93
          have c93b1 : (t204 != 0) = true := bne_iff_ne.mpr c93
          obtain rfl := Option.some.inj H
          have hnb97 := NB221_203.out
          have hnc97 := NB203_221.out
          have hnb98 := NB221_220.out
          have hnc98 := NB220_221.out
          have hcz99_0 : wc.cell? ⟨gb221, 0, none⟩ = some (.int .i64 t216) := (blk_cell BK221.out 0).trans rfl
          have hcz99_1 : wc.cell? ⟨gb221, 1, none⟩ = some (.int .i64 t217) := (blk_cell BK221.out 1).trans rfl
          have hcz99_2 : wc.cell? ⟨gb221, 2, none⟩ = some (.int .i64 t218) := (blk_cell BK221.out 2).trans rfl
          have hcz99_3 : wc.cell? ⟨gb221, 3, none⟩ = some (.int .i64 t219) := (blk_cell BK221.out 3).trans rfl
          have hfz99_0 := blk_frozen BK221.out 0
          have hfz99_1 := blk_frozen BK221.out 1
          have hfz99_2 := blk_frozen BK221.out 2
          have hfz99_3 := blk_frozen BK221.out 3
          go_wp2
          go_ret
          exact ⟨by first | rfl | (simp [errW_none, errW_some] <;> rfl) | (simp only [← hji4]; first | rfl | (simp [errW_none, errW_some] <;> rfl)) | (simp [*, errW_none, errW_some] <;> rfl), by repeat first | refine below_set ?_ GE203.out | refine below_set ?_ GE220.out | refine below_set ?_ GE221.out | exact HB.out | apply below_alloc | apply pw_below_drewN | apply below_drew1⟩
        ·rw [if_neg c92] at H
         have c92b0 : (t206 == 5) = false := beq_eq_false_iff_ne.mpr c92
         have c92b1 : (t206 != 5) = true := bne_iff_ne.mpr c92
         obtain rfl := Option.some.inj H
         have hnb100 := NB221_203.out
         have hnc100 := NB203_221.out
         have hnb101 := NB221_220.out
         have hnc101 := NB220_221.out
         have hcz102_0 : wc.cell? ⟨gb221, 0, none⟩ = some (.int .i64 t216) := (blk_cell BK221.out 0).trans rfl
         have hcz102_1 : wc.cell? ⟨gb221, 1, none⟩ = some (.int .i64 t217) := (blk_cell BK221.out 1).trans rfl
         have hcz102_2 : wc.cell? ⟨gb221, 2, none⟩ = some (.int .i64 t218) := (blk_cell BK221.out 2).trans rfl
         have hcz102_3 : wc.cell? ⟨gb221, 3, none⟩ = some (.int .i64 t219) := (blk_cell BK221.out 3).trans rfl
         have hfz102_0 := blk_frozen BK221.out 0
         have hfz102_1 := blk_frozen BK221.out 1
         have hfz102_2 := blk_frozen BK221.out 2
         have hfz102_3 := blk_frozen BK221.out 3
         go_wp2
         go_ret
         exact ⟨by first | rfl | (simp [errW_none, errW_some] <;> rfl) | (simp only [← hji4]; first | rfl | (simp [errW_none, errW_some] <;> rfl)) | (simp [*, errW_none, errW_some] <;> rfl), by repeat first | refine below_set ?_ GE203.out | refine below_set ?_ GE220.out | refine below_set ?_ GE221.out | exact HB.out | apply below_alloc | apply pw_below_drewN | apply below_drew1⟩
       ·rw [if_neg c91] at H
        have c91b0 : (t216 == 0) = false := beq_eq_false_iff_ne.mpr c91
        have c91b1 : (t216 != 0) = true := bne_iff_ne.mpr c91
        by_cases c103 : t206 = 0
        ·rw [if_pos c103] at H
         have c103b0 : (t206 == 0) = true := beq_iff_eq.mpr c103
         have c103b1 : (t206 != 0) = false := bne_eq_false_iff_eq.mpr c103
         clear c103
         by_cases c104 : t204 = t217
         ·rw [if_pos c104] at H
          have c104b0 : (t204 == t217) = true := beq_iff_eq.mpr c104
          have c104b1 : (t204 != t217) = false := bne_eq_false_iff_eq.mpr c104
          clear c104
          obtain rfl := Option.some.inj H
          have hnb105 := NB221_203.out
          have hnc105 := NB203_221.out
          have hnb106 := NB221_220.out
          have hnc106 := NB220_221.out
          have hcz107_0 : wc.cell? ⟨gb221, 0, none⟩ = some (.int .i64 t216) := (blk_cell BK221.out 0).trans rfl
          have hcz107_1 : wc.cell? ⟨gb221, 1, none⟩ = some (.int .i64 t217) := (blk_cell BK221.out 1).trans rfl
          have hcz107_2 : wc.cell? ⟨gb221, 2, none⟩ = some (.int .i64 t218) := (blk_cell BK221.out 2).trans rfl
          have hcz107_3 : wc.cell? ⟨gb221, 3, none⟩ = some (.int .i64 t219) := (blk_cell BK221.out 3).trans rfl
          have hfz107_0 := blk_frozen BK221.out 0
          have hfz107_1 := blk_frozen BK221.out 1
          have hfz107_2 := blk_frozen BK221.out 2
          have hfz107_3 := blk_frozen BK221.out 3
          go_wp2
          go_ret
          exact ⟨by first | rfl | (simp [errW_none, errW_some] <;> rfl) | (simp only [← hji4]; first | rfl | (simp [errW_none, errW_some] <;> rfl)) | (simp [*, errW_none, errW_some] <;> rfl), by repeat first | refine below_set ?_ GE203.out | refine below_set ?_ GE220.out | refine below_set ?_ GE221.out | exact HB.out | apply below_alloc | apply pw_below_drewN | apply below_drew1⟩
         ·rw [if_neg c104] at H
          have c104b0 : (t204 == t217) = false := beq_eq_false_iff_ne.mpr c104
          have c104b1 : (t204 != t217) = true := bne_iff_ne.mpr c104
          obtain rfl := Option.some.inj H
          have hnb108 := NB221_203.out
          have hnc108 := NB203_221.out
          have hnb109 := NB221_220.out
          have hnc109 := NB220_221.out
          have hcz110_0 : wc.cell? ⟨gb221, 0, none⟩ = some (.int .i64 t216) := (blk_cell BK221.out 0).trans rfl
          have hcz110_1 : wc.cell? ⟨gb221, 1, none⟩ = some (.int .i64 t217) := (blk_cell BK221.out 1).trans rfl
          have hcz110_2 : wc.cell? ⟨gb221, 2, none⟩ = some (.int .i64 t218) := (blk_cell BK221.out 2).trans rfl
          have hcz110_3 : wc.cell? ⟨gb221, 3, none⟩ = some (.int .i64 t219) := (blk_cell BK221.out 3).trans rfl
          have hfz110_0 := blk_frozen BK221.out 0
          have hfz110_1 := blk_frozen BK221.out 1
          have hfz110_2 := blk_frozen BK221.out 2
          have hfz110_3 := blk_frozen BK221.out 3
          go_wp2
          go_ret
          exact ⟨by first | rfl | (simp [errW_none, errW_some] <;> rfl) | (simp only [← hji4]; first | rfl | (simp [errW_none, errW_some] <;> rfl)) | (simp [*, errW_none, errW_some] <;> rfl), by repeat first | refine below_set ?_ GE203.out | refine below_set ?_ GE220.out | refine below_set ?_ GE221.out | exact HB.out | apply below_alloc | apply pw_below_drewN | apply below_drew1⟩
        ·rw [if_neg c103] at H
         have c103b0 : (t206 == 0) = false := beq_eq_false_iff_ne.mpr c103
         have c103b1 : (t206 != 0) = true := bne_iff_ne.mpr c103
         obtain rfl := Option.some.inj H
         have hnb111 := NB221_203.out
         have hnc111 := NB203_221.out
         have hnb112 := NB221_220.out
         have hnc112 := NB220_221.out
         have hcz113_0 : wc.cell? ⟨gb221, 0, none⟩ = some (.int .i64 t216) := (blk_cell BK221.out 0).trans rfl
         have hcz113_1 : wc.cell? ⟨gb221, 1, none⟩ = some (.int .i64 t217) := (blk_cell BK221.out 1).trans rfl
         have hcz113_2 : wc.cell? ⟨gb221, 2, none⟩ = some (.int .i64 t218) := (blk_cell BK221.out 2).trans rfl
         have hcz113_3 : wc.cell? ⟨gb221, 3, none⟩ = some (.int .i64 t219) := (blk_cell BK221.out 3).trans rfl
         have hfz113_0 := blk_frozen BK221.out 0
         have hfz113_1 := blk_frozen BK221.out 1
         have hfz113_2 := blk_frozen BK221.out 2
         have hfz113_3 := blk_frozen BK221.out 3
         go_wp2
         go_ret
         exact ⟨by first | rfl | (simp [errW_none, errW_some] <;> rfl) | (simp only [← hji4]; first | rfl | (simp [errW_none, errW_some] <;> rfl)) | (simp [*, errW_none, errW_some] <;> rfl), by repeat first | refine below_set ?_ GE203.out | refine below_set ?_ GE220.out | refine below_set ?_ GE221.out | exact HB.out | apply below_alloc | apply pw_below_drewN | apply below_drew1⟩
   ·replace c10 := Bool.eq_false_iff.mpr c10
    subst c10
    have H1 : ((backseatlaw16_alive.f k).bind fun t208 => (if t208 = true then (if t202 = 1 then (if t206 = 1 then (if (t198 == 0 && (t199 == 0 && (t200 == 0 && (t201 == 0)))) = true then (if t204 = 0 then (some (t205 == 0)) else (some false)) else (some false)) else (some false)) else (some false)) else (some false))) = some r := by rw [if_neg (show ¬ (false = true) by decide)] at H; exact H
    clear H
    have H := H1
    clear H1
    replace H := Option.bind_eq_some_iff.mp H
    obtain ⟨t208, A1140, H⟩ := H
    replace H : (if t208 = true then (if t202 = 1 then (if t206 = 1 then (if (t198 == 0 && (t199 == 0 && (t200 == 0 && (t201 == 0)))) = true then (if t204 = 0 then (some (t205 == 0)) else (some false)) else (some false)) else (some false)) else (some false)) else (some false)) = some r := H
    have A114 := Aside0.mk A1140
    clear A1140
    by_cases c115 : t208 = true
    ·subst c115
     have H1 : (if t202 = 1 then (if t206 = 1 then (if (t198 == 0 && (t199 == 0 && (t200 == 0 && (t201 == 0)))) = true then (if t204 = 0 then (some (t205 == 0)) else (some false)) else (some false)) else (some false)) else (some false)) = some r := by rw [if_pos rfl] at H; exact H
     clear H
     have H := H1
     clear H1
     by_cases c116 : t202 = 1
     ·rw [if_pos c116] at H
      have c116b0 : (t202 == 1) = true := beq_iff_eq.mpr c116
      have c116b1 : (t202 != 1) = false := bne_eq_false_iff_eq.mpr c116
      clear c116
      by_cases c117 : t206 = 1
      ·rw [if_pos c117] at H
       have c117b0 : (t206 == 1) = true := beq_iff_eq.mpr c117
       have c117b1 : (t206 != 1) = false := bne_eq_false_iff_eq.mpr c117
       clear c117
       by_cases c118 : (t198 == 0 && (t199 == 0 && (t200 == 0 && (t201 == 0)))) = true
       ·rw [if_pos c118] at H
        have c118b0 : (t198 == 0 && (t199 == 0 && (t200 == 0 && (t201 == 0)))) = true := c118
        (try (have c118b1 : decide (t198 = 0 && (t199 == 0 && (t200 == 0 && (t201 == 0)))) = true := by simpa using c118))
        (try (have c118b2 : (t198 == 0 && (t199 == 0 && (t200 == 0 && (t201 == 0)))) = true := by simpa using c118))
        clear c118
        by_cases c119 : t204 = 0
        ·rw [if_pos c119] at H
         have c119b0 : (t204 == 0) = true := beq_iff_eq.mpr c119
         have c119b1 : (t204 != 0) = false := bne_eq_false_iff_eq.mpr c119
         clear c119
         obtain rfl := Option.some.inj H
         go_enter Try.func6, Try.ntmps6
         try go_wp2
         replace HB := Aside0.mk (below_drew1 HB.out)
         obtain ⟨i0121, hi0121, _, hsz121, _⟩ := info_parts info3
         obtain ⟨hcut121, hA121, hC121⟩ := print_take_of (P := Try.prog) (Value.int .i64) 0 22 3 .i64 Try.underlying22 hi0121 hsz121 A1 c1 l1 (ji4) (of_decide_eq_true (by first | (with_reducible assumption) | assumption)) (of_decide_eq_true (by first | (with_reducible assumption) | assumption)) HC1.out
         have HR197 := Aside0.mk (Kd.C_of_reads (h1 := fun _ => rfl) (hA121 _ (Kd.reads_of_C HR1.out)))
         have HC197 := Aside0.mk hC121
         clear hA121 hC121 hi0121 hsz121
         refine start_ (n := 9) (S := fun w' => True) (ds := []) #[false, false, false, false, false, false, false, false, false] (by kernel_rfl) rfl rfl trivial (fun hHeld => ?_); refine with_tabW backseatlaw16_SizeTells.tab1 backseatlaw16_SizeTells.bits1 (fun HT_ HW_ => ?_)
         generalize w.drew = w120 at HB HR197 hHeld ⊢
         refine pu HT_.out (i := 0) (N := some 12) (v := ?_) (a' := ?_) #[true, false, false, false, false, false, false, false, false] rfl rfl (by kernel_rfl) (fun _ _ _ h => h) (by rfl) ?_ ?_ ?_; rotate_left; (·intro w'; go_simp; with_reducible rfl); rotate_left; (·simp only [Act.put, s1, s2, s3, i64_w, i32_w]; rfl)
         refine pu HT_.out (i := 2) (N := some 14) (v := ?_) (a' := ?_) #[true, false, true, false, false, false, false, false, false] rfl rfl (by kernel_rfl) (fun _ _ _ h => h) (by rfl) ?_ ?_ ?_; rotate_left; (·intro w'; go_simp; with_reducible rfl); rotate_left; (·simp only [Act.put, s1, s2, s3, i64_w, i32_w]; rfl)
         refine pu HT_.out (i := 3) (N := some 15) (v := ?_) (a' := ?_) #[true, false, true, true, false, false, false, false, false] rfl rfl (by kernel_rfl) (fun _ _ _ h => h) (by rfl) ?_ ?_ ?_; rotate_left; (·intro w'; go_simp; with_reducible rfl); rotate_left; (·simp only [Act.put, s1, s2, s3, i64_w, i32_w]; rfl)
         refine pu HT_.out (i := 4) (N := some 16) (v := ?_) (a' := ?_) #[true, false, true, true, true, false, false, false, false] rfl rfl (by kernel_rfl) (fun _ _ _ h => h) (by rfl) ?_ ?_ ?_; rotate_left; (·intro w'; go_simp; with_reducible rfl); rotate_left; (·simp only [Act.put, s1, s2, s3, i64_w, i32_w]; rfl)
         refine pu HT_.out (i := 5) (N := some 17) (v := ?_) (a' := ?_) #[true, false, true, true, true, true, false, false, false] rfl rfl (by kernel_rfl) (fun _ _ _ h => h) (by rfl) ?_ ?_ ?_; rotate_left; (·intro w'; go_simp; with_reducible rfl); rotate_left; (·simp only [Act.put, s1, s2, s3, i64_w, i32_w]; rfl)
         refine pu HT_.out (i := 6) (N := some 18) (v := ?_) (a' := ?_) #[true, false, true, true, true, true, true, false, false] rfl rfl (by kernel_rfl) (fun _ _ _ h => h) (by rfl) ?_ ?_ ?_; rotate_left; (·intro w'; go_simp; with_reducible rfl); rotate_left; (·simp only [Act.put, s1, s2, s3, i64_w, i32_w]; rfl)
         refine one_ (i := 1) (N := some 13) #[true, true, true, true, true, true, true, false, false] rfl rfl (one_of HT_.out (by kernel_rfl)) (by decide) (fun K hK => ?_)
         refine goes_ Try.func20 (by kernel_rfl) rfl #[.slice A0 l0.length c0] (by rfl) rfl rfl (by (try simp only [List.map_toArray, List.map_cons, List.map_nil]); first | done | rfl | (simp only [List.length_drop, List.length_take]; rfl)) ?_
         with_reducible refine (backseatlaw16_few.calls (fun k_ => k_ < w.heap.size) _ _ l0 t194 _ ?side1 A3.out).mono ?_
         (case side1 => exact Kd.V_mk HC0.out (Kd.F_below (Kd.C_F k48_heap HR0.out) (by first | exact HB.out | exact pw_below_drewN HB.out _ | exact below_drew1 HB.out)))
         rintro e w122 ⟨v195, rfl, ho0, hb⟩
         refine ⟨_, rfl, ?_⟩
         have HO196 := Aside0.mk (Kd.V_lower (Kd.V_mono (ok' := fun k_ => True) ho0 (fun k_ hk_ => trivial)) (below_size (by first | exact HB.out | exact pw_below_drewN HB.out _ | exact below_drew1 HB.out))); replace HB := Aside0.mk (below_step (by first | exact HB.out | exact pw_below_drewN HB.out _ | exact below_drew1 HB.out) hb)
         (try clear hb)
         (try clear hb2)
         (try clear hk)
         (try clear hi)
         (try clear ho0)
         refine hK.out _ _ trivial (fun hHeld => ?_)
         clear hK K
         refine norm_ (a' := ?_) ?_ ?_
         rotate_left
         ·show Act.put _ (some 13) _ = _
          simp only [Act.put, s1, s2, s3, i64_w, i32_w]
          rfl
         refine pu HT_.out (i := 7) (N := some 0) (v := ?_) (a' := ?_) #[true, true, true, true, true, true, true, true, false] rfl rfl (by kernel_rfl) (fun _ _ _ h => h) (by rfl) ?_ ?_ ?_; rotate_left; (·intro w'; go_simp; with_reducible rfl); rotate_left; (·simp only [Act.put, s1, s2, s3, i64_w, i32_w]; rfl)
         refine pu HT_.out (i := 8) (N := some 1) (v := ?_) (a' := ?_) #[true, true, true, true, true, true, true, true, true] rfl rfl (by kernel_rfl) (fun _ _ _ h => h) (by rfl) ?_ ?_ ?_; rotate_left; (·intro w'; go_simp; with_reducible rfl); rotate_left; (·simp only [Act.put, s1, s2, s3, i64_w, i32_w]; rfl)
         refine done_ (done_of HT_.out (by kernel_rfl)) ?_
         obtain ⟨Ao123, co123, eo123⟩ := Kd.V_slice HO196.out
         subst eo123
         try go_wp2_with (first | ((with_reducible refine gate_callee (f := 21) rfl ?_); refine goesL_ (some 21) rfl rfl Try.func21 (by kernel_rfl) rfl #[.slice Ao123 t194.length co123] rfl (by (try simp only [List.map_toArray, List.map_cons, List.map_nil]); first | done | rfl | (simp only [List.length_drop, List.length_take]; rfl)) ?_; (with_reducible refine (size_Latest.calls _ _ t194 t198 t199 t200 t201 t202 _ ?side1 ?side2 A7.out).mono ?_); (case side1 => repeat (first | exact (Kd.V_reads' HO196.out).2.2 | (with_reducible refine Kd.C_alloc ?_ _) | (with_reducible refine Kd.C_drewN ?_ _) | (with_reducible refine Kd.C_drew ?_))); (case side2 => exact (Kd.V_reads' HO196.out).2.1); rintro e w124 ⟨rfl, hb⟩; refine ⟨_, rfl, ?_⟩; replace HO196 := Aside0.mk (Kd.V_below (by (with_reducible repeat (first | apply Kd.V_alloc | apply Kd.V_drewN | apply Kd.V_drew)); exact HO196.out) hb); replace HB := Aside0.mk (below_step (by first | exact HB.out | exact pw_below_drewN HB.out _ | exact below_drew1 HB.out) hb); (try clear hb); (try clear hb2); (try clear hk); (try clear hi)) | ((with_reducible refine gate_dst (N := 5) rfl ?_); refine box_event ?hg (N := 5) ?hd (cs := #[.int .i64 0, .int .i64 0, .int .i64 0, .int .i64 0]) (t := 48) ?hr ?_; (case hd => rfl); (case hg => rfl); (case hr => first | (go_simp; done) | (go_simp; rfl)); intro gb203 hg w125 hbox hb; have BK203 := Aside0.mk (hbox); have GW203 := Aside0.mk ((by rw [hg]; exact (below_size (by first | exact HB.out | exact pw_below_drewN HB.out _ | exact below_drew1 HB.out)) : w.heap.size ≤ gb203)); have GE203 := GW203; replace HO196 := Aside0.mk (Kd.V_below (Kd.V_elderB (by (with_reducible repeat (first | apply Kd.V_alloc | apply Kd.V_drewN | apply Kd.V_drew)); exact HO196.out) gb203 (Nat.le_of_eq hg.symm)) hb); replace HB := Aside0.mk (below_step (by first | exact HB.out | exact pw_below_drewN HB.out _ | exact below_drew1 HB.out) hb); clear hb hbox hg; obtain ⟨hcz126_0, hcz126_1, hcz126_2, hcz126_3, hfz126_0, hfz126_1, hfz126_2, hfz126_3⟩ := cz4 BK203.out) | ((with_reducible refine gate_callee (f := 22) rfl ?_); refine goesL_ (some 27) rfl rfl Try.func22 (by kernel_rfl) rfl #[.slice Ao123 t194.length co123, .slice A1 (l1.take ((ji4) : Int).toNat).length c1] rfl (by (try simp only [List.map_toArray, List.map_cons, List.map_nil]); first | done | (rw [show (l1.take ((ji4) : Int).toNat).length = (ji4).toNat from (by rw [List.length_take]; have h_ : ((ji4) : Int) ≤ (l1.length : Int) := of_decide_eq_true (by first | (with_reducible assumption) | assumption); omega)] <;> rfl) | (simp only [hji4]; rfl) | rfl | (simp only [List.length_drop, List.length_take]; rfl)) ?_; (with_reducible refine (size_Of.calls _ _ t194 _ _ (l1.take ((ji4) : Int).toNat) t204 t205 t206 _ ?side1 ?side2 ?side3 ?side4 A8.out).mono ?_); (case side1 => refine (Kd.V_reads' (e := 48) (base := w.heap.size) (ok := fun k_ => (True ∧ k_ ≠ gb203)) (n := t194.length) (c := co123) ?_).2.2; exact (by (with_reducible repeat (first | apply Kd.V_alloc | apply Kd.V_drewN | apply Kd.V_drew)); exact (Kd.V_mono (Kd.V_far (p := ⟨gb203, 3, none⟩) (Kd.V_far (p := ⟨gb203, 2, none⟩) (Kd.V_far (p := ⟨gb203, 1, none⟩) (Kd.V_far (p := ⟨gb203, 0, none⟩) (Kd.V_mono HO196.out (fun k_ hk => (⟨hk, hk.2⟩ : _ ∧ k_ ≠ gb203))) (fun _ hk => hk.2) (.int .i64 t198)) (fun _ hk => hk.2) (.int .i64 t199)) (fun _ hk => hk.2) (.int .i64 t200)) (fun _ hk => hk.2) (.int .i64 t201)) (fun _ h_ => h_.1)))); (case side2 => exact (Kd.V_reads' HO196.out).2.1); (case side3 => exact Kd.C_below HR197.out (by repeat first | refine below_set ?_ GE203.out | exact HB.out | apply below_alloc | apply pw_below_drewN | apply below_drew1)); (case side4 => exact HC197.out); rintro e w127 ⟨rfl, hb⟩; refine ⟨_, rfl, ?_⟩; replace HO196 := Aside0.mk (Kd.V_below (by (with_reducible repeat (first | apply Kd.V_alloc | apply Kd.V_drewN | apply Kd.V_drew)); exact (Kd.V_mono (Kd.V_far (p := ⟨gb203, 3, none⟩) (Kd.V_far (p := ⟨gb203, 2, none⟩) (Kd.V_far (p := ⟨gb203, 1, none⟩) (Kd.V_far (p := ⟨gb203, 0, none⟩) (Kd.V_mono HO196.out (fun k_ hk => (⟨hk, hk.2⟩ : _ ∧ k_ ≠ gb203))) (fun _ hk => hk.2) (.int .i64 t198)) (fun _ hk => hk.2) (.int .i64 t199)) (fun _ hk => hk.2) (.int .i64 t200)) (fun _ hk => hk.2) (.int .i64 t201)) (fun _ h_ => h_.1))) hb); replace BK203 := Aside0.mk (bb hb (put4 BK203.out)); replace HB := Aside0.mk (below_step (by repeat first | refine below_set ?_ GE203.out | exact HB.out | apply below_alloc | apply pw_below_drewN | apply below_drew1) hb); (try clear hb); (try clear hb2); (try clear hk); (try clear hi)) | ((with_reducible refine gate_callee (f := 23) rfl ?_); refine goesL_ (some 32) rfl rfl Try.func23 (by kernel_rfl) rfl #[.slice Ao123 t194.length co123] rfl (by (try simp only [List.map_toArray, List.map_cons, List.map_nil]); first | done | rfl | (simp only [List.length_drop, List.length_take]; rfl)) ?_; (with_reducible refine (backseatref16_Right.calls k _ _ t194 false _ ?side1 ?side2 A9.out).mono ?_); (case side1 => repeat (first | exact (Kd.V_reads' HO196.out).2.2 | (with_reducible refine Kd.C_alloc ?_ _) | (with_reducible refine Kd.C_drewN ?_ _) | (with_reducible refine Kd.C_drew ?_))); (case side2 => exact (Kd.V_reads' HO196.out).2.1); rintro e w128 ⟨rfl, hb⟩; refine ⟨_, rfl, ?_⟩; replace HO196 := Aside0.mk (Kd.V_below (by (with_reducible repeat (first | apply Kd.V_alloc | apply Kd.V_drewN | apply Kd.V_drew)); exact HO196.out) hb); replace BK203 := Aside0.mk (bb hb BK203.out); replace HB := Aside0.mk (below_step (by repeat first | refine below_set ?_ GE203.out | exact HB.out | apply below_alloc | apply pw_below_drewN | apply below_drew1) hb); (try clear hb); (try clear hb2); (try clear hk); (try clear hi)) | ((with_reducible refine gate_callee (f := 24) rfl ?_); refine goesL_ (some 34) rfl rfl Try.func24 (by kernel_rfl) rfl #[] rfl (by (try simp only [List.map_toArray, List.map_cons, List.map_nil]); first | done | rfl | (simp only [List.length_drop, List.length_take]; rfl)) ?_; (with_reducible refine (backseatlaw16_alive.calls k  true _ A114.out).mono ?_); rintro e w129 ⟨rfl, hb⟩; refine ⟨_, rfl, ?_⟩; replace HO196 := Aside0.mk (Kd.V_below (by (with_reducible repeat (first | apply Kd.V_alloc | apply Kd.V_drewN | apply Kd.V_drew)); exact HO196.out) hb); replace BK203 := Aside0.mk (bb hb BK203.out); replace HB := Aside0.mk (below_step (by repeat first | refine below_set ?_ GE203.out | exact HB.out | apply below_alloc | apply pw_below_drewN | apply below_drew1) hb); (try clear hb); (try clear hb2); (try clear hk); (try clear hi); obtain ⟨hcz130_0, hcz130_1, hcz130_2, hcz130_3, hfz130_0, hfz130_1, hfz130_2, hfz130_3⟩ := cz4 BK203.out))
         go_ret
         exact ⟨by first | rfl | (simp [errW_none, errW_some] <;> rfl) | (simp only [← hji4]; first | rfl | (simp [errW_none, errW_some] <;> rfl)) | (simp [*, errW_none, errW_some] <;> rfl), by repeat first | refine below_set ?_ GE203.out | exact HB.out | apply below_alloc | apply pw_below_drewN | apply below_drew1⟩
        ·rw [if_neg c119] at H
         have c119b0 : (t204 == 0) = false := beq_eq_false_iff_ne.mpr c119
         have c119b1 : (t204 != 0) = true := bne_iff_ne.mpr c119
         obtain rfl := Option.some.inj H
         go_enter Try.func6, Try.ntmps6
         try go_wp2
         replace HB := Aside0.mk (below_drew1 HB.out)
         obtain ⟨i0132, hi0132, _, hsz132, _⟩ := info_parts info3
         obtain ⟨hcut132, hA132, hC132⟩ := print_take_of (P := Try.prog) (Value.int .i64) 0 22 3 .i64 Try.underlying22 hi0132 hsz132 A1 c1 l1 (ji4) (of_decide_eq_true (by first | (with_reducible assumption) | assumption)) (of_decide_eq_true (by first | (with_reducible assumption) | assumption)) HC1.out
         have HR197 := Aside0.mk (Kd.C_of_reads (h1 := fun _ => rfl) (hA132 _ (Kd.reads_of_C HR1.out)))
         have HC197 := Aside0.mk hC132
         clear hA132 hC132 hi0132 hsz132
         refine start_ (n := 9) (S := fun w' => True) (ds := []) #[false, false, false, false, false, false, false, false, false] (by kernel_rfl) rfl rfl trivial (fun hHeld => ?_); refine with_tabW backseatlaw16_SizeTells.tab1 backseatlaw16_SizeTells.bits1 (fun HT_ HW_ => ?_)
         generalize w.drew = w131 at HB HR197 hHeld ⊢
         refine pu HT_.out (i := 0) (N := some 12) (v := ?_) (a' := ?_) #[true, false, false, false, false, false, false, false, false] rfl rfl (by kernel_rfl) (fun _ _ _ h => h) (by rfl) ?_ ?_ ?_; rotate_left; (·intro w'; go_simp; with_reducible rfl); rotate_left; (·simp only [Act.put, s1, s2, s3, i64_w, i32_w]; rfl)
         refine pu HT_.out (i := 2) (N := some 14) (v := ?_) (a' := ?_) #[true, false, true, false, false, false, false, false, false] rfl rfl (by kernel_rfl) (fun _ _ _ h => h) (by rfl) ?_ ?_ ?_; rotate_left; (·intro w'; go_simp; with_reducible rfl); rotate_left; (·simp only [Act.put, s1, s2, s3, i64_w, i32_w]; rfl)
         refine pu HT_.out (i := 3) (N := some 15) (v := ?_) (a' := ?_) #[true, false, true, true, false, false, false, false, false] rfl rfl (by kernel_rfl) (fun _ _ _ h => h) (by rfl) ?_ ?_ ?_; rotate_left; (·intro w'; go_simp; with_reducible rfl); rotate_left; (·simp only [Act.put, s1, s2, s3, i64_w, i32_w]; rfl)
         refine pu HT_.out (i := 4) (N := some 16) (v := ?_) (a' := ?_) #[true, false, true, true, true, false, false, false, false] rfl rfl (by kernel_rfl) (fun _ _ _ h => h) (by rfl) ?_ ?_ ?_; rotate_left; (·intro w'; go_simp; with_reducible rfl); rotate_left; (·simp only [Act.put, s1, s2, s3, i64_w, i32_w]; rfl)
         refine pu HT_.out (i := 5) (N := some 17) (v := ?_) (a' := ?_) #[true, false, true, true, true, true, false, false, false] rfl rfl (by kernel_rfl) (fun _ _ _ h => h) (by rfl) ?_ ?_ ?_; rotate_left; (·intro w'; go_simp; with_reducible rfl); rotate_left; (·simp only [Act.put, s1, s2, s3, i64_w, i32_w]; rfl)
         refine pu HT_.out (i := 6) (N := some 18) (v := ?_) (a' := ?_) #[true, false, true, true, true, true, true, false, false] rfl rfl (by kernel_rfl) (fun _ _ _ h => h) (by rfl) ?_ ?_ ?_; rotate_left; (·intro w'; go_simp; with_reducible rfl); rotate_left; (·simp only [Act.put, s1, s2, s3, i64_w, i32_w]; rfl)
         refine one_ (i := 1) (N := some 13) #[true, true, true, true, true, true, true, false, false] rfl rfl (one_of HT_.out (by kernel_rfl)) (by decide) (fun K hK => ?_)
         refine goes_ Try.func20 (by kernel_rfl) rfl #[.slice A0 l0.length c0] (by rfl) rfl rfl (by (try simp only [List.map_toArray, List.map_cons, List.map_nil]); first | done | rfl | (simp only [List.length_drop, List.length_take]; rfl)) ?_
         with_reducible refine (backseatlaw16_few.calls (fun k_ => k_ < w.heap.size) _ _ l0 t194 _ ?side1 A3.out).mono ?_
         (case side1 => exact Kd.V_mk HC0.out (Kd.F_below (Kd.C_F k48_heap HR0.out) (by first | exact HB.out | exact pw_below_drewN HB.out _ | exact below_drew1 HB.out)))
         rintro e w133 ⟨v195, rfl, ho0, hb⟩
         refine ⟨_, rfl, ?_⟩
         have HO196 := Aside0.mk (Kd.V_lower (Kd.V_mono (ok' := fun k_ => True) ho0 (fun k_ hk_ => trivial)) (below_size (by first | exact HB.out | exact pw_below_drewN HB.out _ | exact below_drew1 HB.out))); replace HB := Aside0.mk (below_step (by first | exact HB.out | exact pw_below_drewN HB.out _ | exact below_drew1 HB.out) hb)
         (try clear hb)
         (try clear hb2)
         (try clear hk)
         (try clear hi)
         (try clear ho0)
         refine hK.out _ _ trivial (fun hHeld => ?_)
         clear hK K
         refine norm_ (a' := ?_) ?_ ?_
         rotate_left
         ·show Act.put _ (some 13) _ = _
          simp only [Act.put, s1, s2, s3, i64_w, i32_w]
          rfl
         refine pu HT_.out (i := 7) (N := some 0) (v := ?_) (a' := ?_) #[true, true, true, true, true, true, true, true, false] rfl rfl (by kernel_rfl) (fun _ _ _ h => h) (by rfl) ?_ ?_ ?_; rotate_left; (·intro w'; go_simp; with_reducible rfl); rotate_left; (·simp only [Act.put, s1, s2, s3, i64_w, i32_w]; rfl)
         refine pu HT_.out (i := 8) (N := some 1) (v := ?_) (a' := ?_) #[true, true, true, true, true, true, true, true, true] rfl rfl (by kernel_rfl) (fun _ _ _ h => h) (by rfl) ?_ ?_ ?_; rotate_left; (·intro w'; go_simp; with_reducible rfl); rotate_left; (·simp only [Act.put, s1, s2, s3, i64_w, i32_w]; rfl)
         refine done_ (done_of HT_.out (by kernel_rfl)) ?_
         obtain ⟨Ao134, co134, eo134⟩ := Kd.V_slice HO196.out
         subst eo134
         try go_wp2_with (first | ((with_reducible refine gate_callee (f := 21) rfl ?_); refine goesL_ (some 21) rfl rfl Try.func21 (by kernel_rfl) rfl #[.slice Ao134 t194.length co134] rfl (by (try simp only [List.map_toArray, List.map_cons, List.map_nil]); first | done | rfl | (simp only [List.length_drop, List.length_take]; rfl)) ?_; (with_reducible refine (size_Latest.calls _ _ t194 t198 t199 t200 t201 t202 _ ?side1 ?side2 A7.out).mono ?_); (case side1 => repeat (first | exact (Kd.V_reads' HO196.out).2.2 | (with_reducible refine Kd.C_alloc ?_ _) | (with_reducible refine Kd.C_drewN ?_ _) | (with_reducible refine Kd.C_drew ?_))); (case side2 => exact (Kd.V_reads' HO196.out).2.1); rintro e w135 ⟨rfl, hb⟩; refine ⟨_, rfl, ?_⟩; replace HO196 := Aside0.mk (Kd.V_below (by (with_reducible repeat (first | apply Kd.V_alloc | apply Kd.V_drewN | apply Kd.V_drew)); exact HO196.out) hb); replace HB := Aside0.mk (below_step (by first | exact HB.out | exact pw_below_drewN HB.out _ | exact below_drew1 HB.out) hb); (try clear hb); (try clear hb2); (try clear hk); (try clear hi)) | ((with_reducible refine gate_dst (N := 5) rfl ?_); refine box_event ?hg (N := 5) ?hd (cs := #[.int .i64 0, .int .i64 0, .int .i64 0, .int .i64 0]) (t := 48) ?hr ?_; (case hd => rfl); (case hg => rfl); (case hr => first | (go_simp; done) | (go_simp; rfl)); intro gb203 hg w136 hbox hb; have BK203 := Aside0.mk (hbox); have GW203 := Aside0.mk ((by rw [hg]; exact (below_size (by first | exact HB.out | exact pw_below_drewN HB.out _ | exact below_drew1 HB.out)) : w.heap.size ≤ gb203)); have GE203 := GW203; replace HO196 := Aside0.mk (Kd.V_below (Kd.V_elderB (by (with_reducible repeat (first | apply Kd.V_alloc | apply Kd.V_drewN | apply Kd.V_drew)); exact HO196.out) gb203 (Nat.le_of_eq hg.symm)) hb); replace HB := Aside0.mk (below_step (by first | exact HB.out | exact pw_below_drewN HB.out _ | exact below_drew1 HB.out) hb); clear hb hbox hg; obtain ⟨hcz137_0, hcz137_1, hcz137_2, hcz137_3, hfz137_0, hfz137_1, hfz137_2, hfz137_3⟩ := cz4 BK203.out) | ((with_reducible refine gate_callee (f := 22) rfl ?_); refine goesL_ (some 27) rfl rfl Try.func22 (by kernel_rfl) rfl #[.slice Ao134 t194.length co134, .slice A1 (l1.take ((ji4) : Int).toNat).length c1] rfl (by (try simp only [List.map_toArray, List.map_cons, List.map_nil]); first | done | (rw [show (l1.take ((ji4) : Int).toNat).length = (ji4).toNat from (by rw [List.length_take]; have h_ : ((ji4) : Int) ≤ (l1.length : Int) := of_decide_eq_true (by first | (with_reducible assumption) | assumption); omega)] <;> rfl) | (simp only [hji4]; rfl) | rfl | (simp only [List.length_drop, List.length_take]; rfl)) ?_; (with_reducible refine (size_Of.calls _ _ t194 _ _ (l1.take ((ji4) : Int).toNat) t204 t205 t206 _ ?side1 ?side2 ?side3 ?side4 A8.out).mono ?_); (case side1 => refine (Kd.V_reads' (e := 48) (base := w.heap.size) (ok := fun k_ => (True ∧ k_ ≠ gb203)) (n := t194.length) (c := co134) ?_).2.2; exact (by (with_reducible repeat (first | apply Kd.V_alloc | apply Kd.V_drewN | apply Kd.V_drew)); exact (Kd.V_mono (Kd.V_far (p := ⟨gb203, 3, none⟩) (Kd.V_far (p := ⟨gb203, 2, none⟩) (Kd.V_far (p := ⟨gb203, 1, none⟩) (Kd.V_far (p := ⟨gb203, 0, none⟩) (Kd.V_mono HO196.out (fun k_ hk => (⟨hk, hk.2⟩ : _ ∧ k_ ≠ gb203))) (fun _ hk => hk.2) (.int .i64 t198)) (fun _ hk => hk.2) (.int .i64 t199)) (fun _ hk => hk.2) (.int .i64 t200)) (fun _ hk => hk.2) (.int .i64 t201)) (fun _ h_ => h_.1)))); (case side2 => exact (Kd.V_reads' HO196.out).2.1); (case side3 => exact Kd.C_below HR197.out (by repeat first | refine below_set ?_ GE203.out | exact HB.out | apply below_alloc | apply pw_below_drewN | apply below_drew1)); (case side4 => exact HC197.out); rintro e w138 ⟨rfl, hb⟩; refine ⟨_, rfl, ?_⟩; replace HO196 := Aside0.mk (Kd.V_below (by (with_reducible repeat (first | apply Kd.V_alloc | apply Kd.V_drewN | apply Kd.V_drew)); exact (Kd.V_mono (Kd.V_far (p := ⟨gb203, 3, none⟩) (Kd.V_far (p := ⟨gb203, 2, none⟩) (Kd.V_far (p := ⟨gb203, 1, none⟩) (Kd.V_far (p := ⟨gb203, 0, none⟩) (Kd.V_mono HO196.out (fun k_ hk => (⟨hk, hk.2⟩ : _ ∧ k_ ≠ gb203))) (fun _ hk => hk.2) (.int .i64 t198)) (fun _ hk => hk.2) (.int .i64 t199)) (fun _ hk => hk.2) (.int .i64 t200)) (fun _ hk => hk.2) (.int .i64 t201)) (fun _ h_ => h_.1))) hb); replace BK203 := Aside0.mk (bb hb (put4 BK203.out)); replace HB := Aside0.mk (below_step (by repeat first | refine below_set ?_ GE203.out | exact HB.out | apply below_alloc | apply pw_below_drewN | apply below_drew1) hb); (try clear hb); (try clear hb2); (try clear hk); (try clear hi)) | ((with_reducible refine gate_callee (f := 23) rfl ?_); refine goesL_ (some 32) rfl rfl Try.func23 (by kernel_rfl) rfl #[.slice Ao134 t194.length co134] rfl (by (try simp only [List.map_toArray, List.map_cons, List.map_nil]); first | done | rfl | (simp only [List.length_drop, List.length_take]; rfl)) ?_; (with_reducible refine (backseatref16_Right.calls k _ _ t194 false _ ?side1 ?side2 A9.out).mono ?_); (case side1 => repeat (first | exact (Kd.V_reads' HO196.out).2.2 | (with_reducible refine Kd.C_alloc ?_ _) | (with_reducible refine Kd.C_drewN ?_ _) | (with_reducible refine Kd.C_drew ?_))); (case side2 => exact (Kd.V_reads' HO196.out).2.1); rintro e w139 ⟨rfl, hb⟩; refine ⟨_, rfl, ?_⟩; replace HO196 := Aside0.mk (Kd.V_below (by (with_reducible repeat (first | apply Kd.V_alloc | apply Kd.V_drewN | apply Kd.V_drew)); exact HO196.out) hb); replace BK203 := Aside0.mk (bb hb BK203.out); replace HB := Aside0.mk (below_step (by repeat first | refine below_set ?_ GE203.out | exact HB.out | apply below_alloc | apply pw_below_drewN | apply below_drew1) hb); (try clear hb); (try clear hb2); (try clear hk); (try clear hi)) | ((with_reducible refine gate_callee (f := 24) rfl ?_); refine goesL_ (some 34) rfl rfl Try.func24 (by kernel_rfl) rfl #[] rfl (by (try simp only [List.map_toArray, List.map_cons, List.map_nil]); first | done | rfl | (simp only [List.length_drop, List.length_take]; rfl)) ?_; (with_reducible refine (backseatlaw16_alive.calls k  true _ A114.out).mono ?_); rintro e w140 ⟨rfl, hb⟩; refine ⟨_, rfl, ?_⟩; replace HO196 := Aside0.mk (Kd.V_below (by (with_reducible repeat (first | apply Kd.V_alloc | apply Kd.V_drewN | apply Kd.V_drew)); exact HO196.out) hb); replace BK203 := Aside0.mk (bb hb BK203.out); replace HB := Aside0.mk (below_step (by repeat first | refine below_set ?_ GE203.out | exact HB.out | apply below_alloc | apply pw_below_drewN | apply below_drew1) hb); (try clear hb); (try clear hb2); (try clear hk); (try clear hi); obtain ⟨hcz141_0, hcz141_1, hcz141_2, hcz141_3, hfz141_0, hfz141_1, hfz141_2, hfz141_3⟩ := cz4 BK203.out))
         go_ret
         exact ⟨by first | rfl | (simp [errW_none, errW_some] <;> rfl) | (simp only [← hji4]; first | rfl | (simp [errW_none, errW_some] <;> rfl)) | (simp [*, errW_none, errW_some] <;> rfl), by repeat first | refine below_set ?_ GE203.out | exact HB.out | apply below_alloc | apply pw_below_drewN | apply below_drew1⟩
       ·rw [if_neg c118] at H
        have c118b0 : (t198 == 0 && (t199 == 0 && (t200 == 0 && (t201 == 0)))) = false := by simpa using c118
        (try (have c118b1 : decide (t198 = 0 && (t199 == 0 && (t200 == 0 && (t201 == 0)))) = false := by simpa using c118))
        (try (have c118b2 : (t198 == 0 && (t199 == 0 && (t200 == 0 && (t201 == 0)))) = false := by simpa using c118))
        (try (have c118b3 : ¬ (t198 = 0 && (t199 == 0 && (t200 == 0 && (t201 == 0)))) := by simpa using c118))
        clear c118
        obtain rfl := Option.some.inj H
        go_enter Try.func6, Try.ntmps6
        try go_wp2
        replace HB := Aside0.mk (below_drew1 HB.out)
        obtain ⟨i0143, hi0143, _, hsz143, _⟩ := info_parts info3
        obtain ⟨hcut143, hA143, hC143⟩ := print_take_of (P := Try.prog) (Value.int .i64) 0 22 3 .i64 Try.underlying22 hi0143 hsz143 A1 c1 l1 (ji4) (of_decide_eq_true (by first | (with_reducible assumption) | assumption)) (of_decide_eq_true (by first | (with_reducible assumption) | assumption)) HC1.out
        have HR197 := Aside0.mk (Kd.C_of_reads (h1 := fun _ => rfl) (hA143 _ (Kd.reads_of_C HR1.out)))
        have HC197 := Aside0.mk hC143
        clear hA143 hC143 hi0143 hsz143
        refine start_ (n := 9) (S := fun w' => True) (ds := []) #[false, false, false, false, false, false, false, false, false] (by kernel_rfl) rfl rfl trivial (fun hHeld => ?_); refine with_tabW backseatlaw16_SizeTells.tab1 backseatlaw16_SizeTells.bits1 (fun HT_ HW_ => ?_)
        generalize w.drew = w142 at HB HR197 hHeld ⊢
        refine pu HT_.out (i := 0) (N := some 12) (v := ?_) (a' := ?_) #[true, false, false, false, false, false, false, false, false] rfl rfl (by kernel_rfl) (fun _ _ _ h => h) (by rfl) ?_ ?_ ?_; rotate_left; (·intro w'; go_simp; with_reducible rfl); rotate_left; (·simp only [Act.put, s1, s2, s3, i64_w, i32_w]; rfl)
        refine pu HT_.out (i := 2) (N := some 14) (v := ?_) (a' := ?_) #[true, false, true, false, false, false, false, false, false] rfl rfl (by kernel_rfl) (fun _ _ _ h => h) (by rfl) ?_ ?_ ?_; rotate_left; (·intro w'; go_simp; with_reducible rfl); rotate_left; (·simp only [Act.put, s1, s2, s3, i64_w, i32_w]; rfl)
        refine pu HT_.out (i := 3) (N := some 15) (v := ?_) (a' := ?_) #[true, false, true, true, false, false, false, false, false] rfl rfl (by kernel_rfl) (fun _ _ _ h => h) (by rfl) ?_ ?_ ?_; rotate_left; (·intro w'; go_simp; with_reducible rfl); rotate_left; (·simp only [Act.put, s1, s2, s3, i64_w, i32_w]; rfl)
        refine pu HT_.out (i := 4) (N := some 16) (v := ?_) (a' := ?_) #[true, false, true, true, true, false, false, false, false] rfl rfl (by kernel_rfl) (fun _ _ _ h => h) (by rfl) ?_ ?_ ?_; rotate_left; (·intro w'; go_simp; with_reducible rfl); rotate_left; (·simp only [Act.put, s1, s2, s3, i64_w, i32_w]; rfl)
        refine pu HT_.out (i := 5) (N := some 17) (v := ?_) (a' := ?_) #[true, false, true, true, true, true, false, false, false] rfl rfl (by kernel_rfl) (fun _ _ _ h => h) (by rfl) ?_ ?_ ?_; rotate_left; (·intro w'; go_simp; with_reducible rfl); rotate_left; (·simp only [Act.put, s1, s2, s3, i64_w, i32_w]; rfl)
        refine pu HT_.out (i := 6) (N := some 18) (v := ?_) (a' := ?_) #[true, false, true, true, true, true, true, false, false] rfl rfl (by kernel_rfl) (fun _ _ _ h => h) (by rfl) ?_ ?_ ?_; rotate_left; (·intro w'; go_simp; with_reducible rfl); rotate_left; (·simp only [Act.put, s1, s2, s3, i64_w, i32_w]; rfl)
        refine one_ (i := 1) (N := some 13) #[true, true, true, true, true, true, true, false, false] rfl rfl (one_of HT_.out (by kernel_rfl)) (by decide) (fun K hK => ?_)
        refine goes_ Try.func20 (by kernel_rfl) rfl #[.slice A0 l0.length c0] (by rfl) rfl rfl (by (try simp only [List.map_toArray, List.map_cons, List.map_nil]); first | done | rfl | (simp only [List.length_drop, List.length_take]; rfl)) ?_
        with_reducible refine (backseatlaw16_few.calls (fun k_ => k_ < w.heap.size) _ _ l0 t194 _ ?side1 A3.out).mono ?_
        (case side1 => exact Kd.V_mk HC0.out (Kd.F_below (Kd.C_F k48_heap HR0.out) (by first | exact HB.out | exact pw_below_drewN HB.out _ | exact below_drew1 HB.out)))
        rintro e w144 ⟨v195, rfl, ho0, hb⟩
        refine ⟨_, rfl, ?_⟩
        have HO196 := Aside0.mk (Kd.V_lower (Kd.V_mono (ok' := fun k_ => True) ho0 (fun k_ hk_ => trivial)) (below_size (by first | exact HB.out | exact pw_below_drewN HB.out _ | exact below_drew1 HB.out))); replace HB := Aside0.mk (below_step (by first | exact HB.out | exact pw_below_drewN HB.out _ | exact below_drew1 HB.out) hb)
        (try clear hb)
        (try clear hb2)
        (try clear hk)
        (try clear hi)
        (try clear ho0)
        refine hK.out _ _ trivial (fun hHeld => ?_)
        clear hK K
        refine norm_ (a' := ?_) ?_ ?_
        rotate_left
        ·show Act.put _ (some 13) _ = _
         simp only [Act.put, s1, s2, s3, i64_w, i32_w]
         rfl
        refine pu HT_.out (i := 7) (N := some 0) (v := ?_) (a' := ?_) #[true, true, true, true, true, true, true, true, false] rfl rfl (by kernel_rfl) (fun _ _ _ h => h) (by rfl) ?_ ?_ ?_; rotate_left; (·intro w'; go_simp; with_reducible rfl); rotate_left; (·simp only [Act.put, s1, s2, s3, i64_w, i32_w]; rfl)
        refine pu HT_.out (i := 8) (N := some 1) (v := ?_) (a' := ?_) #[true, true, true, true, true, true, true, true, true] rfl rfl (by kernel_rfl) (fun _ _ _ h => h) (by rfl) ?_ ?_ ?_; rotate_left; (·intro w'; go_simp; with_reducible rfl); rotate_left; (·simp only [Act.put, s1, s2, s3, i64_w, i32_w]; rfl)
        refine done_ (done_of HT_.out (by kernel_rfl)) ?_
        obtain ⟨Ao145, co145, eo145⟩ := Kd.V_slice HO196.out
        subst eo145
        try go_wp2_with (first | ((with_reducible refine gate_callee (f := 21) rfl ?_); refine goesL_ (some 21) rfl rfl Try.func21 (by kernel_rfl) rfl #[.slice Ao145 t194.length co145] rfl (by (try simp only [List.map_toArray, List.map_cons, List.map_nil]); first | done | rfl | (simp only [List.length_drop, List.length_take]; rfl)) ?_; (with_reducible refine (size_Latest.calls _ _ t194 t198 t199 t200 t201 t202 _ ?side1 ?side2 A7.out).mono ?_); (case side1 => repeat (first | exact (Kd.V_reads' HO196.out).2.2 | (with_reducible refine Kd.C_alloc ?_ _) | (with_reducible refine Kd.C_drewN ?_ _) | (with_reducible refine Kd.C_drew ?_))); (case side2 => exact (Kd.V_reads' HO196.out).2.1); rintro e w146 ⟨rfl, hb⟩; refine ⟨_, rfl, ?_⟩; replace HO196 := Aside0.mk (Kd.V_below (by (with_reducible repeat (first | apply Kd.V_alloc | apply Kd.V_drewN | apply Kd.V_drew)); exact HO196.out) hb); replace HB := Aside0.mk (below_step (by first | exact HB.out | exact pw_below_drewN HB.out _ | exact below_drew1 HB.out) hb); (try clear hb); (try clear hb2); (try clear hk); (try clear hi)) | ((with_reducible refine gate_dst (N := 5) rfl ?_); refine box_event ?hg (N := 5) ?hd (cs := #[.int .i64 0, .int .i64 0, .int .i64 0, .int .i64 0]) (t := 48) ?hr ?_; (case hd => rfl); (case hg => rfl); (case hr => first | (go_simp; done) | (go_simp; rfl)); intro gb203 hg w147 hbox hb; have BK203 := Aside0.mk (hbox); have GW203 := Aside0.mk ((by rw [hg]; exact (below_size (by first | exact HB.out | exact pw_below_drewN HB.out _ | exact below_drew1 HB.out)) : w.heap.size ≤ gb203)); have GE203 := GW203; replace HO196 := Aside0.mk (Kd.V_below (Kd.V_elderB (by (with_reducible repeat (first | apply Kd.V_alloc | apply Kd.V_drewN | apply Kd.V_drew)); exact HO196.out) gb203 (Nat.le_of_eq hg.symm)) hb); replace HB := Aside0.mk (below_step (by first | exact HB.out | exact pw_below_drewN HB.out _ | exact below_drew1 HB.out) hb); clear hb hbox hg; obtain ⟨hcz148_0, hcz148_1, hcz148_2, hcz148_3, hfz148_0, hfz148_1, hfz148_2, hfz148_3⟩ := cz4 BK203.out) | ((with_reducible refine gate_callee (f := 22) rfl ?_); refine goesL_ (some 27) rfl rfl Try.func22 (by kernel_rfl) rfl #[.slice Ao145 t194.length co145, .slice A1 (l1.take ((ji4) : Int).toNat).length c1] rfl (by (try simp only [List.map_toArray, List.map_cons, List.map_nil]); first | done | (rw [show (l1.take ((ji4) : Int).toNat).length = (ji4).toNat from (by rw [List.length_take]; have h_ : ((ji4) : Int) ≤ (l1.length : Int) := of_decide_eq_true (by first | (with_reducible assumption) | assumption); omega)] <;> rfl) | (simp only [hji4]; rfl) | rfl | (simp only [List.length_drop, List.length_take]; rfl)) ?_; (with_reducible refine (size_Of.calls _ _ t194 _ _ (l1.take ((ji4) : Int).toNat) t204 t205 t206 _ ?side1 ?side2 ?side3 ?side4 A8.out).mono ?_); (case side1 => refine (Kd.V_reads' (e := 48) (base := w.heap.size) (ok := fun k_ => (True ∧ k_ ≠ gb203)) (n := t194.length) (c := co145) ?_).2.2; exact (by (with_reducible repeat (first | apply Kd.V_alloc | apply Kd.V_drewN | apply Kd.V_drew)); exact (Kd.V_mono (Kd.V_far (p := ⟨gb203, 3, none⟩) (Kd.V_far (p := ⟨gb203, 2, none⟩) (Kd.V_far (p := ⟨gb203, 1, none⟩) (Kd.V_far (p := ⟨gb203, 0, none⟩) (Kd.V_mono HO196.out (fun k_ hk => (⟨hk, hk.2⟩ : _ ∧ k_ ≠ gb203))) (fun _ hk => hk.2) (.int .i64 t198)) (fun _ hk => hk.2) (.int .i64 t199)) (fun _ hk => hk.2) (.int .i64 t200)) (fun _ hk => hk.2) (.int .i64 t201)) (fun _ h_ => h_.1)))); (case side2 => exact (Kd.V_reads' HO196.out).2.1); (case side3 => exact Kd.C_below HR197.out (by repeat first | refine below_set ?_ GE203.out | exact HB.out | apply below_alloc | apply pw_below_drewN | apply below_drew1)); (case side4 => exact HC197.out); rintro e w149 ⟨rfl, hb⟩; refine ⟨_, rfl, ?_⟩; replace HO196 := Aside0.mk (Kd.V_below (by (with_reducible repeat (first | apply Kd.V_alloc | apply Kd.V_drewN | apply Kd.V_drew)); exact (Kd.V_mono (Kd.V_far (p := ⟨gb203, 3, none⟩) (Kd.V_far (p := ⟨gb203, 2, none⟩) (Kd.V_far (p := ⟨gb203, 1, none⟩) (Kd.V_far (p := ⟨gb203, 0, none⟩) (Kd.V_mono HO196.out (fun k_ hk => (⟨hk, hk.2⟩ : _ ∧ k_ ≠ gb203))) (fun _ hk => hk.2) (.int .i64 t198)) (fun _ hk => hk.2) (.int .i64 t199)) (fun _ hk => hk.2) (.int .i64 t200)) (fun _ hk => hk.2) (.int .i64 t201)) (fun _ h_ => h_.1))) hb); replace BK203 := Aside0.mk (bb hb (put4 BK203.out)); replace HB := Aside0.mk (below_step (by repeat first | refine below_set ?_ GE203.out | exact HB.out | apply below_alloc | apply pw_below_drewN | apply below_drew1) hb); (try clear hb); (try clear hb2); (try clear hk); (try clear hi)) | ((with_reducible refine gate_callee (f := 23) rfl ?_); refine goesL_ (some 32) rfl rfl Try.func23 (by kernel_rfl) rfl #[.slice Ao145 t194.length co145] rfl (by (try simp only [List.map_toArray, List.map_cons, List.map_nil]); first | done | rfl | (simp only [List.length_drop, List.length_take]; rfl)) ?_; (with_reducible refine (backseatref16_Right.calls k _ _ t194 false _ ?side1 ?side2 A9.out).mono ?_); (case side1 => repeat (first | exact (Kd.V_reads' HO196.out).2.2 | (with_reducible refine Kd.C_alloc ?_ _) | (with_reducible refine Kd.C_drewN ?_ _) | (with_reducible refine Kd.C_drew ?_))); (case side2 => exact (Kd.V_reads' HO196.out).2.1); rintro e w150 ⟨rfl, hb⟩; refine ⟨_, rfl, ?_⟩; replace HO196 := Aside0.mk (Kd.V_below (by (with_reducible repeat (first | apply Kd.V_alloc | apply Kd.V_drewN | apply Kd.V_drew)); exact HO196.out) hb); replace BK203 := Aside0.mk (bb hb BK203.out); replace HB := Aside0.mk (below_step (by repeat first | refine below_set ?_ GE203.out | exact HB.out | apply below_alloc | apply pw_below_drewN | apply below_drew1) hb); (try clear hb); (try clear hb2); (try clear hk); (try clear hi)) | ((with_reducible refine gate_callee (f := 24) rfl ?_); refine goesL_ (some 34) rfl rfl Try.func24 (by kernel_rfl) rfl #[] rfl (by (try simp only [List.map_toArray, List.map_cons, List.map_nil]); first | done | rfl | (simp only [List.length_drop, List.length_take]; rfl)) ?_; (with_reducible refine (backseatlaw16_alive.calls k  true _ A114.out).mono ?_); rintro e w151 ⟨rfl, hb⟩; refine ⟨_, rfl, ?_⟩; replace HO196 := Aside0.mk (Kd.V_below (by (with_reducible repeat (first | apply Kd.V_alloc | apply Kd.V_drewN | apply Kd.V_drew)); exact HO196.out) hb); replace BK203 := Aside0.mk (bb hb BK203.out); replace HB := Aside0.mk (below_step (by repeat first | refine below_set ?_ GE203.out | exact HB.out | apply below_alloc | apply pw_below_drewN | apply below_drew1) hb); (try clear hb); (try clear hb2); (try clear hk); (try clear hi); obtain ⟨hcz152_0, hcz152_1, hcz152_2, hcz152_3, hfz152_0, hfz152_1, hfz152_2, hfz152_3⟩ := cz4 BK203.out))
        go_ret
        exact ⟨by first | rfl | (simp [errW_none, errW_some] <;> rfl) | (simp only [← hji4]; first | rfl | (simp [errW_none, errW_some] <;> rfl)) | (simp [*, errW_none, errW_some] <;> rfl), by repeat first | refine below_set ?_ GE203.out | exact HB.out | apply below_alloc | apply pw_below_drewN | apply below_drew1⟩
      ·rw [if_neg c117] at H
       have c117b0 : (t206 == 1) = false := beq_eq_false_iff_ne.mpr c117
       have c117b1 : (t206 != 1) = true := bne_iff_ne.mpr c117
       obtain rfl := Option.some.inj H
       go_enter Try.func6, Try.ntmps6
       try go_wp2
       replace HB := Aside0.mk (below_drew1 HB.out)
       obtain ⟨i0154, hi0154, _, hsz154, _⟩ := info_parts info3
       obtain ⟨hcut154, hA154, hC154⟩ := print_take_of (P := Try.prog) (Value.int .i64) 0 22 3 .i64 Try.underlying22 hi0154 hsz154 A1 c1 l1 (ji4) (of_decide_eq_true (by first | (with_reducible assumption) | assumption)) (of_decide_eq_true (by first | (with_reducible assumption) | assumption)) HC1.out
       have HR197 := Aside0.mk (Kd.C_of_reads (h1 := fun _ => rfl) (hA154 _ (Kd.reads_of_C HR1.out)))
       have HC197 := Aside0.mk hC154
       clear hA154 hC154 hi0154 hsz154
       refine start_ (n := 9) (S := fun w' => True) (ds := []) #[false, false, false, false, false, false, false, false, false] (by kernel_rfl) rfl rfl trivial (fun hHeld => ?_); refine with_tabW backseatlaw16_SizeTells.tab1 backseatlaw16_SizeTells.bits1 (fun HT_ HW_ => ?_)
       generalize w.drew = w153 at HB HR197 hHeld ⊢
       refine pu HT_.out (i := 0) (N := some 12) (v := ?_) (a' := ?_) #[true, false, false, false, false, false, false, false, false] rfl rfl (by kernel_rfl) (fun _ _ _ h => h) (by rfl) ?_ ?_ ?_; rotate_left; (·intro w'; go_simp; with_reducible rfl); rotate_left; (·simp only [Act.put, s1, s2, s3, i64_w, i32_w]; rfl)
       refine pu HT_.out (i := 2) (N := some 14) (v := ?_) (a' := ?_) #[true, false, true, false, false, false, false, false, false] rfl rfl (by kernel_rfl) (fun _ _ _ h => h) (by rfl) ?_ ?_ ?_; rotate_left; (·intro w'; go_simp; with_reducible rfl); rotate_left; (·simp only [Act.put, s1, s2, s3, i64_w, i32_w]; rfl)
       refine pu HT_.out (i := 3) (N := some 15) (v := ?_) (a' := ?_) #[true, false, true, true, false, false, false, false, false] rfl rfl (by kernel_rfl) (fun _ _ _ h => h) (by rfl) ?_ ?_ ?_; rotate_left; (·intro w'; go_simp; with_reducible rfl); rotate_left; (·simp only [Act.put, s1, s2, s3, i64_w, i32_w]; rfl)
       refine pu HT_.out (i := 4) (N := some 16) (v := ?_) (a' := ?_) #[true, false, true, true, true, false, false, false, false] rfl rfl (by kernel_rfl) (fun _ _ _ h => h) (by rfl) ?_ ?_ ?_; rotate_left; (·intro w'; go_simp; with_reducible rfl); rotate_left; (·simp only [Act.put, s1, s2, s3, i64_w, i32_w]; rfl)
       refine pu HT_.out (i := 5) (N := some 17) (v := ?_) (a' := ?_) #[true, false, true, true, true, true, false, false, false] rfl rfl (by kernel_rfl) (fun _ _ _ h => h) (by rfl) ?_ ?_ ?_; rotate_left; (·intro w'; go_simp; with_reducible rfl); rotate_left; (·simp only [Act.put, s1, s2, s3, i64_w, i32_w]; rfl)
       refine pu HT_.out (i := 6) (N := some 18) (v := ?_) (a' := ?_) #[true, false, true, true, true, true, true, false, false] rfl rfl (by kernel_rfl) (fun _ _ _ h => h) (by rfl) ?_ ?_ ?_; rotate_left; (·intro w'; go_simp; with_reducible rfl); rotate_left; (·simp only [Act.put, s1, s2, s3, i64_w, i32_w]; rfl)
       refine one_ (i := 1) (N := some 13) #[true, true, true, true, true, true, true, false, false] rfl rfl (one_of HT_.out (by kernel_rfl)) (by decide) (fun K hK => ?_)
       refine goes_ Try.func20 (by kernel_rfl) rfl #[.slice A0 l0.length c0] (by rfl) rfl rfl (by (try simp only [List.map_toArray, List.map_cons, List.map_nil]); first | done | rfl | (simp only [List.length_drop, List.length_take]; rfl)) ?_
       with_reducible refine (backseatlaw16_few.calls (fun k_ => k_ < w.heap.size) _ _ l0 t194 _ ?side1 A3.out).mono ?_
       (case side1 => exact Kd.V_mk HC0.out (Kd.F_below (Kd.C_F k48_heap HR0.out) (by first | exact HB.out | exact pw_below_drewN HB.out _ | exact below_drew1 HB.out)))
       rintro e w155 ⟨v195, rfl, ho0, hb⟩
       refine ⟨_, rfl, ?_⟩
       have HO196 := Aside0.mk (Kd.V_lower (Kd.V_mono (ok' := fun k_ => True) ho0 (fun k_ hk_ => trivial)) (below_size (by first | exact HB.out | exact pw_below_drewN HB.out _ | exact below_drew1 HB.out))); replace HB := Aside0.mk (below_step (by first | exact HB.out | exact pw_below_drewN HB.out _ | exact below_drew1 HB.out) hb)
       (try clear hb)
       (try clear hb2)
       (try clear hk)
       (try clear hi)
       (try clear ho0)
       refine hK.out _ _ trivial (fun hHeld => ?_)
       clear hK K
       refine norm_ (a' := ?_) ?_ ?_
       rotate_left
       ·show Act.put _ (some 13) _ = _
        simp only [Act.put, s1, s2, s3, i64_w, i32_w]
        rfl
       refine pu HT_.out (i := 7) (N := some 0) (v := ?_) (a' := ?_) #[true, true, true, true, true, true, true, true, false] rfl rfl (by kernel_rfl) (fun _ _ _ h => h) (by rfl) ?_ ?_ ?_; rotate_left; (·intro w'; go_simp; with_reducible rfl); rotate_left; (·simp only [Act.put, s1, s2, s3, i64_w, i32_w]; rfl)
       refine pu HT_.out (i := 8) (N := some 1) (v := ?_) (a' := ?_) #[true, true, true, true, true, true, true, true, true] rfl rfl (by kernel_rfl) (fun _ _ _ h => h) (by rfl) ?_ ?_ ?_; rotate_left; (·intro w'; go_simp; with_reducible rfl); rotate_left; (·simp only [Act.put, s1, s2, s3, i64_w, i32_w]; rfl)
       refine done_ (done_of HT_.out (by kernel_rfl)) ?_
       obtain ⟨Ao156, co156, eo156⟩ := Kd.V_slice HO196.out
       subst eo156
       try go_wp2_with (first | ((with_reducible refine gate_callee (f := 21) rfl ?_); refine goesL_ (some 21) rfl rfl Try.func21 (by kernel_rfl) rfl #[.slice Ao156 t194.length co156] rfl (by (try simp only [List.map_toArray, List.map_cons, List.map_nil]); first | done | rfl | (simp only [List.length_drop, List.length_take]; rfl)) ?_; (with_reducible refine (size_Latest.calls _ _ t194 t198 t199 t200 t201 t202 _ ?side1 ?side2 A7.out).mono ?_); (case side1 => repeat (first | exact (Kd.V_reads' HO196.out).2.2 | (with_reducible refine Kd.C_alloc ?_ _) | (with_reducible refine Kd.C_drewN ?_ _) | (with_reducible refine Kd.C_drew ?_))); (case side2 => exact (Kd.V_reads' HO196.out).2.1); rintro e w157 ⟨rfl, hb⟩; refine ⟨_, rfl, ?_⟩; replace HO196 := Aside0.mk (Kd.V_below (by (with_reducible repeat (first | apply Kd.V_alloc | apply Kd.V_drewN | apply Kd.V_drew)); exact HO196.out) hb); replace HB := Aside0.mk (below_step (by first | exact HB.out | exact pw_below_drewN HB.out _ | exact below_drew1 HB.out) hb); (try clear hb); (try clear hb2); (try clear hk); (try clear hi)) | ((with_reducible refine gate_dst (N := 5) rfl ?_); refine box_event ?hg (N := 5) ?hd (cs := #[.int .i64 0, .int .i64 0, .int .i64 0, .int .i64 0]) (t := 48) ?hr ?_; (case hd => rfl); (case hg => rfl); (case hr => first | (go_simp; done) | (go_simp; rfl)); intro gb203 hg w158 hbox hb; have BK203 := Aside0.mk (hbox); have GW203 := Aside0.mk ((by rw [hg]; exact (below_size (by first | exact HB.out | exact pw_below_drewN HB.out _ | exact below_drew1 HB.out)) : w.heap.size ≤ gb203)); have GE203 := GW203; replace HO196 := Aside0.mk (Kd.V_below (Kd.V_elderB (by (with_reducible repeat (first | apply Kd.V_alloc | apply Kd.V_drewN | apply Kd.V_drew)); exact HO196.out) gb203 (Nat.le_of_eq hg.symm)) hb); replace HB := Aside0.mk (below_step (by first | exact HB.out | exact pw_below_drewN HB.out _ | exact below_drew1 HB.out) hb); clear hb hbox hg; obtain ⟨hcz159_0, hcz159_1, hcz159_2, hcz159_3, hfz159_0, hfz159_1, hfz159_2, hfz159_3⟩ := cz4 BK203.out) | ((with_reducible refine gate_callee (f := 22) rfl ?_); refine goesL_ (some 27) rfl rfl Try.func22 (by kernel_rfl) rfl #[.slice Ao156 t194.length co156, .slice A1 (l1.take ((ji4) : Int).toNat).length c1] rfl (by (try simp only [List.map_toArray, List.map_cons, List.map_nil]); first | done | (rw [show (l1.take ((ji4) : Int).toNat).length = (ji4).toNat from (by rw [List.length_take]; have h_ : ((ji4) : Int) ≤ (l1.length : Int) := of_decide_eq_true (by first | (with_reducible assumption) | assumption); omega)] <;> rfl) | (simp only [hji4]; rfl) | rfl | (simp only [List.length_drop, List.length_take]; rfl)) ?_; (with_reducible refine (size_Of.calls _ _ t194 _ _ (l1.take ((ji4) : Int).toNat) t204 t205 t206 _ ?side1 ?side2 ?side3 ?side4 A8.out).mono ?_); (case side1 => refine (Kd.V_reads' (e := 48) (base := w.heap.size) (ok := fun k_ => (True ∧ k_ ≠ gb203)) (n := t194.length) (c := co156) ?_).2.2; exact (by (with_reducible repeat (first | apply Kd.V_alloc | apply Kd.V_drewN | apply Kd.V_drew)); exact (Kd.V_mono (Kd.V_far (p := ⟨gb203, 3, none⟩) (Kd.V_far (p := ⟨gb203, 2, none⟩) (Kd.V_far (p := ⟨gb203, 1, none⟩) (Kd.V_far (p := ⟨gb203, 0, none⟩) (Kd.V_mono HO196.out (fun k_ hk => (⟨hk, hk.2⟩ : _ ∧ k_ ≠ gb203))) (fun _ hk => hk.2) (.int .i64 t198)) (fun _ hk => hk.2) (.int .i64 t199)) (fun _ hk => hk.2) (.int .i64 t200)) (fun _ hk => hk.2) (.int .i64 t201)) (fun _ h_ => h_.1)))); (case side2 => exact (Kd.V_reads' HO196.out).2.1); (case side3 => exact Kd.C_below HR197.out (by repeat first | refine below_set ?_ GE203.out | exact HB.out | apply below_alloc | apply pw_below_drewN | apply below_drew1)); (case side4 => exact HC197.out); rintro e w160 ⟨rfl, hb⟩; refine ⟨_, rfl, ?_⟩; replace HO196 := Aside0.mk (Kd.V_below (by (with_reducible repeat (first | apply Kd.V_alloc | apply Kd.V_drewN | apply Kd.V_drew)); exact (Kd.V_mono (Kd.V_far (p := ⟨gb203, 3, none⟩) (Kd.V_far (p := ⟨gb203, 2, none⟩) (Kd.V_far (p := ⟨gb203, 1, none⟩) (Kd.V_far (p := ⟨gb203, 0, none⟩) (Kd.V_mono HO196.out (fun k_ hk => (⟨hk, hk.2⟩ : _ ∧ k_ ≠ gb203))) (fun _ hk => hk.2) (.int .i64 t198)) (fun _ hk => hk.2) (.int .i64 t199)) (fun _ hk => hk.2) (.int .i64 t200)) (fun _ hk => hk.2) (.int .i64 t201)) (fun _ h_ => h_.1))) hb); replace BK203 := Aside0.mk (bb hb (put4 BK203.out)); replace HB := Aside0.mk (below_step (by repeat first | refine below_set ?_ GE203.out | exact HB.out | apply below_alloc | apply pw_below_drewN | apply below_drew1) hb); (try clear hb); (try clear hb2); (try clear hk); (try clear hi)) | ((with_reducible refine gate_callee (f := 23) rfl ?_); refine goesL_ (some 32) rfl rfl Try.func23 (by kernel_rfl) rfl #[.slice Ao156 t194.length co156] rfl (by (try simp only [List.map_toArray, List.map_cons, List.map_nil]); first | done | rfl | (simp only [List.length_drop, List.length_take]; rfl)) ?_; (with_reducible refine (backseatref16_Right.calls k _ _ t194 false _ ?side1 ?side2 A9.out).mono ?_); (case side1 => repeat (first | exact (Kd.V_reads' HO196.out).2.2 | (with_reducible refine Kd.C_alloc ?_ _) | (with_reducible refine Kd.C_drewN ?_ _) | (with_reducible refine Kd.C_drew ?_))); (case side2 => exact (Kd.V_reads' HO196.out).2.1); rintro e w161 ⟨rfl, hb⟩; refine ⟨_, rfl, ?_⟩; replace HO196 := Aside0.mk (Kd.V_below (by (with_reducible repeat (first | apply Kd.V_alloc | apply Kd.V_drewN | apply Kd.V_drew)); exact HO196.out) hb); replace BK203 := Aside0.mk (bb hb BK203.out); replace HB := Aside0.mk (below_step (by repeat first | refine below_set ?_ GE203.out | exact HB.out | apply below_alloc | apply pw_below_drewN | apply below_drew1) hb); (try clear hb); (try clear hb2); (try clear hk); (try clear hi)) | ((with_reducible refine gate_callee (f := 24) rfl ?_); refine goesL_ (some 34) rfl rfl Try.func24 (by kernel_rfl) rfl #[] rfl (by (try simp only [List.map_toArray, List.map_cons, List.map_nil]); first | done | rfl | (simp only [List.length_drop, List.length_take]; rfl)) ?_; (with_reducible refine (backseatlaw16_alive.calls k  true _ A114.out).mono ?_); rintro e w162 ⟨rfl, hb⟩; refine ⟨_, rfl, ?_⟩; replace HO196 := Aside0.mk (Kd.V_below (by (with_reducible repeat (first | apply Kd.V_alloc | apply Kd.V_drewN | apply Kd.V_drew)); exact HO196.out) hb); replace BK203 := Aside0.mk (bb hb BK203.out); replace HB := Aside0.mk (below_step (by repeat first | refine below_set ?_ GE203.out | exact HB.out | apply below_alloc | apply pw_below_drewN | apply below_drew1) hb); (try clear hb); (try clear hb2); (try clear hk); (try clear hi)))
       go_ret
       exact ⟨by first | rfl | (simp [errW_none, errW_some] <;> rfl) | (simp only [← hji4]; first | rfl | (simp [errW_none, errW_some] <;> rfl)) | (simp [*, errW_none, errW_some] <;> rfl), by repeat first | refine below_set ?_ GE203.out | exact HB.out | apply below_alloc | apply pw_below_drewN | apply below_drew1⟩
     ·rw [if_neg c116] at H
      have c116b0 : (t202 == 1) = false := beq_eq_false_iff_ne.mpr c116
      have c116b1 : (t202 != 1) = true := bne_iff_ne.mpr c116
      obtain rfl := Option.some.inj H
      go_enter Try.func6, Try.ntmps6
      try go_wp2
      replace HB := Aside0.mk (below_drew1 HB.out)
      obtain ⟨i0164, hi0164, _, hsz164, _⟩ := info_parts info3
      obtain ⟨hcut164, hA164, hC164⟩ := print_take_of (P := Try.prog) (Value.int .i64) 0 22 3 .i64 Try.underlying22 hi0164 hsz164 A1 c1 l1 (ji4) (of_decide_eq_true (by first | (with_reducible assumption) | assumption)) (of_decide_eq_true (by first | (with_reducible assumption) | assumption)) HC1.out
      have HR197 := Aside0.mk (Kd.C_of_reads (h1 := fun _ => rfl) (hA164 _ (Kd.reads_of_C HR1.out)))
      have HC197 := Aside0.mk hC164
      clear hA164 hC164 hi0164 hsz164
      refine start_ (n := 9) (S := fun w' => True) (ds := []) #[false, false, false, false, false, false, false, false, false] (by kernel_rfl) rfl rfl trivial (fun hHeld => ?_); refine with_tabW backseatlaw16_SizeTells.tab1 backseatlaw16_SizeTells.bits1 (fun HT_ HW_ => ?_)
      generalize w.drew = w163 at HB HR197 hHeld ⊢
      refine pu HT_.out (i := 0) (N := some 12) (v := ?_) (a' := ?_) #[true, false, false, false, false, false, false, false, false] rfl rfl (by kernel_rfl) (fun _ _ _ h => h) (by rfl) ?_ ?_ ?_; rotate_left; (·intro w'; go_simp; with_reducible rfl); rotate_left; (·simp only [Act.put, s1, s2, s3, i64_w, i32_w]; rfl)
      refine pu HT_.out (i := 2) (N := some 14) (v := ?_) (a' := ?_) #[true, false, true, false, false, false, false, false, false] rfl rfl (by kernel_rfl) (fun _ _ _ h => h) (by rfl) ?_ ?_ ?_; rotate_left; (·intro w'; go_simp; with_reducible rfl); rotate_left; (·simp only [Act.put, s1, s2, s3, i64_w, i32_w]; rfl)
      refine pu HT_.out (i := 3) (N := some 15) (v := ?_) (a' := ?_) #[true, false, true, true, false, false, false, false, false] rfl rfl (by kernel_rfl) (fun _ _ _ h => h) (by rfl) ?_ ?_ ?_; rotate_left; (·intro w'; go_simp; with_reducible rfl); rotate_left; (·simp only [Act.put, s1, s2, s3, i64_w, i32_w]; rfl)
      refine pu HT_.out (i := 4) (N := some 16) (v := ?_) (a' := ?_) #[true, false, true, true, true, false, false, false, false] rfl rfl (by kernel_rfl) (fun _ _ _ h => h) (by rfl) ?_ ?_ ?_; rotate_left; (·intro w'; go_simp; with_reducible rfl); rotate_left; (·simp only [Act.put, s1, s2, s3, i64_w, i32_w]; rfl)
      refine pu HT_.out (i := 5) (N := some 17) (v := ?_) (a' := ?_) #[true, false, true, true, true, true, false, false, false] rfl rfl (by kernel_rfl) (fun _ _ _ h => h) (by rfl) ?_ ?_ ?_; rotate_left; (·intro w'; go_simp; with_reducible rfl); rotate_left; (·simp only [Act.put, s1, s2, s3, i64_w, i32_w]; rfl)
      refine pu HT_.out (i := 6) (N := some 18) (v := ?_) (a' := ?_) #[true, false, true, true, true, true, true, false, false] rfl rfl (by kernel_rfl) (fun _ _ _ h => h) (by rfl) ?_ ?_ ?_; rotate_left; (·intro w'; go_simp; with_reducible rfl); rotate_left; (·simp only [Act.put, s1, s2, s3, i64_w, i32_w]; rfl)
      refine one_ (i := 1) (N := some 13) #[true, true, true, true, true, true, true, false, false] rfl rfl (one_of HT_.out (by kernel_rfl)) (by decide) (fun K hK => ?_)
      refine goes_ Try.func20 (by kernel_rfl) rfl #[.slice A0 l0.length c0] (by rfl) rfl rfl (by (try simp only [List.map_toArray, List.map_cons, List.map_nil]); first | done | rfl | (simp only [List.length_drop, List.length_take]; rfl)) ?_
      with_reducible refine (backseatlaw16_few.calls (fun k_ => k_ < w.heap.size) _ _ l0 t194 _ ?side1 A3.out).mono ?_
      (case side1 => exact Kd.V_mk HC0.out (Kd.F_below (Kd.C_F k48_heap HR0.out) (by first | exact HB.out | exact pw_below_drewN HB.out _ | exact below_drew1 HB.out)))
      rintro e w165 ⟨v195, rfl, ho0, hb⟩
      refine ⟨_, rfl, ?_⟩
      have HO196 := Aside0.mk (Kd.V_lower (Kd.V_mono (ok' := fun k_ => True) ho0 (fun k_ hk_ => trivial)) (below_size (by first | exact HB.out | exact pw_below_drewN HB.out _ | exact below_drew1 HB.out))); replace HB := Aside0.mk (below_step (by first | exact HB.out | exact pw_below_drewN HB.out _ | exact below_drew1 HB.out) hb)
      (try clear hb)
      (try clear hb2)
      (try clear hk)
      (try clear hi)
      (try clear ho0)
      refine hK.out _ _ trivial (fun hHeld => ?_)
      clear hK K
      refine norm_ (a' := ?_) ?_ ?_
      rotate_left
      ·show Act.put _ (some 13) _ = _
       simp only [Act.put, s1, s2, s3, i64_w, i32_w]
       rfl
      refine pu HT_.out (i := 7) (N := some 0) (v := ?_) (a' := ?_) #[true, true, true, true, true, true, true, true, false] rfl rfl (by kernel_rfl) (fun _ _ _ h => h) (by rfl) ?_ ?_ ?_; rotate_left; (·intro w'; go_simp; with_reducible rfl); rotate_left; (·simp only [Act.put, s1, s2, s3, i64_w, i32_w]; rfl)
      refine pu HT_.out (i := 8) (N := some 1) (v := ?_) (a' := ?_) #[true, true, true, true, true, true, true, true, true] rfl rfl (by kernel_rfl) (fun _ _ _ h => h) (by rfl) ?_ ?_ ?_; rotate_left; (·intro w'; go_simp; with_reducible rfl); rotate_left; (·simp only [Act.put, s1, s2, s3, i64_w, i32_w]; rfl)
      refine done_ (done_of HT_.out (by kernel_rfl)) ?_
      obtain ⟨Ao166, co166, eo166⟩ := Kd.V_slice HO196.out
      subst eo166
      try go_wp2_with (first | ((with_reducible refine gate_callee (f := 21) rfl ?_); refine goesL_ (some 21) rfl rfl Try.func21 (by kernel_rfl) rfl #[.slice Ao166 t194.length co166] rfl (by (try simp only [List.map_toArray, List.map_cons, List.map_nil]); first | done | rfl | (simp only [List.length_drop, List.length_take]; rfl)) ?_; (with_reducible refine (size_Latest.calls _ _ t194 t198 t199 t200 t201 t202 _ ?side1 ?side2 A7.out).mono ?_); (case side1 => repeat (first | exact (Kd.V_reads' HO196.out).2.2 | (with_reducible refine Kd.C_alloc ?_ _) | (with_reducible refine Kd.C_drewN ?_ _) | (with_reducible refine Kd.C_drew ?_))); (case side2 => exact (Kd.V_reads' HO196.out).2.1); rintro e w167 ⟨rfl, hb⟩; refine ⟨_, rfl, ?_⟩; replace HO196 := Aside0.mk (Kd.V_below (by (with_reducible repeat (first | apply Kd.V_alloc | apply Kd.V_drewN | apply Kd.V_drew)); exact HO196.out) hb); replace HB := Aside0.mk (below_step (by first | exact HB.out | exact pw_below_drewN HB.out _ | exact below_drew1 HB.out) hb); (try clear hb); (try clear hb2); (try clear hk); (try clear hi)) | ((with_reducible refine gate_dst (N := 5) rfl ?_); refine box_event ?hg (N := 5) ?hd (cs := #[.int .i64 0, .int .i64 0, .int .i64 0, .int .i64 0]) (t := 48) ?hr ?_; (case hd => rfl); (case hg => rfl); (case hr => first | (go_simp; done) | (go_simp; rfl)); intro gb203 hg w168 hbox hb; have BK203 := Aside0.mk (hbox); have GW203 := Aside0.mk ((by rw [hg]; exact (below_size (by first | exact HB.out | exact pw_below_drewN HB.out _ | exact below_drew1 HB.out)) : w.heap.size ≤ gb203)); have GE203 := GW203; replace HO196 := Aside0.mk (Kd.V_below (Kd.V_elderB (by (with_reducible repeat (first | apply Kd.V_alloc | apply Kd.V_drewN | apply Kd.V_drew)); exact HO196.out) gb203 (Nat.le_of_eq hg.symm)) hb); replace HB := Aside0.mk (below_step (by first | exact HB.out | exact pw_below_drewN HB.out _ | exact below_drew1 HB.out) hb); clear hb hbox hg; obtain ⟨hcz169_0, hcz169_1, hcz169_2, hcz169_3, hfz169_0, hfz169_1, hfz169_2, hfz169_3⟩ := cz4 BK203.out) | ((with_reducible refine gate_callee (f := 22) rfl ?_); refine goesL_ (some 27) rfl rfl Try.func22 (by kernel_rfl) rfl #[.slice Ao166 t194.length co166, .slice A1 (l1.take ((ji4) : Int).toNat).length c1] rfl (by (try simp only [List.map_toArray, List.map_cons, List.map_nil]); first | done | (rw [show (l1.take ((ji4) : Int).toNat).length = (ji4).toNat from (by rw [List.length_take]; have h_ : ((ji4) : Int) ≤ (l1.length : Int) := of_decide_eq_true (by first | (with_reducible assumption) | assumption); omega)] <;> rfl) | (simp only [hji4]; rfl) | rfl | (simp only [List.length_drop, List.length_take]; rfl)) ?_; (with_reducible refine (size_Of.calls _ _ t194 _ _ (l1.take ((ji4) : Int).toNat) t204 t205 t206 _ ?side1 ?side2 ?side3 ?side4 A8.out).mono ?_); (case side1 => refine (Kd.V_reads' (e := 48) (base := w.heap.size) (ok := fun k_ => (True ∧ k_ ≠ gb203)) (n := t194.length) (c := co166) ?_).2.2; exact (by (with_reducible repeat (first | apply Kd.V_alloc | apply Kd.V_drewN | apply Kd.V_drew)); exact (Kd.V_mono (Kd.V_far (p := ⟨gb203, 3, none⟩) (Kd.V_far (p := ⟨gb203, 2, none⟩) (Kd.V_far (p := ⟨gb203, 1, none⟩) (Kd.V_far (p := ⟨gb203, 0, none⟩) (Kd.V_mono HO196.out (fun k_ hk => (⟨hk, hk.2⟩ : _ ∧ k_ ≠ gb203))) (fun _ hk => hk.2) (.int .i64 t198)) (fun _ hk => hk.2) (.int .i64 t199)) (fun _ hk => hk.2) (.int .i64 t200)) (fun _ hk => hk.2) (.int .i64 t201)) (fun _ h_ => h_.1)))); (case side2 => exact (Kd.V_reads' HO196.out).2.1); (case side3 => exact Kd.C_below HR197.out (by repeat first | refine below_set ?_ GE203.out | exact HB.out | apply below_alloc | apply pw_below_drewN | apply below_drew1)); (case side4 => exact HC197.out); rintro e w170 ⟨rfl, hb⟩; refine ⟨_, rfl, ?_⟩; replace HO196 := Aside0.mk (Kd.V_below (by (with_reducible repeat (first | apply Kd.V_alloc | apply Kd.V_drewN | apply Kd.V_drew)); exact (Kd.V_mono (Kd.V_far (p := ⟨gb203, 3, none⟩) (Kd.V_far (p := ⟨gb203, 2, none⟩) (Kd.V_far (p := ⟨gb203, 1, none⟩) (Kd.V_far (p := ⟨gb203, 0, none⟩) (Kd.V_mono HO196.out (fun k_ hk => (⟨hk, hk.2⟩ : _ ∧ k_ ≠ gb203))) (fun _ hk => hk.2) (.int .i64 t198)) (fun _ hk => hk.2) (.int .i64 t199)) (fun _ hk => hk.2) (.int .i64 t200)) (fun _ hk => hk.2) (.int .i64 t201)) (fun _ h_ => h_.1))) hb); replace BK203 := Aside0.mk (bb hb (put4 BK203.out)); replace HB := Aside0.mk (below_step (by repeat first | refine below_set ?_ GE203.out | exact HB.out | apply below_alloc | apply pw_below_drewN | apply below_drew1) hb); (try clear hb); (try clear hb2); (try clear hk); (try clear hi)) | ((with_reducible refine gate_callee (f := 23) rfl ?_); refine goesL_ (some 32) rfl rfl Try.func23 (by kernel_rfl) rfl #[.slice Ao166 t194.length co166] rfl (by (try simp only [List.map_toArray, List.map_cons, List.map_nil]); first | done | rfl | (simp only [List.length_drop, List.length_take]; rfl)) ?_; (with_reducible refine (backseatref16_Right.calls k _ _ t194 false _ ?side1 ?side2 A9.out).mono ?_); (case side1 => repeat (first | exact (Kd.V_reads' HO196.out).2.2 | (with_reducible refine Kd.C_alloc ?_ _) | (with_reducible refine Kd.C_drewN ?_ _) | (with_reducible refine Kd.C_drew ?_))); (case side2 => exact (Kd.V_reads' HO196.out).2.1); rintro e w171 ⟨rfl, hb⟩; refine ⟨_, rfl, ?_⟩; replace HO196 := Aside0.mk (Kd.V_below (by (with_reducible repeat (first | apply Kd.V_alloc | apply Kd.V_drewN | apply Kd.V_drew)); exact HO196.out) hb); replace BK203 := Aside0.mk (bb hb BK203.out); replace HB := Aside0.mk (below_step (by repeat first | refine below_set ?_ GE203.out | exact HB.out | apply below_alloc | apply pw_below_drewN | apply below_drew1) hb); (try clear hb); (try clear hb2); (try clear hk); (try clear hi)) | ((with_reducible refine gate_callee (f := 24) rfl ?_); refine goesL_ (some 34) rfl rfl Try.func24 (by kernel_rfl) rfl #[] rfl (by (try simp only [List.map_toArray, List.map_cons, List.map_nil]); first | done | rfl | (simp only [List.length_drop, List.length_take]; rfl)) ?_; (with_reducible refine (backseatlaw16_alive.calls k  true _ A114.out).mono ?_); rintro e w172 ⟨rfl, hb⟩; refine ⟨_, rfl, ?_⟩; replace HO196 := Aside0.mk (Kd.V_below (by (with_reducible repeat (first | apply Kd.V_alloc | apply Kd.V_drewN | apply Kd.V_drew)); exact HO196.out) hb); replace BK203 := Aside0.mk (bb hb BK203.out); replace HB := Aside0.mk (below_step (by repeat first | refine below_set ?_ GE203.out | exact HB.out | apply below_alloc | apply pw_below_drewN | apply below_drew1) hb); (try clear hb); (try clear hb2); (try clear hk); (try clear hi)))
      go_ret
      exact ⟨by first | rfl | (simp [errW_none, errW_some] <;> rfl) | (simp only [← hji4]; first | rfl | (simp [errW_none, errW_some] <;> rfl)) | (simp [*, errW_none, errW_some] <;> rfl), by repeat first | refine below_set ?_ GE203.out | exact HB.out | apply below_alloc | apply pw_below_drewN | apply below_drew1⟩
    ·replace c115 := Bool.eq_false_iff.mpr c115
     subst c115
     have H1 : (some false) = some r := by rw [if_neg (show ¬ (false = true) by decide)] at H; exact H
     clear H
     have H := H1
     clear H1
     obtain rfl := Option.some.inj H
     go_enter Try.func6, Try.ntmps6
     try go_wp2
     replace HB := Aside0.mk (below_drew1 HB.out)
     obtain ⟨i0174, hi0174, _, hsz174, _⟩ := info_parts info3
     obtain ⟨hcut174, hA174, hC174⟩ := print_take_of (P := Try.prog) (Value.int .i64) 0 22 3 .i64 Try.underlying22 hi0174 hsz174 A1 c1 l1 (ji4) (of_decide_eq_true (by first | (with_reducible assumption) | assumption)) (of_decide_eq_true (by first | (with_reducible assumption) | assumption)) HC1.out
     have HR197 := Aside0.mk (Kd.C_of_reads (h1 := fun _ => rfl) (hA174 _ (Kd.reads_of_C HR1.out)))
     have HC197 := Aside0.mk hC174
     clear hA174 hC174 hi0174 hsz174
     refine start_ (n := 9) (S := fun w' => True) (ds := []) #[false, false, false, false, false, false, false, false, false] (by kernel_rfl) rfl rfl trivial (fun hHeld => ?_); refine with_tabW backseatlaw16_SizeTells.tab1 backseatlaw16_SizeTells.bits1 (fun HT_ HW_ => ?_)
     generalize w.drew = w173 at HB HR197 hHeld ⊢
     refine pu HT_.out (i := 0) (N := some 12) (v := ?_) (a' := ?_) #[true, false, false, false, false, false, false, false, false] rfl rfl (by kernel_rfl) (fun _ _ _ h => h) (by rfl) ?_ ?_ ?_; rotate_left; (·intro w'; go_simp; with_reducible rfl); rotate_left; (·simp only [Act.put, s1, s2, s3, i64_w, i32_w]; rfl)
     refine pu HT_.out (i := 2) (N := some 14) (v := ?_) (a' := ?_) #[true, false, true, false, false, false, false, false, false] rfl rfl (by kernel_rfl) (fun _ _ _ h => h) (by rfl) ?_ ?_ ?_; rotate_left; (·intro w'; go_simp; with_reducible rfl); rotate_left; (·simp only [Act.put, s1, s2, s3, i64_w, i32_w]; rfl)
     refine pu HT_.out (i := 3) (N := some 15) (v := ?_) (a' := ?_) #[true, false, true, true, false, false, false, false, false] rfl rfl (by kernel_rfl) (fun _ _ _ h => h) (by rfl) ?_ ?_ ?_; rotate_left; (·intro w'; go_simp; with_reducible rfl); rotate_left; (·simp only [Act.put, s1, s2, s3, i64_w, i32_w]; rfl)
     refine pu HT_.out (i := 4) (N := some 16) (v := ?_) (a' := ?_) #[true, false, true, true, true, false, false, false, false] rfl rfl (by kernel_rfl) (fun _ _ _ h => h) (by rfl) ?_ ?_ ?_; rotate_left; (·intro w'; go_simp; with_reducible rfl); rotate_left; (·simp only [Act.put, s1, s2, s3, i64_w, i32_w]; rfl)
     refine pu HT_.out (i := 5) (N := some 17) (v := ?_) (a' := ?_) #[true, false, true, true, true, true, false, false, false] rfl rfl (by kernel_rfl) (fun _ _ _ h => h) (by rfl) ?_ ?_ ?_; rotate_left; (·intro w'; go_simp; with_reducible rfl); rotate_left; (·simp only [Act.put, s1, s2, s3, i64_w, i32_w]; rfl)
     refine pu HT_.out (i := 6) (N := some 18) (v := ?_) (a' := ?_) #[true, false, true, true, true, true, true, false, false] rfl rfl (by kernel_rfl) (fun _ _ _ h => h) (by rfl) ?_ ?_ ?_; rotate_left; (·intro w'; go_simp; with_reducible rfl); rotate_left; (·simp only [Act.put, s1, s2, s3, i64_w, i32_w]; rfl)
     refine one_ (i := 1) (N := some 13) #[true, true, true, true, true, true, true, false, false] rfl rfl (one_of HT_.out (by kernel_rfl)) (by decide) (fun K hK => ?_)
     refine goes_ Try.func20 (by kernel_rfl) rfl #[.slice A0 l0.length c0] (by rfl) rfl rfl (by (try simp only [List.map_toArray, List.map_cons, List.map_nil]); first | done | rfl | (simp only [List.length_drop, List.length_take]; rfl)) ?_
     with_reducible refine (backseatlaw16_few.calls (fun k_ => k_ < w.heap.size) _ _ l0 t194 _ ?side1 A3.out).mono ?_
     (case side1 => exact Kd.V_mk HC0.out (Kd.F_below (Kd.C_F k48_heap HR0.out) (by first | exact HB.out | exact pw_below_drewN HB.out _ | exact below_drew1 HB.out)))
     rintro e w175 ⟨v195, rfl, ho0, hb⟩
     refine ⟨_, rfl, ?_⟩
     have HO196 := Aside0.mk (Kd.V_lower (Kd.V_mono (ok' := fun k_ => True) ho0 (fun k_ hk_ => trivial)) (below_size (by first | exact HB.out | exact pw_below_drewN HB.out _ | exact below_drew1 HB.out))); replace HB := Aside0.mk (below_step (by first | exact HB.out | exact pw_below_drewN HB.out _ | exact below_drew1 HB.out) hb)
     (try clear hb)
     (try clear hb2)
     (try clear hk)
     (try clear hi)
     (try clear ho0)
     refine hK.out _ _ trivial (fun hHeld => ?_)
     clear hK K
     refine norm_ (a' := ?_) ?_ ?_
     rotate_left
     ·show Act.put _ (some 13) _ = _
      simp only [Act.put, s1, s2, s3, i64_w, i32_w]
      rfl
     refine pu HT_.out (i := 7) (N := some 0) (v := ?_) (a' := ?_) #[true, true, true, true, true, true, true, true, false] rfl rfl (by kernel_rfl) (fun _ _ _ h => h) (by rfl) ?_ ?_ ?_; rotate_left; (·intro w'; go_simp; with_reducible rfl); rotate_left; (·simp only [Act.put, s1, s2, s3, i64_w, i32_w]; rfl)
     refine pu HT_.out (i := 8) (N := some 1) (v := ?_) (a' := ?_) #[true, true, true, true, true, true, true, true, true] rfl rfl (by kernel_rfl) (fun _ _ _ h => h) (by rfl) ?_ ?_ ?_; rotate_left; (·intro w'; go_simp; with_reducible rfl); rotate_left; (·simp only [Act.put, s1, s2, s3, i64_w, i32_w]; rfl)
     refine done_ (done_of HT_.out (by kernel_rfl)) ?_
     obtain ⟨Ao176, co176, eo176⟩ := Kd.V_slice HO196.out
     subst eo176
     try go_wp2_with (first | ((with_reducible refine gate_callee (f := 21) rfl ?_); refine goesL_ (some 21) rfl rfl Try.func21 (by kernel_rfl) rfl #[.slice Ao176 t194.length co176] rfl (by (try simp only [List.map_toArray, List.map_cons, List.map_nil]); first | done | rfl | (simp only [List.length_drop, List.length_take]; rfl)) ?_; (with_reducible refine (size_Latest.calls _ _ t194 t198 t199 t200 t201 t202 _ ?side1 ?side2 A7.out).mono ?_); (case side1 => repeat (first | exact (Kd.V_reads' HO196.out).2.2 | (with_reducible refine Kd.C_alloc ?_ _) | (with_reducible refine Kd.C_drewN ?_ _) | (with_reducible refine Kd.C_drew ?_))); (case side2 => exact (Kd.V_reads' HO196.out).2.1); rintro e w177 ⟨rfl, hb⟩; refine ⟨_, rfl, ?_⟩; replace HO196 := Aside0.mk (Kd.V_below (by (with_reducible repeat (first | apply Kd.V_alloc | apply Kd.V_drewN | apply Kd.V_drew)); exact HO196.out) hb); replace HB := Aside0.mk (below_step (by first | exact HB.out | exact pw_below_drewN HB.out _ | exact below_drew1 HB.out) hb); (try clear hb); (try clear hb2); (try clear hk); (try clear hi)) | ((with_reducible refine gate_dst (N := 5) rfl ?_); refine box_event ?hg (N := 5) ?hd (cs := #[.int .i64 0, .int .i64 0, .int .i64 0, .int .i64 0]) (t := 48) ?hr ?_; (case hd => rfl); (case hg => rfl); (case hr => first | (go_simp; done) | (go_simp; rfl)); intro gb203 hg w178 hbox hb; have BK203 := Aside0.mk (hbox); have GW203 := Aside0.mk ((by rw [hg]; exact (below_size (by first | exact HB.out | exact pw_below_drewN HB.out _ | exact below_drew1 HB.out)) : w.heap.size ≤ gb203)); have GE203 := GW203; replace HO196 := Aside0.mk (Kd.V_below (Kd.V_elderB (by (with_reducible repeat (first | apply Kd.V_alloc | apply Kd.V_drewN | apply Kd.V_drew)); exact HO196.out) gb203 (Nat.le_of_eq hg.symm)) hb); replace HB := Aside0.mk (below_step (by first | exact HB.out | exact pw_below_drewN HB.out _ | exact below_drew1 HB.out) hb); clear hb hbox hg; obtain ⟨hcz179_0, hcz179_1, hcz179_2, hcz179_3, hfz179_0, hfz179_1, hfz179_2, hfz179_3⟩ := cz4 BK203.out) | ((with_reducible refine gate_callee (f := 22) rfl ?_); refine goesL_ (some 27) rfl rfl Try.func22 (by kernel_rfl) rfl #[.slice Ao176 t194.length co176, .slice A1 (l1.take ((ji4) : Int).toNat).length c1] rfl (by (try simp only [List.map_toArray, List.map_cons, List.map_nil]); first | done | (rw [show (l1.take ((ji4) : Int).toNat).length = (ji4).toNat from (by rw [List.length_take]; have h_ : ((ji4) : Int) ≤ (l1.length : Int) := of_decide_eq_true (by first | (with_reducible assumption) | assumption); omega)] <;> rfl) | (simp only [hji4]; rfl) | rfl | (simp only [List.length_drop, List.length_take]; rfl)) ?_; (with_reducible refine (size_Of.calls _ _ t194 _ _ (l1.take ((ji4) : Int).toNat) t204 t205 t206 _ ?side1 ?side2 ?side3 ?side4 A8.out).mono ?_); (case side1 => refine (Kd.V_reads' (e := 48) (base := w.heap.size) (ok := fun k_ => (True ∧ k_ ≠ gb203)) (n := t194.length) (c := co176) ?_).2.2; exact (by (with_reducible repeat (first | apply Kd.V_alloc | apply Kd.V_drewN | apply Kd.V_drew)); exact (Kd.V_mono (Kd.V_far (p := ⟨gb203, 3, none⟩) (Kd.V_far (p := ⟨gb203, 2, none⟩) (Kd.V_far (p := ⟨gb203, 1, none⟩) (Kd.V_far (p := ⟨gb203, 0, none⟩) (Kd.V_mono HO196.out (fun k_ hk => (⟨hk, hk.2⟩ : _ ∧ k_ ≠ gb203))) (fun _ hk => hk.2) (.int .i64 t198)) (fun _ hk => hk.2) (.int .i64 t199)) (fun _ hk => hk.2) (.int .i64 t200)) (fun _ hk => hk.2) (.int .i64 t201)) (fun _ h_ => h_.1)))); (case side2 => exact (Kd.V_reads' HO196.out).2.1); (case side3 => exact Kd.C_below HR197.out (by repeat first | refine below_set ?_ GE203.out | exact HB.out | apply below_alloc | apply pw_below_drewN | apply below_drew1)); (case side4 => exact HC197.out); rintro e w180 ⟨rfl, hb⟩; refine ⟨_, rfl, ?_⟩; replace HO196 := Aside0.mk (Kd.V_below (by (with_reducible repeat (first | apply Kd.V_alloc | apply Kd.V_drewN | apply Kd.V_drew)); exact (Kd.V_mono (Kd.V_far (p := ⟨gb203, 3, none⟩) (Kd.V_far (p := ⟨gb203, 2, none⟩) (Kd.V_far (p := ⟨gb203, 1, none⟩) (Kd.V_far (p := ⟨gb203, 0, none⟩) (Kd.V_mono HO196.out (fun k_ hk => (⟨hk, hk.2⟩ : _ ∧ k_ ≠ gb203))) (fun _ hk => hk.2) (.int .i64 t198)) (fun _ hk => hk.2) (.int .i64 t199)) (fun _ hk => hk.2) (.int .i64 t200)) (fun _ hk => hk.2) (.int .i64 t201)) (fun _ h_ => h_.1))) hb); replace BK203 := Aside0.mk (bb hb (put4 BK203.out)); replace HB := Aside0.mk (below_step (by repeat first | refine below_set ?_ GE203.out | exact HB.out | apply below_alloc | apply pw_below_drewN | apply below_drew1) hb); (try clear hb); (try clear hb2); (try clear hk); (try clear hi)) | ((with_reducible refine gate_callee (f := 23) rfl ?_); refine goesL_ (some 32) rfl rfl Try.func23 (by kernel_rfl) rfl #[.slice Ao176 t194.length co176] rfl (by (try simp only [List.map_toArray, List.map_cons, List.map_nil]); first | done | rfl | (simp only [List.length_drop, List.length_take]; rfl)) ?_; (with_reducible refine (backseatref16_Right.calls k _ _ t194 false _ ?side1 ?side2 A9.out).mono ?_); (case side1 => repeat (first | exact (Kd.V_reads' HO196.out).2.2 | (with_reducible refine Kd.C_alloc ?_ _) | (with_reducible refine Kd.C_drewN ?_ _) | (with_reducible refine Kd.C_drew ?_))); (case side2 => exact (Kd.V_reads' HO196.out).2.1); rintro e w181 ⟨rfl, hb⟩; refine ⟨_, rfl, ?_⟩; replace HO196 := Aside0.mk (Kd.V_below (by (with_reducible repeat (first | apply Kd.V_alloc | apply Kd.V_drewN | apply Kd.V_drew)); exact HO196.out) hb); replace BK203 := Aside0.mk (bb hb BK203.out); replace HB := Aside0.mk (below_step (by repeat first | refine below_set ?_ GE203.out | exact HB.out | apply below_alloc | apply pw_below_drewN | apply below_drew1) hb); (try clear hb); (try clear hb2); (try clear hk); (try clear hi)) | ((with_reducible refine gate_callee (f := 24) rfl ?_); refine goesL_ (some 34) rfl rfl Try.func24 (by kernel_rfl) rfl #[] rfl (by (try simp only [List.map_toArray, List.map_cons, List.map_nil]); first | done | rfl | (simp only [List.length_drop, List.length_take]; rfl)) ?_; (with_reducible refine (backseatlaw16_alive.calls k  false _ A114.out).mono ?_); rintro e w182 ⟨rfl, hb⟩; refine ⟨_, rfl, ?_⟩; replace HO196 := Aside0.mk (Kd.V_below (by (with_reducible repeat (first | apply Kd.V_alloc | apply Kd.V_drewN | apply Kd.V_drew)); exact HO196.out) hb); replace BK203 := Aside0.mk (bb hb BK203.out); replace HB := Aside0.mk (below_step (by repeat first | refine below_set ?_ GE203.out | exact HB.out | apply below_alloc | apply pw_below_drewN | apply below_drew1) hb); (try clear hb); (try clear hb2); (try clear hk); (try clear hi)))
     go_ret
     exact ⟨by first | rfl | (simp [errW_none, errW_some] <;> rfl) | (simp only [← hji4]; first | rfl | (simp [errW_none, errW_some] <;> rfl)) | (simp [*, errW_none, errW_some] <;> rfl), by repeat first | refine below_set ?_ GE203.out | exact HB.out | apply below_alloc | apply pw_below_drewN | apply below_drew1⟩
  ·rw [if_neg c6] at H
   exact absurd H (by simp)
 ·rw [if_neg c5] at H
  exact absurd H (by simp)
end Go.Proofs.Ytplngfammfdemaa.P
